/- Part 10 of what the statements need: lemmas and walks. -/
import Derived.Test.YtcihalbakenleaaGreatNt9
set_option linter.unusedVariables false
set_option maxRecDepth 20000
set_option maxHeartbeats 8000000
namespace Go.Proofs.YtcihalbakenleaaGreat
open Go.RowKit
def valOk (v : Val) : Prop := (-1 ≤ v.log ∧ v.log ≤ 8) ∧ 0 ≤ v.dots ∧ v.dots ≤ 3
instance (v : Val) : Decidable (valOk v) := by unfold valOk; exact inferInstance
theorem valOk_iff {v : Val} : valOk v ↔ valErr v = 0 := by
 unfold valOk valErr
 split
 ·rename_i h; exact ⟨fun _ => rfl, fun _ => ⟨⟨h.1, h.2.1⟩, h.2.2⟩⟩
 ·rename_i h; exact ⟨fun k => absurd ⟨k.1.1, k.1.2, k.2⟩ h, fun k => by omega⟩
theorem isval_xc (v : Val) : XC Tryz.prog 79 [.agg (Val.c v)] (fun r => r = dB (decide (valOk v))) := by
 refine xc_body callable_79 Tryz.func79 rfl rfl (Nat.le_of_ble_eq_true rfl) ?_
 refine zr ?_
 refine XL.step rfl (st_boxN 1 (l := [.d (dI v.log), .d (dI v.dots)]) rfl rfl (by kernel_rfl)) ?_
 refine za rfl rfl ?_
 refine znr ?_
 refine zp (p_fld_ptr rfl rfl fld_56_0) ?_
 refine zp (p_load_box rfl rfl sc_3 rfl rfl) ?_
 refine XL.call1 rfl rfl (in_xc _ _ _) rfl ?_
 refine zm rfl rfl ?_
 refine XL.dec 6 rfl (fun g6 => ?_) (fun g6 => ?_)
 refine zp (p_fld_ptr rfl rfl fld_56_1) ?_
 refine zp (p_load_box rfl rfl sc_3 rfl rfl) ?_
 refine XL.call1 rfl rfl (in_xc _ _ _) rfl ?_
 refine zq rfl rfl rfl ?_
 refine za rfl rfl ?_
 refine zn ?_
 refine zt ?_
 exact z1 rfl rfl (rB (by rw [decide_eq_decide]; exact ⟨fun h => ⟨g6, h⟩, fun h => h.2⟩))
 refine zk 3 rfl ?_
 refine zq rfl rfl rfl ?_
 refine za rfl rfl ?_
 refine zn ?_
 refine zt ?_
 exact z1 rfl rfl (rB (by rw [eq_comm, decide_eq_false_iff_not]; exact fun h => g6 h.1))
/-- half as often as a log says -/
def halves (k : Nat) : Int := 3870720 / 2 ^ k
theorem halves_bd (k : Nat) : 0 ≤ halves k ∧ halves k ≤ 3870720 := by
 have h : (0 : Int) < 2 ^ k := Int.pow_pos (by omega)
 exact ⟨Int.ediv_nonneg (by omega) (by omega), Int.ediv_le_self _ (by omega)⟩
theorem halves_succ (k : Nat) : halves k / 2 = halves (k + 1) := by
 unfold halves
 have h : (0 : Int) < 2 ^ k := Int.pow_pos (by omega)
 rw [Int.pow_succ, Int.ediv_ediv, if_neg (by omega), Int.sub_zero]
theorem halves_log {v : Val} {k : Nat} (h : (k : Int) = v.log + 1) : halves k = valPlain v := by rw [halves, valPlain, ← h, Int.toNat_natCast]
theorem ferm_yes {n : Int} (h : 0 ≤ n) (h2 : n / 16 % 2 = 1) : fermS n = 16 := by rw [fermS, if_neg (by omega), if_pos h2]
theorem ferm_no {n : Int} (h : ¬ (0 ≤ n ∧ n / 16 % 2 = 1)) : fermS n = 0 := by
 by_cases c : n < 0
 ·rw [fermS, if_pos c]
 ·rw [fermS, if_neg c, if_neg (by omega)]
theorem st_2 {e : Ev} (h : e.kind = 2) (a : Int) (ha : fermS e.art = a) : (⟨e.site, e.num, e.kind, e.v, [], [], a, 0, e.dyn, [], 0, 0⟩ : Ev) = e.strip := by
 subst ha; rw [Ev.strip, if_neg (by omega), if_pos (by omega), if_pos (by omega)]
theorem st_3 {e : Ev} (h : e.kind = 3) (a : Int) (ha : fermS e.art = a) : (⟨e.site, e.num, e.kind, ⟨0, 0⟩, [], [], a, 0, e.dyn, [], 0, 0⟩ : Ev) = e.strip := by
 subst ha; rw [Ev.strip, if_neg (by omega), if_neg (by omega), if_pos (by omega)]
theorem st_4 {e : Ev} (h : e.kind = 4) : (⟨e.site, e.num, e.kind, e.v, [], [], 0, 0, e.dyn, [], 0, 0⟩ : Ev) = e.strip := by
 rw [Ev.strip, if_neg (by omega), if_pos (by omega), if_neg (by omega)]
theorem st_0 {e : Ev} (h2 : ¬ e.kind = 2) (h3 : ¬ e.kind = 3) (h4 : ¬ e.kind = 4) : e = e.strip := by rw [Ev.strip, if_pos (by omega)]
theorem rstrip_xc (e : Ev) (he : e.art ≤ 9223372036854775807) : XC Tryz.prog 78 [.agg (Ev.c e)] (fun r => r = .agg (Ev.c e.strip)) := by
 refine xc_body callable_78 Tryz.func78 rfl rfl (Nat.le_of_ble_eq_true rfl) ?_
 refine zr ?_
 refine XL.step rfl (st_boxN 1 (l := [.d (dI e.site), .d (dI e.num), .d (dI e.kind), .d (dI e.v.log), .d (dI e.v.dots), .d (.sl 5 (e.heads.map Hd.c)), .d (.sl 5 (e.graces.map Gr.c)), .d (dI e.art), .d (dI e.orn), .d (dI e.dyn), .d (.sl 2 (e.lyr.map Sy.c)), .d (dI e.stem), .d (dI e.beam)]) rfl rfl (by kernel_rfl)) ?_
 refine XL.step rfl (st_allocN 2 (l := [.d (dI 0), .d (dI 0), .d (dI 0), .d (dI 0), .d (dI 0), .d (.v (.slice none 0 0)), .d (.v (.slice none 0 0)), .d (dI 0), .d (dI 0), .d (dI 0), .d (.v (.slice none 0 0)), .d (dI 0), .d (dI 0)]) rfl zero_60 (by kernel_rfl)) ?_
 refine znr ?_
 refine zp (p_fld_ptr rfl rfl fld_60_0) ?_
 refine zp (pure_eq (s' := .d (.agg [dI e.site, dI e.num])) (norm_pure (p_load_boxs rfl rfl agg_54 rfl (Nat.le_of_ble_eq_true rfl))) (by kernel_rfl)) ?_
 refine zp (p_fld_ptr rfl rfl fld_60_1) ?_
 refine zp (p_load_box rfl rfl sc_3 rfl rfl) ?_
 refine zp (p_fld_ptr rfl rfl fld_60_2) ?_
 refine zp (pure_eq (s' := .d (.agg (Val.c e.v))) (norm_pure (p_load_boxs rfl rfl agg_56 rfl (Nat.le_of_ble_eq_true rfl))) (by kernel_rfl)) ?_
 refine zp (p_fld_ptr rfl rfl fld_60_7) ?_
 refine zp (p_load_box rfl rfl sc_3 rfl rfl) ?_
 refine zp (pure_eq (s' := .d (.agg [dI e.site, dI e.num, dI e.kind, dI e.v.log, dI e.v.dots, .v (.slice none 0 0), .v (.slice none 0 0), dI 0, dI 0, dI e.dyn, .v (.slice none 0 0), dI 0, dI 0])) (norm_pure (p_build rfl str_60 zero_60 rfl)) (by kernel_rfl)) ?_
 refine XL.step rfl (st_allocN 3 (l := [.d (dI 0), .d (dI 0), .d (dI 0), .d (dI 0), .d (dI 0), .d (.v (.slice none 0 0)), .d (.v (.slice none 0 0)), .d (dI 0), .d (dI 0), .d (dI 0), .d (.v (.slice none 0 0)), .d (dI 0), .d (dI 0)]) rfl zero_60 (by kernel_rfl)) ?_
 refine XL.step rfl (st_storeN (l' := [.d (dI e.site), .d (dI e.num), .d (dI e.kind), .d (dI e.v.log), .d (dI e.v.dots), .d (.v (.slice none 0 0)), .d (.v (.slice none 0 0)), .d (dI 0), .d (dI 0), .d (dI e.dyn), .d (.v (.slice none 0 0)), .d (dI 0), .d (dI 0)]) rfl rfl rfl rfl sz_60 rfl (Nat.le_of_ble_eq_true rfl) (by kernel_rfl)) ?_
 refine zn ?_
 refine zs ?_
 refine zr ?_
 refine zp (p_fld_ptr rfl rfl fld_60_1) ?_
 refine zp (p_load_box rfl rfl sc_3 rfl rfl) ?_
 refine zn ?_
 refine xw_block ?_
 refine zs ?_
 refine zr ?_
 refine zp (p_eql rfl rfl rfl) ?_
 refine za rfl rfl ?_
 refine zn ?_
 refine zd rfl (fun c16 => ?_) (fun c16 => ?_)
 refine zi ?_
 refine zd rfl (fun c16 => ?_) (fun c16 => ?_)
 refine zs ?_
 refine zr ?_
 refine zp (p_fld_ptr rfl rfl fld_60_5) ?_
 refine zp (p_load_box rfl rfl sc_3 rfl rfl) ?_
 refine zp (p_geq rfl rfl rfl) ?_
 refine zm rfl rfl ?_
 refine XL.dec 22 rfl (fun g22 => ?_) (fun g22 => ?_)
 refine zp (p_fld_ptr rfl rfl fld_60_5) ?_
 refine zp (p_load_box rfl rfl sc_3 rfl rfl) ?_
 refine zp (p_quo rfl rfl rfl (by omega) (by omega) (by omega)) ?_
 refine zp (p_rem rfl rfl rfl (by omega) (by omega)) ?_
 refine zp (p_eql rfl rfl rfl) ?_
 refine zq rfl rfl rfl ?_
 refine zn ?_
 refine zd rfl (fun c28 => ?_) (fun c28 => ?_)
 refine xw_region (by kernel_rfl) ?_
 refine zp (p_fld_ptr rfl rfl fld_60_5) ?_
 refine XL.step rfl (st_storeN (l' := [.d (dI e.site), .d (dI e.num), .d (dI e.kind), .d (dI e.v.log), .d (dI e.v.dots), .d (.v (.slice none 0 0)), .d (.v (.slice none 0 0)), .d (dI 16), .d (dI 0), .d (dI e.dyn), .d (.v (.slice none 0 0)), .d (dI 0), .d (dI 0)]) rfl rfl rfl rfl sz_3 rfl (Nat.le_of_ble_eq_true rfl) (by kernel_rfl)) ?_
 refine znr ?_
 refine zp (p_fld_ptr rfl rfl fld_60_1) ?_
 refine zp (p_load_box rfl rfl sc_3 rfl rfl) ?_
 refine zp (p_eql rfl rfl rfl) ?_
 refine zn ?_
 refine zd rfl (fun c32 => ?_) (fun c32 => ?_)
 refine xw_region (by kernel_rfl) ?_
 refine zp (pure_eq (s' := .d (.agg [dI 0, dI 0])) (norm_pure (p_build rfl str_56 zero_56 rfl)) (by kernel_rfl)) ?_
 refine zp (p_fld_ptr rfl rfl fld_60_2) ?_
 refine XL.step rfl (st_storeN (l' := [.d (dI e.site), .d (dI e.num), .d (dI e.kind), .d (dI 0), .d (dI 0), .d (.v (.slice none 0 0)), .d (.v (.slice none 0 0)), .d (dI 16), .d (dI 0), .d (dI e.dyn), .d (.v (.slice none 0 0)), .d (dI 0), .d (dI 0)]) rfl rfl rfl rfl sz_56 rfl (Nat.le_of_ble_eq_true rfl) (by kernel_rfl)) ?_
 refine zn ?_
 refine zr ?_
 refine zp (pure_eq (s' := .d (.agg [dI e.site, dI e.num, dI e.kind, dI 0, dI 0, .v (.slice none 0 0), .v (.slice none 0 0), dI 16, dI 0, dI e.dyn, .v (.slice none 0 0), dI 0, dI 0])) (norm_pure (p_load_boxs rfl rfl agg_60 rfl (Nat.le_of_ble_eq_true rfl))) (by kernel_rfl)) ?_
 refine XL.step rfl (st_storeN (l' := [.d (dI e.site), .d (dI e.num), .d (dI e.kind), .d (dI 0), .d (dI 0), .d (.v (.slice none 0 0)), .d (.v (.slice none 0 0)), .d (dI 16), .d (dI 0), .d (dI e.dyn), .d (.v (.slice none 0 0)), .d (dI 0), .d (dI 0)]) rfl rfl rfl rfl sz_60 rfl (Nat.le_of_ble_eq_true rfl) (by kernel_rfl)) ?_
 refine zn ?_
 refine zt ?_
 exact ret1 rfl (RV.sub (RV.cells rfl rfl rfl agg_60 (Nat.le_of_ble_eq_true rfl) rfl) (.agg (.cons (.same rfl) (.cons (.same rfl) (.cons (.same rfl) (.cons (.same rfl) (.cons (.same rfl) (.cons (.nil 5) (.cons (.nil 5) (.cons (.same rfl) (.cons (.same rfl) (.cons (.same rfl) (.cons (.nil 2) (.cons (.same rfl) (.cons (.same rfl) (.nil)))))))))))))))) (by first | exact aggE (st_2 (by omega) 16 (ferm_yes (by omega) (by omega))) | exact aggE (st_3 (by omega) 16 (ferm_yes (by omega) (by omega))) | exact aggE (st_2 (by omega) 0 (ferm_no (by omega))) | exact aggE (st_3 (by omega) 0 (ferm_no (by omega))) | exact aggE (st_4 (by omega)) | exact aggE (st_0 (by omega) (by omega) (by omega)) | (exfalso; omega))
 refine zi ?_
 refine zr ?_
 refine zp (pure_eq (s' := .d (.agg [dI e.site, dI e.num, dI e.kind, dI e.v.log, dI e.v.dots, .v (.slice none 0 0), .v (.slice none 0 0), dI 16, dI 0, dI e.dyn, .v (.slice none 0 0), dI 0, dI 0])) (norm_pure (p_load_boxs rfl rfl agg_60 rfl (Nat.le_of_ble_eq_true rfl))) (by kernel_rfl)) ?_
 refine XL.step rfl (st_storeN (l' := [.d (dI e.site), .d (dI e.num), .d (dI e.kind), .d (dI e.v.log), .d (dI e.v.dots), .d (.v (.slice none 0 0)), .d (.v (.slice none 0 0)), .d (dI 16), .d (dI 0), .d (dI e.dyn), .d (.v (.slice none 0 0)), .d (dI 0), .d (dI 0)]) rfl rfl rfl rfl sz_60 rfl (Nat.le_of_ble_eq_true rfl) (by kernel_rfl)) ?_
 refine zn ?_
 refine zt ?_
 exact ret1 rfl (RV.sub (RV.cells rfl rfl rfl agg_60 (Nat.le_of_ble_eq_true rfl) rfl) (.agg (.cons (.same rfl) (.cons (.same rfl) (.cons (.same rfl) (.cons (.same rfl) (.cons (.same rfl) (.cons (.nil 5) (.cons (.nil 5) (.cons (.same rfl) (.cons (.same rfl) (.cons (.same rfl) (.cons (.nil 2) (.cons (.same rfl) (.cons (.same rfl) (.nil)))))))))))))))) (by first | exact aggE (st_2 (by omega) 16 (ferm_yes (by omega) (by omega))) | exact aggE (st_3 (by omega) 16 (ferm_yes (by omega) (by omega))) | exact aggE (st_2 (by omega) 0 (ferm_no (by omega))) | exact aggE (st_3 (by omega) 0 (ferm_no (by omega))) | exact aggE (st_4 (by omega)) | exact aggE (st_0 (by omega) (by omega) (by omega)) | (exfalso; omega))
 refine zi ?_
 refine zr ?_
 refine zp (p_fld_ptr rfl rfl fld_60_1) ?_
 refine zp (p_load_box rfl rfl sc_3 rfl rfl) ?_
 refine zp (p_eql rfl rfl rfl) ?_
 refine zn ?_
 refine zd rfl (fun c32 => ?_) (fun c32 => ?_)
 refine xw_region (by kernel_rfl) ?_
 refine zp (pure_eq (s' := .d (.agg [dI 0, dI 0])) (norm_pure (p_build rfl str_56 zero_56 rfl)) (by kernel_rfl)) ?_
 refine zp (p_fld_ptr rfl rfl fld_60_2) ?_
 refine XL.step rfl (st_storeN (l' := [.d (dI e.site), .d (dI e.num), .d (dI e.kind), .d (dI 0), .d (dI 0), .d (.v (.slice none 0 0)), .d (.v (.slice none 0 0)), .d (dI 0), .d (dI 0), .d (dI e.dyn), .d (.v (.slice none 0 0)), .d (dI 0), .d (dI 0)]) rfl rfl rfl rfl sz_56 rfl (Nat.le_of_ble_eq_true rfl) (by kernel_rfl)) ?_
 refine zn ?_
 refine zr ?_
 refine zp (pure_eq (s' := .d (.agg [dI e.site, dI e.num, dI e.kind, dI 0, dI 0, .v (.slice none 0 0), .v (.slice none 0 0), dI 0, dI 0, dI e.dyn, .v (.slice none 0 0), dI 0, dI 0])) (norm_pure (p_load_boxs rfl rfl agg_60 rfl (Nat.le_of_ble_eq_true rfl))) (by kernel_rfl)) ?_
 refine XL.step rfl (st_storeN (l' := [.d (dI e.site), .d (dI e.num), .d (dI e.kind), .d (dI 0), .d (dI 0), .d (.v (.slice none 0 0)), .d (.v (.slice none 0 0)), .d (dI 0), .d (dI 0), .d (dI e.dyn), .d (.v (.slice none 0 0)), .d (dI 0), .d (dI 0)]) rfl rfl rfl rfl sz_60 rfl (Nat.le_of_ble_eq_true rfl) (by kernel_rfl)) ?_
 refine zn ?_
 refine zt ?_
 exact ret1 rfl (RV.sub (RV.cells rfl rfl rfl agg_60 (Nat.le_of_ble_eq_true rfl) rfl) (.agg (.cons (.same rfl) (.cons (.same rfl) (.cons (.same rfl) (.cons (.same rfl) (.cons (.same rfl) (.cons (.nil 5) (.cons (.nil 5) (.cons (.same rfl) (.cons (.same rfl) (.cons (.same rfl) (.cons (.nil 2) (.cons (.same rfl) (.cons (.same rfl) (.nil)))))))))))))))) (by first | exact aggE (st_2 (by omega) 16 (ferm_yes (by omega) (by omega))) | exact aggE (st_3 (by omega) 16 (ferm_yes (by omega) (by omega))) | exact aggE (st_2 (by omega) 0 (ferm_no (by omega))) | exact aggE (st_3 (by omega) 0 (ferm_no (by omega))) | exact aggE (st_4 (by omega)) | exact aggE (st_0 (by omega) (by omega) (by omega)) | (exfalso; omega))
 refine zi ?_
 refine zr ?_
 refine zp (pure_eq (s' := .d (.agg [dI e.site, dI e.num, dI e.kind, dI e.v.log, dI e.v.dots, .v (.slice none 0 0), .v (.slice none 0 0), dI 0, dI 0, dI e.dyn, .v (.slice none 0 0), dI 0, dI 0])) (norm_pure (p_load_boxs rfl rfl agg_60 rfl (Nat.le_of_ble_eq_true rfl))) (by kernel_rfl)) ?_
 refine XL.step rfl (st_storeN (l' := [.d (dI e.site), .d (dI e.num), .d (dI e.kind), .d (dI e.v.log), .d (dI e.v.dots), .d (.v (.slice none 0 0)), .d (.v (.slice none 0 0)), .d (dI 0), .d (dI 0), .d (dI e.dyn), .d (.v (.slice none 0 0)), .d (dI 0), .d (dI 0)]) rfl rfl rfl rfl sz_60 rfl (Nat.le_of_ble_eq_true rfl) (by kernel_rfl)) ?_
 refine zn ?_
 refine zt ?_
 exact ret1 rfl (RV.sub (RV.cells rfl rfl rfl agg_60 (Nat.le_of_ble_eq_true rfl) rfl) (.agg (.cons (.same rfl) (.cons (.same rfl) (.cons (.same rfl) (.cons (.same rfl) (.cons (.same rfl) (.cons (.nil 5) (.cons (.nil 5) (.cons (.same rfl) (.cons (.same rfl) (.cons (.same rfl) (.cons (.nil 2) (.cons (.same rfl) (.cons (.same rfl) (.nil)))))))))))))))) (by first | exact aggE (st_2 (by omega) 16 (ferm_yes (by omega) (by omega))) | exact aggE (st_3 (by omega) 16 (ferm_yes (by omega) (by omega))) | exact aggE (st_2 (by omega) 0 (ferm_no (by omega))) | exact aggE (st_3 (by omega) 0 (ferm_no (by omega))) | exact aggE (st_4 (by omega)) | exact aggE (st_0 (by omega) (by omega) (by omega)) | (exfalso; omega))
 refine zk 5 rfl ?_
 refine zq rfl rfl rfl ?_
 refine zn ?_
 refine xw_false (by kernel_rfl) rfl ?_
 refine zi ?_
 refine zr ?_
 refine zp (p_fld_ptr rfl rfl fld_60_1) ?_
 refine zp (p_load_box rfl rfl sc_3 rfl rfl) ?_
 refine zp (p_eql rfl rfl rfl) ?_
 refine zn ?_
 refine zd rfl (fun c32 => ?_) (fun c32 => ?_)
 refine xw_region (by kernel_rfl) ?_
 refine zp (pure_eq (s' := .d (.agg [dI 0, dI 0])) (norm_pure (p_build rfl str_56 zero_56 rfl)) (by kernel_rfl)) ?_
 refine zp (p_fld_ptr rfl rfl fld_60_2) ?_
 refine XL.step rfl (st_storeN (l' := [.d (dI e.site), .d (dI e.num), .d (dI e.kind), .d (dI 0), .d (dI 0), .d (.v (.slice none 0 0)), .d (.v (.slice none 0 0)), .d (dI 0), .d (dI 0), .d (dI e.dyn), .d (.v (.slice none 0 0)), .d (dI 0), .d (dI 0)]) rfl rfl rfl rfl sz_56 rfl (Nat.le_of_ble_eq_true rfl) (by kernel_rfl)) ?_
 refine zn ?_
 refine zr ?_
 refine zp (pure_eq (s' := .d (.agg [dI e.site, dI e.num, dI e.kind, dI 0, dI 0, .v (.slice none 0 0), .v (.slice none 0 0), dI 0, dI 0, dI e.dyn, .v (.slice none 0 0), dI 0, dI 0])) (norm_pure (p_load_boxs rfl rfl agg_60 rfl (Nat.le_of_ble_eq_true rfl))) (by kernel_rfl)) ?_
 refine XL.step rfl (st_storeN (l' := [.d (dI e.site), .d (dI e.num), .d (dI e.kind), .d (dI 0), .d (dI 0), .d (.v (.slice none 0 0)), .d (.v (.slice none 0 0)), .d (dI 0), .d (dI 0), .d (dI e.dyn), .d (.v (.slice none 0 0)), .d (dI 0), .d (dI 0)]) rfl rfl rfl rfl sz_60 rfl (Nat.le_of_ble_eq_true rfl) (by kernel_rfl)) ?_
 refine zn ?_
 refine zt ?_
 exact ret1 rfl (RV.sub (RV.cells rfl rfl rfl agg_60 (Nat.le_of_ble_eq_true rfl) rfl) (.agg (.cons (.same rfl) (.cons (.same rfl) (.cons (.same rfl) (.cons (.same rfl) (.cons (.same rfl) (.cons (.nil 5) (.cons (.nil 5) (.cons (.same rfl) (.cons (.same rfl) (.cons (.same rfl) (.cons (.nil 2) (.cons (.same rfl) (.cons (.same rfl) (.nil)))))))))))))))) (by first | exact aggE (st_2 (by omega) 16 (ferm_yes (by omega) (by omega))) | exact aggE (st_3 (by omega) 16 (ferm_yes (by omega) (by omega))) | exact aggE (st_2 (by omega) 0 (ferm_no (by omega))) | exact aggE (st_3 (by omega) 0 (ferm_no (by omega))) | exact aggE (st_4 (by omega)) | exact aggE (st_0 (by omega) (by omega) (by omega)) | (exfalso; omega))
 refine zi ?_
 refine zr ?_
 refine zp (pure_eq (s' := .d (.agg [dI e.site, dI e.num, dI e.kind, dI e.v.log, dI e.v.dots, .v (.slice none 0 0), .v (.slice none 0 0), dI 0, dI 0, dI e.dyn, .v (.slice none 0 0), dI 0, dI 0])) (norm_pure (p_load_boxs rfl rfl agg_60 rfl (Nat.le_of_ble_eq_true rfl))) (by kernel_rfl)) ?_
 refine XL.step rfl (st_storeN (l' := [.d (dI e.site), .d (dI e.num), .d (dI e.kind), .d (dI e.v.log), .d (dI e.v.dots), .d (.v (.slice none 0 0)), .d (.v (.slice none 0 0)), .d (dI 0), .d (dI 0), .d (dI e.dyn), .d (.v (.slice none 0 0)), .d (dI 0), .d (dI 0)]) rfl rfl rfl rfl sz_60 rfl (Nat.le_of_ble_eq_true rfl) (by kernel_rfl)) ?_
 refine zn ?_
 refine zt ?_
 exact ret1 rfl (RV.sub (RV.cells rfl rfl rfl agg_60 (Nat.le_of_ble_eq_true rfl) rfl) (.agg (.cons (.same rfl) (.cons (.same rfl) (.cons (.same rfl) (.cons (.same rfl) (.cons (.same rfl) (.cons (.nil 5) (.cons (.nil 5) (.cons (.same rfl) (.cons (.same rfl) (.cons (.same rfl) (.cons (.nil 2) (.cons (.same rfl) (.cons (.same rfl) (.nil)))))))))))))))) (by first | exact aggE (st_2 (by omega) 16 (ferm_yes (by omega) (by omega))) | exact aggE (st_3 (by omega) 16 (ferm_yes (by omega) (by omega))) | exact aggE (st_2 (by omega) 0 (ferm_no (by omega))) | exact aggE (st_3 (by omega) 0 (ferm_no (by omega))) | exact aggE (st_4 (by omega)) | exact aggE (st_0 (by omega) (by omega) (by omega)) | (exfalso; omega))
 refine zr ?_
 refine zp (p_eql rfl rfl rfl) ?_
 refine za rfl rfl ?_
 refine zn ?_
 refine zd rfl (fun c35 => ?_) (fun c35 => ?_)
 refine zi ?_
 refine zr ?_
 refine zp (pure_eq (s' := .d (.agg [dI e.site, dI e.num, dI e.kind, dI e.v.log, dI e.v.dots, .v (.slice none 0 0), .v (.slice none 0 0), dI 0, dI 0, dI e.dyn, .v (.slice none 0 0), dI 0, dI 0])) (norm_pure (p_load_boxs rfl rfl agg_60 rfl (Nat.le_of_ble_eq_true rfl))) (by kernel_rfl)) ?_
 refine XL.step rfl (st_storeN (l' := [.d (dI e.site), .d (dI e.num), .d (dI e.kind), .d (dI e.v.log), .d (dI e.v.dots), .d (.v (.slice none 0 0)), .d (.v (.slice none 0 0)), .d (dI 0), .d (dI 0), .d (dI e.dyn), .d (.v (.slice none 0 0)), .d (dI 0), .d (dI 0)]) rfl rfl rfl rfl sz_60 rfl (Nat.le_of_ble_eq_true rfl) (by kernel_rfl)) ?_
 refine zn ?_
 refine zt ?_
 exact ret1 rfl (RV.sub (RV.cells rfl rfl rfl agg_60 (Nat.le_of_ble_eq_true rfl) rfl) (.agg (.cons (.same rfl) (.cons (.same rfl) (.cons (.same rfl) (.cons (.same rfl) (.cons (.same rfl) (.cons (.nil 5) (.cons (.nil 5) (.cons (.same rfl) (.cons (.same rfl) (.cons (.same rfl) (.cons (.nil 2) (.cons (.same rfl) (.cons (.same rfl) (.nil)))))))))))))))) (by first | exact aggE (st_2 (by omega) 16 (ferm_yes (by omega) (by omega))) | exact aggE (st_3 (by omega) 16 (ferm_yes (by omega) (by omega))) | exact aggE (st_2 (by omega) 0 (ferm_no (by omega))) | exact aggE (st_3 (by omega) 0 (ferm_no (by omega))) | exact aggE (st_4 (by omega)) | exact aggE (st_0 (by omega) (by omega) (by omega)) | (exfalso; omega))
 refine zr ?_
 refine zp (pure_eq (s' := .d (.agg (Ev.c e))) (norm_pure (p_load_boxs rfl rfl agg_60 rfl (Nat.le_of_ble_eq_true rfl))) (by kernel_rfl)) ?_
 refine XL.step rfl (st_storeN (l' := [.d (dI e.site), .d (dI e.num), .d (dI e.kind), .d (dI e.v.log), .d (dI e.v.dots), .d (.sl 5 (e.heads.map Hd.c)), .d (.sl 5 (e.graces.map Gr.c)), .d (dI e.art), .d (dI e.orn), .d (dI e.dyn), .d (.sl 2 (e.lyr.map Sy.c)), .d (dI e.stem), .d (dI e.beam)]) rfl rfl rfl rfl sz_60 rfl (Nat.le_of_ble_eq_true rfl) (by kernel_rfl)) ?_
 refine zn ?_
 refine zt ?_
 exact ret1 rfl (RV.cells rfl rfl rfl agg_60 (Nat.le_of_ble_eq_true rfl) rfl) (by first | exact aggE (st_2 (by omega) 16 (ferm_yes (by omega) (by omega))) | exact aggE (st_3 (by omega) 16 (ferm_yes (by omega) (by omega))) | exact aggE (st_2 (by omega) 0 (ferm_no (by omega))) | exact aggE (st_3 (by omega) 0 (ferm_no (by omega))) | exact aggE (st_4 (by omega)) | exact aggE (st_0 (by omega) (by omega) (by omega)) | (exfalso; omega))
 refine xw_region (by kernel_rfl) ?_
 refine zp (p_eql rfl rfl rfl) ?_
 refine za rfl rfl ?_
 refine zn ?_
 refine zd rfl (fun c16 => ?_) (fun c16 => ?_)
 refine zs ?_
 refine zr ?_
 refine zp (p_fld_ptr rfl rfl fld_60_5) ?_
 refine zp (p_load_box rfl rfl sc_3 rfl rfl) ?_
 refine zp (p_geq rfl rfl rfl) ?_
 refine zm rfl rfl ?_
 refine XL.dec 22 rfl (fun g22 => ?_) (fun g22 => ?_)
 refine zp (p_fld_ptr rfl rfl fld_60_5) ?_
 refine zp (p_load_box rfl rfl sc_3 rfl rfl) ?_
 refine zp (p_quo rfl rfl rfl (by omega) (by omega) (by omega)) ?_
 refine zp (p_rem rfl rfl rfl (by omega) (by omega)) ?_
 refine zp (p_eql rfl rfl rfl) ?_
 refine zq rfl rfl rfl ?_
 refine zn ?_
 refine zd rfl (fun c28 => ?_) (fun c28 => ?_)
 refine xw_region (by kernel_rfl) ?_
 refine zp (p_fld_ptr rfl rfl fld_60_5) ?_
 refine XL.step rfl (st_storeN (l' := [.d (dI e.site), .d (dI e.num), .d (dI e.kind), .d (dI e.v.log), .d (dI e.v.dots), .d (.v (.slice none 0 0)), .d (.v (.slice none 0 0)), .d (dI 16), .d (dI 0), .d (dI e.dyn), .d (.v (.slice none 0 0)), .d (dI 0), .d (dI 0)]) rfl rfl rfl rfl sz_3 rfl (Nat.le_of_ble_eq_true rfl) (by kernel_rfl)) ?_
 refine znr ?_
 refine zp (p_fld_ptr rfl rfl fld_60_1) ?_
 refine zp (p_load_box rfl rfl sc_3 rfl rfl) ?_
 refine zp (p_eql rfl rfl rfl) ?_
 refine zn ?_
 refine zd rfl (fun c32 => ?_) (fun c32 => ?_)
 refine xw_region (by kernel_rfl) ?_
 refine zp (pure_eq (s' := .d (.agg [dI 0, dI 0])) (norm_pure (p_build rfl str_56 zero_56 rfl)) (by kernel_rfl)) ?_
 refine zp (p_fld_ptr rfl rfl fld_60_2) ?_
 refine XL.step rfl (st_storeN (l' := [.d (dI e.site), .d (dI e.num), .d (dI e.kind), .d (dI 0), .d (dI 0), .d (.v (.slice none 0 0)), .d (.v (.slice none 0 0)), .d (dI 16), .d (dI 0), .d (dI e.dyn), .d (.v (.slice none 0 0)), .d (dI 0), .d (dI 0)]) rfl rfl rfl rfl sz_56 rfl (Nat.le_of_ble_eq_true rfl) (by kernel_rfl)) ?_
 refine zn ?_
 refine zr ?_
 refine zp (pure_eq (s' := .d (.agg [dI e.site, dI e.num, dI e.kind, dI 0, dI 0, .v (.slice none 0 0), .v (.slice none 0 0), dI 16, dI 0, dI e.dyn, .v (.slice none 0 0), dI 0, dI 0])) (norm_pure (p_load_boxs rfl rfl agg_60 rfl (Nat.le_of_ble_eq_true rfl))) (by kernel_rfl)) ?_
 refine XL.step rfl (st_storeN (l' := [.d (dI e.site), .d (dI e.num), .d (dI e.kind), .d (dI 0), .d (dI 0), .d (.v (.slice none 0 0)), .d (.v (.slice none 0 0)), .d (dI 16), .d (dI 0), .d (dI e.dyn), .d (.v (.slice none 0 0)), .d (dI 0), .d (dI 0)]) rfl rfl rfl rfl sz_60 rfl (Nat.le_of_ble_eq_true rfl) (by kernel_rfl)) ?_
 refine zn ?_
 refine zt ?_
 exact ret1 rfl (RV.sub (RV.cells rfl rfl rfl agg_60 (Nat.le_of_ble_eq_true rfl) rfl) (.agg (.cons (.same rfl) (.cons (.same rfl) (.cons (.same rfl) (.cons (.same rfl) (.cons (.same rfl) (.cons (.nil 5) (.cons (.nil 5) (.cons (.same rfl) (.cons (.same rfl) (.cons (.same rfl) (.cons (.nil 2) (.cons (.same rfl) (.cons (.same rfl) (.nil)))))))))))))))) (by first | exact aggE (st_2 (by omega) 16 (ferm_yes (by omega) (by omega))) | exact aggE (st_3 (by omega) 16 (ferm_yes (by omega) (by omega))) | exact aggE (st_2 (by omega) 0 (ferm_no (by omega))) | exact aggE (st_3 (by omega) 0 (ferm_no (by omega))) | exact aggE (st_4 (by omega)) | exact aggE (st_0 (by omega) (by omega) (by omega)) | (exfalso; omega))
 refine zi ?_
 refine zr ?_
 refine zp (pure_eq (s' := .d (.agg [dI e.site, dI e.num, dI e.kind, dI e.v.log, dI e.v.dots, .v (.slice none 0 0), .v (.slice none 0 0), dI 16, dI 0, dI e.dyn, .v (.slice none 0 0), dI 0, dI 0])) (norm_pure (p_load_boxs rfl rfl agg_60 rfl (Nat.le_of_ble_eq_true rfl))) (by kernel_rfl)) ?_
 refine XL.step rfl (st_storeN (l' := [.d (dI e.site), .d (dI e.num), .d (dI e.kind), .d (dI e.v.log), .d (dI e.v.dots), .d (.v (.slice none 0 0)), .d (.v (.slice none 0 0)), .d (dI 16), .d (dI 0), .d (dI e.dyn), .d (.v (.slice none 0 0)), .d (dI 0), .d (dI 0)]) rfl rfl rfl rfl sz_60 rfl (Nat.le_of_ble_eq_true rfl) (by kernel_rfl)) ?_
 refine zn ?_
 refine zt ?_
 exact ret1 rfl (RV.sub (RV.cells rfl rfl rfl agg_60 (Nat.le_of_ble_eq_true rfl) rfl) (.agg (.cons (.same rfl) (.cons (.same rfl) (.cons (.same rfl) (.cons (.same rfl) (.cons (.same rfl) (.cons (.nil 5) (.cons (.nil 5) (.cons (.same rfl) (.cons (.same rfl) (.cons (.same rfl) (.cons (.nil 2) (.cons (.same rfl) (.cons (.same rfl) (.nil)))))))))))))))) (by first | exact aggE (st_2 (by omega) 16 (ferm_yes (by omega) (by omega))) | exact aggE (st_3 (by omega) 16 (ferm_yes (by omega) (by omega))) | exact aggE (st_2 (by omega) 0 (ferm_no (by omega))) | exact aggE (st_3 (by omega) 0 (ferm_no (by omega))) | exact aggE (st_4 (by omega)) | exact aggE (st_0 (by omega) (by omega) (by omega)) | (exfalso; omega))
 refine zi ?_
 refine zr ?_
 refine zp (p_fld_ptr rfl rfl fld_60_1) ?_
 refine zp (p_load_box rfl rfl sc_3 rfl rfl) ?_
 refine zp (p_eql rfl rfl rfl) ?_
 refine zn ?_
 refine zd rfl (fun c32 => ?_) (fun c32 => ?_)
 refine xw_region (by kernel_rfl) ?_
 refine zp (pure_eq (s' := .d (.agg [dI 0, dI 0])) (norm_pure (p_build rfl str_56 zero_56 rfl)) (by kernel_rfl)) ?_
 refine zp (p_fld_ptr rfl rfl fld_60_2) ?_
 refine XL.step rfl (st_storeN (l' := [.d (dI e.site), .d (dI e.num), .d (dI e.kind), .d (dI 0), .d (dI 0), .d (.v (.slice none 0 0)), .d (.v (.slice none 0 0)), .d (dI 0), .d (dI 0), .d (dI e.dyn), .d (.v (.slice none 0 0)), .d (dI 0), .d (dI 0)]) rfl rfl rfl rfl sz_56 rfl (Nat.le_of_ble_eq_true rfl) (by kernel_rfl)) ?_
 refine zn ?_
 refine zr ?_
 refine zp (pure_eq (s' := .d (.agg [dI e.site, dI e.num, dI e.kind, dI 0, dI 0, .v (.slice none 0 0), .v (.slice none 0 0), dI 0, dI 0, dI e.dyn, .v (.slice none 0 0), dI 0, dI 0])) (norm_pure (p_load_boxs rfl rfl agg_60 rfl (Nat.le_of_ble_eq_true rfl))) (by kernel_rfl)) ?_
 refine XL.step rfl (st_storeN (l' := [.d (dI e.site), .d (dI e.num), .d (dI e.kind), .d (dI 0), .d (dI 0), .d (.v (.slice none 0 0)), .d (.v (.slice none 0 0)), .d (dI 0), .d (dI 0), .d (dI e.dyn), .d (.v (.slice none 0 0)), .d (dI 0), .d (dI 0)]) rfl rfl rfl rfl sz_60 rfl (Nat.le_of_ble_eq_true rfl) (by kernel_rfl)) ?_
 refine zn ?_
 refine zt ?_
 exact ret1 rfl (RV.sub (RV.cells rfl rfl rfl agg_60 (Nat.le_of_ble_eq_true rfl) rfl) (.agg (.cons (.same rfl) (.cons (.same rfl) (.cons (.same rfl) (.cons (.same rfl) (.cons (.same rfl) (.cons (.nil 5) (.cons (.nil 5) (.cons (.same rfl) (.cons (.same rfl) (.cons (.same rfl) (.cons (.nil 2) (.cons (.same rfl) (.cons (.same rfl) (.nil)))))))))))))))) (by first | exact aggE (st_2 (by omega) 16 (ferm_yes (by omega) (by omega))) | exact aggE (st_3 (by omega) 16 (ferm_yes (by omega) (by omega))) | exact aggE (st_2 (by omega) 0 (ferm_no (by omega))) | exact aggE (st_3 (by omega) 0 (ferm_no (by omega))) | exact aggE (st_4 (by omega)) | exact aggE (st_0 (by omega) (by omega) (by omega)) | (exfalso; omega))
 refine zi ?_
 refine zr ?_
 refine zp (pure_eq (s' := .d (.agg [dI e.site, dI e.num, dI e.kind, dI e.v.log, dI e.v.dots, .v (.slice none 0 0), .v (.slice none 0 0), dI 0, dI 0, dI e.dyn, .v (.slice none 0 0), dI 0, dI 0])) (norm_pure (p_load_boxs rfl rfl agg_60 rfl (Nat.le_of_ble_eq_true rfl))) (by kernel_rfl)) ?_
 refine XL.step rfl (st_storeN (l' := [.d (dI e.site), .d (dI e.num), .d (dI e.kind), .d (dI e.v.log), .d (dI e.v.dots), .d (.v (.slice none 0 0)), .d (.v (.slice none 0 0)), .d (dI 0), .d (dI 0), .d (dI e.dyn), .d (.v (.slice none 0 0)), .d (dI 0), .d (dI 0)]) rfl rfl rfl rfl sz_60 rfl (Nat.le_of_ble_eq_true rfl) (by kernel_rfl)) ?_
 refine zn ?_
 refine zt ?_
 exact ret1 rfl (RV.sub (RV.cells rfl rfl rfl agg_60 (Nat.le_of_ble_eq_true rfl) rfl) (.agg (.cons (.same rfl) (.cons (.same rfl) (.cons (.same rfl) (.cons (.same rfl) (.cons (.same rfl) (.cons (.nil 5) (.cons (.nil 5) (.cons (.same rfl) (.cons (.same rfl) (.cons (.same rfl) (.cons (.nil 2) (.cons (.same rfl) (.cons (.same rfl) (.nil)))))))))))))))) (by first | exact aggE (st_2 (by omega) 16 (ferm_yes (by omega) (by omega))) | exact aggE (st_3 (by omega) 16 (ferm_yes (by omega) (by omega))) | exact aggE (st_2 (by omega) 0 (ferm_no (by omega))) | exact aggE (st_3 (by omega) 0 (ferm_no (by omega))) | exact aggE (st_4 (by omega)) | exact aggE (st_0 (by omega) (by omega) (by omega)) | (exfalso; omega))
 refine zk 5 rfl ?_
 refine zq rfl rfl rfl ?_
 refine zn ?_
 refine xw_false (by kernel_rfl) rfl ?_
 refine zi ?_
 refine zr ?_
 refine zp (p_fld_ptr rfl rfl fld_60_1) ?_
 refine zp (p_load_box rfl rfl sc_3 rfl rfl) ?_
 refine zp (p_eql rfl rfl rfl) ?_
 refine zn ?_
 refine zd rfl (fun c32 => ?_) (fun c32 => ?_)
 refine xw_region (by kernel_rfl) ?_
 refine zp (pure_eq (s' := .d (.agg [dI 0, dI 0])) (norm_pure (p_build rfl str_56 zero_56 rfl)) (by kernel_rfl)) ?_
 refine zp (p_fld_ptr rfl rfl fld_60_2) ?_
 refine XL.step rfl (st_storeN (l' := [.d (dI e.site), .d (dI e.num), .d (dI e.kind), .d (dI 0), .d (dI 0), .d (.v (.slice none 0 0)), .d (.v (.slice none 0 0)), .d (dI 0), .d (dI 0), .d (dI e.dyn), .d (.v (.slice none 0 0)), .d (dI 0), .d (dI 0)]) rfl rfl rfl rfl sz_56 rfl (Nat.le_of_ble_eq_true rfl) (by kernel_rfl)) ?_
 refine zn ?_
 refine zr ?_
 refine zp (pure_eq (s' := .d (.agg [dI e.site, dI e.num, dI e.kind, dI 0, dI 0, .v (.slice none 0 0), .v (.slice none 0 0), dI 0, dI 0, dI e.dyn, .v (.slice none 0 0), dI 0, dI 0])) (norm_pure (p_load_boxs rfl rfl agg_60 rfl (Nat.le_of_ble_eq_true rfl))) (by kernel_rfl)) ?_
 refine XL.step rfl (st_storeN (l' := [.d (dI e.site), .d (dI e.num), .d (dI e.kind), .d (dI 0), .d (dI 0), .d (.v (.slice none 0 0)), .d (.v (.slice none 0 0)), .d (dI 0), .d (dI 0), .d (dI e.dyn), .d (.v (.slice none 0 0)), .d (dI 0), .d (dI 0)]) rfl rfl rfl rfl sz_60 rfl (Nat.le_of_ble_eq_true rfl) (by kernel_rfl)) ?_
 refine zn ?_
 refine zt ?_
 exact ret1 rfl (RV.sub (RV.cells rfl rfl rfl agg_60 (Nat.le_of_ble_eq_true rfl) rfl) (.agg (.cons (.same rfl) (.cons (.same rfl) (.cons (.same rfl) (.cons (.same rfl) (.cons (.same rfl) (.cons (.nil 5) (.cons (.nil 5) (.cons (.same rfl) (.cons (.same rfl) (.cons (.same rfl) (.cons (.nil 2) (.cons (.same rfl) (.cons (.same rfl) (.nil)))))))))))))))) (by first | exact aggE (st_2 (by omega) 16 (ferm_yes (by omega) (by omega))) | exact aggE (st_3 (by omega) 16 (ferm_yes (by omega) (by omega))) | exact aggE (st_2 (by omega) 0 (ferm_no (by omega))) | exact aggE (st_3 (by omega) 0 (ferm_no (by omega))) | exact aggE (st_4 (by omega)) | exact aggE (st_0 (by omega) (by omega) (by omega)) | (exfalso; omega))
 refine zi ?_
 refine zr ?_
 refine zp (pure_eq (s' := .d (.agg [dI e.site, dI e.num, dI e.kind, dI e.v.log, dI e.v.dots, .v (.slice none 0 0), .v (.slice none 0 0), dI 0, dI 0, dI e.dyn, .v (.slice none 0 0), dI 0, dI 0])) (norm_pure (p_load_boxs rfl rfl agg_60 rfl (Nat.le_of_ble_eq_true rfl))) (by kernel_rfl)) ?_
 refine XL.step rfl (st_storeN (l' := [.d (dI e.site), .d (dI e.num), .d (dI e.kind), .d (dI e.v.log), .d (dI e.v.dots), .d (.v (.slice none 0 0)), .d (.v (.slice none 0 0)), .d (dI 0), .d (dI 0), .d (dI e.dyn), .d (.v (.slice none 0 0)), .d (dI 0), .d (dI 0)]) rfl rfl rfl rfl sz_60 rfl (Nat.le_of_ble_eq_true rfl) (by kernel_rfl)) ?_
 refine zn ?_
 refine zt ?_
 exact ret1 rfl (RV.sub (RV.cells rfl rfl rfl agg_60 (Nat.le_of_ble_eq_true rfl) rfl) (.agg (.cons (.same rfl) (.cons (.same rfl) (.cons (.same rfl) (.cons (.same rfl) (.cons (.same rfl) (.cons (.nil 5) (.cons (.nil 5) (.cons (.same rfl) (.cons (.same rfl) (.cons (.same rfl) (.cons (.nil 2) (.cons (.same rfl) (.cons (.same rfl) (.nil)))))))))))))))) (by first | exact aggE (st_2 (by omega) 16 (ferm_yes (by omega) (by omega))) | exact aggE (st_3 (by omega) 16 (ferm_yes (by omega) (by omega))) | exact aggE (st_2 (by omega) 0 (ferm_no (by omega))) | exact aggE (st_3 (by omega) 0 (ferm_no (by omega))) | exact aggE (st_4 (by omega)) | exact aggE (st_0 (by omega) (by omega) (by omega)) | (exfalso; omega))
 refine zr ?_
 refine zp (p_eql rfl rfl rfl) ?_
 refine za rfl rfl ?_
 refine zn ?_
 refine zd rfl (fun c35 => ?_) (fun c35 => ?_)
 refine zi ?_
 refine zr ?_
 refine zp (pure_eq (s' := .d (.agg [dI e.site, dI e.num, dI e.kind, dI e.v.log, dI e.v.dots, .v (.slice none 0 0), .v (.slice none 0 0), dI 0, dI 0, dI e.dyn, .v (.slice none 0 0), dI 0, dI 0])) (norm_pure (p_load_boxs rfl rfl agg_60 rfl (Nat.le_of_ble_eq_true rfl))) (by kernel_rfl)) ?_
 refine XL.step rfl (st_storeN (l' := [.d (dI e.site), .d (dI e.num), .d (dI e.kind), .d (dI e.v.log), .d (dI e.v.dots), .d (.v (.slice none 0 0)), .d (.v (.slice none 0 0)), .d (dI 0), .d (dI 0), .d (dI e.dyn), .d (.v (.slice none 0 0)), .d (dI 0), .d (dI 0)]) rfl rfl rfl rfl sz_60 rfl (Nat.le_of_ble_eq_true rfl) (by kernel_rfl)) ?_
 refine zn ?_
 refine zt ?_
 exact ret1 rfl (RV.sub (RV.cells rfl rfl rfl agg_60 (Nat.le_of_ble_eq_true rfl) rfl) (.agg (.cons (.same rfl) (.cons (.same rfl) (.cons (.same rfl) (.cons (.same rfl) (.cons (.same rfl) (.cons (.nil 5) (.cons (.nil 5) (.cons (.same rfl) (.cons (.same rfl) (.cons (.same rfl) (.cons (.nil 2) (.cons (.same rfl) (.cons (.same rfl) (.nil)))))))))))))))) (by first | exact aggE (st_2 (by omega) 16 (ferm_yes (by omega) (by omega))) | exact aggE (st_3 (by omega) 16 (ferm_yes (by omega) (by omega))) | exact aggE (st_2 (by omega) 0 (ferm_no (by omega))) | exact aggE (st_3 (by omega) 0 (ferm_no (by omega))) | exact aggE (st_4 (by omega)) | exact aggE (st_0 (by omega) (by omega) (by omega)) | (exfalso; omega))
 refine zr ?_
 refine zp (pure_eq (s' := .d (.agg (Ev.c e))) (norm_pure (p_load_boxs rfl rfl agg_60 rfl (Nat.le_of_ble_eq_true rfl))) (by kernel_rfl)) ?_
 refine XL.step rfl (st_storeN (l' := [.d (dI e.site), .d (dI e.num), .d (dI e.kind), .d (dI e.v.log), .d (dI e.v.dots), .d (.sl 5 (e.heads.map Hd.c)), .d (.sl 5 (e.graces.map Gr.c)), .d (dI e.art), .d (dI e.orn), .d (dI e.dyn), .d (.sl 2 (e.lyr.map Sy.c)), .d (dI e.stem), .d (dI e.beam)]) rfl rfl rfl rfl sz_60 rfl (Nat.le_of_ble_eq_true rfl) (by kernel_rfl)) ?_
 refine zn ?_
 refine zt ?_
 exact ret1 rfl (RV.cells rfl rfl rfl agg_60 (Nat.le_of_ble_eq_true rfl) rfl) (by first | exact aggE (st_2 (by omega) 16 (ferm_yes (by omega) (by omega))) | exact aggE (st_3 (by omega) 16 (ferm_yes (by omega) (by omega))) | exact aggE (st_2 (by omega) 0 (ferm_no (by omega))) | exact aggE (st_3 (by omega) 0 (ferm_no (by omega))) | exact aggE (st_4 (by omega)) | exact aggE (st_0 (by omega) (by omega) (by omega)) | (exfalso; omega))
theorem rsame_xc (a b : Ev) : XC Tryz.prog 56 [.agg (Ev.c a), .agg (Ev.c b)] (fun r => r = dB (decide (a.same b))) := by
 refine xc_body callable_56 Tryz.func56 rfl rfl (Nat.le_of_ble_eq_true rfl) ?_
 refine zr ?_
 refine XL.step rfl (st_boxN 2 (l := [.d (dI a.site), .d (dI a.num), .d (dI a.kind), .d (dI a.v.log), .d (dI a.v.dots), .d (.sl 5 (a.heads.map Hd.c)), .d (.sl 5 (a.graces.map Gr.c)), .d (dI a.art), .d (dI a.orn), .d (dI a.dyn), .d (.sl 2 (a.lyr.map Sy.c)), .d (dI a.stem), .d (dI a.beam)]) rfl rfl (by kernel_rfl)) ?_
 refine XL.step rfl (st_boxN 3 (l := [.d (dI b.site), .d (dI b.num), .d (dI b.kind), .d (dI b.v.log), .d (dI b.v.dots), .d (.sl 5 (b.heads.map Hd.c)), .d (.sl 5 (b.graces.map Gr.c)), .d (dI b.art), .d (dI b.orn), .d (dI b.dyn), .d (.sl 2 (b.lyr.map Sy.c)), .d (dI b.stem), .d (dI b.beam)]) rfl rfl (by kernel_rfl)) ?_
 refine za rfl rfl ?_
 refine zn ?_
 refine zs ?_
 refine zr ?_
 refine zp (p_fld_ptr rfl rfl fld_60_1) ?_
 refine zp (p_load_box rfl rfl sc_3 rfl rfl) ?_
 refine zp (p_fld_ptr rfl rfl fld_60_1) ?_
 refine zp (p_load_box rfl rfl sc_3 rfl rfl) ?_
 refine zp (p_neq rfl rfl rfl) ?_
 refine zm rfl rfl ?_
 refine XL.dec 13 rfl (fun g13 => ?_) (fun g13 => ?_)
 refine zk 5 rfl ?_
 refine zq rfl rfl rfl ?_
 refine zm rfl rfl ?_
 refine zk 5 rfl ?_
 refine zq rfl rfl rfl ?_
 refine zm rfl rfl ?_
 refine zk 5 rfl ?_
 refine zq rfl rfl rfl ?_
 refine zm rfl rfl ?_
 refine zk 5 rfl ?_
 refine zq rfl rfl rfl ?_
 refine zm rfl rfl ?_
 refine zk 5 rfl ?_
 refine zq rfl rfl rfl ?_
 refine zm rfl rfl ?_
 refine zk 5 rfl ?_
 refine zq rfl rfl rfl ?_
 refine zm rfl rfl ?_
 refine zk 7 rfl ?_
 refine zq rfl rfl rfl ?_
 refine zm rfl rfl ?_
 refine zk 7 rfl ?_
 refine zq rfl rfl rfl ?_
 refine zm rfl rfl ?_
 refine zk 7 rfl ?_
 refine zq rfl rfl rfl ?_
 refine zn ?_
 refine xw_true (by kernel_rfl) rfl ?_
 refine zr ?_
 refine za rfl rfl ?_
 refine zn ?_
 refine zt ?_
 exact z1 rfl rfl (rB (same_no fun h => g13 h.1))
 refine zp (p_fld_ptr rfl rfl fld_60_2) ?_
 refine zp (pure_eq (s' := .d (.agg (Val.c a.v))) (norm_pure (p_load_boxs rfl rfl agg_56 rfl (Nat.le_of_ble_eq_true rfl))) (by kernel_rfl)) ?_
 refine zp (p_fld_ptr rfl rfl fld_60_2) ?_
 refine zp (pure_eq (s' := .d (.agg (Val.c b.v))) (norm_pure (p_load_boxs rfl rfl agg_56 rfl (Nat.le_of_ble_eq_true rfl))) (by kernel_rfl)) ?_
 refine zp (p_neq_56 rfl rfl rfl) ?_
 refine zq rfl rfl rfl ?_
 refine zm rfl rfl ?_
 refine XL.dec 20 rfl (fun g20 => ?_) (fun g20 => ?_)
 refine zk 5 rfl ?_
 refine zq rfl rfl rfl ?_
 refine zm rfl rfl ?_
 refine zk 5 rfl ?_
 refine zq rfl rfl rfl ?_
 refine zm rfl rfl ?_
 refine zk 5 rfl ?_
 refine zq rfl rfl rfl ?_
 refine zm rfl rfl ?_
 refine zk 5 rfl ?_
 refine zq rfl rfl rfl ?_
 refine zm rfl rfl ?_
 refine zk 5 rfl ?_
 refine zq rfl rfl rfl ?_
 refine zm rfl rfl ?_
 refine zk 7 rfl ?_
 refine zq rfl rfl rfl ?_
 refine zm rfl rfl ?_
 refine zk 7 rfl ?_
 refine zq rfl rfl rfl ?_
 refine zm rfl rfl ?_
 refine zk 7 rfl ?_
 refine zq rfl rfl rfl ?_
 refine zn ?_
 refine xw_true (by kernel_rfl) rfl ?_
 refine zr ?_
 refine za rfl rfl ?_
 refine zn ?_
 refine zt ?_
 exact z1 rfl rfl (rB (same_no fun h => g20 (by rw [h.2.1]; exact ⟨rfl, rfl⟩)))
 refine zp (p_fld_ptr rfl rfl fld_60_5) ?_
 refine zp (p_load_box rfl rfl sc_3 rfl rfl) ?_
 refine zp (p_fld_ptr rfl rfl fld_60_5) ?_
 refine zp (p_load_box rfl rfl sc_3 rfl rfl) ?_
 refine zp (p_neq rfl rfl rfl) ?_
 refine zq rfl rfl rfl ?_
 refine zm rfl rfl ?_
 refine XL.dec 27 rfl (fun g27 => ?_) (fun g27 => ?_)
 refine zk 5 rfl ?_
 refine zq rfl rfl rfl ?_
 refine zm rfl rfl ?_
 refine zk 5 rfl ?_
 refine zq rfl rfl rfl ?_
 refine zm rfl rfl ?_
 refine zk 5 rfl ?_
 refine zq rfl rfl rfl ?_
 refine zm rfl rfl ?_
 refine zk 5 rfl ?_
 refine zq rfl rfl rfl ?_
 refine zm rfl rfl ?_
 refine zk 7 rfl ?_
 refine zq rfl rfl rfl ?_
 refine zm rfl rfl ?_
 refine zk 7 rfl ?_
 refine zq rfl rfl rfl ?_
 refine zm rfl rfl ?_
 refine zk 7 rfl ?_
 refine zq rfl rfl rfl ?_
 refine zn ?_
 refine xw_true (by kernel_rfl) rfl ?_
 refine zr ?_
 refine za rfl rfl ?_
 refine zn ?_
 refine zt ?_
 exact z1 rfl rfl (rB (same_no fun h => g27 h.2.2.1))
 refine zp (p_fld_ptr rfl rfl fld_60_6) ?_
 refine zp (p_load_box rfl rfl sc_3 rfl rfl) ?_
 refine zp (p_fld_ptr rfl rfl fld_60_6) ?_
 refine zp (p_load_box rfl rfl sc_3 rfl rfl) ?_
 refine zp (p_neq rfl rfl rfl) ?_
 refine zq rfl rfl rfl ?_
 refine zm rfl rfl ?_
 refine XL.dec 34 rfl (fun g34 => ?_) (fun g34 => ?_)
 refine zk 5 rfl ?_
 refine zq rfl rfl rfl ?_
 refine zm rfl rfl ?_
 refine zk 5 rfl ?_
 refine zq rfl rfl rfl ?_
 refine zm rfl rfl ?_
 refine zk 5 rfl ?_
 refine zq rfl rfl rfl ?_
 refine zm rfl rfl ?_
 refine zk 7 rfl ?_
 refine zq rfl rfl rfl ?_
 refine zm rfl rfl ?_
 refine zk 7 rfl ?_
 refine zq rfl rfl rfl ?_
 refine zm rfl rfl ?_
 refine zk 7 rfl ?_
 refine zq rfl rfl rfl ?_
 refine zn ?_
 refine xw_true (by kernel_rfl) rfl ?_
 refine zr ?_
 refine za rfl rfl ?_
 refine zn ?_
 refine zt ?_
 exact z1 rfl rfl (rB (same_no fun h => g34 h.2.2.2.1))
 refine zp (p_fld_ptr rfl rfl fld_60_7) ?_
 refine zp (p_load_box rfl rfl sc_3 rfl rfl) ?_
 refine zp (p_fld_ptr rfl rfl fld_60_7) ?_
 refine zp (p_load_box rfl rfl sc_3 rfl rfl) ?_
 refine zp (p_neq rfl rfl rfl) ?_
 refine zq rfl rfl rfl ?_
 refine zm rfl rfl ?_
 refine XL.dec 41 rfl (fun g41 => ?_) (fun g41 => ?_)
 refine zk 5 rfl ?_
 refine zq rfl rfl rfl ?_
 refine zm rfl rfl ?_
 refine zk 5 rfl ?_
 refine zq rfl rfl rfl ?_
 refine zm rfl rfl ?_
 refine zk 7 rfl ?_
 refine zq rfl rfl rfl ?_
 refine zm rfl rfl ?_
 refine zk 7 rfl ?_
 refine zq rfl rfl rfl ?_
 refine zm rfl rfl ?_
 refine zk 7 rfl ?_
 refine zq rfl rfl rfl ?_
 refine zn ?_
 refine xw_true (by kernel_rfl) rfl ?_
 refine zr ?_
 refine za rfl rfl ?_
 refine zn ?_
 refine zt ?_
 exact z1 rfl rfl (rB (same_no fun h => g41 h.2.2.2.2.1))
 refine zp (p_fld_ptr rfl rfl fld_60_9) ?_
 refine zp (p_load_box rfl rfl sc_3 rfl rfl) ?_
 refine zp (p_fld_ptr rfl rfl fld_60_9) ?_
 refine zp (p_load_box rfl rfl sc_3 rfl rfl) ?_
 refine zp (p_neq rfl rfl rfl) ?_
 refine zq rfl rfl rfl ?_
 refine zm rfl rfl ?_
 refine XL.dec 48 rfl (fun g48 => ?_) (fun g48 => ?_)
 refine zk 5 rfl ?_
 refine zq rfl rfl rfl ?_
 refine zm rfl rfl ?_
 refine zk 7 rfl ?_
 refine zq rfl rfl rfl ?_
 refine zm rfl rfl ?_
 refine zk 7 rfl ?_
 refine zq rfl rfl rfl ?_
 refine zm rfl rfl ?_
 refine zk 7 rfl ?_
 refine zq rfl rfl rfl ?_
 refine zn ?_
 refine xw_true (by kernel_rfl) rfl ?_
 refine zr ?_
 refine za rfl rfl ?_
 refine zn ?_
 refine zt ?_
 exact z1 rfl rfl (rB (same_no fun h => g48 h.2.2.2.2.2.1))
 refine zp (p_fld_ptr rfl rfl fld_60_10) ?_
 refine zp (p_load_box rfl rfl sc_3 rfl rfl) ?_
 refine zp (p_fld_ptr rfl rfl fld_60_10) ?_
 refine zp (p_load_box rfl rfl sc_3 rfl rfl) ?_
 refine zp (p_neq rfl rfl rfl) ?_
 refine zq rfl rfl rfl ?_
 refine zm rfl rfl ?_
 refine XL.dec 55 rfl (fun g55 => ?_) (fun g55 => ?_)
 refine zk 7 rfl ?_
 refine zq rfl rfl rfl ?_
 refine zm rfl rfl ?_
 refine zk 7 rfl ?_
 refine zq rfl rfl rfl ?_
 refine zm rfl rfl ?_
 refine zk 7 rfl ?_
 refine zq rfl rfl rfl ?_
 refine zn ?_
 refine xw_true (by kernel_rfl) rfl ?_
 refine zr ?_
 refine za rfl rfl ?_
 refine zn ?_
 refine zt ?_
 exact z1 rfl rfl (rB (same_no fun h => g55 h.2.2.2.2.2.2.1))
 refine zp (p_fld_ptr rfl rfl fld_60_3) ?_
 refine zp (p_load_box rfl rfl sc_48 rfl rfl) ?_
 refine XL.len rfl rfl rfl Tryz.underlying48 (fun hl58 => ?_)
 refine zp (p_fld_ptr rfl rfl fld_60_3) ?_
 refine zp (p_load_box rfl rfl sc_48 rfl rfl) ?_
 refine XL.len rfl rfl rfl Tryz.underlying48 (fun hl61 => ?_)
 refine zp (p_neq rfl rfl rfl) ?_
 refine zq rfl rfl rfl ?_
 refine zm rfl rfl ?_
 refine XL.dec 64 rfl (fun g64 => ?_) (fun g64 => ?_)
 refine zk 7 rfl ?_
 refine zq rfl rfl rfl ?_
 refine zm rfl rfl ?_
 refine zk 7 rfl ?_
 refine zq rfl rfl rfl ?_
 refine zn ?_
 refine xw_true (by kernel_rfl) rfl ?_
 refine zr ?_
 refine za rfl rfl ?_
 refine zn ?_
 refine zt ?_
 exact z1 rfl rfl (rB (same_no fun h => g64 (by rw [h.2.2.2.2.2.2.2.1])))
 refine zp (p_fld_ptr rfl rfl fld_60_4) ?_
 refine zp (p_load_box rfl rfl sc_57 rfl rfl) ?_
 refine XL.len rfl rfl rfl Tryz.underlying57 (fun hl67 => ?_)
 refine zp (p_fld_ptr rfl rfl fld_60_4) ?_
 refine zp (p_load_box rfl rfl sc_57 rfl rfl) ?_
 refine XL.len rfl rfl rfl Tryz.underlying57 (fun hl70 => ?_)
 refine zp (p_neq rfl rfl rfl) ?_
 refine zq rfl rfl rfl ?_
 refine zm rfl rfl ?_
 refine XL.dec 73 rfl (fun g73 => ?_) (fun g73 => ?_)
 refine zk 7 rfl ?_
 refine zq rfl rfl rfl ?_
 refine zn ?_
 refine xw_true (by kernel_rfl) rfl ?_
 refine zr ?_
 refine za rfl rfl ?_
 refine zn ?_
 refine zt ?_
 exact z1 rfl rfl (rB (same_no fun h => g73 (by rw [h.2.2.2.2.2.2.2.2.1])))
 refine zp (p_fld_ptr rfl rfl fld_60_8) ?_
 refine zp (p_load_box rfl rfl sc_58 rfl rfl) ?_
 refine XL.len rfl rfl rfl Tryz.underlying58 (fun hl76 => ?_)
 refine zp (p_fld_ptr rfl rfl fld_60_8) ?_
 refine zp (p_load_box rfl rfl sc_58 rfl rfl) ?_
 refine XL.len rfl rfl rfl Tryz.underlying58 (fun hl79 => ?_)
 refine zp (p_neq rfl rfl rfl) ?_
 refine zq rfl rfl rfl ?_
 refine zn ?_
 refine zd rfl (fun c81 => ?_) (fun c81 => ?_)
 refine zr ?_
 refine za rfl rfl ?_
 refine zn ?_
 refine zt ?_
 exact z1 rfl rfl (rB (same_no fun h => c81 (by rw [h.2.2.2.2.2.2.2.2.2])))
 refine zi ?_
 refine zs ?_
 refine zr ?_
 refine za rfl rfl ?_
 refine zn ?_
 refine xw_block ?_
 refine xw_loop (α := Nat) (fun k => k ≤ a.heads.length ∧ ∀ j x y, j < k → a.heads[j]? = some x → b.heads[j]? = some y → x = y) (fun k => mkF [(2, .ptr 2 0 0), (3, .ptr 3 0 0), (5, .d (dI k))]) (fun k => mkH [(2, .box ((Ev.c a).map S.d)), (3, .box ((Ev.c b).map S.d))]) (fun k => a.heads.length - k) (0) (⟨Nat.zero_le _, fun j x y h => absurd h (Nat.not_lt_zero _)⟩) ?_ ?_ ?_
 exact fz ⟨sr, sr, sr, trivial⟩
 exact gz ⟨rfl, rfl, trivial⟩
 intro k hk0
 obtain ⟨hk, hf0⟩ := hk0
 refine zs ?_
 refine zr ?_
 refine zm rfl rfl ?_
 refine zp (p_fld_ptr rfl rfl fld_60_3) ?_
 refine zp (p_load_box rfl rfl sc_48 rfl rfl) ?_
 refine XL.len rfl rfl rfl Tryz.underlying48 (fun hl85 => ?_)
 refine zp (p_lss rfl rfl rfl) ?_
 refine zn ?_
 refine zd rfl (fun c86 => ?_) (fun c86 => ?_)
 have hk0a : k < a.heads.length := by omega
 obtain ⟨x, hx0⟩ := get_ex hk0a
 obtain ⟨y, hy0⟩ : ∃ y, b.heads[k]? = some y := get_ex (by omega)
 refine zi ?_
 refine zs ?_
 refine xw_block ?_
 refine zs ?_
 refine xw_any [] (by kernel_rfl) (by kernel_rfl) (by kernel_rfl) (by decide) ?_
 refine yp (p_fld_ptr rfl rfl fld_60_3) ?_
 refine yp (p_load_box rfl rfl sc_48 rfl rfl) ?_
 refine ym rfl rfl ?_
 refine yp (p_idx_map rfl rfl rfl el_48 hx0) ?_
 refine yp (pure_eq (s' := .d (.agg (Hd.c x))) (p_load_pts rfl rfl agg_91 (Nat.le_of_ble_eq_true rfl)) (by kernel_rfl)) ?_
 refine yp (p_fld_ptr rfl rfl fld_60_3) ?_
 refine yp (p_load_box rfl rfl sc_48 rfl rfl) ?_
 refine ym rfl rfl ?_
 refine yp (p_idx_map rfl rfl rfl el_48 (hy0)) ?_
 refine yp (pure_eq (s' := .d (.agg (Hd.c y))) (p_load_pts rfl rfl agg_91 (Nat.le_of_ble_eq_true rfl)) (by kernel_rfl)) ?_
 refine yp (p_neq_91 rfl rfl rfl) ?_
 refine ChK.nil ⟨by kernel_rfl, ?_⟩
 refine zd rfl (fun c99 => ?_) (fun c99 => ?_)
 refine zr ?_
 refine za rfl rfl ?_
 refine zn ?_
 refine zt ?_
 exact z1 rfl rfl (rB (same_no fun h => Hd.ne_of c99 (by have e := h.2.2.2.2.2.2.2.1; rw [e] at hx0; rw [hx0] at hy0; cases hy0; rfl)))
 refine zi ?_
 refine xw_region (by kernel_rfl) ?_
 refine zm rfl rfl ?_
 refine zp (p_add rfl rfl rfl (by omega) (by omega)) ?_
 refine za rfl rfl ?_
 refine zn ?_
 exact k_round (k + 1) (⟨by omega, fun j x' y' hj hx' hy' => by by_cases e : j = k; (· subst e; rw [hx0] at hx'; rw [hy0] at hy'; cases hx'; cases hy'; exact Hd.eq_of c99); (· exact hf0 j x' y' (by omega) hx' hy')⟩) (by omega) (fz ⟨sr, sr, sr, trivial⟩) (gz ⟨rfl, rfl, trivial⟩)
 have hk0b : k = a.heads.length := by omega
 have hq0 : a.heads = b.heads := eq_of_all (by omega) (fun j x y hj => hf0 j x y (by omega))
 refine xw_exit ?_
 refine zs ?_
 refine zr ?_
 refine za rfl rfl ?_
 refine zn ?_
 refine xw_block ?_
 refine xw_loop (α := Nat) (fun m => m ≤ a.graces.length ∧ ∀ j x y, j < m → a.graces[j]? = some x → b.graces[j]? = some y → x = y) (fun m => mkF [(2, .ptr 2 0 0), (3, .ptr 3 0 0), (6, .d (dI m))]) (fun m => mkH [(2, .box ((Ev.c a).map S.d)), (3, .box ((Ev.c b).map S.d))]) (fun m => a.graces.length - m) (0) (⟨Nat.zero_le _, fun j x y h => absurd h (Nat.not_lt_zero _)⟩) ?_ ?_ ?_
 exact fz ⟨sr, sr, sr, trivial⟩
 exact gz ⟨rfl, rfl, trivial⟩
 intro m hk2
 obtain ⟨hk, hf2⟩ := hk2
 refine zs ?_
 refine zr ?_
 refine zm rfl rfl ?_
 refine zp (p_fld_ptr rfl rfl fld_60_4) ?_
 refine zp (p_load_box rfl rfl sc_57 rfl rfl) ?_
 refine XL.len rfl rfl rfl Tryz.underlying57 (fun hl103 => ?_)
 refine zp (p_lss rfl rfl rfl) ?_
 refine zn ?_
 refine zd rfl (fun c104 => ?_) (fun c104 => ?_)
 have hk2a : m < a.graces.length := by omega
 obtain ⟨x, hx2⟩ := get_ex hk2a
 obtain ⟨y, hy2⟩ : ∃ y, b.graces[m]? = some y := get_ex (by omega)
 refine zi ?_
 refine zs ?_
 refine xw_block ?_
 refine zs ?_
 refine xw_any [] (by kernel_rfl) (by kernel_rfl) (by kernel_rfl) (by decide) ?_
 refine yp (p_fld_ptr rfl rfl fld_60_4) ?_
 refine yp (p_load_box rfl rfl sc_57 rfl rfl) ?_
 refine ym rfl rfl ?_
 refine yp (p_idx_map rfl rfl rfl el_57 hx2) ?_
 refine yp (pure_eq (s' := .d (.agg (Gr.c x))) (p_load_pts rfl rfl agg_138 (Nat.le_of_ble_eq_true rfl)) (by kernel_rfl)) ?_
 refine yp (p_fld_ptr rfl rfl fld_60_4) ?_
 refine yp (p_load_box rfl rfl sc_57 rfl rfl) ?_
 refine ym rfl rfl ?_
 refine yp (p_idx_map rfl rfl rfl el_57 (hy2)) ?_
 refine yp (pure_eq (s' := .d (.agg (Gr.c y))) (p_load_pts rfl rfl agg_138 (Nat.le_of_ble_eq_true rfl)) (by kernel_rfl)) ?_
 refine yp (p_neq_138 rfl rfl rfl) ?_
 refine ChK.nil ⟨by kernel_rfl, ?_⟩
 refine zd rfl (fun c117 => ?_) (fun c117 => ?_)
 refine zr ?_
 refine za rfl rfl ?_
 refine zn ?_
 refine zt ?_
 exact z1 rfl rfl (rB (same_no fun h => Gr.ne_of c117 (by have e := h.2.2.2.2.2.2.2.2.1; rw [e] at hx2; rw [hx2] at hy2; cases hy2; rfl)))
 refine zi ?_
 refine xw_region (by kernel_rfl) ?_
 refine zm rfl rfl ?_
 refine zp (p_add rfl rfl rfl (by omega) (by omega)) ?_
 refine za rfl rfl ?_
 refine zn ?_
 exact k_round (m + 1) (⟨by omega, fun j x' y' hj hx' hy' => by by_cases e : j = m; (· subst e; rw [hx2] at hx'; rw [hy2] at hy'; cases hx'; cases hy'; exact Gr.eq_of c117); (· exact hf2 j x' y' (by omega) hx' hy')⟩) (by omega) (fz ⟨sr, sr, sr, trivial⟩) (gz ⟨rfl, rfl, trivial⟩)
 have hk2b : m = a.graces.length := by omega
 have hq2 : a.graces = b.graces := eq_of_all (by omega) (fun j x y hj => hf2 j x y (by omega))
 refine xw_exit ?_
 refine zs ?_
 refine zr ?_
 refine za rfl rfl ?_
 refine zn ?_
 refine xw_block ?_
 refine xw_loop (α := Nat) (fun n => n ≤ a.lyr.length ∧ ∀ j x y, j < n → a.lyr[j]? = some x → b.lyr[j]? = some y → x = y) (fun n => mkF [(2, .ptr 2 0 0), (3, .ptr 3 0 0), (7, .d (dI n))]) (fun n => mkH [(2, .box ((Ev.c a).map S.d)), (3, .box ((Ev.c b).map S.d))]) (fun n => a.lyr.length - n) (0) (⟨Nat.zero_le _, fun j x y h => absurd h (Nat.not_lt_zero _)⟩) ?_ ?_ ?_
 exact fz ⟨sr, sr, sr, trivial⟩
 exact gz ⟨rfl, rfl, trivial⟩
 intro n hk4
 obtain ⟨hk, hf4⟩ := hk4
 refine zs ?_
 refine zr ?_
 refine zm rfl rfl ?_
 refine zp (p_fld_ptr rfl rfl fld_60_8) ?_
 refine zp (p_load_box rfl rfl sc_58 rfl rfl) ?_
 refine XL.len rfl rfl rfl Tryz.underlying58 (fun hl121 => ?_)
 refine zp (p_lss rfl rfl rfl) ?_
 refine zn ?_
 refine zd rfl (fun c122 => ?_) (fun c122 => ?_)
 have hk4a : n < a.lyr.length := by omega
 obtain ⟨x, hx4⟩ := get_ex hk4a
 obtain ⟨y, hy4⟩ : ∃ y, b.lyr[n]? = some y := get_ex (by omega)
 refine zi ?_
 refine zs ?_
 refine xw_block ?_
 refine zs ?_
 refine xw_any [] (by kernel_rfl) (by kernel_rfl) (by kernel_rfl) (by decide) ?_
 refine yp (p_fld_ptr rfl rfl fld_60_8) ?_
 refine yp (p_load_box rfl rfl sc_58 rfl rfl) ?_
 refine ym rfl rfl ?_
 refine yp (p_idx_map rfl rfl rfl el_58 hx4) ?_
 refine yp (pure_eq (s' := .d (.agg (Sy.c x))) (p_load_pts rfl rfl agg_140 (Nat.le_of_ble_eq_true rfl)) (by kernel_rfl)) ?_
 refine yp (p_fld_ptr rfl rfl fld_60_8) ?_
 refine yp (p_load_box rfl rfl sc_58 rfl rfl) ?_
 refine ym rfl rfl ?_
 refine yp (p_idx_map rfl rfl rfl el_58 (hy4)) ?_
 refine yp (pure_eq (s' := .d (.agg (Sy.c y))) (p_load_pts rfl rfl agg_140 (Nat.le_of_ble_eq_true rfl)) (by kernel_rfl)) ?_
 refine yp (p_neq_140 rfl rfl rfl) ?_
 refine ChK.nil ⟨by kernel_rfl, ?_⟩
 refine zd rfl (fun c135 => ?_) (fun c135 => ?_)
 refine zr ?_
 refine za rfl rfl ?_
 refine zn ?_
 refine zt ?_
 exact z1 rfl rfl (rB (same_no fun h => Sy.ne_of c135 (by have e := h.2.2.2.2.2.2.2.2.2; rw [e] at hx4; rw [hx4] at hy4; cases hy4; rfl)))
 refine zi ?_
 refine xw_region (by kernel_rfl) ?_
 refine zm rfl rfl ?_
 refine zp (p_add rfl rfl rfl (by omega) (by omega)) ?_
 refine za rfl rfl ?_
 refine zn ?_
 exact k_round (n + 1) (⟨by omega, fun j x' y' hj hx' hy' => by by_cases e : j = n; (· subst e; rw [hx4] at hx'; rw [hy4] at hy'; cases hx'; cases hy'; exact Sy.eq_of c135); (· exact hf4 j x' y' (by omega) hx' hy')⟩) (by omega) (fz ⟨sr, sr, sr, trivial⟩) (gz ⟨rfl, rfl, trivial⟩)
 have hk4b : n = a.lyr.length := by omega
 have hq4 : a.lyr = b.lyr := eq_of_all (by omega) (fun j x y hj => hf4 j x y (by omega))
 refine xw_exit ?_
 refine zr ?_
 refine za rfl rfl ?_
 refine zn ?_
 refine zt ?_
 exact z1 rfl rfl (rB (by rw [eq_comm, decide_eq_true_iff]; exact ⟨Decidable.not_not.1 g13, Val.eq_of (Decidable.not_not.1 g20), Decidable.not_not.1 g27, Decidable.not_not.1 g34, Decidable.not_not.1 g41, Decidable.not_not.1 g48, Decidable.not_not.1 g55, hq0, hq2, hq4⟩))
theorem within_no {n m : Int} (h : ¬ (0 ≤ n ∧ n ≤ m)) : withinS n m = 2 := by rw [withinS, if_pos (by omega)]
theorem within_ok {n m : Int} (h : 0 ≤ n ∧ n ≤ m) : withinS n m = 0 := by rw [withinS, if_neg (by omega)]
theorem first_2 {l : List Int} (h : ∀ x ∈ l, x = 0 ∨ x = 2) (h2 : ∃ x ∈ l, x = 2) : firstS l = 2 := by
 induction l with
 | nil => obtain ⟨_, h, _⟩ := h2; cases h
 | cons x l ih =>
  rw [firstS]
  rcases h x List.mem_cons_self with e | e
  ·rw [if_neg (by omega)]
   refine ih (fun y hy => h y (List.mem_cons_of_mem _ hy)) ?_
   obtain ⟨y, hy, hy2⟩ := h2
   rcases List.mem_cons.1 hy with k | k
   ·omega
   ·exact ⟨y, k, hy2⟩
  ·rw [if_pos (by omega), e]
theorem within_02 (n m : Int) : withinS n m = 0 ∨ withinS n m = 2 := by unfold withinS; split <;> simp
theorem e1_2 {e : Ev} (h : ¬ (0 ≤ e.site ∧ e.site ≤ 99) ∨ ¬ (0 ≤ e.num ∧ e.num ≤ 1073741824)) : e.err = 2 := by
 have : e.e1 = 2 := by
  unfold Ev.e1
  refine first_2 (fun x hx => ?_) ?_
  ·simp only [List.mem_cons, List.not_mem_nil, or_false] at hx
   rcases hx with rfl | rfl <;> exact within_02 _ _
  ·rcases h with h | h
   ·exact ⟨_, by simp, within_no h⟩
   ·exact ⟨_, by simp, within_no h⟩
 rw [Ev.err, this, if_pos (by decide)]
theorem e1_0 {e : Ev} (h : 0 ≤ e.site ∧ e.site ≤ 99) (h2 : 0 ≤ e.num ∧ e.num ≤ 1073741824) : ¬ e.e1 ≠ 0 := by
 refine fun k => k (first_zero.2 fun x hx => ?_)
 simp only [List.mem_cons, List.not_mem_nil, or_false] at hx
 rcases hx with rfl | rfl
 ·exact within_ok h
 ·exact within_ok h2
def Ev.okE (e : Ev) : Prop := (0 ≤ e.art ∧ e.art ≤ 31) ∧ (0 ≤ e.orn ∧ e.orn ≤ 4) ∧ (0 ≤ e.dyn ∧ e.dyn ≤ 9) ∧ (0 ≤ e.stem ∧ e.stem ≤ 2) ∧ (0 ≤ e.beam ∧ e.beam ≤ 2)
theorem e3_2 {e : Ev} (h : ¬ e.okE) : e.e3 = 2 := by
 unfold Ev.e3
 refine first_2 (fun x hx => ?_) ?_
 ·simp only [List.mem_cons, List.not_mem_nil, or_false] at hx
  rcases hx with rfl | rfl | rfl | rfl | rfl <;> exact within_02 _ _
 ·by_cases a : 0 ≤ e.art ∧ e.art ≤ 31
  ·by_cases b : 0 ≤ e.orn ∧ e.orn ≤ 4
   ·by_cases c : 0 ≤ e.dyn ∧ e.dyn ≤ 9
    ·by_cases d : 0 ≤ e.stem ∧ e.stem ≤ 2
     ·by_cases f : 0 ≤ e.beam ∧ e.beam ≤ 2
      ·exact absurd ⟨a, b, c, d, f⟩ h
      ·exact ⟨_, by simp, within_no f⟩
     ·exact ⟨_, by simp, within_no d⟩
    ·exact ⟨_, by simp, within_no c⟩
   ·exact ⟨_, by simp, within_no b⟩
  ·exact ⟨_, by simp, within_no a⟩
theorem e3_0 {e : Ev} (h : e.okE) : e.e3 = 0 := by
 refine first_zero.2 fun x hx => ?_
 simp only [List.mem_cons, List.not_mem_nil, or_false] at hx
 obtain ⟨a, b, c, d, f⟩ := h
 rcases hx with rfl | rfl | rfl | rfl | rfl
 ·exact within_ok a
 ·exact within_ok b
 ·exact within_ok c
 ·exact within_ok d
 ·exact within_ok f
theorem e2_1 {e : Ev} (h : headsErr e.heads ≠ 0) : e.e2 = headsErr e.heads := by rw [Ev.e2, firstS, if_pos h]
theorem e2_2 {e : Ev} (h : ¬ headsErr e.heads ≠ 0) (h2 : gracesErr e.graces ≠ 0) : e.e2 = gracesErr e.graces := by rw [Ev.e2, firstS, if_neg h, firstS, if_pos h2]
theorem e2_3 {e : Ev} (h : ¬ headsErr e.heads ≠ 0) (h2 : ¬ gracesErr e.graces ≠ 0) (h3 : lyrErr e.lyr ≠ 0) : e.e2 = lyrErr e.lyr := by rw [Ev.e2, firstS, if_neg h, firstS, if_neg h2, firstS, if_pos h3]
theorem e2_0 {e : Ev} (h : ¬ headsErr e.heads ≠ 0) (h2 : ¬ gracesErr e.graces ≠ 0) (h3 : ¬ lyrErr e.lyr ≠ 0) : e.e2 = 0 := by rw [Ev.e2, firstS, if_neg h, firstS, if_neg h2, firstS, if_neg h3]; rfl
theorem er_3 {e : Ev} (h : ¬ e.e1 ≠ 0) (h2 : 1 ≤ e.kind ∧ e.kind ≤ 4) (h3 : ¬ e.same e.strip) : e.err = 3 := (err_3 h (fun k => k h2) h3).symm
theorem er_17 {e : Ev} (h : ¬ e.e1 ≠ 0) (h2 : 1 ≤ e.kind ∧ e.kind ≤ 4) (h3 : ¬ ¬ e.same e.strip) (h4 : e.kind ≠ 3) (h5 : ¬ valOk e.v) : e.err = 17 := (err_4 h (fun k => k h2) h3 h4 (fun k => h5 (valOk_iff.2 k))).symm
theorem er_e2 {e : Ev} (h : ¬ e.e1 ≠ 0) (h2 : 1 ≤ e.kind ∧ e.kind ≤ 4) (h3 : ¬ ¬ e.same e.strip) (h4 : e.kind ≠ 3 → valOk e.v) (h5 : e.kind = 1) {n : Int} (h6 : e.e2 = n) (h7 : n ≠ 0) : e.err = n := by
 subst h6; exact (err_5 h (fun k => k h2) h3 (fun k => k.2 (valOk_iff.1 (h4 k.1))) h5 h7).symm
theorem er_e3 {e : Ev} (h : ¬ e.e1 ≠ 0) (h2 : 1 ≤ e.kind ∧ e.kind ≤ 4) (h3 : ¬ ¬ e.same e.strip) (h4 : e.kind ≠ 3 → valOk e.v) (h5 : e.kind = 1 → e.e2 = 0) {n : Int} (h6 : e.e3 = n) : e.err = n := by
 subst h6; exact (err_6 h (fun k => k h2) h3 (fun k => k.2 (valOk_iff.1 (h4 k.1))) (fun k => k.2 (h5 k.1))).symm
theorem rcheck11_xc (e : Ev) (he : e.art ≤ 9223372036854775807) : XC Tryz.prog 38 [.agg (Ev.c e)] (fun r => r = dI e.err) := by
 refine xc_body callable_38 Tryz.func38 rfl rfl (Nat.le_of_ble_eq_true rfl) ?_
 refine zr ?_
 refine XL.step rfl (st_boxN 1 (l := [.d (dI e.site), .d (dI e.num), .d (dI e.kind), .d (dI e.v.log), .d (dI e.v.dots), .d (.sl 5 (e.heads.map Hd.c)), .d (.sl 5 (e.graces.map Gr.c)), .d (dI e.art), .d (dI e.orn), .d (dI e.dyn), .d (.sl 2 (e.lyr.map Sy.c)), .d (dI e.stem), .d (dI e.beam)]) rfl rfl (by kernel_rfl)) ?_
 refine za rfl rfl ?_
 refine zn ?_
 refine zs ?_
 refine zr ?_
 refine zp (p_fld_ptr rfl rfl fld_60_0) ?_
 refine zp (p_fld_ptr rfl rfl fld_54_0) ?_
 refine zp (p_load_box rfl rfl sc_3 rfl rfl) ?_
 refine XL.call1 rfl rfl (in_xc _ _ _) rfl ?_
 refine zp (p_notdec rfl rfl) ?_
 refine zm rfl rfl ?_
 refine XL.dec 11 rfl (fun g11 => ?_) (fun g11 => ?_)
 refine zk 5 rfl ?_
 refine zq rfl rfl rfl ?_
 refine zn ?_
 refine xw_true (by kernel_rfl) rfl ?_
 refine zr ?_
 refine za rfl rfl ?_
 refine zn ?_
 refine zt ?_
 exact z1 rfl rfl (rI (e1_2 (.inl g11)).symm)
 refine zp (p_fld_ptr rfl rfl fld_60_0) ?_
 refine zp (p_fld_ptr rfl rfl fld_54_1) ?_
 refine zp (p_load_box rfl rfl sc_3 rfl rfl) ?_
 refine XL.call1 rfl rfl (in_xc _ _ _) rfl ?_
 refine zp (p_notdec rfl rfl) ?_
 refine zq rfl rfl rfl ?_
 refine zn ?_
 refine zd rfl (fun c17 => ?_) (fun c17 => ?_)
 refine zr ?_
 refine za rfl rfl ?_
 refine zn ?_
 refine zt ?_
 exact z1 rfl rfl (rI (e1_2 (.inr c17)).symm)
 refine zi ?_
 refine zs ?_
 refine zr ?_
 refine zp (p_fld_ptr rfl rfl fld_60_1) ?_
 refine zp (p_load_box rfl rfl sc_3 rfl rfl) ?_
 refine XL.call1 rfl rfl (in_xc _ _ _) rfl ?_
 refine zp (p_notdec rfl rfl) ?_
 refine zn ?_
 refine zd rfl (fun c21 => ?_) (fun c21 => ?_)
 refine zr ?_
 refine za rfl rfl ?_
 refine zn ?_
 refine zt ?_
 exact z1 rfl rfl (rI (err_2 (e1_0 (Decidable.not_not.1 g11) (Decidable.not_not.1 c17)) c21))
 refine zi ?_
 refine zs ?_
 refine zs ?_
 refine xw_any [] (by kernel_rfl) (by kernel_rfl) (by kernel_rfl) (by decide) ?_
 refine yp (pure_eq (s' := .d (.agg (Ev.c e))) (norm_pure (p_load_boxs rfl rfl agg_60 rfl (Nat.le_of_ble_eq_true rfl))) (by kernel_rfl)) ?_
 refine yp (pure_eq (s' := .d (.agg (Ev.c e))) (norm_pure (p_load_boxs rfl rfl agg_60 rfl (Nat.le_of_ble_eq_true rfl))) (by kernel_rfl)) ?_
 refine ChK.cons rfl (CStep.call rfl (rstrip_xc _ (by assumption)) rfl) ?_
 refine ChK.cons rfl (CStep.call rfl (rsame_xc _ _) rfl) ?_
 refine yp (p_notdec rfl rfl) ?_
 refine ChK.nil ⟨by kernel_rfl, ?_⟩
 refine zd rfl (fun c26 => ?_) (fun c26 => ?_)
 refine zr ?_
 refine za rfl rfl ?_
 refine zn ?_
 refine zt ?_
 exact z1 rfl rfl (rI (er_3 (e1_0 (Decidable.not_not.1 g11) (Decidable.not_not.1 c17)) (Decidable.not_not.1 c21) c26).symm)
 refine zi ?_
 refine zs ?_
 refine zr ?_
 refine zp (p_fld_ptr rfl rfl fld_60_1) ?_
 refine zp (p_load_box rfl rfl sc_3 rfl rfl) ?_
 refine zp (p_neq rfl rfl rfl) ?_
 refine zm rfl rfl ?_
 refine XL.dec 30 rfl (fun g30 => ?_) (fun g30 => ?_)
 refine zp (p_fld_ptr rfl rfl fld_60_2) ?_
 refine zp (pure_eq (s' := .d (.agg (Val.c e.v))) (norm_pure (p_load_boxs rfl rfl agg_56 rfl (Nat.le_of_ble_eq_true rfl))) (by kernel_rfl)) ?_
 refine XL.call1 rfl rfl (isval_xc _) rfl ?_
 refine zp (p_notdec rfl rfl) ?_
 refine zq rfl rfl rfl ?_
 refine zn ?_
 refine zd rfl (fun c35 => ?_) (fun c35 => ?_)
 refine zr ?_
 refine za rfl rfl ?_
 refine zn ?_
 refine zt ?_
 exact z1 rfl rfl (rI (er_17 (e1_0 (Decidable.not_not.1 g11) (Decidable.not_not.1 c17)) (Decidable.not_not.1 c21) c26 g30 c35).symm)
 refine zi ?_
 refine zs ?_
 refine zr ?_
 refine zp (p_fld_ptr rfl rfl fld_60_1) ?_
 refine zp (p_load_box rfl rfl sc_3 rfl rfl) ?_
 refine zp (p_eql rfl rfl rfl) ?_
 refine zn ?_
 refine zd rfl (fun c38 => ?_) (fun c38 => ?_)
 refine zs ?_
 refine zr ?_
 refine zp (p_fld_ptr rfl rfl fld_60_3) ?_
 refine zp (p_load_box rfl rfl sc_48 rfl rfl) ?_
 refine XL.call1 rfl rfl (rheads_xc _) rfl ?_
 refine za rfl rfl ?_
 refine znr ?_
 refine zm rfl rfl ?_
 refine zp (p_neq rfl rfl rfl) ?_
 refine zn ?_
 refine zd rfl (fun c43 => ?_) (fun c43 => ?_)
 refine zr ?_
 refine zm rfl rfl ?_
 refine za rfl rfl ?_
 refine zn ?_
 refine zt ?_
 exact z1 rfl rfl (rI (er_e2 (e1_0 (Decidable.not_not.1 g11) (Decidable.not_not.1 c17)) (Decidable.not_not.1 c21) c26 (by first | exact fun _ => Decidable.not_not.1 c35 | exact fun k => absurd k g30) c38 (e2_1 c43) c43).symm)
 refine zi ?_
 refine zs ?_
 refine zr ?_
 refine zp (p_fld_ptr rfl rfl fld_60_4) ?_
 refine zp (p_load_box rfl rfl sc_57 rfl rfl) ?_
 refine XL.call1 rfl rfl (rgraces_xc _) rfl ?_
 refine za rfl rfl ?_
 refine znr ?_
 refine zm rfl rfl ?_
 refine zp (p_neq rfl rfl rfl) ?_
 refine zn ?_
 refine zd rfl (fun c49 => ?_) (fun c49 => ?_)
 refine zr ?_
 refine zm rfl rfl ?_
 refine za rfl rfl ?_
 refine zn ?_
 refine zt ?_
 exact z1 rfl rfl (rI (er_e2 (e1_0 (Decidable.not_not.1 g11) (Decidable.not_not.1 c17)) (Decidable.not_not.1 c21) c26 (by first | exact fun _ => Decidable.not_not.1 c35 | exact fun k => absurd k g30) c38 (e2_2 c43 c49) c49).symm)
 refine zi ?_
 refine zr ?_
 refine zp (p_fld_ptr rfl rfl fld_60_8) ?_
 refine zp (p_load_box rfl rfl sc_58 rfl rfl) ?_
 refine XL.call1 rfl rfl (rlyrics_xc _) rfl ?_
 refine za rfl rfl ?_
 refine znr ?_
 refine zm rfl rfl ?_
 refine zp (p_neq rfl rfl rfl) ?_
 refine zn ?_
 refine zd rfl (fun c55 => ?_) (fun c55 => ?_)
 refine zr ?_
 refine zm rfl rfl ?_
 refine za rfl rfl ?_
 refine zn ?_
 refine zt ?_
 exact z1 rfl rfl (rI (er_e2 (e1_0 (Decidable.not_not.1 g11) (Decidable.not_not.1 c17)) (Decidable.not_not.1 c21) c26 (by first | exact fun _ => Decidable.not_not.1 c35 | exact fun k => absurd k g30) c38 (e2_3 c43 c49 c55) c55).symm)
 refine zi ?_
 refine zs ?_
 refine zr ?_
 refine zp (p_fld_ptr rfl rfl fld_60_5) ?_
 refine zp (p_load_box rfl rfl sc_3 rfl rfl) ?_
 refine XL.call1 rfl rfl (in_xc _ _ _) rfl ?_
 refine zp (p_notdec rfl rfl) ?_
 refine zm rfl rfl ?_
 refine XL.dec 61 rfl (fun g61 => ?_) (fun g61 => ?_)
 refine zk 4 rfl ?_
 refine zq rfl rfl rfl ?_
 refine zm rfl rfl ?_
 refine zk 4 rfl ?_
 refine zq rfl rfl rfl ?_
 refine zm rfl rfl ?_
 refine zk 4 rfl ?_
 refine zq rfl rfl rfl ?_
 refine zm rfl rfl ?_
 refine zk 4 rfl ?_
 refine zq rfl rfl rfl ?_
 refine zn ?_
 refine xw_true (by kernel_rfl) rfl ?_
 refine zr ?_
 refine za rfl rfl ?_
 refine zn ?_
 refine zt ?_
 exact z1 rfl rfl (rI (er_e3 (e1_0 (Decidable.not_not.1 g11) (Decidable.not_not.1 c17)) (Decidable.not_not.1 c21) c26 (by first | exact fun _ => Decidable.not_not.1 c35 | exact fun k => absurd k g30) (by first | exact fun _ => e2_0 c43 c49 c55 | exact fun k => absurd k c38) (e3_2 (by unfold Ev.okE; omega))).symm)
 refine zp (p_fld_ptr rfl rfl fld_60_6) ?_
 refine zp (p_load_box rfl rfl sc_3 rfl rfl) ?_
 refine XL.call1 rfl rfl (in_xc _ _ _) rfl ?_
 refine zp (p_notdec rfl rfl) ?_
 refine zq rfl rfl rfl ?_
 refine zm rfl rfl ?_
 refine XL.dec 67 rfl (fun g67 => ?_) (fun g67 => ?_)
 refine zk 4 rfl ?_
 refine zq rfl rfl rfl ?_
 refine zm rfl rfl ?_
 refine zk 4 rfl ?_
 refine zq rfl rfl rfl ?_
 refine zm rfl rfl ?_
 refine zk 4 rfl ?_
 refine zq rfl rfl rfl ?_
 refine zn ?_
 refine xw_true (by kernel_rfl) rfl ?_
 refine zr ?_
 refine za rfl rfl ?_
 refine zn ?_
 refine zt ?_
 exact z1 rfl rfl (rI (er_e3 (e1_0 (Decidable.not_not.1 g11) (Decidable.not_not.1 c17)) (Decidable.not_not.1 c21) c26 (by first | exact fun _ => Decidable.not_not.1 c35 | exact fun k => absurd k g30) (by first | exact fun _ => e2_0 c43 c49 c55 | exact fun k => absurd k c38) (e3_2 (by unfold Ev.okE; omega))).symm)
 refine zp (p_fld_ptr rfl rfl fld_60_7) ?_
 refine zp (p_load_box rfl rfl sc_3 rfl rfl) ?_
 refine XL.call1 rfl rfl (in_xc _ _ _) rfl ?_
 refine zp (p_notdec rfl rfl) ?_
 refine zq rfl rfl rfl ?_
 refine zm rfl rfl ?_
 refine XL.dec 73 rfl (fun g73 => ?_) (fun g73 => ?_)
 refine zk 4 rfl ?_
 refine zq rfl rfl rfl ?_
 refine zm rfl rfl ?_
 refine zk 4 rfl ?_
 refine zq rfl rfl rfl ?_
 refine zn ?_
 refine xw_true (by kernel_rfl) rfl ?_
 refine zr ?_
 refine za rfl rfl ?_
 refine zn ?_
 refine zt ?_
 exact z1 rfl rfl (rI (er_e3 (e1_0 (Decidable.not_not.1 g11) (Decidable.not_not.1 c17)) (Decidable.not_not.1 c21) c26 (by first | exact fun _ => Decidable.not_not.1 c35 | exact fun k => absurd k g30) (by first | exact fun _ => e2_0 c43 c49 c55 | exact fun k => absurd k c38) (e3_2 (by unfold Ev.okE; omega))).symm)
 refine zp (p_fld_ptr rfl rfl fld_60_9) ?_
 refine zp (p_load_box rfl rfl sc_3 rfl rfl) ?_
 refine XL.call1 rfl rfl (in_xc _ _ _) rfl ?_
 refine zp (p_notdec rfl rfl) ?_
 refine zq rfl rfl rfl ?_
 refine zm rfl rfl ?_
 refine XL.dec 79 rfl (fun g79 => ?_) (fun g79 => ?_)
 refine zk 4 rfl ?_
 refine zq rfl rfl rfl ?_
 refine zn ?_
 refine xw_true (by kernel_rfl) rfl ?_
 refine zr ?_
 refine za rfl rfl ?_
 refine zn ?_
 refine zt ?_
 exact z1 rfl rfl (rI (er_e3 (e1_0 (Decidable.not_not.1 g11) (Decidable.not_not.1 c17)) (Decidable.not_not.1 c21) c26 (by first | exact fun _ => Decidable.not_not.1 c35 | exact fun k => absurd k g30) (by first | exact fun _ => e2_0 c43 c49 c55 | exact fun k => absurd k c38) (e3_2 (by unfold Ev.okE; omega))).symm)
 refine zp (p_fld_ptr rfl rfl fld_60_10) ?_
 refine zp (p_load_box rfl rfl sc_3 rfl rfl) ?_
 refine XL.call1 rfl rfl (in_xc _ _ _) rfl ?_
 refine zp (p_notdec rfl rfl) ?_
 refine zq rfl rfl rfl ?_
 refine zn ?_
 refine zd rfl (fun c84 => ?_) (fun c84 => ?_)
 refine zr ?_
 refine za rfl rfl ?_
 refine zn ?_
 refine zt ?_
 exact z1 rfl rfl (rI (er_e3 (e1_0 (Decidable.not_not.1 g11) (Decidable.not_not.1 c17)) (Decidable.not_not.1 c21) c26 (by first | exact fun _ => Decidable.not_not.1 c35 | exact fun k => absurd k g30) (by first | exact fun _ => e2_0 c43 c49 c55 | exact fun k => absurd k c38) (e3_2 (by unfold Ev.okE; omega))).symm)
 refine zi ?_
 refine zr ?_
 refine za rfl rfl ?_
 refine zn ?_
 refine zt ?_
 exact z1 rfl rfl (rI (er_e3 (e1_0 (Decidable.not_not.1 g11) (Decidable.not_not.1 c17)) (Decidable.not_not.1 c21) c26 (by first | exact fun _ => Decidable.not_not.1 c35 | exact fun k => absurd k g30) (by first | exact fun _ => e2_0 c43 c49 c55 | exact fun k => absurd k c38) (e3_0 (by unfold Ev.okE; omega))).symm)
 refine zi ?_
 refine zs ?_
 refine zr ?_
 refine zp (p_fld_ptr rfl rfl fld_60_5) ?_
 refine zp (p_load_box rfl rfl sc_3 rfl rfl) ?_
 refine XL.call1 rfl rfl (in_xc _ _ _) rfl ?_
 refine zp (p_notdec rfl rfl) ?_
 refine zm rfl rfl ?_
 refine XL.dec 61 rfl (fun g61 => ?_) (fun g61 => ?_)
 refine zk 4 rfl ?_
 refine zq rfl rfl rfl ?_
 refine zm rfl rfl ?_
 refine zk 4 rfl ?_
 refine zq rfl rfl rfl ?_
 refine zm rfl rfl ?_
 refine zk 4 rfl ?_
 refine zq rfl rfl rfl ?_
 refine zm rfl rfl ?_
 refine zk 4 rfl ?_
 refine zq rfl rfl rfl ?_
 refine zn ?_
 refine xw_true (by kernel_rfl) rfl ?_
 refine zr ?_
 refine za rfl rfl ?_
 refine zn ?_
 refine zt ?_
 exact z1 rfl rfl (rI (er_e3 (e1_0 (Decidable.not_not.1 g11) (Decidable.not_not.1 c17)) (Decidable.not_not.1 c21) c26 (by first | exact fun _ => Decidable.not_not.1 c35 | exact fun k => absurd k g30) (by first | exact fun _ => e2_0 c43 c49 c55 | exact fun k => absurd k c38) (e3_2 (by unfold Ev.okE; omega))).symm)
 refine zp (p_fld_ptr rfl rfl fld_60_6) ?_
 refine zp (p_load_box rfl rfl sc_3 rfl rfl) ?_
 refine XL.call1 rfl rfl (in_xc _ _ _) rfl ?_
 refine zp (p_notdec rfl rfl) ?_
 refine zq rfl rfl rfl ?_
 refine zm rfl rfl ?_
 refine XL.dec 67 rfl (fun g67 => ?_) (fun g67 => ?_)
 refine zk 4 rfl ?_
 refine zq rfl rfl rfl ?_
 refine zm rfl rfl ?_
 refine zk 4 rfl ?_
 refine zq rfl rfl rfl ?_
 refine zm rfl rfl ?_
 refine zk 4 rfl ?_
 refine zq rfl rfl rfl ?_
 refine zn ?_
 refine xw_true (by kernel_rfl) rfl ?_
 refine zr ?_
 refine za rfl rfl ?_
 refine zn ?_
 refine zt ?_
 exact z1 rfl rfl (rI (er_e3 (e1_0 (Decidable.not_not.1 g11) (Decidable.not_not.1 c17)) (Decidable.not_not.1 c21) c26 (by first | exact fun _ => Decidable.not_not.1 c35 | exact fun k => absurd k g30) (by first | exact fun _ => e2_0 c43 c49 c55 | exact fun k => absurd k c38) (e3_2 (by unfold Ev.okE; omega))).symm)
 refine zp (p_fld_ptr rfl rfl fld_60_7) ?_
 refine zp (p_load_box rfl rfl sc_3 rfl rfl) ?_
 refine XL.call1 rfl rfl (in_xc _ _ _) rfl ?_
 refine zp (p_notdec rfl rfl) ?_
 refine zq rfl rfl rfl ?_
 refine zm rfl rfl ?_
 refine XL.dec 73 rfl (fun g73 => ?_) (fun g73 => ?_)
 refine zk 4 rfl ?_
 refine zq rfl rfl rfl ?_
 refine zm rfl rfl ?_
 refine zk 4 rfl ?_
 refine zq rfl rfl rfl ?_
 refine zn ?_
 refine xw_true (by kernel_rfl) rfl ?_
 refine zr ?_
 refine za rfl rfl ?_
 refine zn ?_
 refine zt ?_
 exact z1 rfl rfl (rI (er_e3 (e1_0 (Decidable.not_not.1 g11) (Decidable.not_not.1 c17)) (Decidable.not_not.1 c21) c26 (by first | exact fun _ => Decidable.not_not.1 c35 | exact fun k => absurd k g30) (by first | exact fun _ => e2_0 c43 c49 c55 | exact fun k => absurd k c38) (e3_2 (by unfold Ev.okE; omega))).symm)
 refine zp (p_fld_ptr rfl rfl fld_60_9) ?_
 refine zp (p_load_box rfl rfl sc_3 rfl rfl) ?_
 refine XL.call1 rfl rfl (in_xc _ _ _) rfl ?_
 refine zp (p_notdec rfl rfl) ?_
 refine zq rfl rfl rfl ?_
 refine zm rfl rfl ?_
 refine XL.dec 79 rfl (fun g79 => ?_) (fun g79 => ?_)
 refine zk 4 rfl ?_
 refine zq rfl rfl rfl ?_
 refine zn ?_
 refine xw_true (by kernel_rfl) rfl ?_
 refine zr ?_
 refine za rfl rfl ?_
 refine zn ?_
 refine zt ?_
 exact z1 rfl rfl (rI (er_e3 (e1_0 (Decidable.not_not.1 g11) (Decidable.not_not.1 c17)) (Decidable.not_not.1 c21) c26 (by first | exact fun _ => Decidable.not_not.1 c35 | exact fun k => absurd k g30) (by first | exact fun _ => e2_0 c43 c49 c55 | exact fun k => absurd k c38) (e3_2 (by unfold Ev.okE; omega))).symm)
 refine zp (p_fld_ptr rfl rfl fld_60_10) ?_
 refine zp (p_load_box rfl rfl sc_3 rfl rfl) ?_
 refine XL.call1 rfl rfl (in_xc _ _ _) rfl ?_
 refine zp (p_notdec rfl rfl) ?_
 refine zq rfl rfl rfl ?_
 refine zn ?_
 refine zd rfl (fun c84 => ?_) (fun c84 => ?_)
 refine zr ?_
 refine za rfl rfl ?_
 refine zn ?_
 refine zt ?_
 exact z1 rfl rfl (rI (er_e3 (e1_0 (Decidable.not_not.1 g11) (Decidable.not_not.1 c17)) (Decidable.not_not.1 c21) c26 (by first | exact fun _ => Decidable.not_not.1 c35 | exact fun k => absurd k g30) (by first | exact fun _ => e2_0 c43 c49 c55 | exact fun k => absurd k c38) (e3_2 (by unfold Ev.okE; omega))).symm)
 refine zi ?_
 refine zr ?_
 refine za rfl rfl ?_
 refine zn ?_
 refine zt ?_
 exact z1 rfl rfl (rI (er_e3 (e1_0 (Decidable.not_not.1 g11) (Decidable.not_not.1 c17)) (Decidable.not_not.1 c21) c26 (by first | exact fun _ => Decidable.not_not.1 c35 | exact fun k => absurd k g30) (by first | exact fun _ => e2_0 c43 c49 c55 | exact fun k => absurd k c38) (e3_0 (by unfold Ev.okE; omega))).symm)
 refine zk 4 rfl ?_
 refine zq rfl rfl rfl ?_
 refine zn ?_
 refine xw_false (by kernel_rfl) rfl ?_
 refine zi ?_
 refine zs ?_
 refine zr ?_
 refine zp (p_fld_ptr rfl rfl fld_60_1) ?_
 refine zp (p_load_box rfl rfl sc_3 rfl rfl) ?_
 refine zp (p_eql rfl rfl rfl) ?_
 refine zn ?_
 refine zd rfl (fun c38 => ?_) (fun c38 => ?_)
 refine zs ?_
 refine zr ?_
 refine zp (p_fld_ptr rfl rfl fld_60_3) ?_
 refine zp (p_load_box rfl rfl sc_48 rfl rfl) ?_
 refine XL.call1 rfl rfl (rheads_xc _) rfl ?_
 refine za rfl rfl ?_
 refine znr ?_
 refine zm rfl rfl ?_
 refine zp (p_neq rfl rfl rfl) ?_
 refine zn ?_
 refine zd rfl (fun c43 => ?_) (fun c43 => ?_)
 refine zr ?_
 refine zm rfl rfl ?_
 refine za rfl rfl ?_
 refine zn ?_
 refine zt ?_
 exact z1 rfl rfl (rI (er_e2 (e1_0 (Decidable.not_not.1 g11) (Decidable.not_not.1 c17)) (Decidable.not_not.1 c21) c26 (by first | exact fun _ => Decidable.not_not.1 c35 | exact fun k => absurd k g30) c38 (e2_1 c43) c43).symm)
 refine zi ?_
 refine zs ?_
 refine zr ?_
 refine zp (p_fld_ptr rfl rfl fld_60_4) ?_
 refine zp (p_load_box rfl rfl sc_57 rfl rfl) ?_
 refine XL.call1 rfl rfl (rgraces_xc _) rfl ?_
 refine za rfl rfl ?_
 refine znr ?_
 refine zm rfl rfl ?_
 refine zp (p_neq rfl rfl rfl) ?_
 refine zn ?_
 refine zd rfl (fun c49 => ?_) (fun c49 => ?_)
 refine zr ?_
 refine zm rfl rfl ?_
 refine za rfl rfl ?_
 refine zn ?_
 refine zt ?_
 exact z1 rfl rfl (rI (er_e2 (e1_0 (Decidable.not_not.1 g11) (Decidable.not_not.1 c17)) (Decidable.not_not.1 c21) c26 (by first | exact fun _ => Decidable.not_not.1 c35 | exact fun k => absurd k g30) c38 (e2_2 c43 c49) c49).symm)
 refine zi ?_
 refine zr ?_
 refine zp (p_fld_ptr rfl rfl fld_60_8) ?_
 refine zp (p_load_box rfl rfl sc_58 rfl rfl) ?_
 refine XL.call1 rfl rfl (rlyrics_xc _) rfl ?_
 refine za rfl rfl ?_
 refine znr ?_
 refine zm rfl rfl ?_
 refine zp (p_neq rfl rfl rfl) ?_
 refine zn ?_
 refine zd rfl (fun c55 => ?_) (fun c55 => ?_)
 refine zr ?_
 refine zm rfl rfl ?_
 refine za rfl rfl ?_
 refine zn ?_
 refine zt ?_
 exact z1 rfl rfl (rI (er_e2 (e1_0 (Decidable.not_not.1 g11) (Decidable.not_not.1 c17)) (Decidable.not_not.1 c21) c26 (by first | exact fun _ => Decidable.not_not.1 c35 | exact fun k => absurd k g30) c38 (e2_3 c43 c49 c55) c55).symm)
 refine zi ?_
 refine zs ?_
 refine zr ?_
 refine zp (p_fld_ptr rfl rfl fld_60_5) ?_
 refine zp (p_load_box rfl rfl sc_3 rfl rfl) ?_
 refine XL.call1 rfl rfl (in_xc _ _ _) rfl ?_
 refine zp (p_notdec rfl rfl) ?_
 refine zm rfl rfl ?_
 refine XL.dec 61 rfl (fun g61 => ?_) (fun g61 => ?_)
 refine zk 4 rfl ?_
 refine zq rfl rfl rfl ?_
 refine zm rfl rfl ?_
 refine zk 4 rfl ?_
 refine zq rfl rfl rfl ?_
 refine zm rfl rfl ?_
 refine zk 4 rfl ?_
 refine zq rfl rfl rfl ?_
 refine zm rfl rfl ?_
 refine zk 4 rfl ?_
 refine zq rfl rfl rfl ?_
 refine zn ?_
 refine xw_true (by kernel_rfl) rfl ?_
 refine zr ?_
 refine za rfl rfl ?_
 refine zn ?_
 refine zt ?_
 exact z1 rfl rfl (rI (er_e3 (e1_0 (Decidable.not_not.1 g11) (Decidable.not_not.1 c17)) (Decidable.not_not.1 c21) c26 (by first | exact fun _ => Decidable.not_not.1 c35 | exact fun k => absurd k g30) (by first | exact fun _ => e2_0 c43 c49 c55 | exact fun k => absurd k c38) (e3_2 (by unfold Ev.okE; omega))).symm)
 refine zp (p_fld_ptr rfl rfl fld_60_6) ?_
 refine zp (p_load_box rfl rfl sc_3 rfl rfl) ?_
 refine XL.call1 rfl rfl (in_xc _ _ _) rfl ?_
 refine zp (p_notdec rfl rfl) ?_
 refine zq rfl rfl rfl ?_
 refine zm rfl rfl ?_
 refine XL.dec 67 rfl (fun g67 => ?_) (fun g67 => ?_)
 refine zk 4 rfl ?_
 refine zq rfl rfl rfl ?_
 refine zm rfl rfl ?_
 refine zk 4 rfl ?_
 refine zq rfl rfl rfl ?_
 refine zm rfl rfl ?_
 refine zk 4 rfl ?_
 refine zq rfl rfl rfl ?_
 refine zn ?_
 refine xw_true (by kernel_rfl) rfl ?_
 refine zr ?_
 refine za rfl rfl ?_
 refine zn ?_
 refine zt ?_
 exact z1 rfl rfl (rI (er_e3 (e1_0 (Decidable.not_not.1 g11) (Decidable.not_not.1 c17)) (Decidable.not_not.1 c21) c26 (by first | exact fun _ => Decidable.not_not.1 c35 | exact fun k => absurd k g30) (by first | exact fun _ => e2_0 c43 c49 c55 | exact fun k => absurd k c38) (e3_2 (by unfold Ev.okE; omega))).symm)
 refine zp (p_fld_ptr rfl rfl fld_60_7) ?_
 refine zp (p_load_box rfl rfl sc_3 rfl rfl) ?_
 refine XL.call1 rfl rfl (in_xc _ _ _) rfl ?_
 refine zp (p_notdec rfl rfl) ?_
 refine zq rfl rfl rfl ?_
 refine zm rfl rfl ?_
 refine XL.dec 73 rfl (fun g73 => ?_) (fun g73 => ?_)
 refine zk 4 rfl ?_
 refine zq rfl rfl rfl ?_
 refine zm rfl rfl ?_
 refine zk 4 rfl ?_
 refine zq rfl rfl rfl ?_
 refine zn ?_
 refine xw_true (by kernel_rfl) rfl ?_
 refine zr ?_
 refine za rfl rfl ?_
 refine zn ?_
 refine zt ?_
 exact z1 rfl rfl (rI (er_e3 (e1_0 (Decidable.not_not.1 g11) (Decidable.not_not.1 c17)) (Decidable.not_not.1 c21) c26 (by first | exact fun _ => Decidable.not_not.1 c35 | exact fun k => absurd k g30) (by first | exact fun _ => e2_0 c43 c49 c55 | exact fun k => absurd k c38) (e3_2 (by unfold Ev.okE; omega))).symm)
 refine zp (p_fld_ptr rfl rfl fld_60_9) ?_
 refine zp (p_load_box rfl rfl sc_3 rfl rfl) ?_
 refine XL.call1 rfl rfl (in_xc _ _ _) rfl ?_
 refine zp (p_notdec rfl rfl) ?_
 refine zq rfl rfl rfl ?_
 refine zm rfl rfl ?_
 refine XL.dec 79 rfl (fun g79 => ?_) (fun g79 => ?_)
 refine zk 4 rfl ?_
 refine zq rfl rfl rfl ?_
 refine zn ?_
 refine xw_true (by kernel_rfl) rfl ?_
 refine zr ?_
 refine za rfl rfl ?_
 refine zn ?_
 refine zt ?_
 exact z1 rfl rfl (rI (er_e3 (e1_0 (Decidable.not_not.1 g11) (Decidable.not_not.1 c17)) (Decidable.not_not.1 c21) c26 (by first | exact fun _ => Decidable.not_not.1 c35 | exact fun k => absurd k g30) (by first | exact fun _ => e2_0 c43 c49 c55 | exact fun k => absurd k c38) (e3_2 (by unfold Ev.okE; omega))).symm)
 refine zp (p_fld_ptr rfl rfl fld_60_10) ?_
 refine zp (p_load_box rfl rfl sc_3 rfl rfl) ?_
 refine XL.call1 rfl rfl (in_xc _ _ _) rfl ?_
 refine zp (p_notdec rfl rfl) ?_
 refine zq rfl rfl rfl ?_
 refine zn ?_
 refine zd rfl (fun c84 => ?_) (fun c84 => ?_)
 refine zr ?_
 refine za rfl rfl ?_
 refine zn ?_
 refine zt ?_
 exact z1 rfl rfl (rI (er_e3 (e1_0 (Decidable.not_not.1 g11) (Decidable.not_not.1 c17)) (Decidable.not_not.1 c21) c26 (by first | exact fun _ => Decidable.not_not.1 c35 | exact fun k => absurd k g30) (by first | exact fun _ => e2_0 c43 c49 c55 | exact fun k => absurd k c38) (e3_2 (by unfold Ev.okE; omega))).symm)
 refine zi ?_
 refine zr ?_
 refine za rfl rfl ?_
 refine zn ?_
 refine zt ?_
 exact z1 rfl rfl (rI (er_e3 (e1_0 (Decidable.not_not.1 g11) (Decidable.not_not.1 c17)) (Decidable.not_not.1 c21) c26 (by first | exact fun _ => Decidable.not_not.1 c35 | exact fun k => absurd k g30) (by first | exact fun _ => e2_0 c43 c49 c55 | exact fun k => absurd k c38) (e3_0 (by unfold Ev.okE; omega))).symm)
 refine zi ?_
 refine zs ?_
 refine zr ?_
 refine zp (p_fld_ptr rfl rfl fld_60_5) ?_
 refine zp (p_load_box rfl rfl sc_3 rfl rfl) ?_
 refine XL.call1 rfl rfl (in_xc _ _ _) rfl ?_
 refine zp (p_notdec rfl rfl) ?_
 refine zm rfl rfl ?_
 refine XL.dec 61 rfl (fun g61 => ?_) (fun g61 => ?_)
 refine zk 4 rfl ?_
 refine zq rfl rfl rfl ?_
 refine zm rfl rfl ?_
 refine zk 4 rfl ?_
 refine zq rfl rfl rfl ?_
 refine zm rfl rfl ?_
 refine zk 4 rfl ?_
 refine zq rfl rfl rfl ?_
 refine zm rfl rfl ?_
 refine zk 4 rfl ?_
 refine zq rfl rfl rfl ?_
 refine zn ?_
 refine xw_true (by kernel_rfl) rfl ?_
 refine zr ?_
 refine za rfl rfl ?_
 refine zn ?_
 refine zt ?_
 exact z1 rfl rfl (rI (er_e3 (e1_0 (Decidable.not_not.1 g11) (Decidable.not_not.1 c17)) (Decidable.not_not.1 c21) c26 (by first | exact fun _ => Decidable.not_not.1 c35 | exact fun k => absurd k g30) (by first | exact fun _ => e2_0 c43 c49 c55 | exact fun k => absurd k c38) (e3_2 (by unfold Ev.okE; omega))).symm)
 refine zp (p_fld_ptr rfl rfl fld_60_6) ?_
 refine zp (p_load_box rfl rfl sc_3 rfl rfl) ?_
 refine XL.call1 rfl rfl (in_xc _ _ _) rfl ?_
 refine zp (p_notdec rfl rfl) ?_
 refine zq rfl rfl rfl ?_
 refine zm rfl rfl ?_
 refine XL.dec 67 rfl (fun g67 => ?_) (fun g67 => ?_)
 refine zk 4 rfl ?_
 refine zq rfl rfl rfl ?_
 refine zm rfl rfl ?_
 refine zk 4 rfl ?_
 refine zq rfl rfl rfl ?_
 refine zm rfl rfl ?_
 refine zk 4 rfl ?_
 refine zq rfl rfl rfl ?_
 refine zn ?_
 refine xw_true (by kernel_rfl) rfl ?_
 refine zr ?_
 refine za rfl rfl ?_
 refine zn ?_
 refine zt ?_
 exact z1 rfl rfl (rI (er_e3 (e1_0 (Decidable.not_not.1 g11) (Decidable.not_not.1 c17)) (Decidable.not_not.1 c21) c26 (by first | exact fun _ => Decidable.not_not.1 c35 | exact fun k => absurd k g30) (by first | exact fun _ => e2_0 c43 c49 c55 | exact fun k => absurd k c38) (e3_2 (by unfold Ev.okE; omega))).symm)
 refine zp (p_fld_ptr rfl rfl fld_60_7) ?_
 refine zp (p_load_box rfl rfl sc_3 rfl rfl) ?_
 refine XL.call1 rfl rfl (in_xc _ _ _) rfl ?_
 refine zp (p_notdec rfl rfl) ?_
 refine zq rfl rfl rfl ?_
 refine zm rfl rfl ?_
 refine XL.dec 73 rfl (fun g73 => ?_) (fun g73 => ?_)
 refine zk 4 rfl ?_
 refine zq rfl rfl rfl ?_
 refine zm rfl rfl ?_
 refine zk 4 rfl ?_
 refine zq rfl rfl rfl ?_
 refine zn ?_
 refine xw_true (by kernel_rfl) rfl ?_
 refine zr ?_
 refine za rfl rfl ?_
 refine zn ?_
 refine zt ?_
 exact z1 rfl rfl (rI (er_e3 (e1_0 (Decidable.not_not.1 g11) (Decidable.not_not.1 c17)) (Decidable.not_not.1 c21) c26 (by first | exact fun _ => Decidable.not_not.1 c35 | exact fun k => absurd k g30) (by first | exact fun _ => e2_0 c43 c49 c55 | exact fun k => absurd k c38) (e3_2 (by unfold Ev.okE; omega))).symm)
 refine zp (p_fld_ptr rfl rfl fld_60_9) ?_
 refine zp (p_load_box rfl rfl sc_3 rfl rfl) ?_
 refine XL.call1 rfl rfl (in_xc _ _ _) rfl ?_
 refine zp (p_notdec rfl rfl) ?_
 refine zq rfl rfl rfl ?_
 refine zm rfl rfl ?_
 refine XL.dec 79 rfl (fun g79 => ?_) (fun g79 => ?_)
 refine zk 4 rfl ?_
 refine zq rfl rfl rfl ?_
 refine zn ?_
 refine xw_true (by kernel_rfl) rfl ?_
 refine zr ?_
 refine za rfl rfl ?_
 refine zn ?_
 refine zt ?_
 exact z1 rfl rfl (rI (er_e3 (e1_0 (Decidable.not_not.1 g11) (Decidable.not_not.1 c17)) (Decidable.not_not.1 c21) c26 (by first | exact fun _ => Decidable.not_not.1 c35 | exact fun k => absurd k g30) (by first | exact fun _ => e2_0 c43 c49 c55 | exact fun k => absurd k c38) (e3_2 (by unfold Ev.okE; omega))).symm)
 refine zp (p_fld_ptr rfl rfl fld_60_10) ?_
 refine zp (p_load_box rfl rfl sc_3 rfl rfl) ?_
 refine XL.call1 rfl rfl (in_xc _ _ _) rfl ?_
 refine zp (p_notdec rfl rfl) ?_
 refine zq rfl rfl rfl ?_
 refine zn ?_
 refine zd rfl (fun c84 => ?_) (fun c84 => ?_)
 refine zr ?_
 refine za rfl rfl ?_
 refine zn ?_
 refine zt ?_
 exact z1 rfl rfl (rI (er_e3 (e1_0 (Decidable.not_not.1 g11) (Decidable.not_not.1 c17)) (Decidable.not_not.1 c21) c26 (by first | exact fun _ => Decidable.not_not.1 c35 | exact fun k => absurd k g30) (by first | exact fun _ => e2_0 c43 c49 c55 | exact fun k => absurd k c38) (e3_2 (by unfold Ev.okE; omega))).symm)
 refine zi ?_
 refine zr ?_
 refine za rfl rfl ?_
 refine zn ?_
 refine zt ?_
 exact z1 rfl rfl (rI (er_e3 (e1_0 (Decidable.not_not.1 g11) (Decidable.not_not.1 c17)) (Decidable.not_not.1 c21) c26 (by first | exact fun _ => Decidable.not_not.1 c35 | exact fun k => absurd k g30) (by first | exact fun _ => e2_0 c43 c49 c55 | exact fun k => absurd k c38) (e3_0 (by unfold Ev.okE; omega))).symm)
end Go.Proofs.YtcihalbakenleaaGreat
namespace Go.Proofs.YtcihalbakenleaaGreat
open Go.RowKit
theorem pure_sub {P : Program} {o : Oper} {e : Operand → S} {h : Xh} {d : D} (d' : D) (hp : Pure P o e h (.d d)) (hs : DSub d d') : Pure P o e h (.d d') := fun E H β ρ w hsim hop => by
 obtain ⟨u, r1, r2⟩ := hp E H β ρ w hsim hop
 exact ⟨u, r1, .d (hs.vd (vs_d r2))⟩
end Go.Proofs.YtcihalbakenleaaGreat
namespace Go.Proofs.YtcihalbakenleaaGreat
open Go.RowKit
theorem dno {p : Prop} [Decidable p] (h : ¬ p) : false = decide p := (decide_eq_false h).symm
theorem dyes {p : Prop} [Decidable p] (h : p) : true = decide p := (decide_eq_true h).symm
theorem Ev.eqv_iff {a b : Ev} : a.eqv b ↔ a = b := by
 constructor
 ·rintro ⟨⟨h1, h2⟩, h3, h4, h5, h6, h7, h8, h9, h10, h11, h12⟩
  obtain ⟨a1, a2, a3, a4, a5, a6, a7, a8, a9, a10, a11, a12⟩ := a
  obtain ⟨b1, b2, b3, b4, b5, b6, b7, b8, b9, b10, b11, b12⟩ := b
  simp only at h1 h2 h3 h4 h5 h6 h7 h8 h9 h10 h11 h12
  subst h1 h2 h3 h4 h5 h6 h7 h8 h9 h10 h11 h12; rfl
 ·rintro rfl
  exact ⟨⟨rfl, rfl⟩, rfl, rfl, rfl, rfl, rfl, rfl, rfl, rfl, rfl, rfl⟩
instance : DecidableEq Ev := fun a b => decidable_of_iff _ Ev.eqv_iff
instance : DecidableEq Vo := fun a b => decidable_of_iff (a.evs = b.evs ∧ a.tups = b.tups) ⟨fun h => by obtain ⟨x, y⟩ := a; obtain ⟨z, t⟩ := b; obtain ⟨rfl, rfl⟩ := h; rfl, fun h => by rw [h]; exact ⟨rfl, rfl⟩⟩
theorem Vo.ext {a b : Vo} (h : a.evs = b.evs) (h2 : a.tups = b.tups) : a = b := by obtain ⟨x, y⟩ := a; obtain ⟨z, t⟩ := b; simp only at h h2; subst h h2; rfl
theorem Tp.eq_of {x y : Tp} (h : ¬ ¬ (x.first = y.first ∧ x.count = y.count ∧ x.actual = y.actual ∧ x.normal = y.normal)) : x = y := by
 obtain ⟨a, b, c, d⟩ := x; obtain ⟨a', b', c', d'⟩ := y; simp only [Decidable.not_not] at h; obtain ⟨rfl, rfl, rfl, rfl⟩ := h; rfl
theorem Tp.ne_of {x y : Tp} (h : ¬ (x.first = y.first ∧ x.count = y.count ∧ x.actual = y.actual ∧ x.normal = y.normal)) : x ≠ y := by rintro rfl; exact h ⟨rfl, rfl, rfl, rfl⟩
def pitsOf (l : List Hd) : List Pit := l.map Hd.p
theorem lsame_xc (a b : Vo) : XC Tryz.prog 18 [.agg (Vo.c a), .agg (Vo.c b)] (fun r => r = dB (decide (a = b))) := by
 refine xc_body callable_18 Tryz.func18 rfl rfl (Nat.le_of_ble_eq_true rfl) ?_
 refine zr ?_
 refine XL.step rfl (st_boxN 2 (l := [.d (.sl 13 (a.evs.map Ev.c)), .d (.sl 4 (a.tups.map Tp.c))]) rfl rfl (by kernel_rfl)) ?_
 refine XL.step rfl (st_boxN 3 (l := [.d (.sl 13 (b.evs.map Ev.c)), .d (.sl 4 (b.tups.map Tp.c))]) rfl rfl (by kernel_rfl)) ?_
 refine za rfl rfl ?_
 refine zn ?_
 refine zs ?_
 refine zr ?_
 refine zp (p_fld_ptr rfl rfl fld_25_0) ?_
 refine zp (p_load_box rfl rfl sc_22 rfl rfl) ?_
 refine XL.len rfl rfl rfl Tryz.underlying22 (fun hl9 => ?_)
 refine zp (p_fld_ptr rfl rfl fld_25_0) ?_
 refine zp (p_load_box rfl rfl sc_22 rfl rfl) ?_
 refine XL.len rfl rfl rfl Tryz.underlying22 (fun hl12 => ?_)
 refine zp (p_neq rfl rfl rfl) ?_
 refine zm rfl rfl ?_
 refine XL.dec 14 rfl (fun g14 => ?_) (fun g14 => ?_)
 refine zk 7 rfl ?_
 refine zq rfl rfl rfl ?_
 refine zn ?_
 refine xw_true (by kernel_rfl) rfl ?_
 refine zr ?_
 refine za rfl rfl ?_
 refine zn ?_
 refine zt ?_
 exact z1 rfl rfl (rB (dno (fun h => g14 (by rw [h]))))
 refine zp (p_fld_ptr rfl rfl fld_25_1) ?_
 refine zp (p_load_box rfl rfl sc_23 rfl rfl) ?_
 refine XL.len rfl rfl rfl Tryz.underlying23 (fun hl17 => ?_)
 refine zp (p_fld_ptr rfl rfl fld_25_1) ?_
 refine zp (p_load_box rfl rfl sc_23 rfl rfl) ?_
 refine XL.len rfl rfl rfl Tryz.underlying23 (fun hl20 => ?_)
 refine zp (p_neq rfl rfl rfl) ?_
 refine zq rfl rfl rfl ?_
 refine zn ?_
 refine zd rfl (fun c22 => ?_) (fun c22 => ?_)
 refine zr ?_
 refine za rfl rfl ?_
 refine zn ?_
 refine zt ?_
 exact z1 rfl rfl (rB (dno (fun h => c22 (by rw [h]))))
 refine zi ?_
 refine zs ?_
 refine zr ?_
 refine za rfl rfl ?_
 refine zn ?_
 refine xw_block ?_
 refine xw_loop (α := Nat) (fun k => k ≤ a.evs.length ∧ ∀ j x y, j < k → a.evs[j]? = some x → b.evs[j]? = some y → x = y) (fun k => mkF [(2, .ptr 2 0 0), (3, .ptr 3 0 0), (5, .d (dI k))]) (fun k => mkH [(2, .box ((Vo.c a).map S.d)), (3, .box ((Vo.c b).map S.d))]) (fun k => a.evs.length - k) (0) (⟨Nat.zero_le _, fun j x y h => absurd h (Nat.not_lt_zero _)⟩) ?_ ?_ ?_
 exact fz ⟨sr, sr, sr, trivial⟩
 exact gz ⟨rfl, rfl, trivial⟩
 intro k hk0
 obtain ⟨hk, hf0⟩ := hk0
 refine zs ?_
 refine zr ?_
 refine zm rfl rfl ?_
 refine zp (p_fld_ptr rfl rfl fld_25_0) ?_
 refine zp (p_load_box rfl rfl sc_22 rfl rfl) ?_
 refine XL.len rfl rfl rfl Tryz.underlying22 (fun hl26 => ?_)
 refine zp (p_lss rfl rfl rfl) ?_
 refine zn ?_
 refine zd rfl (fun c27 => ?_) (fun c27 => ?_)
 have hk0a : k < a.evs.length := by omega
 obtain ⟨x, hx0⟩ := get_ex hk0a
 obtain ⟨y, hy0⟩ : ∃ y, b.evs[k]? = some y := get_ex (by omega)
 refine zi ?_
 refine zs ?_
 refine xw_block ?_
 refine zs ?_
 by_cases q42 : ¬ (x.site = y.site ∧ x.num = y.num)
 refine xw_any [] (by kernel_rfl) (by kernel_rfl) (by kernel_rfl) (by decide) ?_
 refine yp (p_fld_ptr rfl rfl fld_25_0) ?_
 refine yp (p_load_box rfl rfl sc_22 rfl rfl) ?_
 refine ym rfl rfl ?_
 refine yp (p_idx_map rfl rfl rfl el_22 (hx0)) ?_
 refine yp (p_fld_pt rfl rfl fld_60_0) ?_
 refine yp (p_load_pts rfl rfl agg_54 (Nat.le_of_ble_eq_true rfl)) ?_
 refine yp (p_fld_ptr rfl rfl fld_25_0) ?_
 refine yp (p_load_box rfl rfl sc_22 rfl rfl) ?_
 refine ym rfl rfl ?_
 refine yp (p_idx_map rfl rfl rfl el_22 (hy0)) ?_
 refine yp (p_fld_pt rfl rfl fld_60_0) ?_
 refine yp (p_load_pts rfl rfl agg_54 (Nat.le_of_ble_eq_true rfl)) ?_
 refine yp (p_yes (p_neq_54 rfl rfl rfl) (q42)) ?_
 refine ym rfl rfl ?_
 refine ChK.skip rfl ?_
 refine ChK.skip rfl ?_
 refine ChK.skip rfl ?_
 refine ChK.skip rfl ?_
 refine ChK.skip rfl ?_
 refine ChK.skip rfl ?_
 refine ChK.skip rfl ?_
 refine ChK.skip rfl ?_
 refine ChK.skip rfl ?_
 refine ChK.skip rfl ?_
 refine ChK.skip rfl ?_
 refine ChK.skip rfl ?_
 refine yp (p_pick_any rfl rfl (by conv => lhs; whnf)) ?_
 refine ChK.nil ⟨by kernel_rfl, ?_⟩
 refine xw_true (by kernel_rfl) rfl ?_
 refine zr ?_
 refine za rfl rfl ?_
 refine zn ?_
 refine zt ?_
 exact z1 rfl rfl (rB (dno (fun h => by subst h; rw [hx0] at hy0; cases hy0; first | exact q42 ⟨rfl, rfl⟩ | exact c56 (Ev.eqv_iff.2 rfl).2)))
 refine xw_any [] (by kernel_rfl) (by kernel_rfl) (by kernel_rfl) (by decide) ?_
 refine yp (p_fld_ptr rfl rfl fld_25_0) ?_
 refine yp (p_load_box rfl rfl sc_22 rfl rfl) ?_
 refine ym rfl rfl ?_
 refine yp (p_idx_map rfl rfl rfl el_22 (hx0)) ?_
 refine yp (p_fld_pt rfl rfl fld_60_0) ?_
 refine yp (p_load_pts rfl rfl agg_54 (Nat.le_of_ble_eq_true rfl)) ?_
 refine yp (p_fld_ptr rfl rfl fld_25_0) ?_
 refine yp (p_load_box rfl rfl sc_22 rfl rfl) ?_
 refine ym rfl rfl ?_
 refine yp (p_idx_map rfl rfl rfl el_22 (hy0)) ?_
 refine yp (p_fld_pt rfl rfl fld_60_0) ?_
 refine yp (p_load_pts rfl rfl agg_54 (Nat.le_of_ble_eq_true rfl)) ?_
 refine yp (p_no (p_neq_54 rfl rfl rfl) (q42)) ?_
 refine ym rfl rfl ?_
 refine yp (p_fld_ptr rfl rfl fld_25_0) ?_
 refine yp (p_load_box rfl rfl sc_22 rfl rfl) ?_
 refine ym rfl rfl ?_
 refine yp (p_idx_map rfl rfl rfl el_22 (hx0)) ?_
 refine yp (pure_eq (s' := .d (.agg (Ev.c x))) (p_load_pts rfl rfl agg_60 (Nat.le_of_ble_eq_true rfl)) (by kernel_rfl)) ?_
 refine yp (p_fld_ptr rfl rfl fld_25_0) ?_
 refine yp (p_load_box rfl rfl sc_22 rfl rfl) ?_
 refine ym rfl rfl ?_
 refine yp (p_idx_map rfl rfl rfl el_22 (hy0)) ?_
 refine yp (pure_eq (s' := .d (.agg (Ev.c y))) (p_load_pts rfl rfl agg_60 (Nat.le_of_ble_eq_true rfl)) (by kernel_rfl)) ?_
 refine ChK.cons rfl (CStep.call rfl (rsame_xc _ _) rfl) ?_
 refine yp (p_notdec rfl rfl) ?_
 refine yp (p_pick_any rfl rfl (by conv => lhs; whnf)) ?_
 refine ChK.nil ⟨by kernel_rfl, ?_⟩
 refine zd rfl (fun c56 => ?_) (fun c56 => ?_)
 refine zr ?_
 refine za rfl rfl ?_
 refine zn ?_
 refine zt ?_
 exact z1 rfl rfl (rB (dno (fun h => by subst h; rw [hx0] at hy0; cases hy0; first | exact q42 ⟨rfl, rfl⟩ | exact c56 (Ev.eqv_iff.2 rfl).2)))
 refine zi ?_
 refine xw_region (by kernel_rfl) ?_
 refine zm rfl rfl ?_
 refine zp (p_add rfl rfl rfl (by omega) (by omega)) ?_
 refine za rfl rfl ?_
 refine zn ?_
 exact k_round (k + 1) (⟨by omega, fun j x' y' hj hx' hy' => by by_cases e : j = k; (· subst e; rw [hx0] at hx'; rw [hy0] at hy'; cases hx'; cases hy'; exact Ev.eqv_iff.1 ⟨Decidable.not_not.1 q42, Decidable.not_not.1 c56⟩); (· exact hf0 j x' y' (by omega) hx' hy')⟩) (by omega) (fz ⟨sr, sr, sr, trivial⟩) (gz ⟨rfl, rfl, trivial⟩)
 have hk0b : k = a.evs.length := by omega
 have hq0 : a.evs = b.evs := eq_of_all (by omega) (fun j x y hj => hf0 j x y (by omega))
 refine xw_exit ?_
 refine zs ?_
 refine zr ?_
 refine za rfl rfl ?_
 refine zn ?_
 refine xw_block ?_
 refine xw_loop (α := Nat) (fun m => m ≤ a.tups.length ∧ ∀ j x y, j < m → a.tups[j]? = some x → b.tups[j]? = some y → x = y) (fun m => mkF [(2, .ptr 2 0 0), (3, .ptr 3 0 0), (6, .d (dI m))]) (fun m => mkH [(2, .box ((Vo.c a).map S.d)), (3, .box ((Vo.c b).map S.d))]) (fun m => a.tups.length - m) (0) (⟨Nat.zero_le _, fun j x y h => absurd h (Nat.not_lt_zero _)⟩) ?_ ?_ ?_
 exact fz ⟨sr, sr, sr, trivial⟩
 exact gz ⟨rfl, rfl, trivial⟩
 intro m hk2
 obtain ⟨hk, hf2⟩ := hk2
 refine zs ?_
 refine zr ?_
 refine zm rfl rfl ?_
 refine zp (p_fld_ptr rfl rfl fld_25_1) ?_
 refine zp (p_load_box rfl rfl sc_23 rfl rfl) ?_
 refine XL.len rfl rfl rfl Tryz.underlying23 (fun hl60 => ?_)
 refine zp (p_lss rfl rfl rfl) ?_
 refine zn ?_
 refine zd rfl (fun c61 => ?_) (fun c61 => ?_)
 have hk2a : m < a.tups.length := by omega
 obtain ⟨x, hx2⟩ := get_ex hk2a
 obtain ⟨y, hy2⟩ : ∃ y, b.tups[m]? = some y := get_ex (by omega)
 refine zi ?_
 refine zs ?_
 refine xw_block ?_
 refine zs ?_
 refine xw_any [] (by kernel_rfl) (by kernel_rfl) (by kernel_rfl) (by decide) ?_
 refine yp (p_fld_ptr rfl rfl fld_25_1) ?_
 refine yp (p_load_box rfl rfl sc_23 rfl rfl) ?_
 refine ym rfl rfl ?_
 refine yp (p_idx_map rfl rfl rfl el_23 hx2) ?_
 refine yp (pure_eq (s' := .d (.agg (Tp.c x))) (p_load_pts rfl rfl agg_102 (Nat.le_of_ble_eq_true rfl)) (by kernel_rfl)) ?_
 refine yp (p_fld_ptr rfl rfl fld_25_1) ?_
 refine yp (p_load_box rfl rfl sc_23 rfl rfl) ?_
 refine ym rfl rfl ?_
 refine yp (p_idx_map rfl rfl rfl el_23 (hy2)) ?_
 refine yp (pure_eq (s' := .d (.agg (Tp.c y))) (p_load_pts rfl rfl agg_102 (Nat.le_of_ble_eq_true rfl)) (by kernel_rfl)) ?_
 refine yp (p_neq_102 rfl rfl rfl) ?_
 refine ChK.nil ⟨by kernel_rfl, ?_⟩
 refine zd rfl (fun c74 => ?_) (fun c74 => ?_)
 refine zr ?_
 refine za rfl rfl ?_
 refine zn ?_
 refine zt ?_
 exact z1 rfl rfl (rB (dno (fun h => by subst h; rw [hx2] at hy2; cases hy2; exact Tp.ne_of c74 rfl)))
 refine zi ?_
 refine xw_region (by kernel_rfl) ?_
 refine zm rfl rfl ?_
 refine zp (p_add rfl rfl rfl (by omega) (by omega)) ?_
 refine za rfl rfl ?_
 refine zn ?_
 exact k_round (m + 1) (⟨by omega, fun j x' y' hj hx' hy' => by by_cases e : j = m; (· subst e; rw [hx2] at hx'; rw [hy2] at hy'; cases hx'; cases hy'; exact Tp.eq_of c74); (· exact hf2 j x' y' (by omega) hx' hy')⟩) (by omega) (fz ⟨sr, sr, sr, trivial⟩) (gz ⟨rfl, rfl, trivial⟩)
 have hk2b : m = a.tups.length := by omega
 have hq2 : a.tups = b.tups := eq_of_all (by omega) (fun j x y hj => hf2 j x y (by omega))
 refine xw_exit ?_
 refine zr ?_
 refine za rfl rfl ?_
 refine zn ?_
 refine zt ?_
 exact z1 rfl rfl (rB (dyes (Vo.ext hq0 hq2)))
/-- is a voice small? -/
def Vo.few (v : Vo) : Prop := (∀ e ∈ v.evs, e.heads.length ≤ 12 ∧ e.graces.length ≤ 12 ∧ e.lyr.length ≤ 12) ∧ v.evs.length ≤ 130 ∧ v.tups.length ≤ 20
instance (v : Vo) : Decidable v.few := by unfold Vo.few; exact inferInstance
theorem Vo.few.fit {v : Vo} (h : v.few) : v.fit := ⟨by have := h.2.1; omega, by have := h.2.2; omega, fun e he => by have := h.1 e he; exact ⟨by omega, by omega, by omega⟩⟩
theorem few_all {v : Vo} (h : ∀ (j : Nat) e, j < v.evs.length → v.evs[j]? = some e → e.heads.length ≤ 12 ∧ e.graces.length ≤ 12 ∧ e.lyr.length ≤ 12) : ∀ e ∈ v.evs, e.heads.length ≤ 12 ∧ e.graces.length ≤ 12 ∧ e.lyr.length ≤ 12 := fun e he => by
 obtain ⟨j, hj⟩ := List.getElem?_of_mem he
 exact h j e (List.getElem?_eq_some_iff.1 hj).1 hj
theorem few_xc (v : Vo) : XC Tryz.prog 14 [.agg (Vo.c v)] (fun r => r = dB (decide v.few)) := by
 refine xc_body callable_14 Tryz.func14 rfl rfl (Nat.le_of_ble_eq_true rfl) ?_
 refine zr ?_
 refine XL.step rfl (st_boxN 1 (l := [.d (.sl 13 (v.evs.map Ev.c)), .d (.sl 4 (v.tups.map Tp.c))]) rfl rfl (by kernel_rfl)) ?_
 refine za rfl rfl ?_
 refine zn ?_
 refine zs ?_
 refine zr ?_
 refine za rfl rfl ?_
 refine zn ?_
 refine xw_block ?_
 refine xw_loop (α := Nat) (fun k => k ≤ v.evs.length ∧ ∀ (j : Nat) e, j < k → v.evs[j]? = some e → e.heads.length ≤ 12 ∧ e.graces.length ≤ 12 ∧ e.lyr.length ≤ 12) (fun k => mkF [(1, .ptr 1 0 0), (3, .d (dI k))]) (fun k => mkH [(1, .box ((Vo.c v).map S.d))]) (fun k => v.evs.length - k) (0) (⟨Nat.zero_le _, fun j x h => absurd h (Nat.not_lt_zero _)⟩) ?_ ?_ ?_
 exact fz ⟨sr, sr, trivial⟩
 exact gz ⟨rfl, trivial⟩
 intro k hk0
 obtain ⟨hk, hf⟩ := hk0
 refine zs ?_
 refine zr ?_
 refine zm rfl rfl ?_
 refine zp (p_fld_ptr rfl rfl fld_25_0) ?_
 refine zp (p_load_box rfl rfl sc_22 rfl rfl) ?_
 refine XL.len rfl rfl rfl Tryz.underlying22 (fun hl8 => ?_)
 refine zp (p_lss rfl rfl rfl) ?_
 refine zn ?_
 refine zd rfl (fun c9 => ?_) (fun c9 => ?_)
 have hk0a : k < v.evs.length := by omega
 obtain ⟨x0, hx0⟩ := get_ex hk0a
 refine zi ?_
 refine zs ?_
 refine xw_block ?_
 refine zr ?_
 refine zp (p_fld_ptr rfl rfl fld_25_0) ?_
 refine zp (p_load_box rfl rfl sc_22 rfl rfl) ?_
 refine zm rfl rfl ?_
 refine zp (p_idx_map rfl rfl rfl el_22 hx0) ?_
 refine zp (pure_eq (s' := .d (.agg (Ev.c x0))) (p_load_pts rfl rfl agg_60 (Nat.le_of_ble_eq_true rfl)) (by kernel_rfl)) ?_
 refine XL.step rfl (st_allocN 4 (l := [.d (dI 0), .d (dI 0), .d (dI 0), .d (dI 0), .d (dI 0), .d (.v (.slice none 0 0)), .d (.v (.slice none 0 0)), .d (dI 0), .d (dI 0), .d (dI 0), .d (.v (.slice none 0 0)), .d (dI 0), .d (dI 0)]) rfl zero_60 (by kernel_rfl)) ?_
 refine XL.step rfl (st_storeN (l' := [.d (dI x0.site), .d (dI x0.num), .d (dI x0.kind), .d (dI x0.v.log), .d (dI x0.v.dots), .d (.sl 5 (x0.heads.map Hd.c)), .d (.sl 5 (x0.graces.map Gr.c)), .d (dI x0.art), .d (dI x0.orn), .d (dI x0.dyn), .d (.sl 2 (x0.lyr.map Sy.c)), .d (dI x0.stem), .d (dI x0.beam)]) rfl rfl rfl rfl sz_60 rfl (Nat.le_of_ble_eq_true rfl) (by kernel_rfl)) ?_
 refine znr ?_
 refine zp (p_fld_ptr rfl rfl fld_60_3) ?_
 refine zp (p_load_box rfl rfl sc_48 rfl rfl) ?_
 refine XL.len rfl rfl rfl Tryz.underlying48 (fun hl19 => ?_)
 refine zp (p_gtr rfl rfl rfl) ?_
 refine zm rfl rfl ?_
 refine XL.dec 21 rfl (fun g21 => ?_) (fun g21 => ?_)
 refine zk 4 rfl ?_
 refine zq rfl rfl rfl ?_
 refine zm rfl rfl ?_
 refine zk 4 rfl ?_
 refine zq rfl rfl rfl ?_
 refine zn ?_
 refine xw_true (by kernel_rfl) rfl ?_
 refine zr ?_
 refine za rfl rfl ?_
 refine zn ?_
 refine zt ?_
 exact z1 rfl rfl (rB (by rw [eq_comm, decide_eq_false_iff_not]; intro h; have := h.1 x0 (List.mem_of_getElem? hx0); omega))
 refine zp (p_fld_ptr rfl rfl fld_60_4) ?_
 refine zp (p_load_box rfl rfl sc_57 rfl rfl) ?_
 refine XL.len rfl rfl rfl Tryz.underlying57 (fun hl24 => ?_)
 refine zp (p_gtr rfl rfl rfl) ?_
 refine zq rfl rfl rfl ?_
 refine zm rfl rfl ?_
 refine XL.dec 27 rfl (fun g27 => ?_) (fun g27 => ?_)
 refine zk 4 rfl ?_
 refine zq rfl rfl rfl ?_
 refine zn ?_
 refine xw_true (by kernel_rfl) rfl ?_
 refine zr ?_
 refine za rfl rfl ?_
 refine zn ?_
 refine zt ?_
 exact z1 rfl rfl (rB (by rw [eq_comm, decide_eq_false_iff_not]; intro h; have := h.1 x0 (List.mem_of_getElem? hx0); omega))
 refine zp (p_fld_ptr rfl rfl fld_60_8) ?_
 refine zp (p_load_box rfl rfl sc_58 rfl rfl) ?_
 refine XL.len rfl rfl rfl Tryz.underlying58 (fun hl30 => ?_)
 refine zp (p_gtr rfl rfl rfl) ?_
 refine zq rfl rfl rfl ?_
 refine zn ?_
 refine zd rfl (fun c32 => ?_) (fun c32 => ?_)
 refine zr ?_
 refine za rfl rfl ?_
 refine zn ?_
 refine zt ?_
 exact z1 rfl rfl (rB (by rw [eq_comm, decide_eq_false_iff_not]; intro h; have := h.1 x0 (List.mem_of_getElem? hx0); omega))
 refine zi ?_
 refine xw_region (by kernel_rfl) ?_
 refine zm rfl rfl ?_
 refine zp (p_add rfl rfl rfl (by omega) (by omega)) ?_
 refine za rfl rfl ?_
 refine zn ?_
 exact k_round (k + 1) (⟨by omega, fun j e hj he => by by_cases q : j = k; (· subst q; rw [hx0] at he; cases he; omega); (· exact hf j e (by omega) he)⟩) (by omega) (fz ⟨sr, sr, trivial⟩) (gz ⟨rfl, trivial⟩)
 have hk0b : k = v.evs.length := by omega
 have hfa := few_all (v := v) (fun j e hj => hf j e (by omega))
 refine xw_exit ?_
 refine zr ?_
 refine zp (p_fld_ptr rfl rfl fld_25_0) ?_
 refine zp (p_load_box rfl rfl sc_22 rfl rfl) ?_
 refine XL.len rfl rfl rfl Tryz.underlying22 (fun hl35 => ?_)
 refine zp (p_leq rfl rfl rfl) ?_
 refine zm rfl rfl ?_
 refine XL.dec 37 rfl (fun g37 => ?_) (fun g37 => ?_)
 refine zp (p_fld_ptr rfl rfl fld_25_1) ?_
 refine zp (p_load_box rfl rfl sc_23 rfl rfl) ?_
 refine XL.len rfl rfl rfl Tryz.underlying23 (fun hl40 => ?_)
 refine zp (p_leq rfl rfl rfl) ?_
 refine zq rfl rfl rfl ?_
 refine za rfl rfl ?_
 refine zn ?_
 refine zt ?_
 exact z1 rfl rfl (rB (by rw [decide_eq_decide]; exact ⟨fun h => ⟨hfa, by omega, by omega⟩, fun h => by have := h.2.2; omega⟩))
 refine zk 4 rfl ?_
 refine zq rfl rfl rfl ?_
 refine za rfl rfl ?_
 refine zn ?_
 refine zt ?_
 exact z1 rfl rfl (rB (by rw [eq_comm, decide_eq_false_iff_not]; intro h; have := h.2.1; omega))
theorem kdiv_xc : XC Tryz.prog 15 [.agg (Vo.c kV), .agg (Pl.c kP), dI 483840] (fun r => r = .tup [.agg (Vo.c kW), dI 0]) := by
 have := Divide_xc kV kP 483840 (fun e he => by have := List.mem_singleton.1 he; subst this; decide) (Vo.few.fit (by decide))
 rw [kn_div] at this; exact this
theorem ksim_xc : XC Tryz.prog 20 [.agg (Vo.c kW), .agg (Pl.c kP)] (fun r => r = .tup [.agg (Vo.c kV), dI 0]) := by
 have := simplify_xc kW kP (fun e he => by simp [kW] at he; rcases he with rfl | rfl | rfl <;> decide) (Vo.few.fit (by decide))
 rw [kn_sim] at this; exact this
theorem known_xc  : XC Tryz.prog 13 [] (fun r => r = dB true) := by
 refine xc_body callable_13 Tryz.func13 rfl rfl (Nat.le_of_ble_eq_true rfl) ?_
 refine zr ?_
 refine za rfl rfl ?_
 refine znr ?_
 refine zp (pure_eq (s' := .d (.agg [dI 1, dI 1])) (norm_pure (p_build rfl str_54 zero_54 rfl)) (by kernel_rfl)) ?_
 refine zp (pure_eq (s' := .d (.agg [dI 0, dI 0, dI 5])) (norm_pure (p_build rfl str_89 zero_89 rfl)) (by kernel_rfl)) ?_
 refine zp (pure_eq (s' := .d (.agg [dI 0, dI 0, dI 5, dB false, dI 0])) (norm_pure (p_build rfl str_91 zero_91 rfl)) (by kernel_rfl)) ?_
 refine XL.step rfl (st_sliced (l := [kH false].map Hd.c) rfl Tryz.underlying48 sz_91 zero_91 (by kernel_rfl) rfl (by omega) (by omega)) ?_
 refine zp (pure_sub (.agg (Ev.c (kE 1 ⟨0, 0⟩ false))) (pure_eq (s' := .d (.agg [dI 1, dI 1, dI 1, dI 0, dI 0, .sl 5 ([kH false].map Hd.c), .v (.slice none 0 0), dI 0, dI 0, dI 0, .v (.slice none 0 0), dI 0, dI 0])) (norm_pure (p_build rfl str_60 zero_60 rfl)) (by kernel_rfl)) (.agg (.cons (.same rfl) (.cons (.same rfl) (.cons (.same rfl) (.cons (.same rfl) (.cons (.same rfl) (.cons (.same rfl) (.cons (.nil 5) (.cons (.same rfl) (.cons (.same rfl) (.cons (.same rfl) (.cons (.nil 2) (.cons (.same rfl) (.cons (.same rfl) (.nil)))))))))))))))) ?_
 refine XL.step rfl (st_allocN 1 (l := [.d (dI 0), .d (dI 0), .d (dI 0), .d (dI 0), .d (dI 0), .d (.v (.slice none 0 0)), .d (.v (.slice none 0 0)), .d (dI 0), .d (dI 0), .d (dI 0), .d (.v (.slice none 0 0)), .d (dI 0), .d (dI 0)]) rfl zero_60 (by kernel_rfl)) ?_
 refine XL.step rfl (st_storeN (l' := [.d (dI (kE 1 ⟨0, 0⟩ false).site), .d (dI (kE 1 ⟨0, 0⟩ false).num), .d (dI (kE 1 ⟨0, 0⟩ false).kind), .d (dI (kE 1 ⟨0, 0⟩ false).v.log), .d (dI (kE 1 ⟨0, 0⟩ false).v.dots), .d (.sl 5 ((kE 1 ⟨0, 0⟩ false).heads.map Hd.c)), .d (.sl 5 ((kE 1 ⟨0, 0⟩ false).graces.map Gr.c)), .d (dI (kE 1 ⟨0, 0⟩ false).art), .d (dI (kE 1 ⟨0, 0⟩ false).orn), .d (dI (kE 1 ⟨0, 0⟩ false).dyn), .d (.sl 2 ((kE 1 ⟨0, 0⟩ false).lyr.map Sy.c)), .d (dI (kE 1 ⟨0, 0⟩ false).stem), .d (dI (kE 1 ⟨0, 0⟩ false).beam)]) rfl rfl rfl rfl sz_60 rfl (Nat.le_of_ble_eq_true rfl) (by kernel_rfl)) ?_
 refine znr ?_
 refine zp (pure_eq (s' := .d (.agg (Ev.c (kE 1 ⟨0, 0⟩ false)))) (norm_pure (p_load_boxs rfl rfl agg_60 rfl (Nat.le_of_ble_eq_true rfl))) (by kernel_rfl)) ?_
 refine XL.step rfl (st_sliced (l := [kE 1 ⟨0, 0⟩ false].map Ev.c) rfl Tryz.underlying22 sz_60 zero_60 (by kernel_rfl) rfl (by omega) (by omega)) ?_
 refine zp (pure_sub (.agg (Vo.c kV)) (pure_eq (s' := .d (.agg [.sl 13 ([kE 1 ⟨0, 0⟩ false].map Ev.c), .v (.slice none 0 0)])) (norm_pure (p_build rfl str_25 zero_25 rfl)) (by kernel_rfl)) (.agg (.cons (.same rfl) (.cons (.nil 4) (.nil))))) ?_
 refine XL.step rfl (st_allocN 2 (l := [.d (.v (.slice none 0 0)), .d (.v (.slice none 0 0))]) rfl zero_25 (by kernel_rfl)) ?_
 refine XL.step rfl (st_storeN (l' := [.d (.sl 13 (kV.evs.map Ev.c)), .d (.sl 4 (kV.tups.map Tp.c))]) rfl rfl rfl rfl sz_25 rfl (Nat.le_of_ble_eq_true rfl) (by kernel_rfl)) ?_
 refine znr ?_
 refine zp (pure_eq (s' := .d (.agg (Me.c kP.m))) (norm_pure (p_build rfl str_28 zero_28 rfl)) (by kernel_rfl)) ?_
 refine zp (pure_eq (s' := .d (.agg (Pl.c kP))) (norm_pure (p_build rfl str_30 zero_30 rfl)) (by kernel_rfl)) ?_
 refine XL.step rfl (st_allocN 3 (l := [.d (dI 0), .d (dI 0), .d (dI 0), .d (dI 0), .d (dI 0), .d (dI 0), .d (dI 0), .d (dI 0), .d (dI 0), .d (dI 0)]) rfl zero_30 (by kernel_rfl)) ?_
 refine XL.step rfl (st_storeN (l' := [.d (dI kP.m.count), .d (dI kP.m.unit), .d (dI kP.m.g0), .d (dI kP.m.g1), .d (dI kP.m.g2), .d (dI kP.m.g3), .d (dI kP.m.g4), .d (dI kP.m.g5), .d (dI kP.off), .d (dI kP.len)]) rfl rfl rfl rfl sz_30 rfl (Nat.le_of_ble_eq_true rfl) (by kernel_rfl)) ?_
 refine znr ?_
 refine zp (pure_eq (s' := .d (.agg (Vo.c kV))) (norm_pure (p_load_boxs rfl rfl agg_25 rfl (Nat.le_of_ble_eq_true rfl))) (by kernel_rfl)) ?_
 refine zp (pure_eq (s' := .d (.agg (Pl.c kP))) (norm_pure (p_load_boxs rfl rfl agg_30 rfl (Nat.le_of_ble_eq_true rfl))) (by kernel_rfl)) ?_
 refine XL.call1 rfl rfl (kdiv_xc) rfl ?_
 refine zm rfl rfl ?_
 refine zp (p_ext rfl rfl rfl) ?_
 refine zp (p_ext rfl rfl rfl) ?_
 refine XL.step rfl (st_allocN 4 (l := [.d (.v (.slice none 0 0)), .d (.v (.slice none 0 0))]) rfl zero_25 (by kernel_rfl)) ?_
 refine XL.step rfl (st_storeN (l' := [.d (.sl 13 (kW.evs.map Ev.c)), .d (.sl 4 (kW.tups.map Tp.c))]) rfl rfl rfl rfl sz_25 rfl (Nat.le_of_ble_eq_true rfl) (by kernel_rfl)) ?_
 refine za rfl rfl ?_
 refine znr ?_
 refine zp (pure_eq (s' := .d (.agg (Vo.c kW))) (norm_pure (p_load_boxs rfl rfl agg_25 rfl (Nat.le_of_ble_eq_true rfl))) (by kernel_rfl)) ?_
 refine zp (pure_eq (s' := .d (.agg (Pl.c kP))) (norm_pure (p_load_boxs rfl rfl agg_30 rfl (Nat.le_of_ble_eq_true rfl))) (by kernel_rfl)) ?_
 refine XL.call1 rfl rfl (ksim_xc) rfl ?_
 refine zm rfl rfl ?_
 refine zp (p_ext rfl rfl rfl) ?_
 refine zp (p_ext rfl rfl rfl) ?_
 refine XL.step rfl (st_allocN 6 (l := [.d (.v (.slice none 0 0)), .d (.v (.slice none 0 0))]) rfl zero_25 (by kernel_rfl)) ?_
 refine XL.step rfl (st_storeN (l' := [.d (.sl 13 (kV.evs.map Ev.c)), .d (.sl 4 (kV.tups.map Tp.c))]) rfl rfl rfl rfl sz_25 rfl (Nat.le_of_ble_eq_true rfl) (by kernel_rfl)) ?_
 refine za rfl rfl ?_
 refine znr ?_
 refine zm rfl rfl ?_
 refine zp (p_yes (p_eql rfl rfl rfl) (rfl)) ?_
 refine zm rfl rfl ?_
 refine zp (p_fld_ptr rfl rfl fld_25_0) ?_
 refine zp (p_load_box rfl rfl sc_22 rfl rfl) ?_
 refine XL.len rfl rfl rfl Tryz.underlying22 (fun hl35 => ?_)
 refine zp (p_yes (p_eql rfl rfl rfl) (by decide)) ?_
 refine zq rfl rfl rfl ?_
 refine zm rfl rfl ?_
 refine zp (p_fld_ptr rfl rfl fld_25_0) ?_
 refine zp (p_load_box rfl rfl sc_22 rfl rfl) ?_
 refine zp (p_idx_map (k := 0) rfl rfl rfl el_22 ((rfl : kW.evs[0]? = some (kE 1 ⟨2, 0⟩ true)))) ?_
 refine zp (p_fld_pt rfl rfl fld_60_2) ?_
 refine zp (pure_eq (s' := .d (.agg (Val.c (kE 1 ⟨2, 0⟩ true).v))) (p_load_pts rfl rfl agg_56 (Nat.le_of_ble_eq_true rfl)) (by kernel_rfl)) ?_
 refine zp (pure_eq (s' := .d (.agg [dI 2, dI 0])) (norm_pure (p_build rfl str_56 zero_56 rfl)) (by kernel_rfl)) ?_
 refine zp (p_yes (p_eql_56 rfl rfl rfl) (by decide)) ?_
 refine zq rfl rfl rfl ?_
 refine zm rfl rfl ?_
 refine zp (p_fld_ptr rfl rfl fld_25_0) ?_
 refine zp (p_load_box rfl rfl sc_22 rfl rfl) ?_
 refine zp (p_idx_map (k := 2) rfl rfl rfl el_22 ((rfl : kW.evs[2]? = some (kE 0 ⟨1, 0⟩ false)))) ?_
 refine zp (p_fld_pt rfl rfl fld_60_2) ?_
 refine zp (pure_eq (s' := .d (.agg (Val.c (kE 0 ⟨1, 0⟩ false).v))) (p_load_pts rfl rfl agg_56 (Nat.le_of_ble_eq_true rfl)) (by kernel_rfl)) ?_
 refine zp (pure_eq (s' := .d (.agg [dI 1, dI 0])) (norm_pure (p_build rfl str_56 zero_56 rfl)) (by kernel_rfl)) ?_
 refine zp (p_yes (p_eql_56 rfl rfl rfl) (by decide)) ?_
 refine zq rfl rfl rfl ?_
 refine zm rfl rfl ?_
 refine zp (p_fld_ptr rfl rfl fld_25_0) ?_
 refine zp (p_load_box rfl rfl sc_22 rfl rfl) ?_
 refine zp (p_idx_map (k := 1) rfl rfl rfl el_22 ((rfl : kW.evs[1]? = some (kE 0 ⟨2, 0⟩ true)))) ?_
 refine zp (p_fld_pt rfl rfl fld_60_3) ?_
 refine zp (p_load_pt rfl rfl sc_48) ?_
 refine zp (p_idx_map (k := 0) rfl rfl rfl el_48 ((rfl : (kE 0 ⟨2, 0⟩ true).heads[0]? = some (kH true)))) ?_
 refine zp (p_fld_pt rfl rfl fld_91_1) ?_
 refine zp (pure_eq (s' := .d (dB true)) (p_load_pt rfl rfl sc_4) (by kernel_rfl)) ?_
 refine zq rfl rfl rfl ?_
 refine zm rfl rfl ?_
 refine zm rfl rfl ?_
 refine zp (p_yes (p_eql rfl rfl rfl) (rfl)) ?_
 refine zq rfl rfl rfl ?_
 refine zm rfl rfl ?_
 refine zp (p_fld_ptr rfl rfl fld_25_0) ?_
 refine zp (p_load_box rfl rfl sc_22 rfl rfl) ?_
 refine XL.len rfl rfl rfl Tryz.underlying22 (fun hl73 => ?_)
 refine zp (p_yes (p_eql rfl rfl rfl) (by decide)) ?_
 refine zq rfl rfl rfl ?_
 refine zm rfl rfl ?_
 refine zp (p_fld_ptr rfl rfl fld_25_0) ?_
 refine zp (p_load_box rfl rfl sc_22 rfl rfl) ?_
 refine zp (p_idx_map (k := 0) rfl rfl rfl el_22 ((rfl : kV.evs[0]? = some (kE 1 ⟨0, 0⟩ false)))) ?_
 refine zp (p_fld_pt rfl rfl fld_60_2) ?_
 refine zp (pure_eq (s' := .d (.agg (Val.c (kE 1 ⟨0, 0⟩ false).v))) (p_load_pts rfl rfl agg_56 (Nat.le_of_ble_eq_true rfl)) (by kernel_rfl)) ?_
 refine zp (pure_eq (s' := .d (.agg [dI 0, dI 0])) (norm_pure (p_build rfl str_56 zero_56 rfl)) (by kernel_rfl)) ?_
 refine zp (p_yes (p_eql_56 rfl rfl rfl) (by decide)) ?_
 refine zq rfl rfl rfl ?_
 refine za rfl rfl ?_
 refine zn ?_
 refine zt ?_
 exact z1 rfl rfl (rfl)
end Go.Proofs.YtcihalbakenleaaGreat
namespace Go.Proofs.YtcihalbakenleaaGreat
open Go.RowKit
/-- all of a tuplet's events are events of another one -/
def Tp.inside (a b : Tp) : Prop := b.first ≤ a.first ∧ a.e ≤ b.e
instance (a b : Tp) : Decidable (a.inside b) := by unfold Tp.inside; exact inferInstance
end Go.Proofs.YtcihalbakenleaaGreat
namespace Go.Proofs.YtcihalbakenleaaGreat
open Go.RowKit
def rawStep (n : Int) (p : Int × Int) (t : Tp) : Int × Int := if t.has n then (p.1 * t.normal, p.2 * t.actual) else p
/-- a written length times and over the numbers of the tuplets that contain an event -/
def rawF (l : List Tp) (n w : Int) : Int × Int := l.foldl (rawStep n) (w, 1)
end Go.Proofs.YtcihalbakenleaaGreat
namespace Go.Proofs.YtcihalbakenleaaGreat
open Go.RowKit
theorem tot_mono {l : List Int} (h : ∀ x ∈ l, 0 < x) {j k : Nat} (hjk : j ≤ k) : tot (l.take j) ≤ tot (l.take k) := by
 rw [tot_cut l j k hjk]
 have : ∀ l : List Int, (∀ x ∈ l, 0 < x) → 0 ≤ tot l := by
  intro l
  induction l with
  | nil => intro _; exact Int.le_refl _
  | cons x l ih => intro h; rw [tot_cons]; have := h x List.mem_cons_self; have := ih fun y hy => h y (List.mem_cons_of_mem _ hy); omega
 have := this ((l.take k).drop j) fun x hx => h x (List.mem_of_mem_take (List.mem_of_mem_drop hx))
 omega
/-- the event that lasts at a tick, where the first j events begin no later -/
def atJ (l : List Int) : Nat → Int × Int
 | 0 => (0, 0)
 | j + 1 => ((j : Int), tot (l.take j))
end Go.Proofs.YtcihalbakenleaaGreat
namespace Go.Proofs.YtcihalbakenleaaGreat
open Go.RowKit
theorem dq_int : DecQ Tryz.prog 3 QInt := DecQ.int Tryz.underlying3
def QPit : List D → Prop := QS [QInt, QInt, QInt]
theorem dq_Pit : DecQ Tryz.prog 89 QPit := by
 refine DecQ.struct _ Tryz.underlying89 rfl (by kernel_rfl) fun i f Q hf hQ => ?_
 match i, hf, hQ with
 | 0, hf, hQ => cases hf; cases hQ; exact dq_int
 | 1, hf, hQ => cases hf; cases hQ; exact dq_int
 | 2, hf, hQ => cases hf; cases hQ; exact dq_int
 | _ + 3, hf, hQ => simp at hQ
def QHd : List D → Prop := QS [QPit, QBool, QInt]
theorem dq_Hd : DecQ Tryz.prog 91 QHd := by
 refine DecQ.struct _ Tryz.underlying91 rfl (by kernel_rfl) fun i f Q hf hQ => ?_
 match i, hf, hQ with
 | 0, hf, hQ => cases hf; cases hQ; exact dq_Pit
 | 1, hf, hQ => cases hf; cases hQ; exact (DecQ.bool Tryz.underlying4)
 | 2, hf, hQ => cases hf; cases hQ; exact dq_int
 | _ + 3, hf, hQ => simp at hQ
def QGr : List D → Prop := QS [QPit, QInt, QBool]
theorem dq_Gr : DecQ Tryz.prog 138 QGr := by
 refine DecQ.struct _ Tryz.underlying138 rfl (by kernel_rfl) fun i f Q hf hQ => ?_
 match i, hf, hQ with
 | 0, hf, hQ => cases hf; cases hQ; exact dq_Pit
 | 1, hf, hQ => cases hf; cases hQ; exact dq_int
 | 2, hf, hQ => cases hf; cases hQ; exact (DecQ.bool Tryz.underlying4)
 | _ + 3, hf, hQ => simp at hQ
def QSy : List D → Prop := QS [QStr, QInt]
theorem dq_Sy : DecQ Tryz.prog 140 QSy := by
 refine DecQ.struct _ Tryz.underlying140 rfl (by kernel_rfl) fun i f Q hf hQ => ?_
 match i, hf, hQ with
 | 0, hf, hQ => cases hf; cases hQ; exact (DecQ.str Tryz.underlying9)
 | 1, hf, hQ => cases hf; cases hQ; exact dq_int
 | _ + 2, hf, hQ => simp at hQ
def QId : List D → Prop := QS [QInt, QInt]
theorem dq_Id : DecQ Tryz.prog 54 QId := by
 refine DecQ.struct _ Tryz.underlying54 rfl (by kernel_rfl) fun i f Q hf hQ => ?_
 match i, hf, hQ with
 | 0, hf, hQ => cases hf; cases hQ; exact dq_int
 | 1, hf, hQ => cases hf; cases hQ; exact dq_int
 | _ + 2, hf, hQ => simp at hQ
def QVal : List D → Prop := QS [QInt, QInt]
theorem dq_Val : DecQ Tryz.prog 56 QVal := by
 refine DecQ.struct _ Tryz.underlying56 rfl (by kernel_rfl) fun i f Q hf hQ => ?_
 match i, hf, hQ with
 | 0, hf, hQ => cases hf; cases hQ; exact dq_int
 | 1, hf, hQ => cases hf; cases hQ; exact dq_int
 | _ + 2, hf, hQ => simp at hQ
def QEv : List D → Prop := QS [QId, QInt, QVal, QSl 5 QHd, QSl 5 QGr, QInt, QInt, QInt, QSl 2 QSy, QInt, QInt]
theorem dq_Ev : DecQ Tryz.prog 60 QEv := by
 refine DecQ.struct _ Tryz.underlying60 rfl (by kernel_rfl) fun i f Q hf hQ => ?_
 match i, hf, hQ with
 | 0, hf, hQ => cases hf; cases hQ; exact dq_Id
 | 1, hf, hQ => cases hf; cases hQ; exact dq_int
 | 2, hf, hQ => cases hf; cases hQ; exact dq_Val
 | 3, hf, hQ => cases hf; cases hQ; exact (DecQ.slice Tryz.underlying48 dq_Hd (by kernel_rfl) (by decide))
 | 4, hf, hQ => cases hf; cases hQ; exact (DecQ.slice Tryz.underlying57 dq_Gr (by kernel_rfl) (by decide))
 | 5, hf, hQ => cases hf; cases hQ; exact dq_int
 | 6, hf, hQ => cases hf; cases hQ; exact dq_int
 | 7, hf, hQ => cases hf; cases hQ; exact dq_int
 | 8, hf, hQ => cases hf; cases hQ; exact (DecQ.slice Tryz.underlying58 dq_Sy (by kernel_rfl) (by decide))
 | 9, hf, hQ => cases hf; cases hQ; exact dq_int
 | 10, hf, hQ => cases hf; cases hQ; exact dq_int
 | _ + 11, hf, hQ => simp at hQ
def QTp : List D → Prop := QS [QInt, QInt, QInt, QInt]
def QVo : List D → Prop := QS [QSl 13 QEv, QSl 4 QTp]
def QMe : List D → Prop := QS [QInt, QInt, QS (List.replicate 6 QInt)]
theorem dq_Me : DecQ Tryz.prog 28 QMe := by
 refine DecQ.struct _ Tryz.underlying28 rfl (by kernel_rfl) fun i f Q hf hQ => ?_
 match i, hf, hQ with
 | 0, hf, hQ => cases hf; cases hQ; exact dq_int
 | 1, hf, hQ => cases hf; cases hQ; exact dq_int
 | 2, hf, hQ => cases hf; cases hQ; exact (DecQ.array Tryz.underlying26 (by kernel_rfl) dq_int)
 | _ + 3, hf, hQ => simp at hQ
def QPl : List D → Prop := QS [QMe, QInt, QInt]
def QA2 : List D → Prop := QS (List.replicate 2 QInt)
theorem dq_A2 : DecQ Tryz.prog 62 QA2 := DecQ.array Tryz.underlying62 (by kernel_rfl) dq_int
theorem inv_list {α : Type} {Q : List D → Prop} {c : α → List D} {ok : α → Prop} (hq : ∀ ds, Q ds → ∃ a, ds = c a ∧ ok a) : ∀ {l : List (List D)}, (∀ x ∈ l, Q x) → ∃ L : List α, l = L.map c ∧ ∀ a ∈ L, ok a
 | [], _ => ⟨[], rfl, fun a h => by cases h⟩
 | x :: l, h => by
  obtain ⟨a, rfl, ha⟩ := hq x (h x List.mem_cons_self)
  obtain ⟨L, rfl, hL⟩ := inv_list hq fun y hy => h y (List.mem_cons_of_mem _ hy)
  refine ⟨a :: L, rfl, fun b hb => ?_⟩
  rcases List.mem_cons.1 hb with e | e
  ·rw [e]; exact ha
  ·exact hL b e
theorem QPit.inv {ds : List D} (h : QPit ds) : ∃ p : Pit, ds = p.c := by
 obtain ⟨_, _, rfl, ⟨a, rfl, ha⟩, _, _, rfl, ⟨b, rfl, hb⟩, _, _, rfl, ⟨c, rfl, hc⟩, rfl⟩ := h
 exact ⟨⟨a, b, c⟩, rfl⟩
theorem QHd.inv (ds : List D) (h : QHd ds) : ∃ x : Hd, ds = x.c ∧ True := by
 obtain ⟨_, _, rfl, hp, _, _, rfl, ⟨t, rfl⟩, _, _, rfl, ⟨s, rfl, _⟩, rfl⟩ := h
 obtain ⟨p, rfl⟩ := hp.inv
 exact ⟨⟨p, t, s⟩, rfl, trivial⟩
theorem QGr.inv (ds : List D) (h : QGr ds) : ∃ x : Gr, ds = x.c ∧ True := by
 obtain ⟨_, _, rfl, hp, _, _, rfl, ⟨s, rfl, _⟩, _, _, rfl, ⟨t, rfl⟩, rfl⟩ := h
 obtain ⟨p, rfl⟩ := hp.inv
 exact ⟨⟨p, s, t⟩, rfl, trivial⟩
theorem QSy.inv (ds : List D) (h : QSy ds) : ∃ x : Sy, ds = x.c ∧ True := by
 obtain ⟨_, _, rfl, ⟨t, rfl⟩, _, _, rfl, ⟨s, rfl, _⟩, rfl⟩ := h
 exact ⟨⟨t.data.toList, s⟩, rfl, trivial⟩
theorem QEv.inv (ds : List D) (h : QEv ds) : ∃ x : Ev, ds = x.c ∧ x.art ≤ 9223372036854775807 := by
 obtain ⟨_, _, rfl, ⟨_, _, rfl, ⟨s, rfl, _⟩, _, _, rfl, ⟨n, rfl, _⟩, rfl⟩, _, _, rfl, ⟨k, rfl, _⟩, _, _, rfl, ⟨_, _, rfl, ⟨lg, rfl, _⟩, _, _, rfl, ⟨dt, rfl, _⟩, rfl⟩, _, _, rfl, ⟨hs, rfl, hh⟩, _, _, rfl, ⟨gs, rfl, hg⟩,
  _, _, rfl, ⟨ar, rfl, har⟩, _, _, rfl, ⟨om, rfl, _⟩, _, _, rfl, ⟨dy, rfl, _⟩, _, _, rfl, ⟨ls, rfl, hl⟩, _, _, rfl, ⟨st, rfl, _⟩, _, _, rfl, ⟨be, rfl, _⟩, rfl⟩ := h
 obtain ⟨H, rfl, _⟩ := inv_list QHd.inv hh
 obtain ⟨G, rfl, _⟩ := inv_list QGr.inv hg
 obtain ⟨L, rfl, _⟩ := inv_list QSy.inv hl
 exact ⟨⟨s, n, k, ⟨lg, dt⟩, H, G, ar, om, dy, L, st, be⟩, rfl, har.2⟩
theorem QA2.inv (ds : List D) (h : QA2 ds) : ∃ a b : Int, ds = [dI a, dI b] := by
 obtain ⟨_, _, rfl, ⟨a, rfl, _⟩, _, _, rfl, ⟨b, rfl, _⟩, rfl⟩ := h
 exact ⟨a, b, rfl⟩
theorem QMe.inv (ds : List D) (h : QMe ds) : ∃ m : Me, ds = m.c := by
 obtain ⟨_, _, rfl, ⟨c, rfl, _⟩, _, _, rfl, ⟨u, rfl, _⟩, _, _, rfl, ⟨_, _, rfl, ⟨g0, rfl, hg0⟩, _, _, rfl, ⟨g1, rfl, hg1⟩, _, _, rfl, ⟨g2, rfl, hg2⟩, _, _, rfl, ⟨g3, rfl, hg3⟩, _, _, rfl, ⟨g4, rfl, hg4⟩, _, _, rfl, ⟨g5, rfl, hg5⟩, rfl⟩, rfl⟩ := h
 exact ⟨⟨c, u, g0, g1, g2, g3, g4, g5⟩, rfl⟩
end Go.Proofs.YtcihalbakenleaaGreat
namespace Go.Proofs.YtcihalbakenleaaGreat
open Go.RowKit
/-- the heads that sound at a tick -/
def soundS (v : Vo) (L t : Int) : List Hd := if atE v L t ≠ 0 then [] else match v.evs[(atV v L t).1.toNat]? with
 | some x => x.heads
 | none => []
end Go.Proofs.YtcihalbakenleaaGreat
namespace Go.Proofs.YtcihalbakenleaaGreat
/-- the pitches that sound at a tick, of pitches with lengths -/
def sndL : List (List Pit × Int) → Int → List Pit
  | [], _ => []
  | (p, w) :: r, t => if t < w then p else sndL r (t - w)
def evP (e : Ev) : List Pit := pitsOf e.heads
/-- the pitches and lengths of a voice -/
def zipV (es : List Ev) (ls : List Int) : List (List Pit × Int) := (es.map evP).zip ls
end Go.Proofs.YtcihalbakenleaaGreat
namespace Go.Proofs.YtcihalbakenleaaGreat
open Go.RowKit
/-- is a number one of the first j powers of two? -/
def powJ (u : Int) (j : Nat) : Bool := (List.range j).any fun i => decide (u = 2 ^ i)
theorem powJ_succ (u : Int) (j : Nat) : powJ u (j + 1) = (powJ u j || decide (u = 2 ^ j)) := by
 unfold powJ; rw [List.range_succ, List.any_append]; simp
theorem pow7 {j : Nat} (h : j ≤ 7) : (j < 7 ∧ 1 ≤ (2 : Int) ^ j ∧ (2 : Int) ^ j ≤ 64) ∨ (j = 7 ∧ (2 : Int) ^ j = 128) := by
 match j, h with
 | 0, _ => decide
 | 1, _ => decide
 | 2, _ => decide
 | 3, _ => decide
 | 4, _ => decide
 | 5, _ => decide
 | 6, _ => decide
 | 7, _ => decide
 | j + 8, h => omega
theorem pow_iff {m : Me} : powJ m.unit 7 = true ↔ ¬ (m.unit < 1 ∨ 64 < m.unit ∨ ¬ m.pow) := by
 have h0 : ∀ n : Nat, n < 65 → (powJ (n : Int) 7 = true ↔ ¬ ((n : Int) < 1 ∨ 64 < (n : Int) ∨ ¬ (((n : Int).toNat &&& ((n : Int) - 1).toNat : Nat) : Int) = 0)) := by decide +kernel
 by_cases c : 0 ≤ m.unit ∧ m.unit ≤ 64
 ·obtain ⟨n, hn⟩ := Int.eq_ofNat_of_zero_le c.1
  have := h0 n (by omega)
  unfold Me.pow
  rw [hn]; exact this
 ·constructor
  ·intro h
   unfold powJ at h
   rw [List.any_eq_true] at h
   obtain ⟨i, hi, h⟩ := h
   have hi := List.mem_range.1 hi
   have h := of_decide_eq_true h
   have := pow7 (j := i) (by omega)
   omega
  ·intro h; omega
/-- the groups' sum and number, as far as they fit -/
theorem flat_n {m : Me} {s n : Int} (h : gGo 0 0 0 m.gs = some (s, n)) : m.flat ↔ n = 0 := by
 have hg : ∀ (l : List Int) (k : Nat) (s n s' n' : Int), gGo k s n l = some (s', n') → 0 ≤ n → n ≤ n' ∧ (n' = n ↔ ∀ g ∈ l, g = 0) := by
  intro l
  induction l with
  | nil =>
   intro k s n s' n' h _
   rw [gGo] at h; cases h
   exact ⟨Int.le_refl _, fun _ g hg => (by cases hg), fun _ => rfl⟩
  | cons g l ih =>
   intro k s n s' n' h h0
   rw [gGo] at h
   split at h
   ·cases h
   ·rename_i c
    split at h
    ·rename_i c2
     obtain ⟨h1, h2⟩ := ih _ _ _ _ _ h (by omega)
     exact ⟨by omega, fun e => by omega, fun e => by have := e g List.mem_cons_self; omega⟩
    ·rename_i c2
     obtain ⟨h1, h2⟩ := ih _ _ _ _ _ h h0
     refine ⟨h1, fun e x hx => ?_, fun e => h2.2 fun x hx => e x (List.mem_cons_of_mem _ hx)⟩
     rcases List.mem_cons.1 hx with q | q
     ·rw [q]; omega
     ·exact h2.1 e x q
 have h2 := (hg m.gs 0 0 0 s n h (Int.le_refl _)).2
 rw [h2]
 unfold Me.flat Me.gs
 simp only [List.mem_cons, List.not_mem_nil, or_false, forall_eq_or_imp, forall_eq]
theorem grp_ref {m : Me} {s n : Int} (h : gGo 0 0 0 m.gs = some (s, n)) (h0 : 0 ≤ n) : m.grouped ↔ ¬ (n = 1 ∨ (1 < n ∧ s ≠ m.count)) := by
 by_cases c : m.flat
 ·have := (flat_n h).1 c
  exact ⟨fun _ => by omega, fun _ => .inl c⟩
 ·have hn := (not_congr (flat_n h)).1 c
  rw [grp_at c h]; omega
theorem me_19 {m : Me} (h : ¬ (m.count < 1 ∨ 64 < m.count)) (h2 : powJ m.unit 7 = true) (h3 : ¬ m.grouped) : 19 = m.err := me_3 h (pow_iff.1 h2) h3
theorem me_00 {m : Me} (h : ¬ (m.count < 1 ∨ 64 < m.count)) (h2 : powJ m.unit 7 = true) (h3 : m.grouped) : 0 = m.err := me_4 h (pow_iff.1 h2) h3
theorem me_17 {m : Me} (h : ¬ (m.count < 1 ∨ 64 < m.count)) (h2 : ¬ powJ m.unit 7 = true) : 17 = m.err := me_2 h (Decidable.not_not.1 fun k => h2 (pow_iff.2 k))
theorem no_grp {m : Me} (h1 : gGo 0 0 0 m.gs = none) : ¬ m.grouped := by
 rintro (h | h)
 ·have : m.gs = [0, 0, 0, 0, 0, 0] := by unfold Me.flat at h; unfold Me.gs; rw [h.1, h.2.1, h.2.2.1, h.2.2.2.1, h.2.2.2.2.1, h.2.2.2.2.2]
  rw [this] at h1
  revert h1; decide
 ·rw [h1] at h; exact h
theorem gs_box {m : Me} {k : Nat} {g : Int} (h : m.gs[k]? = some g) : ((Me.c m).map S.d)[2 + k]? = some (S.d (dI g)) := by
 have : (m.gs.map fun g => S.d (dI g))[k]? = some (S.d (dI g)) := by rw [List.getElem?_map, h]; rfl
 have e : ((Me.c m).map S.d) = [S.d (dI m.count), S.d (dI m.unit)] ++ m.gs.map fun g => S.d (dI g) := rfl
 rw [e, List.getElem?_append_right (by simp)]
 simpa using this
theorem notb {b : Bool} (h : (!b) = true) : ¬ b = true := by cases b <;> simp_all
theorem notb2 {b : Bool} (h : (!b) = false) : b = true := by cases b <;> simp_all
theorem rCheck04_xc (m : Me) : XC Tryz.prog 36 [.agg (Me.c m)] (fun r => r = dI m.err) := by
 refine xc_body callable_36 Tryz.func36 rfl rfl (Nat.le_of_ble_eq_true rfl) ?_
 refine zr ?_
 refine XL.step rfl (st_boxN 1 (l := [.d (dI m.count), .d (dI m.unit), .d (dI m.g0), .d (dI m.g1), .d (dI m.g2), .d (dI m.g3), .d (dI m.g4), .d (dI m.g5)]) rfl rfl (by kernel_rfl)) ?_
 refine za rfl rfl ?_
 refine zn ?_
 refine zs ?_
 refine zr ?_
 refine zp (p_fld_ptr rfl rfl fld_28_0) ?_
 refine zp (p_load_box rfl rfl sc_3 rfl rfl) ?_
 refine zp (p_lss rfl rfl rfl) ?_
 refine zm rfl rfl ?_
 refine XL.dec 12 rfl (fun g12 => ?_) (fun g12 => ?_)
 refine zk 3 rfl ?_
 refine zq rfl rfl rfl ?_
 refine zn ?_
 refine xw_true (by kernel_rfl) rfl ?_
 refine zr ?_
 refine za rfl rfl ?_
 refine zn ?_
 refine zt ?_
 exact z1 rfl rfl (rI (me_1 (.inl g12)))
 refine zp (p_fld_ptr rfl rfl fld_28_0) ?_
 refine zp (p_load_box rfl rfl sc_3 rfl rfl) ?_
 refine zp (p_gtr rfl rfl rfl) ?_
 refine zq rfl rfl rfl ?_
 refine zn ?_
 refine zd rfl (fun c16 => ?_) (fun c16 => ?_)
 refine zr ?_
 refine za rfl rfl ?_
 refine zn ?_
 refine zt ?_
 exact z1 rfl rfl (rI (me_1 (.inr c16)))
 refine zi ?_
 refine zr ?_
 refine za rfl rfl ?_
 refine zn ?_
 refine zs ?_
 refine zr ?_
 refine za rfl rfl ?_
 refine zn ?_
 refine xw_block ?_
 refine xw_loop (α := Nat) (fun j => j ≤ 7) (fun j => mkF [(1, .ptr 1 0 0), (2, .d (dI 0)), (3, .d (dB (powJ m.unit j))), (4, .d (dI (2 ^ j)))]) (fun j => mkH [(1, .box ((Me.c m).map S.d))]) (fun j => 7 - j) (0) (Nat.zero_le _) ?_ ?_ ?_
 exact fz ⟨sr, sr, sr, .same (sI (by decide)), trivial⟩
 exact gz ⟨rfl, trivial⟩
 intro j hk0
 have hp7 := pow7 hk0
 refine zs ?_
 refine zr ?_
 refine zm rfl rfl ?_
 refine zp (p_leq rfl rfl rfl) ?_
 refine zn ?_
 refine zd rfl (fun c18 => ?_) (fun c18 => ?_)
 refine zi ?_
 refine zs ?_
 refine xw_block ?_
 refine xw_region (by kernel_rfl) ?_
 refine zm rfl rfl ?_
 refine zm rfl rfl ?_
 refine XL.bool 22 rfl (fun g22 => ?_) (fun g22 => ?_)
 refine zk 4 rfl ?_
 refine zq rfl rfl rfl ?_
 refine za rfl rfl ?_
 refine zn ?_
 refine xw_region (by kernel_rfl) ?_
 refine zm rfl rfl ?_
 refine zp (p_mul rfl rfl rfl (by omega) (by omega)) ?_
 refine za rfl rfl ?_
 refine zn ?_
 exact k_round (j + 1) (by omega) (by omega) (fz ⟨sr, sr, .same (sB (by rw [powJ_succ, g22]; rfl)), .same (sI (by rw [Int.pow_succ]; omega)), trivial⟩) (gz ⟨rfl, trivial⟩)
 refine zp (p_fld_ptr rfl rfl fld_28_1) ?_
 refine zp (p_load_box rfl rfl sc_3 rfl rfl) ?_
 refine zm rfl rfl ?_
 refine zp (p_eql rfl rfl rfl) ?_
 refine zq rfl rfl rfl ?_
 refine za rfl rfl ?_
 refine zn ?_
 refine xw_region (by kernel_rfl) ?_
 refine zm rfl rfl ?_
 refine zp (p_mul rfl rfl rfl (by omega) (by omega)) ?_
 refine za rfl rfl ?_
 refine zn ?_
 exact k_round (j + 1) (by omega) (by omega) (fz ⟨sr, sr, .same (sB (by rw [powJ_succ, g22]; rfl)), .same (sI (by rw [Int.pow_succ]; omega)), trivial⟩) (gz ⟨rfl, trivial⟩)
 have hj7 : j = 7 := by omega
 subst hj7
 refine xw_exit ?_
 refine zs ?_
 refine zr ?_
 refine zm rfl rfl ?_
 refine zp (p_not rfl rfl) ?_
 refine zn ?_
 refine xw_cond (by kernel_rfl) rfl (fun c29 => ?_) (fun c29 => ?_)
 refine zr ?_
 refine za rfl rfl ?_
 refine zn ?_
 refine zt ?_
 exact z1 rfl rfl (rI (me_17 (by omega) (notb c29)))
 have hpw := notb2 c29
 refine zi ?_
 refine zr ?_
 refine za rfl rfl ?_
 refine za rfl rfl ?_
 refine zn ?_
 refine zs ?_
 refine zr ?_
 refine za rfl rfl ?_
 refine zn ?_
 refine xw_block ?_
 refine xw_loop (α := Nat × Int × Int) (fun p => p.1 ≤ 6 ∧ gGo p.1 p.2.1 p.2.2 (m.gs.drop p.1) = gGo 0 0 0 m.gs ∧ 0 ≤ p.2.1 ∧ p.2.1 ≤ 64 * p.1 ∧ 0 ≤ p.2.2 ∧ p.2.2 ≤ p.1) (fun p => mkF [(1, .ptr 1 0 0), (5, .d (dI p.2.1)), (6, .d (dI p.2.2)), (7, .d (dI (p.1 : Nat)))]) (fun p => mkH [(1, .box ((Me.c m).map S.d))]) (fun p => 6 - p.1) ((0, 0, 0)) (⟨Nat.zero_le _, rfl, by simp, by simp, by simp, by simp⟩) ?_ ?_ ?_
 exact fz ⟨sr, sr, sr, sr, trivial⟩
 exact gz ⟨rfl, trivial⟩
 intro p hk2
 obtain ⟨hk, hgo, hs0, hs1, hn0, hn1⟩ := hk2
 refine zs ?_
 refine zr ?_
 refine zm rfl rfl ?_
 refine zp (p_lss rfl rfl rfl) ?_
 refine zn ?_
 refine zd rfl (fun c31 => ?_) (fun c31 => ?_)
 obtain ⟨g, hg⟩ : ∃ g, m.gs[p.1]? = some g := get_ex (by show p.1 < 6; omega)
 refine zi ?_
 refine zs ?_
 refine xw_block ?_
 refine zr ?_
 refine zm rfl rfl ?_
 refine zp (p_fld_ptr rfl rfl fld_28_2) ?_
 refine zp (p_idx_arr rfl rfl rfl Tryz.underlying26 sz_3 (by omega)) ?_
 refine zp (p_load_box rfl rfl sc_3 rfl (gs_box hg)) ?_
 refine za rfl rfl ?_
 refine zn ?_
 refine zs ?_
 refine zr ?_
 refine zm rfl rfl ?_
 refine zp (p_lss rfl rfl rfl) ?_
 refine zm rfl rfl ?_
 refine XL.dec 40 rfl (fun g40 => ?_) (fun g40 => ?_)
 refine zk 2 rfl ?_
 refine zq rfl rfl rfl ?_
 refine zm rfl rfl ?_
 refine zk 7 rfl ?_
 refine zq rfl rfl rfl ?_
 refine zn ?_
 refine xw_true (by kernel_rfl) rfl ?_
 refine zr ?_
 refine za rfl rfl ?_
 refine zn ?_
 refine zt ?_
 exact z1 rfl rfl (rI (me_19 (by omega) hpw (no_grp (by rw [← hgo]; exact gGo_none hg (by omega)))))
 refine zm rfl rfl ?_
 refine zp (p_gtr rfl rfl rfl) ?_
 refine zq rfl rfl rfl ?_
 refine zm rfl rfl ?_
 refine XL.dec 44 rfl (fun g44 => ?_) (fun g44 => ?_)
 refine zk 7 rfl ?_
 refine zq rfl rfl rfl ?_
 refine zn ?_
 refine xw_true (by kernel_rfl) rfl ?_
 refine zr ?_
 refine za rfl rfl ?_
 refine zn ?_
 refine zt ?_
 exact z1 rfl rfl (rI (me_19 (by omega) hpw (no_grp (by rw [← hgo]; exact gGo_none hg (by omega)))))
 refine zm rfl rfl ?_
 refine zp (p_gtr rfl rfl rfl) ?_
 refine zm rfl rfl ?_
 refine XL.dec 47 rfl (fun g47 => ?_) (fun g47 => ?_)
 refine zm rfl rfl ?_
 refine zm rfl rfl ?_
 refine zp (p_lss rfl rfl rfl) ?_
 refine zq rfl rfl rfl ?_
 refine zq rfl rfl rfl ?_
 refine zn ?_
 refine zd rfl (fun c52 => ?_) (fun c52 => ?_)
 refine zr ?_
 refine za rfl rfl ?_
 refine zn ?_
 refine zt ?_
 exact z1 rfl rfl (rI (me_19 (by omega) hpw (no_grp (by rw [← hgo]; exact gGo_none hg (by omega)))))
 refine zi ?_
 refine zr ?_
 refine zm rfl rfl ?_
 refine zp (p_gtr rfl rfl rfl) ?_
 refine zn ?_
 refine zd rfl (fun c54 => ?_) (fun c54 => ?_)
 refine xw_region (by kernel_rfl) ?_
 refine zm rfl rfl ?_
 refine zm rfl rfl ?_
 refine zp (p_add rfl rfl rfl (by omega) (by omega)) ?_
 refine zm rfl rfl ?_
 refine zp (p_add rfl rfl rfl (by omega) (by omega)) ?_
 refine za rfl rfl ?_
 refine za rfl rfl ?_
 refine zn ?_
 refine xw_region (by kernel_rfl) ?_
 refine zm rfl rfl ?_
 refine zp (p_add rfl rfl rfl (by omega) (by omega)) ?_
 refine za rfl rfl ?_
 refine zn ?_
 exact k_round ((p.1 + 1, p.2.1 + g, p.2.2 + 1)) (⟨by simp only; omega, by rw [← gGo_yes hg (by omega) c54]; exact hgo, by simp only; omega, by simp only; omega, by simp only; omega, by simp only; omega⟩) (by simp only; omega) (fz ⟨sr, sr, sr, sr, trivial⟩) (gz ⟨rfl, trivial⟩)
 refine zi ?_
 refine xw_region (by kernel_rfl) ?_
 refine zm rfl rfl ?_
 refine zp (p_add rfl rfl rfl (by omega) (by omega)) ?_
 refine za rfl rfl ?_
 refine zn ?_
 exfalso; omega
 refine zk 3 rfl ?_
 refine zq rfl rfl rfl ?_
 refine zq rfl rfl rfl ?_
 refine zn ?_
 refine xw_false (by kernel_rfl) rfl ?_
 refine zi ?_
 refine zr ?_
 refine zm rfl rfl ?_
 refine zp (p_gtr rfl rfl rfl) ?_
 refine zn ?_
 refine zd rfl (fun c54 => ?_) (fun c54 => ?_)
 refine xw_region (by kernel_rfl) ?_
 refine zm rfl rfl ?_
 refine zm rfl rfl ?_
 refine zp (p_add rfl rfl rfl (by omega) (by omega)) ?_
 refine zm rfl rfl ?_
 refine zp (p_add rfl rfl rfl (by omega) (by omega)) ?_
 refine za rfl rfl ?_
 refine za rfl rfl ?_
 refine zn ?_
 refine xw_region (by kernel_rfl) ?_
 refine zm rfl rfl ?_
 refine zp (p_add rfl rfl rfl (by omega) (by omega)) ?_
 refine za rfl rfl ?_
 refine zn ?_
 exfalso; omega
 refine zi ?_
 refine xw_region (by kernel_rfl) ?_
 refine zm rfl rfl ?_
 refine zp (p_add rfl rfl rfl (by omega) (by omega)) ?_
 refine za rfl rfl ?_
 refine zn ?_
 exact k_round ((p.1 + 1, p.2.1, p.2.2)) (⟨by simp only; omega, by rw [← gGo_no hg (by omega) c54]; exact hgo, by simp only; omega, by simp only; omega, by simp only; omega, by simp only; omega⟩) (by simp only; omega) (fz ⟨sr, sr, sr, sr, trivial⟩) (gz ⟨rfl, trivial⟩)
 have hke : p.1 = 6 := by omega
 have hend : gGo 0 0 0 m.gs = some (p.2.1, p.2.2) := by rw [← hgo, hke]; rfl
 have hgr := grp_ref hend hn0
 refine xw_exit ?_
 refine zs ?_
 refine zr ?_
 refine zm rfl rfl ?_
 refine zp (p_eql rfl rfl rfl) ?_
 refine zm rfl rfl ?_
 refine XL.dec 62 rfl (fun g62 => ?_) (fun g62 => ?_)
 refine zk 8 rfl ?_
 refine zq rfl rfl rfl ?_
 refine zn ?_
 refine xw_true (by kernel_rfl) rfl ?_
 refine zr ?_
 refine za rfl rfl ?_
 refine zn ?_
 refine zt ?_
 exact z1 rfl rfl (rI (me_19 (by omega) hpw (fun k => hgr.1 k (.inl g62))))
 refine zm rfl rfl ?_
 refine zp (p_gtr rfl rfl rfl) ?_
 refine zm rfl rfl ?_
 refine XL.dec 65 rfl (fun g65 => ?_) (fun g65 => ?_)
 refine zm rfl rfl ?_
 refine zp (p_fld_ptr rfl rfl fld_28_0) ?_
 refine zp (p_load_box rfl rfl sc_3 rfl rfl) ?_
 refine zp (p_neq rfl rfl rfl) ?_
 refine zq rfl rfl rfl ?_
 refine zq rfl rfl rfl ?_
 refine zn ?_
 refine zd rfl (fun c71 => ?_) (fun c71 => ?_)
 refine zr ?_
 refine za rfl rfl ?_
 refine zn ?_
 refine zt ?_
 exact z1 rfl rfl (rI (me_19 (by omega) hpw (fun k => hgr.1 k (by omega))))
 refine zi ?_
 refine zr ?_
 refine za rfl rfl ?_
 refine zn ?_
 refine zt ?_
 exact z1 rfl rfl (rI (me_00 (by omega) hpw (hgr.2 (by omega))))
 refine zk 4 rfl ?_
 refine zq rfl rfl rfl ?_
 refine zq rfl rfl rfl ?_
 refine zn ?_
 refine xw_false (by kernel_rfl) rfl ?_
 refine zi ?_
 refine zr ?_
 refine za rfl rfl ?_
 refine zn ?_
 refine zt ?_
 exact z1 rfl rfl (rI (me_00 (by omega) hpw (hgr.2 (by omega))))
def Pl.err (p : Pl) : Int := if p.m.err ≠ 0 then p.m.err else if p.bad then 2 else 0
end Go.Proofs.YtcihalbakenleaaGreat
namespace Go.Proofs.YtcihalbakenleaaGreat
open Go.RowKit
theorem r4unit_xc (m : Me) (h : Mok m) : XC Tryz.prog 161 [.agg (Me.c m)] (fun r => r = dI m.u) := by
 have hu := h.unit
 refine xc_body callable_161 Tryz.func161 rfl rfl (Nat.le_of_ble_eq_true rfl) ?_
 refine zr ?_
 refine XL.step rfl (st_boxN 1 (l := [.d (dI m.count), .d (dI m.unit), .d (dI m.g0), .d (dI m.g1), .d (dI m.g2), .d (dI m.g3), .d (dI m.g4), .d (dI m.g5)]) rfl rfl (by kernel_rfl)) ?_
 refine za rfl rfl ?_
 refine znr ?_
 refine zp (p_fld_ptr rfl rfl fld_28_1) ?_
 refine zp (p_load_box rfl rfl sc_3 rfl rfl) ?_
 refine zp (p_quo rfl rfl rfl (by omega) (by omega) (by omega)) ?_
 refine za rfl rfl ?_
 refine zn ?_
 refine zt ?_
 exact z1 rfl rfl (rI rfl)
theorem r4len_xc (m : Me) (h : Mok m) : XC Tryz.prog 157 [.agg (Me.c m)] (fun r => r = dI m.len) := by
 have hu := h.u
 have hc := h.count
 have hl := h.len
 have hl2 : m.count * m.u = m.len := rfl
 refine xc_body callable_157 Tryz.func157 rfl rfl (Nat.le_of_ble_eq_true rfl) ?_
 refine zr ?_
 refine XL.step rfl (st_boxN 1 (l := [.d (dI m.count), .d (dI m.unit), .d (dI m.g0), .d (dI m.g1), .d (dI m.g2), .d (dI m.g3), .d (dI m.g4), .d (dI m.g5)]) rfl rfl (by kernel_rfl)) ?_
 refine za rfl rfl ?_
 refine zn ?_
 refine zs ?_
 refine xw_any [] (by kernel_rfl) (by kernel_rfl) (by kernel_rfl) (by decide) ?_
 refine yp (p_fld_ptr rfl rfl fld_28_0) ?_
 refine yp (p_load_box rfl rfl sc_3 rfl rfl) ?_
 refine yp (pure_eq (s' := .d (.agg (Me.c m))) (norm_pure (p_load_boxs rfl rfl agg_28 rfl (Nat.le_of_ble_eq_true rfl))) (by kernel_rfl)) ?_
 refine ChK.cons rfl (CStep.call rfl (r4unit_xc _ (by assumption)) rfl) ?_
 refine yp (p_mul rfl rfl rfl (by omega) (by omega)) ?_
 refine ya rfl rfl ?_
 refine ChK.nil ⟨by kernel_rfl, ?_⟩
 refine zt ?_
 exact z1 rfl rfl (rI rfl)
/-- the groups of a valid time signature come first -/
theorem gGo_pre : ∀ (l : List Int) (k : Nat) (s n s' n' : Int), gGo k s n l = some (s', n') → n ≤ k → (n < k → ∀ g ∈ l, g = 0) ∧ (n = k → l.filter nz = l.takeWhile fun g => decide (0 < g))
 | [], k, s, n, s', n', h, hn => ⟨fun _ g hg => (by cases hg), fun _ => rfl⟩
 | g :: l, k, s, n, s', n', h, hn => by
  rw [gGo] at h
  split at h
  ·cases h
  ·rename_i c
   split at h
   ·rename_i c2
    have hk : (k : Int) = n := by omega
    obtain ⟨h1, h2⟩ := gGo_pre l (k + 1) _ _ _ _ h (by omega)
    refine ⟨fun e => by omega, fun e => ?_⟩
    rw [List.filter_cons_of_pos (nz_yes (by omega)), List.takeWhile_cons_of_pos (by simpa using c2), h2 (by omega)]
   ·rename_i c2
    obtain ⟨h1, h2⟩ := gGo_pre l (k + 1) _ _ _ _ h (by omega)
    have h3 := h1 (by omega)
    refine ⟨fun e x hx => ?_, fun e => ?_⟩
    ·rcases List.mem_cons.1 hx with q | q
     ·omega
     ·exact h3 x q
    ·rw [List.filter_cons_of_neg (by rw [nz_no (by omega)]; exact Bool.false_ne_true), List.takeWhile_cons_of_neg (by simpa using c2)]
     exact List.filter_eq_nil_iff.2 fun x hx => by rw [nz_no (h3 x hx)]; exact Bool.false_ne_true
theorem grp_pre {m : Me} (h : m.grouped) : m.gs.filter nz = m.gs.takeWhile fun g => decide (0 < g) := by
 rcases h with h | h
 ·have : m.gs = [0, 0, 0, 0, 0, 0] := by unfold Me.flat at h; unfold Me.gs; rw [h.1, h.2.1, h.2.2.1, h.2.2.2.1, h.2.2.2.2.1, h.2.2.2.2.2]
  rw [this]; rfl
 ·cases hg : gGo 0 0 0 m.gs with
  | none => rw [hg] at h; exact h.elim
  | some p => exact (gGo_pre m.gs 0 0 0 p.1 p.2 hg (Int.le_refl _)).2 rfl
theorem tw_at {p : Int → Bool} : ∀ {l : List Int} {k : Nat}, k ≤ l.length → (∀ (j : Nat) x, j < k → l[j]? = some x → p x = true) → (k = l.length ∨ ∃ x, l[k]? = some x ∧ p x = false) → l.takeWhile p = l.take k
 | [], k, _, _, _ => by rw [List.takeWhile_nil, List.take_nil]
 | x :: l, 0, _, _, h => by
  rcases h with h | ⟨y, h1, h2⟩
  ·simp at h
  ·cases h1; rw [List.takeWhile_cons_of_neg (by rw [h2]; decide)]; rfl
 | x :: l, k + 1, hk, h, h2 => by
  rw [List.takeWhile_cons_of_pos (h 0 x (by omega) rfl), List.take_succ_cons, tw_at (k := k) (by simpa using hk) (fun j y hj hy => h (j + 1) y (by omega) hy)]
  rcases h2 with h2 | ⟨y, h4, h5⟩
  ·left; simpa using h2
  ·right; exact ⟨y, by simpa using h4, h5⟩
/-- how long a group is that is not said -/
def Me.gsz (m : Me) : Int := if 8 ≤ m.unit ∧ m.count % 3 = 0 then 3 else 1
theorem gsz_3 {m : Me} (h : 8 ≤ m.unit ∧ m.count % 3 = 0) : m.gsz = 3 := by rw [Me.gsz, if_pos h]
theorem gsz_1 {m : Me} (h : ¬ (8 ≤ m.unit ∧ m.count % 3 = 0)) : m.gsz = 1 := by rw [Me.gsz, if_neg h]
theorem gsz_bd (m : Me) : 1 ≤ m.gsz ∧ m.gsz ≤ 3 := by unfold Me.gsz; split <;> omega
theorem gsz_le (m : Me) (j : Nat) : (j : Int) ≤ m.gsz * j := by unfold Me.gsz; split <;> omega
theorem grp_rep {m : Me} (h : m.flat) {j : Nat} (h1 : m.count ≤ m.gsz * j) (h2 : j = 0 ∨ m.gsz * (j - 1 : Nat) < m.count) (hc : 1 ≤ m.count) : List.replicate j m.gsz = m.groups := by
 unfold Me.gsz at *
 by_cases c : 8 ≤ m.unit ∧ m.count % 3 = 0
 ·rw [if_pos c] at h1 h2 ⊢
  rw [grp_2 (fun k => k h) c, show j = (m.count / 3).toNat by omega]
 ·rw [if_neg c] at h1 h2 ⊢
  rw [grp_3 (fun k => k h) c, show j = m.count.toNat by omega]
theorem flat_of {m : Me} (h : m.grouped) (h0 : m.g0 = 0) : m.flat := by
 have h1 := grp_pre h
 have : m.gs.takeWhile (fun g => decide (0 < g)) = [] := by
  show (m.g0 :: [m.g1, m.g2, m.g3, m.g4, m.g5]).takeWhile _ = []
  rw [List.takeWhile_cons_of_neg (by rw [h0]; decide)]
 rw [this, List.filter_eq_nil_iff] at h1
 have hz : ∀ g ∈ m.gs, g = 0 := fun g hg => by
  refine Decidable.not_not.1 fun k => h1 g hg (nz_yes k)
 unfold Me.flat
 unfold Me.gs at hz
 simp only [List.mem_cons, List.not_mem_nil, or_false, forall_eq_or_imp, forall_eq] at hz
 exact hz
theorem not_flat {m : Me} (h : ¬ m.g0 = 0) : ¬ m.flat := fun k => h k.1
theorem rep_snoc (n : Nat) (x : Int) : List.replicate (n + 1) x = List.replicate n x ++ [x] := List.replicate_succ'
theorem grp_done {m : Me} (h : m.grouped) {k : Nat} (hk : m.gs.takeWhile (fun g => decide (0 < g)) = m.gs.take k) (h0 : ¬ m.g0 = 0) : m.gs.take k = m.groups := by rw [grp_1 (not_flat h0), grp_pre h, hk]
theorem grp_flat0 {m : Me} (h : m.flat) {k : Nat} (hk : m.gs.takeWhile (fun g => decide (0 < g)) = m.gs.take k) : m.gs.take k = [] := by
 rw [← hk]
 show (m.g0 :: [m.g1, m.g2, m.g3, m.g4, m.g5]).takeWhile _ = []
 rw [List.takeWhile_cons_of_neg (by rw [h.1]; decide)]
theorem r4groups_xc (m : Me) (h : Mok m) : XC Tryz.prog 160 [.agg (Me.c m)] (fun r => r = .sl 1 (ints m.groups)) := by
 have hgr := h.grp
 have hc := h.count
 have hz := gsz_bd m
 have hgl : m.gs.length = 6 := rfl
 refine xc_body callable_160 Tryz.func160 rfl rfl (Nat.le_of_ble_eq_true rfl) ?_
 refine zr ?_
 refine XL.step rfl (st_boxN 1 (l := [.d (dI m.count), .d (dI m.unit), .d (dI m.g0), .d (dI m.g1), .d (dI m.g2), .d (dI m.g3), .d (dI m.g4), .d (dI m.g5)]) rfl rfl (by kernel_rfl)) ?_
 refine za rfl rfl ?_
 refine znr ?_
 refine za rfl rfl ?_
 refine zn ?_
 refine zs ?_
 refine zr ?_
 refine za rfl rfl ?_
 refine zn ?_
 refine xw_block ?_
 refine xw_ownnil 900 3 3 1 rfl ?_
 refine xw_loop (α := Nat) (fun k => k ≤ 6 ∧ ∀ (j : Nat) x, j < k → m.gs[j]? = some x → decide (0 < x) = true) (fun k => mkF [(1, .ptr 1 0 0), (2, .d (.v (.slice none 0 0))), (3, .own 900), (4, .d (dI (k : Nat)))]) (fun k => mkH [(1, .box ((Me.c m).map S.d)), (900, .row 3 1 ((m.gs.take k).map iv))]) (fun k => 6 - k) (0) (⟨Nat.zero_le _, fun j x hj => absurd hj (Nat.not_lt_zero _)⟩) ?_ ?_ ?_
 exact fz ⟨sr, sr, sr, sr, trivial⟩
 exact gz ⟨rfl, rfl, trivial⟩
 intro k hk0
 obtain ⟨hk, hall⟩ := hk0
 have htl : (m.gs.take k).length = k := by rw [List.length_take]; omega
 refine zs ?_
 refine zr ?_
 refine zm rfl rfl ?_
 refine zp (p_lss rfl rfl rfl) ?_
 refine zm rfl rfl ?_
 refine XL.dec 9 rfl (fun g9 => ?_) (fun g9 => ?_)
 obtain ⟨g, hg⟩ : ∃ g, m.gs[k]? = some g := get_ex (by omega)
 refine zm rfl rfl ?_
 refine zp (p_fld_ptr rfl rfl fld_28_2) ?_
 refine zp (p_idx_arr rfl rfl rfl Tryz.underlying26 sz_3 (by omega)) ?_
 refine zp (p_load_box rfl rfl sc_3 rfl (gs_box hg)) ?_
 refine zp (p_gtr rfl rfl rfl) ?_
 refine zq rfl rfl rfl ?_
 refine zn ?_
 refine zd rfl (fun c15 => ?_) (fun c15 => ?_)
 refine zi ?_
 refine zs ?_
 refine xw_block ?_
 refine xw_region (by kernel_rfl) ?_
 refine zp (p_move rfl (by conv => lhs; whnf)) ?_
 refine zm rfl rfl ?_
 refine zp (p_fld_ptr rfl rfl fld_28_2) ?_
 refine zp (p_idx_arr rfl rfl rfl Tryz.underlying26 sz_3 (by omega)) ?_
 refine zp (p_load_box rfl rfl sc_3 rfl (gs_box hg)) ?_
 refine XL.step rfl (st_slice 23 rfl Tryz.underlying64 sz_3 zero_3 rfl rfl (by omega) (by omega)) ?_
 refine XL.step rfl (st_append rfl elt_64 (.own rfl) (Src.own rfl) (by unfold maxLen; simp; omega) (by simp; omega)) ?_
 refine zp (p_assign rfl (by conv => lhs; whnf)) ?_
 refine zn ?_
 refine xw_region (by kernel_rfl) ?_
 refine zm rfl rfl ?_
 refine zp (p_add rfl rfl rfl (by omega) (by omega)) ?_
 refine za rfl rfl ?_
 refine zn ?_
 exact k_round (k + 1) (⟨by omega, fun j x hj hx => by by_cases e : j = k; (· subst e; rw [hg] at hx; cases hx; exact decide_eq_true c15); (· exact hall j x (by omega) hx)⟩) (by omega) (fz ⟨sr, sr, sr, sr, trivial⟩) (gz ⟨rfl, sApp rfl (take_snoc hg), trivial⟩)
 have htw := tw_at (p := fun g => decide (0 < g)) (l := m.gs) (k := k) (by omega) hall (.inr ⟨g, hg, decide_eq_false c15⟩)
 refine xw_exit ?_
 refine zr ?_
 refine za rfl rfl ?_
 refine zn ?_
 refine zs ?_
 refine zr ?_
 refine zp (p_fld_ptr rfl rfl fld_28_1) ?_
 refine zp (p_load_box rfl rfl sc_3 rfl rfl) ?_
 refine zp (p_geq rfl rfl rfl) ?_
 refine zm rfl rfl ?_
 refine XL.dec 28 rfl (fun g28 => ?_) (fun g28 => ?_)
 refine zp (p_fld_ptr rfl rfl fld_28_0) ?_
 refine zp (p_load_box rfl rfl sc_3 rfl rfl) ?_
 refine zp (p_rem rfl rfl rfl (by omega) (by omega)) ?_
 refine zp (p_eql rfl rfl rfl) ?_
 refine zq rfl rfl rfl ?_
 refine zn ?_
 refine zd rfl (fun c33 => ?_) (fun c33 => ?_)
 refine xw_region (by kernel_rfl) ?_
 refine za rfl rfl ?_
 refine zn ?_
 refine zs ?_
 refine zr ?_
 refine za rfl rfl ?_
 refine zn ?_
 refine xw_block ?_
 refine xw_loop (α := Nat) (fun j => m.gsz * j ≤ m.count + 2 ∧ (j = 0 ∨ (m.g0 = 0 ∧ m.gsz * (j - 1 : Nat) < m.count))) (fun j => mkF [(1, .ptr 1 0 0), (2, .d (.v (.slice none 0 0))), (3, .own 900), (5, .d (dI m.gsz)), (6, .d (dI (m.gsz * j)))]) (fun j => mkH [(1, .box ((Me.c m).map S.d)), (900, .row 3 1 ((m.gs.take k ++ List.replicate j m.gsz).map iv))]) (fun j => m.count.toNat + 3 - j) (0) (⟨by omega, .inl rfl⟩) ?_ ?_ ?_
 exact fz ⟨sr, sr, sr, .same (sI (by first | exact (gsz_3 ⟨g28, c33⟩).symm | exact (gsz_1 (fun k => c33 k.2)).symm | exact (gsz_1 (fun k => g28 k.1)).symm)), .same (sI (by rw [Int.natCast_zero, Int.mul_zero])), trivial⟩
 exact gz ⟨rfl, by rw [List.replicate_zero, List.append_nil]; rfl, trivial⟩
 intro j hk2
 obtain ⟨hj1, hj2⟩ := hk2
 have hj0 := gsz_le m j
 have hjj : j ≤ 66 := by unfold Me.gsz at hj1; split at hj1 <;> omega
 have hll : (m.gs.take k ++ List.replicate j m.gsz).length = k + j := by rw [List.length_append, List.length_replicate, List.length_take]; omega
 refine zs ?_
 refine zr ?_
 refine zm rfl rfl ?_
 refine zp (p_fld_ptr rfl rfl fld_28_0) ?_
 refine zp (p_load_box rfl rfl sc_3 rfl rfl) ?_
 refine zp (p_lss rfl rfl rfl) ?_
 refine zm rfl rfl ?_
 refine XL.dec 38 rfl (fun g38 => ?_) (fun g38 => ?_)
 refine zp (p_fld_ptr rfl rfl fld_28_2) ?_
 refine zp (p_idx_arr (k := 0) rfl rfl rfl Tryz.underlying26 sz_3 (by omega)) ?_
 refine zp (p_load_box rfl rfl sc_3 rfl rfl) ?_
 refine zp (p_eql rfl rfl rfl) ?_
 refine zq rfl rfl rfl ?_
 refine zn ?_
 refine zd rfl (fun c43 => ?_) (fun c43 => ?_)
 refine zi ?_
 refine zs ?_
 refine xw_block ?_
 refine xw_region (by kernel_rfl) ?_
 refine zp (p_move rfl (by conv => lhs; whnf)) ?_
 refine zm rfl rfl ?_
 refine XL.step rfl (st_slice 49 rfl Tryz.underlying64 sz_3 zero_3 rfl rfl (by omega) (by omega)) ?_
 refine XL.step rfl (st_append rfl elt_64 (.own rfl) (Src.own rfl) (by unfold maxLen; simp; omega) (by simp; omega)) ?_
 refine zp (p_assign rfl (by conv => lhs; whnf)) ?_
 refine zn ?_
 refine xw_region (by kernel_rfl) ?_
 refine zm rfl rfl ?_
 refine zm rfl rfl ?_
 refine zp (p_add rfl rfl rfl (by omega) (by omega)) ?_
 refine za rfl rfl ?_
 refine zn ?_
 exact k_round (j + 1) (⟨by rw [Int.natCast_add, Int.mul_add]; omega, .inr ⟨c43, by rw [Nat.add_sub_cancel]; exact g38⟩⟩) (by omega) (fz ⟨sr, sr, sr, sr, .same (sI (by rw [Int.natCast_add, Int.mul_add]; omega)), trivial⟩) (gz ⟨rfl, sApp rfl (by rw [rep_snoc, List.append_assoc]), trivial⟩)
 have hfin : (m.gs.take k ++ List.replicate j m.gsz) = m.groups := by rw [show j = 0 by omega, List.replicate_zero, List.append_nil]; exact grp_done hgr htw c43
 refine xw_exit ?_
 refine zr ?_
 refine zp (p_move rfl (by conv => lhs; whnf)) ?_
 refine zp (p_assign rfl (by conv => lhs; whnf)) ?_
 refine zn ?_
 refine zt ?_
 refine ret_freeze (i := 900) rfl ?_
 exact z1 rfl rfl (rSl hfin)
 have hfin : (m.gs.take k ++ List.replicate j m.gsz) = m.groups := by by_cases c0 : m.g0 = 0; (· rw [grp_flat0 (flat_of hgr c0) htw, List.nil_append]; exact grp_rep (flat_of hgr c0) (by omega) (by omega) hc.1); (· rw [show j = 0 by omega, List.replicate_zero, List.append_nil]; exact grp_done hgr htw c0)
 refine zk 4 rfl ?_
 refine zq rfl rfl rfl ?_
 refine zn ?_
 refine xw_false (by kernel_rfl) rfl ?_
 refine xw_exit ?_
 refine zr ?_
 refine zp (p_move rfl (by conv => lhs; whnf)) ?_
 refine zp (p_assign rfl (by conv => lhs; whnf)) ?_
 refine zn ?_
 refine zt ?_
 refine ret_freeze (i := 900) rfl ?_
 exact z1 rfl rfl (rSl hfin)
 refine zi ?_
 refine zs ?_
 refine zr ?_
 refine za rfl rfl ?_
 refine zn ?_
 refine xw_block ?_
 refine xw_loop (α := Nat) (fun j => m.gsz * j ≤ m.count + 2 ∧ (j = 0 ∨ (m.g0 = 0 ∧ m.gsz * (j - 1 : Nat) < m.count))) (fun j => mkF [(1, .ptr 1 0 0), (2, .d (.v (.slice none 0 0))), (3, .own 900), (5, .d (dI m.gsz)), (6, .d (dI (m.gsz * j)))]) (fun j => mkH [(1, .box ((Me.c m).map S.d)), (900, .row 3 1 ((m.gs.take k ++ List.replicate j m.gsz).map iv))]) (fun j => m.count.toNat + 3 - j) (0) (⟨by omega, .inl rfl⟩) ?_ ?_ ?_
 exact fz ⟨sr, sr, sr, .same (sI (by first | exact (gsz_3 ⟨g28, c33⟩).symm | exact (gsz_1 (fun k => c33 k.2)).symm | exact (gsz_1 (fun k => g28 k.1)).symm)), .same (sI (by rw [Int.natCast_zero, Int.mul_zero])), trivial⟩
 exact gz ⟨rfl, by rw [List.replicate_zero, List.append_nil]; rfl, trivial⟩
 intro j hk2
 obtain ⟨hj1, hj2⟩ := hk2
 have hj0 := gsz_le m j
 have hjj : j ≤ 66 := by unfold Me.gsz at hj1; split at hj1 <;> omega
 have hll : (m.gs.take k ++ List.replicate j m.gsz).length = k + j := by rw [List.length_append, List.length_replicate, List.length_take]; omega
 refine zs ?_
 refine zr ?_
 refine zm rfl rfl ?_
 refine zp (p_fld_ptr rfl rfl fld_28_0) ?_
 refine zp (p_load_box rfl rfl sc_3 rfl rfl) ?_
 refine zp (p_lss rfl rfl rfl) ?_
 refine zm rfl rfl ?_
 refine XL.dec 38 rfl (fun g38 => ?_) (fun g38 => ?_)
 refine zp (p_fld_ptr rfl rfl fld_28_2) ?_
 refine zp (p_idx_arr (k := 0) rfl rfl rfl Tryz.underlying26 sz_3 (by omega)) ?_
 refine zp (p_load_box rfl rfl sc_3 rfl rfl) ?_
 refine zp (p_eql rfl rfl rfl) ?_
 refine zq rfl rfl rfl ?_
 refine zn ?_
 refine zd rfl (fun c43 => ?_) (fun c43 => ?_)
 refine zi ?_
 refine zs ?_
 refine xw_block ?_
 refine xw_region (by kernel_rfl) ?_
 refine zp (p_move rfl (by conv => lhs; whnf)) ?_
 refine zm rfl rfl ?_
 refine XL.step rfl (st_slice 49 rfl Tryz.underlying64 sz_3 zero_3 rfl rfl (by omega) (by omega)) ?_
 refine XL.step rfl (st_append rfl elt_64 (.own rfl) (Src.own rfl) (by unfold maxLen; simp; omega) (by simp; omega)) ?_
 refine zp (p_assign rfl (by conv => lhs; whnf)) ?_
 refine zn ?_
 refine xw_region (by kernel_rfl) ?_
 refine zm rfl rfl ?_
 refine zm rfl rfl ?_
 refine zp (p_add rfl rfl rfl (by omega) (by omega)) ?_
 refine za rfl rfl ?_
 refine zn ?_
 exact k_round (j + 1) (⟨by rw [Int.natCast_add, Int.mul_add]; omega, .inr ⟨c43, by rw [Nat.add_sub_cancel]; exact g38⟩⟩) (by omega) (fz ⟨sr, sr, sr, sr, .same (sI (by rw [Int.natCast_add, Int.mul_add]; omega)), trivial⟩) (gz ⟨rfl, sApp rfl (by rw [rep_snoc, List.append_assoc]), trivial⟩)
 have hfin : (m.gs.take k ++ List.replicate j m.gsz) = m.groups := by rw [show j = 0 by omega, List.replicate_zero, List.append_nil]; exact grp_done hgr htw c43
 refine xw_exit ?_
 refine zr ?_
 refine zp (p_move rfl (by conv => lhs; whnf)) ?_
 refine zp (p_assign rfl (by conv => lhs; whnf)) ?_
 refine zn ?_
 refine zt ?_
 refine ret_freeze (i := 900) rfl ?_
 exact z1 rfl rfl (rSl hfin)
 have hfin : (m.gs.take k ++ List.replicate j m.gsz) = m.groups := by by_cases c0 : m.g0 = 0; (· rw [grp_flat0 (flat_of hgr c0) htw, List.nil_append]; exact grp_rep (flat_of hgr c0) (by omega) (by omega) hc.1); (· rw [show j = 0 by omega, List.replicate_zero, List.append_nil]; exact grp_done hgr htw c0)
 refine zk 4 rfl ?_
 refine zq rfl rfl rfl ?_
 refine zn ?_
 refine xw_false (by kernel_rfl) rfl ?_
 refine xw_exit ?_
 refine zr ?_
 refine zp (p_move rfl (by conv => lhs; whnf)) ?_
 refine zp (p_assign rfl (by conv => lhs; whnf)) ?_
 refine zn ?_
 refine zt ?_
 refine ret_freeze (i := 900) rfl ?_
 exact z1 rfl rfl (rSl hfin)
 refine zk 4 rfl ?_
 refine zq rfl rfl rfl ?_
 refine zn ?_
 refine xw_false (by kernel_rfl) rfl ?_
 refine zi ?_
 refine zs ?_
 refine zr ?_
 refine za rfl rfl ?_
 refine zn ?_
 refine xw_block ?_
 refine xw_loop (α := Nat) (fun j => m.gsz * j ≤ m.count + 2 ∧ (j = 0 ∨ (m.g0 = 0 ∧ m.gsz * (j - 1 : Nat) < m.count))) (fun j => mkF [(1, .ptr 1 0 0), (2, .d (.v (.slice none 0 0))), (3, .own 900), (5, .d (dI m.gsz)), (6, .d (dI (m.gsz * j)))]) (fun j => mkH [(1, .box ((Me.c m).map S.d)), (900, .row 3 1 ((m.gs.take k ++ List.replicate j m.gsz).map iv))]) (fun j => m.count.toNat + 3 - j) (0) (⟨by omega, .inl rfl⟩) ?_ ?_ ?_
 exact fz ⟨sr, sr, sr, .same (sI (by first | exact (gsz_3 ⟨g28, c33⟩).symm | exact (gsz_1 (fun k => c33 k.2)).symm | exact (gsz_1 (fun k => g28 k.1)).symm)), .same (sI (by rw [Int.natCast_zero, Int.mul_zero])), trivial⟩
 exact gz ⟨rfl, by rw [List.replicate_zero, List.append_nil]; rfl, trivial⟩
 intro j hk2
 obtain ⟨hj1, hj2⟩ := hk2
 have hj0 := gsz_le m j
 have hjj : j ≤ 66 := by unfold Me.gsz at hj1; split at hj1 <;> omega
 have hll : (m.gs.take k ++ List.replicate j m.gsz).length = k + j := by rw [List.length_append, List.length_replicate, List.length_take]; omega
 refine zs ?_
 refine zr ?_
 refine zm rfl rfl ?_
 refine zp (p_fld_ptr rfl rfl fld_28_0) ?_
 refine zp (p_load_box rfl rfl sc_3 rfl rfl) ?_
 refine zp (p_lss rfl rfl rfl) ?_
 refine zm rfl rfl ?_
 refine XL.dec 38 rfl (fun g38 => ?_) (fun g38 => ?_)
 refine zp (p_fld_ptr rfl rfl fld_28_2) ?_
 refine zp (p_idx_arr (k := 0) rfl rfl rfl Tryz.underlying26 sz_3 (by omega)) ?_
 refine zp (p_load_box rfl rfl sc_3 rfl rfl) ?_
 refine zp (p_eql rfl rfl rfl) ?_
 refine zq rfl rfl rfl ?_
 refine zn ?_
 refine zd rfl (fun c43 => ?_) (fun c43 => ?_)
 refine zi ?_
 refine zs ?_
 refine xw_block ?_
 refine xw_region (by kernel_rfl) ?_
 refine zp (p_move rfl (by conv => lhs; whnf)) ?_
 refine zm rfl rfl ?_
 refine XL.step rfl (st_slice 49 rfl Tryz.underlying64 sz_3 zero_3 rfl rfl (by omega) (by omega)) ?_
 refine XL.step rfl (st_append rfl elt_64 (.own rfl) (Src.own rfl) (by unfold maxLen; simp; omega) (by simp; omega)) ?_
 refine zp (p_assign rfl (by conv => lhs; whnf)) ?_
 refine zn ?_
 refine xw_region (by kernel_rfl) ?_
 refine zm rfl rfl ?_
 refine zm rfl rfl ?_
 refine zp (p_add rfl rfl rfl (by omega) (by omega)) ?_
 refine za rfl rfl ?_
 refine zn ?_
 exact k_round (j + 1) (⟨by rw [Int.natCast_add, Int.mul_add]; omega, .inr ⟨c43, by rw [Nat.add_sub_cancel]; exact g38⟩⟩) (by omega) (fz ⟨sr, sr, sr, sr, .same (sI (by rw [Int.natCast_add, Int.mul_add]; omega)), trivial⟩) (gz ⟨rfl, sApp rfl (by rw [rep_snoc, List.append_assoc]), trivial⟩)
 have hfin : (m.gs.take k ++ List.replicate j m.gsz) = m.groups := by rw [show j = 0 by omega, List.replicate_zero, List.append_nil]; exact grp_done hgr htw c43
 refine xw_exit ?_
 refine zr ?_
 refine zp (p_move rfl (by conv => lhs; whnf)) ?_
 refine zp (p_assign rfl (by conv => lhs; whnf)) ?_
 refine zn ?_
 refine zt ?_
 refine ret_freeze (i := 900) rfl ?_
 exact z1 rfl rfl (rSl hfin)
 have hfin : (m.gs.take k ++ List.replicate j m.gsz) = m.groups := by by_cases c0 : m.g0 = 0; (· rw [grp_flat0 (flat_of hgr c0) htw, List.nil_append]; exact grp_rep (flat_of hgr c0) (by omega) (by omega) hc.1); (· rw [show j = 0 by omega, List.replicate_zero, List.append_nil]; exact grp_done hgr htw c0)
 refine zk 4 rfl ?_
 refine zq rfl rfl rfl ?_
 refine zn ?_
 refine xw_false (by kernel_rfl) rfl ?_
 refine xw_exit ?_
 refine zr ?_
 refine zp (p_move rfl (by conv => lhs; whnf)) ?_
 refine zp (p_assign rfl (by conv => lhs; whnf)) ?_
 refine zn ?_
 refine zt ?_
 refine ret_freeze (i := 900) rfl ?_
 exact z1 rfl rfl (rSl hfin)
 have htw := tw_at (p := fun g => decide (0 < g)) (l := m.gs) (k := k) (by omega) hall (.inl (by omega))
 refine zk 5 rfl ?_
 refine zq rfl rfl rfl ?_
 refine zn ?_
 refine xw_false (by kernel_rfl) rfl ?_
 refine xw_exit ?_
 refine zr ?_
 refine za rfl rfl ?_
 refine zn ?_
 refine zs ?_
 refine zr ?_
 refine zp (p_fld_ptr rfl rfl fld_28_1) ?_
 refine zp (p_load_box rfl rfl sc_3 rfl rfl) ?_
 refine zp (p_geq rfl rfl rfl) ?_
 refine zm rfl rfl ?_
 refine XL.dec 28 rfl (fun g28 => ?_) (fun g28 => ?_)
 refine zp (p_fld_ptr rfl rfl fld_28_0) ?_
 refine zp (p_load_box rfl rfl sc_3 rfl rfl) ?_
 refine zp (p_rem rfl rfl rfl (by omega) (by omega)) ?_
 refine zp (p_eql rfl rfl rfl) ?_
 refine zq rfl rfl rfl ?_
 refine zn ?_
 refine zd rfl (fun c33 => ?_) (fun c33 => ?_)
 refine xw_region (by kernel_rfl) ?_
 refine za rfl rfl ?_
 refine zn ?_
 refine zs ?_
 refine zr ?_
 refine za rfl rfl ?_
 refine zn ?_
 refine xw_block ?_
 refine xw_loop (α := Nat) (fun j => m.gsz * j ≤ m.count + 2 ∧ (j = 0 ∨ (m.g0 = 0 ∧ m.gsz * (j - 1 : Nat) < m.count))) (fun j => mkF [(1, .ptr 1 0 0), (2, .d (.v (.slice none 0 0))), (3, .own 900), (5, .d (dI m.gsz)), (6, .d (dI (m.gsz * j)))]) (fun j => mkH [(1, .box ((Me.c m).map S.d)), (900, .row 3 1 ((m.gs.take k ++ List.replicate j m.gsz).map iv))]) (fun j => m.count.toNat + 3 - j) (0) (⟨by omega, .inl rfl⟩) ?_ ?_ ?_
 exact fz ⟨sr, sr, sr, .same (sI (by first | exact (gsz_3 ⟨g28, c33⟩).symm | exact (gsz_1 (fun k => c33 k.2)).symm | exact (gsz_1 (fun k => g28 k.1)).symm)), .same (sI (by rw [Int.natCast_zero, Int.mul_zero])), trivial⟩
 exact gz ⟨rfl, by rw [List.replicate_zero, List.append_nil]; rfl, trivial⟩
 intro j hk2
 obtain ⟨hj1, hj2⟩ := hk2
 have hj0 := gsz_le m j
 have hjj : j ≤ 66 := by unfold Me.gsz at hj1; split at hj1 <;> omega
 have hll : (m.gs.take k ++ List.replicate j m.gsz).length = k + j := by rw [List.length_append, List.length_replicate, List.length_take]; omega
 refine zs ?_
 refine zr ?_
 refine zm rfl rfl ?_
 refine zp (p_fld_ptr rfl rfl fld_28_0) ?_
 refine zp (p_load_box rfl rfl sc_3 rfl rfl) ?_
 refine zp (p_lss rfl rfl rfl) ?_
 refine zm rfl rfl ?_
 refine XL.dec 38 rfl (fun g38 => ?_) (fun g38 => ?_)
 refine zp (p_fld_ptr rfl rfl fld_28_2) ?_
 refine zp (p_idx_arr (k := 0) rfl rfl rfl Tryz.underlying26 sz_3 (by omega)) ?_
 refine zp (p_load_box rfl rfl sc_3 rfl rfl) ?_
 refine zp (p_eql rfl rfl rfl) ?_
 refine zq rfl rfl rfl ?_
 refine zn ?_
 refine zd rfl (fun c43 => ?_) (fun c43 => ?_)
 refine zi ?_
 refine zs ?_
 refine xw_block ?_
 refine xw_region (by kernel_rfl) ?_
 refine zp (p_move rfl (by conv => lhs; whnf)) ?_
 refine zm rfl rfl ?_
 refine XL.step rfl (st_slice 49 rfl Tryz.underlying64 sz_3 zero_3 rfl rfl (by omega) (by omega)) ?_
 refine XL.step rfl (st_append rfl elt_64 (.own rfl) (Src.own rfl) (by unfold maxLen; simp; omega) (by simp; omega)) ?_
 refine zp (p_assign rfl (by conv => lhs; whnf)) ?_
 refine zn ?_
 refine xw_region (by kernel_rfl) ?_
 refine zm rfl rfl ?_
 refine zm rfl rfl ?_
 refine zp (p_add rfl rfl rfl (by omega) (by omega)) ?_
 refine za rfl rfl ?_
 refine zn ?_
 exact k_round (j + 1) (⟨by rw [Int.natCast_add, Int.mul_add]; omega, .inr ⟨c43, by rw [Nat.add_sub_cancel]; exact g38⟩⟩) (by omega) (fz ⟨sr, sr, sr, sr, .same (sI (by rw [Int.natCast_add, Int.mul_add]; omega)), trivial⟩) (gz ⟨rfl, sApp rfl (by rw [rep_snoc, List.append_assoc]), trivial⟩)
 have hfin : (m.gs.take k ++ List.replicate j m.gsz) = m.groups := by rw [show j = 0 by omega, List.replicate_zero, List.append_nil]; exact grp_done hgr htw c43
 refine xw_exit ?_
 refine zr ?_
 refine zp (p_move rfl (by conv => lhs; whnf)) ?_
 refine zp (p_assign rfl (by conv => lhs; whnf)) ?_
 refine zn ?_
 refine zt ?_
 refine ret_freeze (i := 900) rfl ?_
 exact z1 rfl rfl (rSl hfin)
 have hfin : (m.gs.take k ++ List.replicate j m.gsz) = m.groups := by by_cases c0 : m.g0 = 0; (· rw [grp_flat0 (flat_of hgr c0) htw, List.nil_append]; exact grp_rep (flat_of hgr c0) (by omega) (by omega) hc.1); (· rw [show j = 0 by omega, List.replicate_zero, List.append_nil]; exact grp_done hgr htw c0)
 refine zk 4 rfl ?_
 refine zq rfl rfl rfl ?_
 refine zn ?_
 refine xw_false (by kernel_rfl) rfl ?_
 refine xw_exit ?_
 refine zr ?_
 refine zp (p_move rfl (by conv => lhs; whnf)) ?_
 refine zp (p_assign rfl (by conv => lhs; whnf)) ?_
 refine zn ?_
 refine zt ?_
 refine ret_freeze (i := 900) rfl ?_
 exact z1 rfl rfl (rSl hfin)
 refine zi ?_
 refine zs ?_
 refine zr ?_
 refine za rfl rfl ?_
 refine zn ?_
 refine xw_block ?_
 refine xw_loop (α := Nat) (fun j => m.gsz * j ≤ m.count + 2 ∧ (j = 0 ∨ (m.g0 = 0 ∧ m.gsz * (j - 1 : Nat) < m.count))) (fun j => mkF [(1, .ptr 1 0 0), (2, .d (.v (.slice none 0 0))), (3, .own 900), (5, .d (dI m.gsz)), (6, .d (dI (m.gsz * j)))]) (fun j => mkH [(1, .box ((Me.c m).map S.d)), (900, .row 3 1 ((m.gs.take k ++ List.replicate j m.gsz).map iv))]) (fun j => m.count.toNat + 3 - j) (0) (⟨by omega, .inl rfl⟩) ?_ ?_ ?_
 exact fz ⟨sr, sr, sr, .same (sI (by first | exact (gsz_3 ⟨g28, c33⟩).symm | exact (gsz_1 (fun k => c33 k.2)).symm | exact (gsz_1 (fun k => g28 k.1)).symm)), .same (sI (by rw [Int.natCast_zero, Int.mul_zero])), trivial⟩
 exact gz ⟨rfl, by rw [List.replicate_zero, List.append_nil]; rfl, trivial⟩
 intro j hk2
 obtain ⟨hj1, hj2⟩ := hk2
 have hj0 := gsz_le m j
 have hjj : j ≤ 66 := by unfold Me.gsz at hj1; split at hj1 <;> omega
 have hll : (m.gs.take k ++ List.replicate j m.gsz).length = k + j := by rw [List.length_append, List.length_replicate, List.length_take]; omega
 refine zs ?_
 refine zr ?_
 refine zm rfl rfl ?_
 refine zp (p_fld_ptr rfl rfl fld_28_0) ?_
 refine zp (p_load_box rfl rfl sc_3 rfl rfl) ?_
 refine zp (p_lss rfl rfl rfl) ?_
 refine zm rfl rfl ?_
 refine XL.dec 38 rfl (fun g38 => ?_) (fun g38 => ?_)
 refine zp (p_fld_ptr rfl rfl fld_28_2) ?_
 refine zp (p_idx_arr (k := 0) rfl rfl rfl Tryz.underlying26 sz_3 (by omega)) ?_
 refine zp (p_load_box rfl rfl sc_3 rfl rfl) ?_
 refine zp (p_eql rfl rfl rfl) ?_
 refine zq rfl rfl rfl ?_
 refine zn ?_
 refine zd rfl (fun c43 => ?_) (fun c43 => ?_)
 refine zi ?_
 refine zs ?_
 refine xw_block ?_
 refine xw_region (by kernel_rfl) ?_
 refine zp (p_move rfl (by conv => lhs; whnf)) ?_
 refine zm rfl rfl ?_
 refine XL.step rfl (st_slice 49 rfl Tryz.underlying64 sz_3 zero_3 rfl rfl (by omega) (by omega)) ?_
 refine XL.step rfl (st_append rfl elt_64 (.own rfl) (Src.own rfl) (by unfold maxLen; simp; omega) (by simp; omega)) ?_
 refine zp (p_assign rfl (by conv => lhs; whnf)) ?_
 refine zn ?_
 refine xw_region (by kernel_rfl) ?_
 refine zm rfl rfl ?_
 refine zm rfl rfl ?_
 refine zp (p_add rfl rfl rfl (by omega) (by omega)) ?_
 refine za rfl rfl ?_
 refine zn ?_
 exact k_round (j + 1) (⟨by rw [Int.natCast_add, Int.mul_add]; omega, .inr ⟨c43, by rw [Nat.add_sub_cancel]; exact g38⟩⟩) (by omega) (fz ⟨sr, sr, sr, sr, .same (sI (by rw [Int.natCast_add, Int.mul_add]; omega)), trivial⟩) (gz ⟨rfl, sApp rfl (by rw [rep_snoc, List.append_assoc]), trivial⟩)
 have hfin : (m.gs.take k ++ List.replicate j m.gsz) = m.groups := by rw [show j = 0 by omega, List.replicate_zero, List.append_nil]; exact grp_done hgr htw c43
 refine xw_exit ?_
 refine zr ?_
 refine zp (p_move rfl (by conv => lhs; whnf)) ?_
 refine zp (p_assign rfl (by conv => lhs; whnf)) ?_
 refine zn ?_
 refine zt ?_
 refine ret_freeze (i := 900) rfl ?_
 exact z1 rfl rfl (rSl hfin)
 have hfin : (m.gs.take k ++ List.replicate j m.gsz) = m.groups := by by_cases c0 : m.g0 = 0; (· rw [grp_flat0 (flat_of hgr c0) htw, List.nil_append]; exact grp_rep (flat_of hgr c0) (by omega) (by omega) hc.1); (· rw [show j = 0 by omega, List.replicate_zero, List.append_nil]; exact grp_done hgr htw c0)
 refine zk 4 rfl ?_
 refine zq rfl rfl rfl ?_
 refine zn ?_
 refine xw_false (by kernel_rfl) rfl ?_
 refine xw_exit ?_
 refine zr ?_
 refine zp (p_move rfl (by conv => lhs; whnf)) ?_
 refine zp (p_assign rfl (by conv => lhs; whnf)) ?_
 refine zn ?_
 refine zt ?_
 refine ret_freeze (i := 900) rfl ?_
 exact z1 rfl rfl (rSl hfin)
 refine zk 4 rfl ?_
 refine zq rfl rfl rfl ?_
 refine zn ?_
 refine xw_false (by kernel_rfl) rfl ?_
 refine zi ?_
 refine zs ?_
 refine zr ?_
 refine za rfl rfl ?_
 refine zn ?_
 refine xw_block ?_
 refine xw_loop (α := Nat) (fun j => m.gsz * j ≤ m.count + 2 ∧ (j = 0 ∨ (m.g0 = 0 ∧ m.gsz * (j - 1 : Nat) < m.count))) (fun j => mkF [(1, .ptr 1 0 0), (2, .d (.v (.slice none 0 0))), (3, .own 900), (5, .d (dI m.gsz)), (6, .d (dI (m.gsz * j)))]) (fun j => mkH [(1, .box ((Me.c m).map S.d)), (900, .row 3 1 ((m.gs.take k ++ List.replicate j m.gsz).map iv))]) (fun j => m.count.toNat + 3 - j) (0) (⟨by omega, .inl rfl⟩) ?_ ?_ ?_
 exact fz ⟨sr, sr, sr, .same (sI (by first | exact (gsz_3 ⟨g28, c33⟩).symm | exact (gsz_1 (fun k => c33 k.2)).symm | exact (gsz_1 (fun k => g28 k.1)).symm)), .same (sI (by rw [Int.natCast_zero, Int.mul_zero])), trivial⟩
 exact gz ⟨rfl, by rw [List.replicate_zero, List.append_nil]; rfl, trivial⟩
 intro j hk2
 obtain ⟨hj1, hj2⟩ := hk2
 have hj0 := gsz_le m j
 have hjj : j ≤ 66 := by unfold Me.gsz at hj1; split at hj1 <;> omega
 have hll : (m.gs.take k ++ List.replicate j m.gsz).length = k + j := by rw [List.length_append, List.length_replicate, List.length_take]; omega
 refine zs ?_
 refine zr ?_
 refine zm rfl rfl ?_
 refine zp (p_fld_ptr rfl rfl fld_28_0) ?_
 refine zp (p_load_box rfl rfl sc_3 rfl rfl) ?_
 refine zp (p_lss rfl rfl rfl) ?_
 refine zm rfl rfl ?_
 refine XL.dec 38 rfl (fun g38 => ?_) (fun g38 => ?_)
 refine zp (p_fld_ptr rfl rfl fld_28_2) ?_
 refine zp (p_idx_arr (k := 0) rfl rfl rfl Tryz.underlying26 sz_3 (by omega)) ?_
 refine zp (p_load_box rfl rfl sc_3 rfl rfl) ?_
 refine zp (p_eql rfl rfl rfl) ?_
 refine zq rfl rfl rfl ?_
 refine zn ?_
 refine zd rfl (fun c43 => ?_) (fun c43 => ?_)
 refine zi ?_
 refine zs ?_
 refine xw_block ?_
 refine xw_region (by kernel_rfl) ?_
 refine zp (p_move rfl (by conv => lhs; whnf)) ?_
 refine zm rfl rfl ?_
 refine XL.step rfl (st_slice 49 rfl Tryz.underlying64 sz_3 zero_3 rfl rfl (by omega) (by omega)) ?_
 refine XL.step rfl (st_append rfl elt_64 (.own rfl) (Src.own rfl) (by unfold maxLen; simp; omega) (by simp; omega)) ?_
 refine zp (p_assign rfl (by conv => lhs; whnf)) ?_
 refine zn ?_
 refine xw_region (by kernel_rfl) ?_
 refine zm rfl rfl ?_
 refine zm rfl rfl ?_
 refine zp (p_add rfl rfl rfl (by omega) (by omega)) ?_
 refine za rfl rfl ?_
 refine zn ?_
 exact k_round (j + 1) (⟨by rw [Int.natCast_add, Int.mul_add]; omega, .inr ⟨c43, by rw [Nat.add_sub_cancel]; exact g38⟩⟩) (by omega) (fz ⟨sr, sr, sr, sr, .same (sI (by rw [Int.natCast_add, Int.mul_add]; omega)), trivial⟩) (gz ⟨rfl, sApp rfl (by rw [rep_snoc, List.append_assoc]), trivial⟩)
 have hfin : (m.gs.take k ++ List.replicate j m.gsz) = m.groups := by rw [show j = 0 by omega, List.replicate_zero, List.append_nil]; exact grp_done hgr htw c43
 refine xw_exit ?_
 refine zr ?_
 refine zp (p_move rfl (by conv => lhs; whnf)) ?_
 refine zp (p_assign rfl (by conv => lhs; whnf)) ?_
 refine zn ?_
 refine zt ?_
 refine ret_freeze (i := 900) rfl ?_
 exact z1 rfl rfl (rSl hfin)
 have hfin : (m.gs.take k ++ List.replicate j m.gsz) = m.groups := by by_cases c0 : m.g0 = 0; (· rw [grp_flat0 (flat_of hgr c0) htw, List.nil_append]; exact grp_rep (flat_of hgr c0) (by omega) (by omega) hc.1); (· rw [show j = 0 by omega, List.replicate_zero, List.append_nil]; exact grp_done hgr htw c0)
 refine zk 4 rfl ?_
 refine zq rfl rfl rfl ?_
 refine zn ?_
 refine xw_false (by kernel_rfl) rfl ?_
 refine xw_exit ?_
 refine zr ?_
 refine zp (p_move rfl (by conv => lhs; whnf)) ?_
 refine zp (p_assign rfl (by conv => lhs; whnf)) ?_
 refine zn ?_
 refine zt ?_
 refine ret_freeze (i := 900) rfl ?_
 exact z1 rfl rfl (rSl hfin)
end Go.Proofs.YtcihalbakenleaaGreat
namespace Go.Proofs.YtcihalbakenleaaGreat
open Go.RowKit
theorem r4beats_xc (m : Me) (h : Mok m) : XC Tryz.prog 179 [.agg (Me.c m)] (fun r => r = .sl 1 (ints m.beats)) := by
 have hg := h.groups
 have hu := h.u
 have hbl := beats_len m
 have hgl := hg.len
 refine xc_body callable_179 Tryz.func179 rfl rfl (Nat.le_of_ble_eq_true rfl) ?_
 refine zr ?_
 refine XL.step rfl (st_boxN 1 (l := [.d (dI m.count), .d (dI m.unit), .d (dI m.g0), .d (dI m.g1), .d (dI m.g2), .d (dI m.g3), .d (dI m.g4), .d (dI m.g5)]) rfl rfl (by kernel_rfl)) ?_
 refine za rfl rfl ?_
 refine znr ?_
 refine za rfl rfl ?_
 refine znr ?_
 refine zp (pure_eq (s' := .d (.agg (Me.c m))) (norm_pure (p_load_boxs rfl rfl agg_28 rfl (Nat.le_of_ble_eq_true rfl))) (by kernel_rfl)) ?_
 refine XL.call1 rfl rfl (r4groups_xc _ (by assumption)) rfl ?_
 refine za rfl rfl ?_
 refine znr ?_
 refine za rfl rfl ?_
 refine zn ?_
 refine zs ?_
 refine zr ?_
 refine za rfl rfl ?_
 refine zn ?_
 refine xw_block ?_
 refine xw_ownnil 900 3 3 1 rfl ?_
 refine xw_loop (α := Nat) (fun k => k ≤ m.groups.length) (fun k => mkF [(1, .ptr 1 0 0), (2, .d (.v (.slice none 0 0))), (3, .own 900), (4, .d (.sl 1 (ints m.groups))), (5, .d (dI (tot (m.groups.take k) * m.u))), (6, .d (dI k))]) (fun k => mkH [(1, .box ((Me.c m).map S.d)), (900, .row 3 1 ((m.beats.take k).map iv))]) (fun k => m.groups.length - k) (0) (Nat.zero_le _) ?_ ?_ ?_
 exact fz ⟨sr, sr, sr, sr, .same (sI (by rw [List.take_zero]; show 0 = 0 * m.u; omega)), sr, trivial⟩
 exact gz ⟨rfl, rfl, trivial⟩
 intro k hk0
 refine zs ?_
 refine zr ?_
 refine zm rfl rfl ?_
 refine zm rfl rfl ?_
 refine XL.len rfl rfl rfl Tryz.underlying64 (fun hl11 => ?_)
 refine zp (p_lss rfl rfl rfl) ?_
 refine zn ?_
 refine zd rfl (fun c12 => ?_) (fun c12 => ?_)
 have hk0a : k < m.groups.length := by omega
 obtain ⟨x0, hx0⟩ := get_ex hk0a
 have hx1 := hg.bd x0 (List.mem_of_getElem? hx0)
 have ht1 := hg.tot k
 have ht2 := hg.tot (k + 1)
 have hb1 := mul_bd ht1.1 ht1.2 (by omega) hu.2
 have hb2 := mul_bd ht2.1 ht2.2 (by omega) hu.2
 have hb3 := mul_bd hx1.1 (by omega : x0 ≤ 4096) (by omega) hu.2
 have hst : tot (m.groups.take (k + 1)) * m.u = tot (m.groups.take k) * m.u + x0 * m.u := by rw [tot_take hx0, Int.add_mul]
 have htl : (m.beats.take k).length = k := by rw [List.length_take]; omega
 refine zi ?_
 refine zs ?_
 refine xw_block ?_
 refine zr ?_
 refine zp (p_move rfl (by conv => lhs; whnf)) ?_
 refine zm rfl rfl ?_
 refine XL.step rfl (st_slice 17 rfl Tryz.underlying64 sz_3 zero_3 rfl rfl (by omega) (by omega)) ?_
 refine XL.step rfl (st_append rfl elt_64 (.own rfl) (Src.own rfl) (by unfold maxLen; simp; omega) (by simp; omega)) ?_
 refine zp (p_assign rfl (by conv => lhs; whnf)) ?_
 refine zn ?_
 refine xw_any [] (by kernel_rfl) (by kernel_rfl) (by kernel_rfl) (by decide) ?_
 refine ym rfl rfl ?_
 refine ym rfl rfl ?_
 refine ym rfl rfl ?_
 refine yp (p_idx_map rfl rfl rfl el_64 hx0) ?_
 refine yp (p_load_pt rfl rfl sc_3) ?_
 refine yp (pure_eq (s' := .d (.agg (Me.c m))) (norm_pure (p_load_boxs rfl rfl agg_28 rfl (Nat.le_of_ble_eq_true rfl))) (by kernel_rfl)) ?_
 refine ChK.cons rfl (CStep.call rfl (r4unit_xc _ (by assumption)) rfl) ?_
 refine yp (p_mul rfl rfl rfl (by omega) (by omega)) ?_
 refine yp (p_add rfl rfl rfl (by omega) (by omega)) ?_
 refine ya rfl rfl ?_
 refine ChK.nil ⟨by kernel_rfl, ?_⟩
 refine xw_region (by kernel_rfl) ?_
 refine zm rfl rfl ?_
 refine zp (p_add rfl rfl rfl (by omega) (by omega)) ?_
 refine za rfl rfl ?_
 refine zn ?_
 exact k_round (k + 1) (by omega) (by omega) (fz ⟨sr, sr, sr, sr, .same (sI hst.symm), sr, trivial⟩) (gz ⟨rfl, sApp rfl (take_snoc (beats_get hk0a)), trivial⟩)
 have hk0b : k = m.groups.length := by omega
 have ht : m.beats.take k = m.beats := by rw [hk0b, ← hbl, List.take_length]
 refine xw_exit ?_
 refine zr ?_
 refine zp (p_move rfl (by conv => lhs; whnf)) ?_
 refine zp (p_assign rfl (by conv => lhs; whnf)) ?_
 refine zn ?_
 refine zt ?_
 refine ret_freeze (i := 900) rfl ?_
 exact z1 rfl rfl (rSl ht)
/-- all numbers of a list are like the first one -/
def allEq (l : List Int) : Prop := ∀ (j : Nat) x y, l[j]? = some x → l[0]? = some y → x = y
theorem minmax {l : List Int} : l ≠ [] → (∀ x ∈ l, minL l ≤ x ∧ x ≤ maxL l) ∧ (∀ y, (∀ x ∈ l, x = y) → minL l = y ∧ maxL l = y) := by
 refine snoc_ind (p := fun l => l ≠ [] → (∀ x ∈ l, minL l ≤ x ∧ x ≤ maxL l) ∧ (∀ y, (∀ x ∈ l, x = y) → minL l = y ∧ maxL l = y)) (fun h => absurd rfl h) (fun l a ih _ => ?_) l
 by_cases c : l = []
 ·subst c
  refine ⟨fun x hx => ?_, fun y hy => ?_⟩
  ·rw [List.nil_append] at hx; rw [List.mem_singleton.1 hx]; exact ⟨Int.le_refl _, Int.le_refl _⟩
  ·have := hy a (by simp); subst this; exact ⟨rfl, rfl⟩
 ·obtain ⟨h1, h2⟩ := ih c
  rw [minL_snoc c, maxL_snoc c]
  refine ⟨fun x hx => ?_, fun y hy => ?_⟩
  ·rcases List.mem_append.1 hx with q | q
   ·have := h1 x q; omega
   ·rw [List.mem_singleton.1 q]; omega
  ·have h3 := h2 y fun x hx => hy x (List.mem_append_left _ hx)
   have h4 := hy a (List.mem_append_right _ (List.mem_singleton.2 rfl))
   omega
theorem allEq_iff {l : List Int} (hne : l ≠ []) : allEq l ↔ minL l = maxL l := by
 obtain ⟨h1, h2⟩ := minmax hne
 obtain ⟨y, hy⟩ : ∃ y, l[0]? = some y := get_ex (by cases l with | nil => exact absurd rfl hne | cons a l => simp)
 constructor
 ·intro h
  have := h2 y fun x hx => by
   obtain ⟨j, hj⟩ := List.getElem?_of_mem hx
   exact h j x y hj hy
  omega
 ·intro h j x z hx hz
  have h3 := h1 x (List.mem_of_getElem? hx)
  have h4 := h1 z (List.mem_of_getElem? hz)
  omega
instance (l : List Int) : Decidable (allEq l) := by
 cases l with
 | nil => exact .isTrue fun j x y h => by simp at h
 | cons a l => exact decidable_of_iff _ (allEq_iff (l := a :: l) (by simp)).symm
/-- how many numbers at a list's head are at most a tick; the tick's offset behind the last one -/
def leN (l : List Int) (t : Int) : Nat := (l.takeWhile fun x => decide (x ≤ t)).length
def offB (l : List Int) (t : Int) (n : Nat) : Int := if n = 0 then 0 else t - l[n - 1]?.getD 0
def beatB (n : Nat) : Int := if n = 0 then 0 else ((n - 1 : Nat) : Int)
theorem leN_at {l : List Int} {t : Int} {k : Nat} (h1 : k ≤ l.length) (h2 : ∀ (j : Nat) x, j < k → l[j]? = some x → decide (x ≤ t) = true) (h3 : k = l.length ∨ ∃ x, l[k]? = some x ∧ decide (x ≤ t) = false) : leN l t = k := by
 rw [leN, tw_at h1 h2 h3, List.length_take]; omega
theorem tw_mem {p : Int → Bool} : ∀ {l : List Int} {x : Int}, x ∈ l.takeWhile p → p x = true
 | [], x, h => by simp at h
 | a :: l, x, h => by
  by_cases c : p a = true
  ·rw [List.takeWhile_cons_of_pos c] at h
   rcases List.mem_cons.1 h with e | e
   ·rw [e]; exact c
   ·exact tw_mem e
  ·rw [List.takeWhile_cons_of_neg c] at h; cases h
theorem off_zero {l : List Int} {t : Int} (hinc : ∀ (i j : Nat) x y, i < j → l[i]? = some x → l[j]? = some y → x < y) (h0 : l[0]? = some 0) (ht : 0 ≤ t) : offB l t (leN l t) = 0 ↔ t ∈ l := by
 have hle : leN l t ≤ l.length := (List.takeWhile_sublist _).length_le
 have hall : ∀ (j : Nat) x, j < leN l t → l[j]? = some x → x ≤ t := fun j x hj hx => by
  have hm : (l.takeWhile fun x => decide (x ≤ t))[j]? = some x := by
   have hp := List.takeWhile_prefix (l := l) fun x => decide (x ≤ t)
   obtain ⟨s, hs⟩ := hp
   have : (l.takeWhile (fun x => decide (x ≤ t)) ++ s)[j]? = some x := by rw [hs]; exact hx
   rwa [List.getElem?_append_left hj] at this
  exact of_decide_eq_true (tw_mem (p := fun x => decide (x ≤ t)) (List.mem_of_getElem? hm))
 have hpos : leN l t ≠ 0 := fun k => by
  unfold leN at k
  cases hl : l with
  | nil => rw [hl] at h0; cases h0
  | cons a r =>
   rw [hl] at h0 k
   cases h0
   rw [List.takeWhile_cons_of_pos (by simpa using ht)] at k
   cases k
 obtain ⟨y, hy⟩ : ∃ y, l[leN l t - 1]? = some y := get_ex (by omega)
 rw [offB, if_neg hpos, hy]
 show t - y = 0 ↔ t ∈ l
 constructor
 ·intro h; rw [show t = y by omega]; exact List.mem_of_getElem? hy
 ·intro h
  obtain ⟨i, hi⟩ := List.getElem?_of_mem h
  have hyt := hall _ y (by omega) hy
  by_cases c : i < leN l t - 1
  ·have := hinc i _ t y c hi hy; omega
  ·by_cases c2 : i = leN l t - 1
   ·rw [c2, hy] at hi; cases hi; omega
   ·have := hinc _ i y t (by omega) hy hi
    have hil := (List.getElem?_eq_some_iff.1 hi).1
    obtain ⟨z, hz⟩ : ∃ z, l[leN l t]? = some z := get_ex (by omega)
    have hzt : t < z := by
     refine Int.not_le.1 fun k => ?_
     have e : leN l t = leN l t + 1 → False := fun e => by omega
     have hpre : ∀ (l : List Int) (n : Nat) (z : Int), n = (l.takeWhile fun x => decide (x ≤ t)).length → l[n]? = some z → ¬ z ≤ t := by
      intro l
      induction l with
      | nil => intro n z _ h; simp at h
      | cons a r ih =>
       intro n z hn h
       by_cases c : a ≤ t
       ·rw [List.takeWhile_cons_of_pos (by simpa using c)] at hn
        subst hn
        exact ih _ z rfl (by simpa using h)
       ·rw [List.takeWhile_cons_of_neg (by simpa using c)] at hn
        subst hn
        cases h; exact c
     exact hpre l _ z rfl hz k
    by_cases c3 : leN l t = i
    ·rw [c3, hi] at hz; cases hz; omega
    ·have := hinc _ i z t (by omega) hz hi; omega
theorem groups_pos {m : Me} (h : Mok m) : ∀ x ∈ m.groups, 0 < x := by
 intro x hx
 by_cases c : m.flat
 ·by_cases c2 : 8 ≤ m.unit ∧ m.count % 3 = 0
  ·rw [grp_2 (fun k => k c) c2] at hx
   rw [List.eq_of_mem_replicate hx]; decide
  ·rw [grp_3 (fun k => k c) c2] at hx
   rw [List.eq_of_mem_replicate hx]; decide
 ·rw [grp_1 c, grp_pre h.grp] at hx
  exact of_decide_eq_true (tw_mem (p := fun g => decide (0 < g)) hx)
theorem beats_inc {m : Me} (h : Mok m) : ∀ (i j : Nat) x y, i < j → m.beats[i]? = some x → m.beats[j]? = some y → x < y := by
 intro i j x y hij hx hy
 have hu := h.u
 have hg := h.groups
 have hjl := (List.getElem?_eq_some_iff.1 hy).1
 rw [beats_len] at hjl
 rw [beats_get (by omega)] at hx hy
 cases hx; cases hy
 have hpos := groups_pos h
 have h1 := tot_mono hpos (j := i + 1) (k := j) (by omega)
 obtain ⟨g, hgi⟩ : ∃ g, m.groups[i]? = some g := get_ex (by omega)
 rw [take_snoc hgi, tot_snoc] at h1
 have h2 := hpos g (List.mem_of_getElem? hgi)
 exact Int.mul_lt_mul_of_pos_right (by omega) (by omega)
theorem beats_0 {m : Me} (h : Mok m) : m.beats[0]? = some 0 := by
 have hg := h.groups
 have := hg.pos
 rw [beats_get (by omega), List.take_zero, tot_nil, Int.zero_mul]
/-- the levels of a unit's parts, from the k-th half on -/
def rl (t u : Int) : Nat → Nat → Int
 | 0, _ => 15
 | f + 1, k => if (u / 2 ^ k * 2 ^ k = u ∧ 7560 ≤ u / 2 ^ k) ∧ t % (u / 2 ^ k) = 0 then 3 + (k : Int) else rl t u f (k + 1)
theorem u_7 {m : Me} (h : Mok m) : m.u = 1935360 ∨ m.u = 967680 ∨ m.u = 483840 ∨ m.u = 241920 ∨ m.u = 120960 ∨ m.u = 60480 ∨ m.u = 30240 := by
 have hp : powJ m.unit 7 = true := pow_iff.2 fun k => k.elim (fun k => by have := h.unit; omega) fun k => k.elim (fun k => by have := h.unit; omega) fun k => k h.pow
 unfold powJ at hp
 rw [List.any_eq_true] at hp
 obtain ⟨i, hi, hp⟩ := hp
 have hi := List.mem_range.1 hi
 have hp := of_decide_eq_true hp
 unfold Me.u
 rw [hp]
 match i, hi with
 | 0, _ => decide
 | 1, _ => decide
 | 2, _ => decide
 | 3, _ => decide
 | 4, _ => decide
 | 5, _ => decide
 | 6, _ => decide
 | i + 7, h => omega
theorem rl_eq {t u : Int} (hu : u = 1935360 ∨ u = 967680 ∨ u = 483840 ∨ u = 241920 ∨ u = 120960 ∨ u = 60480 ∨ u = 30240) : rl t u 9 0 = if t % u = 0 then 3 else lvGo t 9 1 u := by
 rcases hu with rfl | rfl | rfl | rfl | rfl | rfl | rfl <;> simp [rl, lvGo]
theorem rl_hit {t u : Int} {f k : Nat} (h : (u / 2 ^ k * 2 ^ k = u ∧ 7560 ≤ u / 2 ^ k) ∧ t % (u / 2 ^ k) = 0) : rl t u (f + 1) k = 3 + (k : Int) := by rw [rl, if_pos h]
theorem rl_miss {t u : Int} {f k : Nat} (h : ¬ ((u / 2 ^ k * 2 ^ k = u ∧ 7560 ≤ u / 2 ^ k) ∧ t % (u / 2 ^ k) = 0)) : rl t u (f + 1) k = rl t u f (k + 1) := by rw [rl, if_neg h]
theorem lev_ref {m : Me} {a : Int} (hm : Mok m) (h : ¬ a % m.len = 0) (h1 : ¬ ((2 * (a % m.len) = m.len ∧ (m.groups.length : Int) % 2 = 0) ∧ minL m.groups = maxL m.groups)) (h2 : ¬ a % m.len ∈ m.beats) : rl (a % m.len) m.u 9 0 = m.level a := by
 rw [rl_eq (u_7 hm), Me.level, if_neg h, if_neg h1, if_neg h2]
theorem pow9 {k : Nat} (h : k ≤ 9) : 1 ≤ (2 : Int) ^ k ∧ (2 : Int) ^ k ≤ 512 := by
 match k, h with
 | 0, _ => decide
 | 1, _ => decide
 | 2, _ => decide
 | 3, _ => decide
 | 4, _ => decide
 | 5, _ => decide
 | 6, _ => decide
 | 7, _ => decide
 | 8, _ => decide
 | 9, _ => decide
 | k + 10, h => omega
theorem r4equal_xc (l : List Int) : XC Tryz.prog 159 [.sl 1 (ints l)] (fun r => r = dB (decide (allEq l ∧ (l.length : Int) % 2 = 0))) := by
 refine xc_body callable_159 Tryz.func159 rfl rfl (Nat.le_of_ble_eq_true rfl) ?_
 refine zr ?_
 refine za rfl rfl ?_
 refine zn ?_
 refine zs ?_
 refine zr ?_
 refine za rfl rfl ?_
 refine zn ?_
 refine xw_block ?_
 refine xw_loop (α := Nat) (fun k => 1 ≤ k ∧ ∀ (j : Nat) x y, j < k → l[j]? = some x → l[0]? = some y → x = y) (fun k => mkF [(0, .d (.sl 1 (ints l))), (3, .d (dI (k : Nat)))]) (fun k => mkH []) (fun k => l.length + 1 - k) (1) (⟨Nat.le_refl _, fun j x y hj hx hy => by rw [show j = 0 by omega, hy] at hx; cases hx; rfl⟩) ?_ ?_ ?_
 exact fz ⟨sr, sr, trivial⟩
 exact HSub.nil
 intro k hk0
 obtain ⟨hk, hall⟩ := hk0
 refine zs ?_
 refine zr ?_
 refine zm rfl rfl ?_
 refine zm rfl rfl ?_
 refine XL.len rfl rfl rfl Tryz.underlying64 (fun hl6 => ?_)
 refine zp (p_lss rfl rfl rfl) ?_
 refine zn ?_
 refine zd rfl (fun c7 => ?_) (fun c7 => ?_)
 have hkl : k < l.length := by omega
 obtain ⟨x, hx⟩ := get_ex hkl
 obtain ⟨y, hy⟩ : ∃ y, l[0]? = some y := get_ex (by omega)
 refine zi ?_
 refine zs ?_
 refine xw_block ?_
 refine zs ?_
 refine xw_any [] (by kernel_rfl) (by kernel_rfl) (by kernel_rfl) (by decide) ?_
 refine ym rfl rfl ?_
 refine ym rfl rfl ?_
 refine yp (p_idx_map rfl rfl rfl el_64 (hx)) ?_
 refine yp (p_load_pt rfl rfl sc_3) ?_
 refine ym rfl rfl ?_
 refine yp (p_idx_map (k := 0) rfl rfl rfl el_64 (hy)) ?_
 refine yp (p_load_pt rfl rfl sc_3) ?_
 refine yp (p_neq rfl rfl rfl) ?_
 refine ChK.nil ⟨by kernel_rfl, ?_⟩
 refine zd rfl (fun c17 => ?_) (fun c17 => ?_)
 refine zr ?_
 refine za rfl rfl ?_
 refine zn ?_
 refine zt ?_
 exact z1 rfl rfl (rB (dno (fun h => c17 (h.1 k x y hx hy))))
 refine zi ?_
 refine xw_region (by kernel_rfl) ?_
 refine zm rfl rfl ?_
 refine zp (p_add rfl rfl rfl (by omega) (by omega)) ?_
 refine za rfl rfl ?_
 refine zn ?_
 exact k_round (k + 1) (⟨by omega, fun j x2 y2 hj hx2 hy2 => by by_cases e : j = k; (· subst e; rw [hx] at hx2; rw [hy] at hy2; cases hx2; cases hy2; exact Decidable.not_not.1 c17); (· exact hall j x2 y2 (by omega) hx2 hy2)⟩) (by omega) (fz ⟨sr, sr, trivial⟩) (HSub.nil)
 have hae : allEq l := fun j x y hx hy => hall j x y (by have := (List.getElem?_eq_some_iff.1 hx).1; omega) hx hy
 refine xw_exit ?_
 refine zr ?_
 refine zm rfl rfl ?_
 refine XL.len rfl rfl rfl Tryz.underlying64 (fun hl19 => ?_)
 refine zp (p_rem rfl rfl rfl (by omega) (by omega)) ?_
 refine zp (p_eql rfl rfl rfl) ?_
 refine za rfl rfl ?_
 refine zn ?_
 refine zt ?_
 exact z1 rfl rfl (rB (by rw [decide_eq_decide]; exact ⟨fun h => ⟨hae, h⟩, fun h => h.2⟩))
theorem r4at_xc (m : Me) (a : Int) (h : Mok m) (ha : 0 ≤ a ∧ a ≤ 4398046511104) : XC Tryz.prog 158 [.agg (Me.c m), .v (.int .i64 a)] (fun r => r = .tup [dI (beatB (leN m.beats (a % m.len))), dI (offB m.beats (a % m.len) (leN m.beats (a % m.len)))]) := by
 have hl := h.len
 have ht0 := Int.emod_nonneg a (by omega : m.len ≠ 0)
 have ht1 := Int.emod_lt_of_pos a (by omega : 0 < m.len)
 refine xc_body callable_158 Tryz.func158 rfl rfl (Nat.le_of_ble_eq_true rfl) ?_
 refine zr ?_
 refine XL.step rfl (st_boxN 2 (l := [.d (dI m.count), .d (dI m.unit), .d (dI m.g0), .d (dI m.g1), .d (dI m.g2), .d (dI m.g3), .d (dI m.g4), .d (dI m.g5)]) rfl rfl (by kernel_rfl)) ?_
 refine za rfl rfl ?_
 refine za rfl rfl ?_
 refine znr ?_
 refine zm rfl rfl ?_
 refine zp (pure_eq (s' := .d (.agg (Me.c m))) (norm_pure (p_load_boxs rfl rfl agg_28 rfl (Nat.le_of_ble_eq_true rfl))) (by kernel_rfl)) ?_
 refine XL.call1 rfl rfl (r4len_xc _ (by assumption)) rfl ?_
 refine zp (p_rem rfl rfl rfl (by omega) (by omega)) ?_
 refine za rfl rfl ?_
 refine znr ?_
 refine zp (pure_eq (s' := .d (.agg (Me.c m))) (norm_pure (p_load_boxs rfl rfl agg_28 rfl (Nat.le_of_ble_eq_true rfl))) (by kernel_rfl)) ?_
 refine XL.call1 rfl rfl (r4beats_xc _ (by assumption)) rfl ?_
 refine za rfl rfl ?_
 refine zn ?_
 refine zs ?_
 refine zr ?_
 refine za rfl rfl ?_
 refine zn ?_
 refine xw_block ?_
 refine xw_loop (α := Nat) (fun j => j ≤ m.beats.length ∧ ∀ (i : Nat) x, i < j → m.beats[i]? = some x → decide (x ≤ a % m.len) = true) (fun j => mkF [(4, .d (dI (beatB j))), (5, .d (dI (offB m.beats (a % m.len) j))), (6, .d (dI (a % m.len))), (7, .d (.sl 1 (ints m.beats))), (8, .d (dI (j : Nat)))]) (fun j => mkH []) (fun j => m.beats.length - j) (0) (⟨Nat.zero_le _, fun i x h => absurd h (Nat.not_lt_zero _)⟩) ?_ ?_ ?_
 exact fz ⟨sr, sr, sr, sr, sr, trivial⟩
 exact HSub.nil
 intro j hk0
 obtain ⟨hj, hall⟩ := hk0
 refine zs ?_
 refine zr ?_
 refine zm rfl rfl ?_
 refine zm rfl rfl ?_
 refine XL.len rfl rfl rfl Tryz.underlying64 (fun hl17 => ?_)
 refine zp (p_lss rfl rfl rfl) ?_
 refine zm rfl rfl ?_
 refine XL.dec 19 rfl (fun g19 => ?_) (fun g19 => ?_)
 obtain ⟨x, hx⟩ : ∃ x, m.beats[j]? = some x := get_ex (by omega)
 have hx0 : 0 ≤ x := by have h1 := beats_0 h; by_cases e : j = 0; (· rw [e, h1] at hx; cases hx; omega); (· have := beats_inc h 0 j 0 x (by omega) h1 hx; omega)
 refine zm rfl rfl ?_
 refine zm rfl rfl ?_
 refine zp (p_idx_map rfl rfl rfl el_64 (hx)) ?_
 refine zp (p_load_pt rfl rfl sc_3) ?_
 refine zm rfl rfl ?_
 refine zp (p_leq rfl rfl rfl) ?_
 refine zq rfl rfl rfl ?_
 refine zn ?_
 refine zd rfl (fun c26 => ?_) (fun c26 => ?_)
 refine zi ?_
 refine zs ?_
 refine xw_block ?_
 refine xw_any [] (by kernel_rfl) (by kernel_rfl) (by kernel_rfl) (by decide) ?_
 refine ym rfl rfl ?_
 refine ym rfl rfl ?_
 refine ym rfl rfl ?_
 refine ym rfl rfl ?_
 refine yp (p_idx_map rfl rfl rfl el_64 (hx)) ?_
 refine yp (p_load_pt rfl rfl sc_3) ?_
 refine yp (p_sub rfl rfl rfl (by omega) (by omega)) ?_
 refine ya rfl rfl ?_
 refine ya rfl rfl ?_
 refine ChK.nil ⟨by kernel_rfl, ?_⟩
 refine xw_region (by kernel_rfl) ?_
 refine zm rfl rfl ?_
 refine zp (p_add rfl rfl rfl (by omega) (by omega)) ?_
 refine za rfl rfl ?_
 refine zn ?_
 exact k_round (j + 1) (⟨by have := (List.getElem?_eq_some_iff.1 hx).1; omega, fun i x2 hi hx2 => by by_cases e : i = j; (· subst e; rw [hx] at hx2; cases hx2; exact decide_eq_true c26); (· exact hall i x2 (by omega) hx2)⟩) (by have := (List.getElem?_eq_some_iff.1 hx).1; omega) (fz ⟨.same (sI (by rw [beatB, if_neg (by omega), Nat.add_sub_cancel])), .same (sI (by rw [offB, if_neg (by omega), Nat.add_sub_cancel, hx]; rfl)), sr, sr, sr, trivial⟩) (HSub.nil)
 have hn := leN_at (t := a % m.len) hj hall (.inr ⟨x, hx, decide_eq_false c26⟩)
 refine xw_exit ?_
 refine zr ?_
 refine zm rfl rfl ?_
 refine zm rfl rfl ?_
 refine za rfl rfl ?_
 refine za rfl rfl ?_
 refine zn ?_
 refine zt ?_
 exact ret2 rfl (RV.tmp rfl rfl) (RV.tmp rfl rfl) (r2 (rI (by rw [hn])) (rI (by rw [hn])))
 have hn := leN_at (t := a % m.len) hj hall (.inl (by omega))
 refine zk 6 rfl ?_
 refine zq rfl rfl rfl ?_
 refine zn ?_
 refine xw_false (by kernel_rfl) rfl ?_
 refine xw_exit ?_
 refine zr ?_
 refine zm rfl rfl ?_
 refine zm rfl rfl ?_
 refine za rfl rfl ?_
 refine za rfl rfl ?_
 refine zn ?_
 refine zt ?_
 exact ret2 rfl (RV.tmp rfl rfl) (RV.tmp rfl rfl) (r2 (rI (by rw [hn])) (rI (by rw [hn])))
theorem r4level_xc (m : Me) (a : Int) (h : Mok m) (ha : 0 ≤ a ∧ a ≤ 4398046511104) : XC Tryz.prog 126 [.agg (Me.c m), .v (.int .i64 a)] (fun r => r = dI (m.level a)) := by
 have hl := h.len
 have hg := h.groups
 have hgp := hg.pos
 have hu := h.u
 have ht0 := Int.emod_nonneg a (by omega : m.len ≠ 0)
 have ht1 := Int.emod_lt_of_pos a (by omega : 0 < m.len)
 have hof := off_zero (t := a % m.len) (beats_inc h) (beats_0 h) ht0
 have hne : m.groups ≠ [] := fun k => by rw [k] at hgp; exact absurd hgp (by decide)
 have hae := allEq_iff hne
 refine xc_body callable_126 Tryz.func126 rfl rfl (Nat.le_of_ble_eq_true rfl) ?_
 refine zr ?_
 refine XL.step rfl (st_boxN 2 (l := [.d (dI m.count), .d (dI m.unit), .d (dI m.g0), .d (dI m.g1), .d (dI m.g2), .d (dI m.g3), .d (dI m.g4), .d (dI m.g5)]) rfl rfl (by kernel_rfl)) ?_
 refine za rfl rfl ?_
 refine znr ?_
 refine zm rfl rfl ?_
 refine zp (pure_eq (s' := .d (.agg (Me.c m))) (norm_pure (p_load_boxs rfl rfl agg_28 rfl (Nat.le_of_ble_eq_true rfl))) (by kernel_rfl)) ?_
 refine XL.call1 rfl rfl (r4len_xc _ (by assumption)) rfl ?_
 refine zp (p_rem rfl rfl rfl (by omega) (by omega)) ?_
 refine za rfl rfl ?_
 refine znr ?_
 refine zp (pure_eq (s' := .d (.agg (Me.c m))) (norm_pure (p_load_boxs rfl rfl agg_28 rfl (Nat.le_of_ble_eq_true rfl))) (by kernel_rfl)) ?_
 refine zm rfl rfl ?_
 refine XL.call1 rfl rfl (r4at_xc _ _ (by assumption) (by omega)) rfl ?_
 refine zm rfl rfl ?_
 refine zp (p_ext rfl rfl rfl) ?_
 refine zp (p_ext rfl rfl rfl) ?_
 refine za rfl rfl ?_
 refine za rfl rfl ?_
 refine zn ?_
 refine zs ?_
 refine xw_block ?_
 refine zr ?_
 refine zm rfl rfl ?_
 refine zp (p_eql rfl rfl rfl) ?_
 refine za rfl rfl ?_
 refine zn ?_
 refine zd rfl (fun c20 => ?_) (fun c20 => ?_)
 refine zr ?_
 refine za rfl rfl ?_
 refine zn ?_
 refine zt ?_
 exact z1 rfl rfl (rI (lv_0 c20))
 refine zr ?_
 refine zm rfl rfl ?_
 refine zp (p_mul rfl rfl rfl (by omega) (by omega)) ?_
 refine zp (pure_eq (s' := .d (.agg (Me.c m))) (norm_pure (p_load_boxs rfl rfl agg_28 rfl (Nat.le_of_ble_eq_true rfl))) (by kernel_rfl)) ?_
 refine XL.call1 rfl rfl (r4len_xc _ (by assumption)) rfl ?_
 refine zp (p_eql rfl rfl rfl) ?_
 refine zm rfl rfl ?_
 refine XL.dec 29 rfl (fun g29 => ?_) (fun g29 => ?_)
 refine zp (pure_eq (s' := .d (.agg (Me.c m))) (norm_pure (p_load_boxs rfl rfl agg_28 rfl (Nat.le_of_ble_eq_true rfl))) (by kernel_rfl)) ?_
 refine XL.call1 rfl rfl (r4groups_xc _ (by assumption)) rfl ?_
 refine XL.call1 rfl rfl (r4equal_xc _) rfl ?_
 refine zq rfl rfl rfl ?_
 refine za rfl rfl ?_
 refine zn ?_
 refine zd rfl (fun c23 => ?_) (fun c23 => ?_)
 refine zr ?_
 refine za rfl rfl ?_
 refine zn ?_
 refine zt ?_
 exact z1 rfl rfl (rI (lv_1 c20 ⟨⟨g29, c23.2⟩, hae.1 c23.1⟩))
 refine zs ?_
 have hns : ¬ ((2 * (a % m.len) = m.len ∧ (m.groups.length : Int) % 2 = 0) ∧ minL m.groups = maxL m.groups) := by first | exact fun k => c23 ⟨hae.2 k.2, k.1.2⟩ | exact fun k => g29 k.1.1
 refine xw_region (by kernel_rfl) ?_
 refine zm rfl rfl ?_
 refine zp (p_eql rfl rfl rfl) ?_
 refine za rfl rfl ?_
 refine zn ?_
 refine zd rfl (fun c34 => ?_) (fun c34 => ?_)
 refine zr ?_
 refine za rfl rfl ?_
 refine zn ?_
 refine zt ?_
 exact z1 rfl rfl (rI (lv_2 c20 hns (hof.1 c34)))
 refine zi ?_
 refine zs ?_
 refine zr ?_
 refine za rfl rfl ?_
 refine zn ?_
 refine xw_block ?_
 refine xw_loop (α := Nat) (fun k => k ≤ 9 ∧ rl (a % m.len) m.u (9 - k) k = m.level a) (fun k => mkF [(2, .ptr 2 0 0), (5, .d (dI (a % m.len))), (8, .d (dI (k : Nat)))]) (fun k => mkH [(2, .box ((Me.c m).map S.d))]) (fun k => 9 - k) (0) (⟨Nat.zero_le _, lev_ref h c20 hns (fun q => c34 (hof.2 q))⟩) ?_ ?_ ?_
 exact fz ⟨sr, sr, sr, trivial⟩
 exact gz ⟨rfl, trivial⟩
 intro k hk1
 obtain ⟨hk, hgo⟩ := hk1
 have hp9 := pow9 hk
 have hq0 : 0 ≤ m.u / 2 ^ k := Int.ediv_nonneg (by omega) (by omega)
 have hq1 : m.u / 2 ^ k ≤ m.u := Int.ediv_le_self _ (by omega)
 have hq2 : m.u / 2 ^ k * 2 ^ k ≤ m.u := Int.ediv_mul_le _ (by omega)
 have hq3 : 0 ≤ m.u / 2 ^ k * 2 ^ k := Int.mul_nonneg hq0 (by omega)
 refine zs ?_
 refine zr ?_
 refine zm rfl rfl ?_
 refine zp (p_leq rfl rfl rfl) ?_
 refine zn ?_
 refine zd rfl (fun c38 => ?_) (fun c38 => ?_)
 obtain ⟨f, hf⟩ : ∃ f, 9 - k = f + 1 := ⟨8 - k, by omega⟩
 rw [hf] at hgo
 have hf2 : 9 - (k + 1) = f := by omega
 have hkn : (k : Int).toNat = k := Int.toNat_natCast k
 refine zi ?_
 refine zs ?_
 refine xw_block ?_
 refine zr ?_
 refine zp (pure_eq (s' := .d (.agg (Me.c m))) (norm_pure (p_load_boxs rfl rfl agg_28 rfl (Nat.le_of_ble_eq_true rfl))) (by kernel_rfl)) ?_
 refine XL.call1 rfl rfl (r4unit_xc _ (by assumption)) rfl ?_
 refine zm rfl rfl ?_
 refine zp (p_shr rfl rfl rfl (by omega) (by omega)) ?_
 refine za rfl rfl ?_
 refine zn ?_
 refine zs ?_
 by_cases q50 : m.u / 2 ^ k * 2 ^ k = m.u
 by_cases q53 : 7560 ≤ m.u / 2 ^ k
 refine xw_any [] (by kernel_rfl) (by kernel_rfl) (by kernel_rfl) (by decide) ?_
 refine ym rfl rfl ?_
 refine ym rfl rfl ?_
 refine yp (p_shl rfl rfl rfl (by omega) (by omega) (by rw [hkn]; omega) (by rw [hkn]; omega)) ?_
 refine yp (pure_eq (s' := .d (.agg (Me.c m))) (norm_pure (p_load_boxs rfl rfl agg_28 rfl (Nat.le_of_ble_eq_true rfl))) (by kernel_rfl)) ?_
 refine ChK.cons rfl (CStep.call rfl (r4unit_xc _ (by assumption)) rfl) ?_
 refine yp (p_yes (p_eql rfl rfl rfl) (q50)) ?_
 refine ym rfl rfl ?_
 refine ym rfl rfl ?_
 refine yp (p_yes (p_geq rfl rfl rfl) (q53)) ?_
 refine yp (p_pick_any rfl rfl (by conv => lhs; whnf)) ?_
 refine ym rfl rfl ?_
 refine ym rfl rfl ?_
 refine ym rfl rfl ?_
 refine yp (p_rem rfl rfl rfl (by omega) (by rw [hkn]; omega)) ?_
 refine yp (p_eql rfl rfl rfl) ?_
 refine yp (p_pick_any rfl rfl (by conv => lhs; whnf)) ?_
 refine ChK.nil ⟨by kernel_rfl, ?_⟩
 refine zd rfl (fun c60 => ?_) (fun c60 => ?_)
 refine zr ?_
 refine zm rfl rfl ?_
 refine zp (p_add rfl rfl rfl (by omega) (by omega)) ?_
 refine za rfl rfl ?_
 refine zn ?_
 refine zt ?_
 exact z1 rfl rfl (rI ((rl_hit ⟨⟨q50, q53⟩, c60⟩).symm.trans hgo))
 refine zi ?_
 refine xw_region (by kernel_rfl) ?_
 refine zm rfl rfl ?_
 refine zp (p_add rfl rfl rfl (by omega) (by omega)) ?_
 refine za rfl rfl ?_
 refine zn ?_
 exact k_round (k + 1) (⟨by omega, by rw [hf2, ← hgo]; exact (rl_miss (by first | exact fun q => c60 q.2 | exact fun q => q53 q.1.2 | exact fun q => q50 q.1.1)).symm⟩) (by omega) (fz ⟨sr, sr, sr, trivial⟩) (gz ⟨rfl, trivial⟩)
 refine xw_any [] (by kernel_rfl) (by kernel_rfl) (by kernel_rfl) (by decide) ?_
 refine ym rfl rfl ?_
 refine ym rfl rfl ?_
 refine yp (p_shl rfl rfl rfl (by omega) (by omega) (by rw [hkn]; omega) (by rw [hkn]; omega)) ?_
 refine yp (pure_eq (s' := .d (.agg (Me.c m))) (norm_pure (p_load_boxs rfl rfl agg_28 rfl (Nat.le_of_ble_eq_true rfl))) (by kernel_rfl)) ?_
 refine ChK.cons rfl (CStep.call rfl (r4unit_xc _ (by assumption)) rfl) ?_
 refine yp (p_yes (p_eql rfl rfl rfl) (q50)) ?_
 refine ym rfl rfl ?_
 refine ym rfl rfl ?_
 refine yp (p_no (p_geq rfl rfl rfl) (q53)) ?_
 refine yp (p_pick_any rfl rfl (by conv => lhs; whnf)) ?_
 refine ym rfl rfl ?_
 refine ChK.skip rfl ?_
 refine ChK.skip rfl ?_
 refine ChK.skip rfl ?_
 refine ChK.skip rfl ?_
 refine yp (p_pick_any rfl rfl (by conv => lhs; whnf)) ?_
 refine ChK.nil ⟨by kernel_rfl, ?_⟩
 refine xw_false (by kernel_rfl) rfl ?_
 refine zi ?_
 refine xw_region (by kernel_rfl) ?_
 refine zm rfl rfl ?_
 refine zp (p_add rfl rfl rfl (by omega) (by omega)) ?_
 refine za rfl rfl ?_
 refine zn ?_
 exact k_round (k + 1) (⟨by omega, by rw [hf2, ← hgo]; exact (rl_miss (by first | exact fun q => c60 q.2 | exact fun q => q53 q.1.2 | exact fun q => q50 q.1.1)).symm⟩) (by omega) (fz ⟨sr, sr, sr, trivial⟩) (gz ⟨rfl, trivial⟩)
 refine xw_any [] (by kernel_rfl) (by kernel_rfl) (by kernel_rfl) (by decide) ?_
 refine ym rfl rfl ?_
 refine ym rfl rfl ?_
 refine yp (p_shl rfl rfl rfl (by omega) (by omega) (by rw [hkn]; omega) (by rw [hkn]; omega)) ?_
 refine yp (pure_eq (s' := .d (.agg (Me.c m))) (norm_pure (p_load_boxs rfl rfl agg_28 rfl (Nat.le_of_ble_eq_true rfl))) (by kernel_rfl)) ?_
 refine ChK.cons rfl (CStep.call rfl (r4unit_xc _ (by assumption)) rfl) ?_
 refine yp (p_no (p_eql rfl rfl rfl) (q50)) ?_
 refine ym rfl rfl ?_
 refine ChK.skip rfl ?_
 refine ChK.skip rfl ?_
 refine yp (p_pick_any rfl rfl (by conv => lhs; whnf)) ?_
 refine ym rfl rfl ?_
 refine ChK.skip rfl ?_
 refine ChK.skip rfl ?_
 refine ChK.skip rfl ?_
 refine ChK.skip rfl ?_
 refine yp (p_pick_any rfl rfl (by conv => lhs; whnf)) ?_
 refine ChK.nil ⟨by kernel_rfl, ?_⟩
 refine xw_false (by kernel_rfl) rfl ?_
 refine zi ?_
 refine xw_region (by kernel_rfl) ?_
 refine zm rfl rfl ?_
 refine zp (p_add rfl rfl rfl (by omega) (by omega)) ?_
 refine za rfl rfl ?_
 refine zn ?_
 exact k_round (k + 1) (⟨by omega, by rw [hf2, ← hgo]; exact (rl_miss (by first | exact fun q => c60 q.2 | exact fun q => q53 q.1.2 | exact fun q => q50 q.1.1)).symm⟩) (by omega) (fz ⟨sr, sr, sr, trivial⟩) (gz ⟨rfl, trivial⟩)
 have hk9 : k = 9 := by omega
 subst hk9
 refine xw_exit ?_
 refine zr ?_
 refine za rfl rfl ?_
 refine zn ?_
 refine zt ?_
 exact z1 rfl rfl (rI hgo)
 refine zk 3 rfl ?_
 refine zq rfl rfl rfl ?_
 refine za rfl rfl ?_
 refine zn ?_
 refine xw_false (by kernel_rfl) rfl ?_
 refine zs ?_
 have hns : ¬ ((2 * (a % m.len) = m.len ∧ (m.groups.length : Int) % 2 = 0) ∧ minL m.groups = maxL m.groups) := by first | exact fun k => c23 ⟨hae.2 k.2, k.1.2⟩ | exact fun k => g29 k.1.1
 refine xw_region (by kernel_rfl) ?_
 refine zm rfl rfl ?_
 refine zp (p_eql rfl rfl rfl) ?_
 refine za rfl rfl ?_
 refine zn ?_
 refine zd rfl (fun c34 => ?_) (fun c34 => ?_)
 refine zr ?_
 refine za rfl rfl ?_
 refine zn ?_
 refine zt ?_
 exact z1 rfl rfl (rI (lv_2 c20 hns (hof.1 c34)))
 refine zi ?_
 refine zs ?_
 refine zr ?_
 refine za rfl rfl ?_
 refine zn ?_
 refine xw_block ?_
 refine xw_loop (α := Nat) (fun k => k ≤ 9 ∧ rl (a % m.len) m.u (9 - k) k = m.level a) (fun k => mkF [(2, .ptr 2 0 0), (5, .d (dI (a % m.len))), (8, .d (dI (k : Nat)))]) (fun k => mkH [(2, .box ((Me.c m).map S.d))]) (fun k => 9 - k) (0) (⟨Nat.zero_le _, lev_ref h c20 hns (fun q => c34 (hof.2 q))⟩) ?_ ?_ ?_
 exact fz ⟨sr, sr, sr, trivial⟩
 exact gz ⟨rfl, trivial⟩
 intro k hk1
 obtain ⟨hk, hgo⟩ := hk1
 have hp9 := pow9 hk
 have hq0 : 0 ≤ m.u / 2 ^ k := Int.ediv_nonneg (by omega) (by omega)
 have hq1 : m.u / 2 ^ k ≤ m.u := Int.ediv_le_self _ (by omega)
 have hq2 : m.u / 2 ^ k * 2 ^ k ≤ m.u := Int.ediv_mul_le _ (by omega)
 have hq3 : 0 ≤ m.u / 2 ^ k * 2 ^ k := Int.mul_nonneg hq0 (by omega)
 refine zs ?_
 refine zr ?_
 refine zm rfl rfl ?_
 refine zp (p_leq rfl rfl rfl) ?_
 refine zn ?_
 refine zd rfl (fun c38 => ?_) (fun c38 => ?_)
 obtain ⟨f, hf⟩ : ∃ f, 9 - k = f + 1 := ⟨8 - k, by omega⟩
 rw [hf] at hgo
 have hf2 : 9 - (k + 1) = f := by omega
 have hkn : (k : Int).toNat = k := Int.toNat_natCast k
 refine zi ?_
 refine zs ?_
 refine xw_block ?_
 refine zr ?_
 refine zp (pure_eq (s' := .d (.agg (Me.c m))) (norm_pure (p_load_boxs rfl rfl agg_28 rfl (Nat.le_of_ble_eq_true rfl))) (by kernel_rfl)) ?_
 refine XL.call1 rfl rfl (r4unit_xc _ (by assumption)) rfl ?_
 refine zm rfl rfl ?_
 refine zp (p_shr rfl rfl rfl (by omega) (by omega)) ?_
 refine za rfl rfl ?_
 refine zn ?_
 refine zs ?_
 by_cases q50 : m.u / 2 ^ k * 2 ^ k = m.u
 by_cases q53 : 7560 ≤ m.u / 2 ^ k
 refine xw_any [] (by kernel_rfl) (by kernel_rfl) (by kernel_rfl) (by decide) ?_
 refine ym rfl rfl ?_
 refine ym rfl rfl ?_
 refine yp (p_shl rfl rfl rfl (by omega) (by omega) (by rw [hkn]; omega) (by rw [hkn]; omega)) ?_
 refine yp (pure_eq (s' := .d (.agg (Me.c m))) (norm_pure (p_load_boxs rfl rfl agg_28 rfl (Nat.le_of_ble_eq_true rfl))) (by kernel_rfl)) ?_
 refine ChK.cons rfl (CStep.call rfl (r4unit_xc _ (by assumption)) rfl) ?_
 refine yp (p_yes (p_eql rfl rfl rfl) (q50)) ?_
 refine ym rfl rfl ?_
 refine ym rfl rfl ?_
 refine yp (p_yes (p_geq rfl rfl rfl) (q53)) ?_
 refine yp (p_pick_any rfl rfl (by conv => lhs; whnf)) ?_
 refine ym rfl rfl ?_
 refine ym rfl rfl ?_
 refine ym rfl rfl ?_
 refine yp (p_rem rfl rfl rfl (by omega) (by rw [hkn]; omega)) ?_
 refine yp (p_eql rfl rfl rfl) ?_
 refine yp (p_pick_any rfl rfl (by conv => lhs; whnf)) ?_
 refine ChK.nil ⟨by kernel_rfl, ?_⟩
 refine zd rfl (fun c60 => ?_) (fun c60 => ?_)
 refine zr ?_
 refine zm rfl rfl ?_
 refine zp (p_add rfl rfl rfl (by omega) (by omega)) ?_
 refine za rfl rfl ?_
 refine zn ?_
 refine zt ?_
 exact z1 rfl rfl (rI ((rl_hit ⟨⟨q50, q53⟩, c60⟩).symm.trans hgo))
 refine zi ?_
 refine xw_region (by kernel_rfl) ?_
 refine zm rfl rfl ?_
 refine zp (p_add rfl rfl rfl (by omega) (by omega)) ?_
 refine za rfl rfl ?_
 refine zn ?_
 exact k_round (k + 1) (⟨by omega, by rw [hf2, ← hgo]; exact (rl_miss (by first | exact fun q => c60 q.2 | exact fun q => q53 q.1.2 | exact fun q => q50 q.1.1)).symm⟩) (by omega) (fz ⟨sr, sr, sr, trivial⟩) (gz ⟨rfl, trivial⟩)
 refine xw_any [] (by kernel_rfl) (by kernel_rfl) (by kernel_rfl) (by decide) ?_
 refine ym rfl rfl ?_
 refine ym rfl rfl ?_
 refine yp (p_shl rfl rfl rfl (by omega) (by omega) (by rw [hkn]; omega) (by rw [hkn]; omega)) ?_
 refine yp (pure_eq (s' := .d (.agg (Me.c m))) (norm_pure (p_load_boxs rfl rfl agg_28 rfl (Nat.le_of_ble_eq_true rfl))) (by kernel_rfl)) ?_
 refine ChK.cons rfl (CStep.call rfl (r4unit_xc _ (by assumption)) rfl) ?_
 refine yp (p_yes (p_eql rfl rfl rfl) (q50)) ?_
 refine ym rfl rfl ?_
 refine ym rfl rfl ?_
 refine yp (p_no (p_geq rfl rfl rfl) (q53)) ?_
 refine yp (p_pick_any rfl rfl (by conv => lhs; whnf)) ?_
 refine ym rfl rfl ?_
 refine ChK.skip rfl ?_
 refine ChK.skip rfl ?_
 refine ChK.skip rfl ?_
 refine ChK.skip rfl ?_
 refine yp (p_pick_any rfl rfl (by conv => lhs; whnf)) ?_
 refine ChK.nil ⟨by kernel_rfl, ?_⟩
 refine xw_false (by kernel_rfl) rfl ?_
 refine zi ?_
 refine xw_region (by kernel_rfl) ?_
 refine zm rfl rfl ?_
 refine zp (p_add rfl rfl rfl (by omega) (by omega)) ?_
 refine za rfl rfl ?_
 refine zn ?_
 exact k_round (k + 1) (⟨by omega, by rw [hf2, ← hgo]; exact (rl_miss (by first | exact fun q => c60 q.2 | exact fun q => q53 q.1.2 | exact fun q => q50 q.1.1)).symm⟩) (by omega) (fz ⟨sr, sr, sr, trivial⟩) (gz ⟨rfl, trivial⟩)
 refine xw_any [] (by kernel_rfl) (by kernel_rfl) (by kernel_rfl) (by decide) ?_
 refine ym rfl rfl ?_
 refine ym rfl rfl ?_
 refine yp (p_shl rfl rfl rfl (by omega) (by omega) (by rw [hkn]; omega) (by rw [hkn]; omega)) ?_
 refine yp (pure_eq (s' := .d (.agg (Me.c m))) (norm_pure (p_load_boxs rfl rfl agg_28 rfl (Nat.le_of_ble_eq_true rfl))) (by kernel_rfl)) ?_
 refine ChK.cons rfl (CStep.call rfl (r4unit_xc _ (by assumption)) rfl) ?_
 refine yp (p_no (p_eql rfl rfl rfl) (q50)) ?_
 refine ym rfl rfl ?_
 refine ChK.skip rfl ?_
 refine ChK.skip rfl ?_
 refine yp (p_pick_any rfl rfl (by conv => lhs; whnf)) ?_
 refine ym rfl rfl ?_
 refine ChK.skip rfl ?_
 refine ChK.skip rfl ?_
 refine ChK.skip rfl ?_
 refine ChK.skip rfl ?_
 refine yp (p_pick_any rfl rfl (by conv => lhs; whnf)) ?_
 refine ChK.nil ⟨by kernel_rfl, ?_⟩
 refine xw_false (by kernel_rfl) rfl ?_
 refine zi ?_
 refine xw_region (by kernel_rfl) ?_
 refine zm rfl rfl ?_
 refine zp (p_add rfl rfl rfl (by omega) (by omega)) ?_
 refine za rfl rfl ?_
 refine zn ?_
 exact k_round (k + 1) (⟨by omega, by rw [hf2, ← hgo]; exact (rl_miss (by first | exact fun q => c60 q.2 | exact fun q => q53 q.1.2 | exact fun q => q50 q.1.1)).symm⟩) (by omega) (fz ⟨sr, sr, sr, trivial⟩) (gz ⟨rfl, trivial⟩)
 have hk9 : k = 9 := by omega
 subst hk9
 refine xw_exit ?_
 refine zr ?_
 refine za rfl rfl ?_
 refine zn ?_
 refine zt ?_
 exact z1 rfl rfl (rI hgo)
end Go.Proofs.YtcihalbakenleaaGreat
namespace Go.Proofs.YtcihalbakenleaaGreat
open Go.RowKit
theorem r4ticks_xc (v : Val) (h : valErr v = 0) : XC Tryz.prog 156 [.agg (Val.c v)] (fun r => r = dI (valTicks v)) := by
 have hv := of_valErr (v := v) (by omega)
 have hp := valPlain_bd v
 refine xc_body callable_156 Tryz.func156 rfl rfl (Nat.le_of_ble_eq_true rfl) ?_
 refine zr ?_
 refine XL.step rfl (st_boxN 1 (l := [.d (dI v.log), .d (dI v.dots)]) rfl rfl (by kernel_rfl)) ?_
 refine za rfl rfl ?_
 refine znr ?_
 refine za rfl rfl ?_
 refine zn ?_
 refine zs ?_
 refine zr ?_
 refine za rfl rfl ?_
 refine zn ?_
 refine xw_block ?_
 refine xw_loop (α := Nat) (fun k => (k : Int) ≤ v.log + 1) (fun k => mkF [(1, .ptr 1 0 0), (2, .d (dI 0)), (3, .d (dI (halves k))), (4, .d (dI ((k : Int) - 1)))]) (fun k => mkH [(1, .box ((Val.c v).map S.d))]) (fun k => (v.log + 1).toNat - k) (0) (by omega) ?_ ?_ ?_
 exact fz ⟨sr, sr, .same (sI (by decide)), .same (sI (by decide)), trivial⟩
 exact gz ⟨rfl, trivial⟩
 intro k hk0
 have hh := halves_bd k
 refine zs ?_
 refine zr ?_
 refine zm rfl rfl ?_
 refine zp (p_fld_ptr rfl rfl fld_56_0) ?_
 refine zp (p_load_box rfl rfl sc_3 rfl rfl) ?_
 refine zp (p_lss rfl rfl rfl) ?_
 refine zn ?_
 refine zd rfl (fun c10 => ?_) (fun c10 => ?_)
 refine zi ?_
 refine zs ?_
 refine xw_block ?_
 refine xw_region (by kernel_rfl) ?_
 refine zm rfl rfl ?_
 refine zp (p_quo rfl rfl rfl (by omega) (by omega) (by omega)) ?_
 refine za rfl rfl ?_
 refine zn ?_
 refine xw_region (by kernel_rfl) ?_
 refine zm rfl rfl ?_
 refine zp (p_add rfl rfl rfl (by omega) (by omega)) ?_
 refine za rfl rfl ?_
 refine zn ?_
 exact k_round (k + 1) (by omega) (by omega) (fz ⟨sr, sr, .same (sI (halves_succ k)), .same (sI (by omega)), trivial⟩) (gz ⟨rfl, trivial⟩)
 have hpl := halves_log (v := v) (k := k) (by omega)
 refine xw_exit ?_
 refine zr ?_
 refine zm rfl rfl ?_
 refine za rfl rfl ?_
 refine zn ?_
 refine zs ?_
 refine zr ?_
 refine za rfl rfl ?_
 refine zn ?_
 refine xw_block ?_
 refine xw_loop (α := Nat) (fun m => (m : Int) ≤ v.dots) (fun m => mkF [(1, .ptr 1 0 0), (2, .d (dI 0)), (3, .d (dI (dotted (valPlain v) m).1)), (5, .d (dI (dotted (valPlain v) m).2)), (6, .d (dI (m : Nat)))]) (fun m => mkH [(1, .box ((Val.c v).map S.d))]) (fun m => v.dots.toNat - m) (0) (hv.2.2.1) ?_ ?_ ?_
 exact fz ⟨sr, sr, .same (sI hpl), .same (sI hpl), sr, trivial⟩
 exact gz ⟨rfl, trivial⟩
 intro m hk2
 refine zs ?_
 refine zr ?_
 refine zm rfl rfl ?_
 refine zp (p_fld_ptr rfl rfl fld_56_1) ?_
 refine zp (p_load_box rfl rfl sc_3 rfl rfl) ?_
 refine zp (p_lss rfl rfl rfl) ?_
 refine zn ?_
 refine zd rfl (fun c19 => ?_) (fun c19 => ?_)
 have hb := dotted_bd hp.1 m
 have hb2 : valPlain v * ((m : Int) + 1) ≤ 3870720 * 4 := Int.mul_le_mul hp.2 (by omega) (by omega) (by omega)
 refine zi ?_
 refine zs ?_
 refine xw_block ?_
 refine zr ?_
 refine zm rfl rfl ?_
 refine zp (p_quo rfl rfl rfl (by omega) (by omega) (by omega)) ?_
 refine za rfl rfl ?_
 refine zng ?_
 refine zm rfl rfl ?_
 refine zm rfl rfl ?_
 refine zp (p_add rfl rfl rfl (by omega) (by omega)) ?_
 refine za rfl rfl ?_
 refine zn ?_
 refine xw_region (by kernel_rfl) ?_
 refine zm rfl rfl ?_
 refine zp (p_add rfl rfl rfl (by omega) (by omega)) ?_
 refine za rfl rfl ?_
 refine zn ?_
 exact k_round (m + 1) (by omega) (by omega) (fz ⟨sr, sr, sr, sr, sr, trivial⟩) (gz ⟨rfl, trivial⟩)
 have hke : v.dots.toNat = m := by omega
 refine xw_exit ?_
 refine zr ?_
 refine zm rfl rfl ?_
 refine za rfl rfl ?_
 refine zn ?_
 refine zt ?_
 exact z1 rfl rfl (rI (by rw [valTicks, hke]))
theorem find_at {p : Val → Bool} : ∀ {l : List Val} {q : Nat} {x : Val}, l[q]? = some x → p x = true → (∀ (i : Nat) y, i < q → l[i]? = some y → p y = false) → l.find? p = some x
 | [], q, x, h, _, _ => by simp at h
 | a :: l, 0, x, h, hp, _ => by cases h; rw [List.find?_cons_of_pos hp]
 | a :: l, q + 1, x, h, hp, hb => by
  rw [List.find?_cons_of_neg (by rw [hb 0 a (by omega) rfl]; decide)]
  exact find_at (by simpa using h) hp fun i y hi hy => hb (i + 1) y (by omega) hy
theorem allV_get {q : Nat} (h : q < 40) : allV[q]? = some (valAt q) := by rw [allV, List.getElem?_map, allQ_get h]; rfl
theorem allV_len : allV.length = 40 := by rw [allV, List.length_map, allQ, List.length_ofFn]
theorem valAt_kj (k j : Nat) (hj : j < 4) : valAt (4 * k + j) = ⟨(k : Int) - 1, (j : Int)⟩ := by
 unfold valAt
 rw [show (4 * k + j) / 4 = k by omega, show (4 * k + j) % 4 = j by omega]
theorem fv_hit {d : Int} {q : Nat} (hq : q < 40) (hall : ∀ i, i < q → valTicks (valAt i) ≠ d) (h : valTicks (valAt q) = d) : findV d = valAt q ∧ findE d = 0 := by
 have : findO d allV = some (valAt q) := find_at (allV_get hq) (by simpa using h) fun i y hi hy => by
  rw [allV_get (by omega)] at hy; cases hy; exact decide_eq_false (hall i hi)
 exact ⟨by rw [findV, this]; rfl, by rw [findE, this, if_neg (by simp)]⟩
theorem fv_none {d : Int} (hall : ∀ i, i < 40 → valTicks (valAt i) ≠ d) : findV d = ⟨0, 0⟩ ∧ findE d = 17 := by
 have : findO d allV = none := by
  unfold findO
  rw [List.find?_eq_none]
  intro x hx
  obtain ⟨i, hi⟩ := List.getElem?_of_mem hx
  have hl := (List.getElem?_eq_some_iff.1 hi).1
  rw [allV_len] at hl
  rw [allV_get hl] at hi; cases hi
  simpa using hall i hl
 exact ⟨by rw [findV, this]; rfl, by rw [findE, this, if_pos rfl]⟩
theorem val_yes {d : Int} {v : Val} (h : findV d = v ∧ findE d = 0) : D.tup [.agg (Val.c v), dB true] = .tup [.agg (Val.c (findV d)), dB (decide (findE d = 0))] := by rw [h.1, h.2]; rfl
theorem val_no {d : Int} (h : findV d = ⟨0, 0⟩ ∧ findE d = 17) : D.tup [.agg (Val.c ⟨0, 0⟩), dB false] = .tup [.agg (Val.c (findV d)), dB (decide (findE d = 0))] := by rw [h.1, h.2]; rfl
theorem r4value_xc (d : Int) : XC Tryz.prog 125 [.v (.int .i64 d)] (fun r => r = .tup [.agg (Val.c (findV d)), dB (decide (findE d = 0))]) := by
 refine xc_body callable_125 Tryz.func125 rfl rfl (Nat.le_of_ble_eq_true rfl) ?_
 refine zr ?_
 refine XL.step rfl (st_allocN 2 (l := [.d (dI 0), .d (dI 0)]) rfl zero_56 (by kernel_rfl)) ?_
 refine za rfl rfl ?_
 refine zn ?_
 refine zs ?_
 refine zr ?_
 refine za rfl rfl ?_
 refine zn ?_
 refine xw_block ?_
 refine xw_loop (α := Nat) (fun k => k ≤ 10 ∧ ∀ i, i < 4 * k → valTicks (valAt i) ≠ d) (fun k => mkF [(0, .d (dI d)), (2, .ptr 2 0 0), (4, .d (dI ((k : Int) - 1)))]) (fun k => mkH [(2, .box [.d (dI 0), .d (dI 0)])]) (fun k => 10 - k) (0) (⟨Nat.zero_le _, fun i h => absurd h (Nat.not_lt_zero _)⟩) ?_ ?_ ?_
 exact fz ⟨sr, sr, .same (sI (by decide)), trivial⟩
 exact gz ⟨rfl, trivial⟩
 intro k hk0
 obtain ⟨hk, hall⟩ := hk0
 refine zs ?_
 refine zr ?_
 refine zm rfl rfl ?_
 refine zp (p_leq rfl rfl rfl) ?_
 refine zn ?_
 refine zd rfl (fun c8 => ?_) (fun c8 => ?_)
 refine zi ?_
 refine zs ?_
 refine xw_block ?_
 refine zr ?_
 refine za rfl rfl ?_
 refine zn ?_
 refine xw_block ?_
 refine xw_loop (α := Nat) (fun j => j ≤ 4 ∧ ∀ i, i < 4 * k + j → valTicks (valAt i) ≠ d) (fun j => mkF [(0, .d (dI d)), (2, .ptr 2 0 0), (4, .d (dI ((k : Int) - 1))), (5, .d (dI (j : Nat)))]) (fun j => mkH [(2, .box [.d (dI 0), .d (dI 0)])]) (fun j => 4 - j) (0) (⟨Nat.zero_le _, fun i h => hall i (by omega)⟩) ?_ ?_ ?_
 exact fz ⟨sr, sr, sr, sr, trivial⟩
 exact gz ⟨rfl, trivial⟩
 intro j hk2
 obtain ⟨hj, hall2⟩ := hk2
 refine zs ?_
 refine zr ?_
 refine zm rfl rfl ?_
 refine zp (p_leq rfl rfl rfl) ?_
 refine zn ?_
 refine zd rfl (fun c12 => ?_) (fun c12 => ?_)
 have hj4 : j < 4 := by omega
 have hkj := valAt_kj k j hj4
 have hve : valErr ⟨(k : Int) - 1, (j : Int)⟩ = 0 := (valErr_ok ⟨by show -1 ≤ (k : Int) - 1; omega, by show (k : Int) - 1 ≤ 8; omega, by show (0 : Int) ≤ (j : Int); omega, by show (j : Int) ≤ 3; omega⟩).symm
 refine zi ?_
 refine zs ?_
 refine xw_block ?_
 refine zr ?_
 refine zm rfl rfl ?_
 refine zm rfl rfl ?_
 refine zp (pure_eq (s' := .d (.agg [dI ((k : Int) - 1), dI (j : Nat)])) (norm_pure (p_build rfl str_56 zero_56 rfl)) (by kernel_rfl)) ?_
 refine XL.step rfl (st_allocN 6 (l := [.d (dI 0), .d (dI 0)]) rfl zero_56 (by kernel_rfl)) ?_
 refine XL.step rfl (st_storeN (l' := [.d (dI ((k : Int) - 1)), .d (dI (j : Nat))]) rfl rfl rfl rfl sz_56 rfl (Nat.le_of_ble_eq_true rfl) (by kernel_rfl)) ?_
 refine znr ?_
 refine zp (pure_eq (s' := .d (.agg [dI ((k : Int) - 1), dI (j : Nat)])) (norm_pure (p_load_boxs rfl rfl agg_56 rfl (Nat.le_of_ble_eq_true rfl))) (by kernel_rfl)) ?_
 refine XL.call1 rfl rfl (r4ticks_xc ⟨(k : Int) - 1, (j : Int)⟩ hve) rfl ?_
 refine zm rfl rfl ?_
 refine zp (p_eql rfl rfl rfl) ?_
 refine zn ?_
 refine zd rfl (fun c21 => ?_) (fun c21 => ?_)
 refine zr ?_
 refine zp (pure_eq (s' := .d (.agg [dI ((k : Int) - 1), dI (j : Nat)])) (norm_pure (p_load_boxs rfl rfl agg_56 rfl (Nat.le_of_ble_eq_true rfl))) (by kernel_rfl)) ?_
 refine XL.step rfl (st_storeN (l' := [.d (dI ((k : Int) - 1)), .d (dI (j : Nat))]) rfl rfl rfl rfl sz_56 rfl (Nat.le_of_ble_eq_true rfl) (by kernel_rfl)) ?_
 refine za rfl rfl ?_
 refine zn ?_
 refine zt ?_
 exact ret2 rfl (RV.cells rfl rfl rfl agg_56 (Nat.le_of_ble_eq_true rfl) rfl) (RV.tmp rfl rfl) (val_yes (v := ⟨(k : Int) - 1, (j : Int)⟩) (by rw [← hkj]; exact fv_hit (by omega) hall2 (by rw [hkj]; exact c21)))
 refine zi ?_
 refine xw_region (by kernel_rfl) ?_
 refine zm rfl rfl ?_
 refine zp (p_add rfl rfl rfl (by omega) (by omega)) ?_
 refine za rfl rfl ?_
 refine zn ?_
 exact k_round (j + 1) (⟨by omega, fun i hi => by by_cases e : i = 4 * k + j; (· rw [e, hkj]; exact c21); (· exact hall2 i (by omega))⟩) (by omega) (fz ⟨sr, sr, sr, sr, trivial⟩) (gz ⟨rfl, trivial⟩)
 refine xw_exit ?_
 refine xw_region (by kernel_rfl) ?_
 refine zm rfl rfl ?_
 refine zp (p_add rfl rfl rfl (by omega) (by omega)) ?_
 refine za rfl rfl ?_
 refine zn ?_
 exact k_round (k + 1) (⟨by omega, fun i hi => hall2 i (by omega)⟩) (by omega) (fz ⟨sr, sr, .same (sI (by omega)), trivial⟩) (gz ⟨rfl, trivial⟩)
 refine xw_exit ?_
 refine zr ?_
 refine zp (pure_eq (s' := .d (.agg [dI 0, dI 0])) (norm_pure (p_build rfl str_56 zero_56 rfl)) (by kernel_rfl)) ?_
 refine XL.step rfl (st_storeN (l' := [.d (dI 0), .d (dI 0)]) rfl rfl rfl rfl sz_56 rfl (Nat.le_of_ble_eq_true rfl) (by kernel_rfl)) ?_
 refine za rfl rfl ?_
 refine zn ?_
 refine zt ?_
 exact ret2 rfl (RV.cells rfl rfl rfl agg_56 (Nat.le_of_ble_eq_true rfl) rfl) (RV.tmp rfl rfl) (val_no (fv_none (fun i hi => hall i (by omega))))
/-- the level that was found, or 99 -/
def stl (p : Int × Int × Bool) : Int := if p.2.2 = true then p.2.1 else 99
theorem stl_t {p : Int × Int × Bool} (h : p.2.2 = true) : stl p = p.2.1 := by rw [stl, if_pos h]
theorem stl_f {p : Int × Int × Bool} (h : ¬ p.2.2 = true) : stl p = 99 := by rw [stl, if_neg h]
theorem st_yes {m : Me} {a : Int} {k : Nat} (h : m.level (a + 7560 * (k + 1)) < stl (strK m a k)) : strK m a (k + 1) = (a + 7560 * (k + 1), m.level (a + 7560 * (k + 1)), true) := by
 refine strK_yes ?_
 by_cases c : (strK m a k).2.2 = true
 ·rw [stl_t c] at h; exact .inr h
 ·exact .inl (by simpa using c)
theorem st_no {m : Me} {a : Int} {k : Nat} (h : ¬ m.level (a + 7560 * (k + 1)) < stl (strK m a k)) : strK m a (k + 1) = strK m a k := by
 have hl := level_bd m (a + 7560 * (k + 1))
 by_cases c : (strK m a k).2.2 = true
 ·rw [stl_t c] at h; exact strK_no c h
 ·rw [stl_f c] at h; omega
theorem r4strong_xc (m : Me) (a b : Int) (h : Mok m) (ha : 0 ≤ a ∧ a ≤ 4398046511104) (hb : b ≤ 4398046511104) : XC Tryz.prog 124 [.agg (Me.c m), .v (.int .i64 a), .v (.int .i64 b)] (fun r => r = .tup [dI (m.strong a b).1, dI (stl (m.strong a b))]) := by
 have hN : strN a b = ((b - a - 1) / 7560).toNat := rfl
 refine xc_body callable_124 Tryz.func124 rfl rfl (Nat.le_of_ble_eq_true rfl) ?_
 refine zr ?_
 refine XL.step rfl (st_boxN 3 (l := [.d (dI m.count), .d (dI m.unit), .d (dI m.g0), .d (dI m.g1), .d (dI m.g2), .d (dI m.g3), .d (dI m.g4), .d (dI m.g5)]) rfl rfl (by kernel_rfl)) ?_
 refine za rfl rfl ?_
 refine za rfl rfl ?_
 refine znr ?_
 refine za rfl rfl ?_
 refine zn ?_
 refine zs ?_
 refine zr ?_
 refine zm rfl rfl ?_
 refine zp (p_add rfl rfl rfl (by omega) (by omega)) ?_
 refine za rfl rfl ?_
 refine zn ?_
 refine xw_block ?_
 refine xw_loop (α := Nat) (fun k => k ≤ strN a b) (fun k => mkF [(2, .d (dI b)), (3, .ptr 3 0 0), (6, .d (dI (strK m a k).1)), (7, .d (dI (stl (strK m a k)))), (8, .d (dI (a + 7560 * (k + 1))))]) (fun k => mkH [(3, .box ((Me.c m).map S.d))]) (fun k => strN a b - k) (0) (Nat.zero_le _) ?_ ?_ ?_
 exact fz ⟨sr, sr, sr, sr, .same (sI (by omega)), trivial⟩
 exact gz ⟨rfl, trivial⟩
 intro k hk0
 refine zs ?_
 refine zr ?_
 refine zm rfl rfl ?_
 refine zm rfl rfl ?_
 refine zp (p_lss rfl rfl rfl) ?_
 refine zn ?_
 refine zd rfl (fun c14 => ?_) (fun c14 => ?_)
 have hlt : k < strN a b := by omega
 refine zi ?_
 refine zs ?_
 refine xw_block ?_
 refine zr ?_
 refine zp (pure_eq (s' := .d (.agg (Me.c m))) (norm_pure (p_load_boxs rfl rfl agg_28 rfl (Nat.le_of_ble_eq_true rfl))) (by kernel_rfl)) ?_
 refine zm rfl rfl ?_
 refine XL.call1 rfl rfl (r4level_xc _ _ (by assumption) (by omega)) rfl ?_
 refine za rfl rfl ?_
 refine znr ?_
 refine zm rfl rfl ?_
 refine zm rfl rfl ?_
 refine zp (p_lss rfl rfl rfl) ?_
 refine zn ?_
 refine zd rfl (fun c22 => ?_) (fun c22 => ?_)
 refine xw_region (by kernel_rfl) ?_
 refine zm rfl rfl ?_
 refine zm rfl rfl ?_
 refine za rfl rfl ?_
 refine za rfl rfl ?_
 refine zn ?_
 refine xw_region (by kernel_rfl) ?_
 refine zm rfl rfl ?_
 refine zp (p_add rfl rfl rfl (by omega) (by omega)) ?_
 refine za rfl rfl ?_
 refine zn ?_
 exact k_round (k + 1) (by omega) (by omega) (fz ⟨sr, sr, .same (sI (by rw [st_yes c22])), .same (sI (by rw [st_yes c22]; rfl)), .same (sI (by omega)), trivial⟩) (gz ⟨rfl, trivial⟩)
 refine zi ?_
 refine xw_region (by kernel_rfl) ?_
 refine zm rfl rfl ?_
 refine zp (p_add rfl rfl rfl (by omega) (by omega)) ?_
 refine za rfl rfl ?_
 refine zn ?_
 exact k_round (k + 1) (by omega) (by omega) (fz ⟨sr, sr, .same (sI (by rw [st_no c22])), .same (sI (by rw [st_no c22])), .same (sI (by omega)), trivial⟩) (gz ⟨rfl, trivial⟩)
 have hk : k = strN a b := by omega
 refine xw_exit ?_
 refine zr ?_
 refine zm rfl rfl ?_
 refine zm rfl rfl ?_
 refine za rfl rfl ?_
 refine za rfl rfl ?_
 refine zn ?_
 refine zt ?_
 exact ret2 rfl (RV.tmp rfl rfl) (RV.tmp rfl rfl) (by rw [hk]; rfl)
theorem find_7560b : (findV 7560).dots = 0 := by decide +kernel
/-- where a duration is not written as one value, there is a tick between -/
theorem r4_found {m : Me} {a b : Int} (hab : a ≤ b) (hne : ¬ a = b) (ha : a % 7560 = 0) (hb : b % 7560 = 0) (h : ¬ ((findE (b - a) = 0 ∧ (findV (b - a)).dots ≤ 2) ∧ m.level a ≤ stl (m.strong a b) ∧ (0 < (findV (b - a)).dots ∨ m.level b ≤ stl (m.strong a b)))) : (m.strong a b).2.2 = true := by
 refine Decidable.not_not.1 fun c => h ?_
 have hn := strong_none (m := m) (a := a) (b := b) (by simpa using c)
 unfold strN at hn
 have hd : b - a = 7560 := by omega
 have h1 := level_bd m a
 have h2 := level_bd m b
 rw [hd, stl_f c, find_7560, find_7560b]
 omega
theorem r4_one {m : Me} {a b : Int} (h : (findE (b - a) = 0 ∧ (findV (b - a)).dots ≤ 2) ∧ m.level a ≤ stl (m.strong a b) ∧ (0 < (findV (b - a)).dots ∨ m.level b ≤ stl (m.strong a b))) : m.simp a b ∨ (m.strong a b).2.2 = false := by
 by_cases c : (m.strong a b).2.2 = true
 ·rw [stl_t c] at h
  exact .inl ⟨h.1.1, h.1.2, fun _ => h.2⟩
 ·exact .inr (by simpa using c)
theorem r4_cut {m : Me} {a b : Int} (hw : (m.strong a b).2.2 = true) (h : ¬ ((findE (b - a) = 0 ∧ (findV (b - a)).dots ≤ 2) ∧ m.level a ≤ stl (m.strong a b) ∧ (0 < (findV (b - a)).dots ∨ m.level b ≤ stl (m.strong a b)))) : ¬ m.simp a b := fun ⟨k1, k2, k3⟩ => h ⟨⟨k1, k2⟩, by rw [stl_t hw]; exact k3 hw⟩
theorem strong_mod {m : Me} {a b : Int} (ha : a % 7560 = 0) (hw : (m.strong a b).2.2 = true) : (m.strong a b).1 % 7560 = 0 := by
 obtain ⟨j, _, hj⟩ := strong_bd hw
 rw [hj]; omega
theorem r4split_step (m : Me) (h : Mok m) (f : Nat) (ih : ∀ a b, SpP f a b → a % 7560 = 0 → b % 7560 = 0 → XS Tryz.prog 76 [.agg (Me.c m), dI a, dI b] (.own 7001) [(7001, .row 56 2 ((splitF m f a b).map Val.c))]) (a b : Int) (hp : SpP (f + 1) a b) (hma : a % 7560 = 0) (hmb : b % 7560 = 0) : XS Tryz.prog 76 [.agg (Me.c m), .v (.int .i64 a), .v (.int .i64 b)] (.own 7001) [(7001, .row 56 2 ((splitF m (f + 1) a b).map Val.c))] := by
 obtain ⟨ha, hab, hb, hd, hf⟩ := id hp
 refine xs_body callable_76 Tryz.func76 rfl rfl (Nat.le_of_ble_eq_true rfl) (by kernel_rfl) (by kernel_rfl) ?_
 refine zr ?_
 refine XL.step rfl (st_boxN 3 (l := [.d (dI m.count), .d (dI m.unit), .d (dI m.g0), .d (dI m.g1), .d (dI m.g2), .d (dI m.g3), .d (dI m.g4), .d (dI m.g5)]) rfl rfl (by kernel_rfl)) ?_
 refine za rfl rfl ?_
 refine zn ?_
 refine zs ?_
 refine zr ?_
 refine zm rfl rfl ?_
 refine zm rfl rfl ?_
 refine zp (p_eql rfl rfl rfl) ?_
 refine zn ?_
 refine zd rfl (fun c13 => ?_) (fun c13 => ?_)
 refine zr ?_
 refine za rfl rfl ?_
 refine zn ?_
 refine xw_ownnil 7001 6 56 2 rfl ?_
 refine zt ?_
 exact ⟨rsS1 rfl (RVS.tmp rfl rfl), HSub.cons (by first | exact rowE (by rw [splitF_nil c13]; rfl) | exact sApps (splitF_cut c13 (r4_cut hw hno) hw) | exact rowE (by rw [splitF_one c13 (r4_one ⟨⟨by omega, by omega⟩, by omega, by omega⟩)]; rfl)) (HSub.nil)⟩
 refine zi ?_
 refine zr ?_
 refine zp (pure_eq (s' := .d (.agg (Me.c m))) (norm_pure (p_load_boxs rfl rfl agg_28 rfl (Nat.le_of_ble_eq_true rfl))) (by kernel_rfl)) ?_
 refine zm rfl rfl ?_
 refine zm rfl rfl ?_
 refine XL.call1 rfl rfl (r4strong_xc _ _ _ (by assumption) (by omega) (by omega)) rfl ?_
 refine zm rfl rfl ?_
 refine zp (p_ext rfl rfl rfl) ?_
 refine zp (p_ext rfl rfl rfl) ?_
 refine za rfl rfl ?_
 refine za rfl rfl ?_
 refine znr ?_
 refine zm rfl rfl ?_
 refine zm rfl rfl ?_
 refine zp (p_sub rfl rfl rfl (by omega) (by omega)) ?_
 refine XL.call1 rfl rfl (r4value_xc _) rfl ?_
 refine zm rfl rfl ?_
 refine zp (p_ext rfl rfl rfl) ?_
 refine zp (p_ext rfl rfl rfl) ?_
 refine XL.step rfl (st_allocN 9 (l := [.d (dI 0), .d (dI 0)]) rfl zero_56 (by kernel_rfl)) ?_
 refine XL.step rfl (st_storeN (l' := [.d (dI (findV (b - a)).log), .d (dI (findV (b - a)).dots)]) rfl rfl rfl rfl sz_56 rfl (Nat.le_of_ble_eq_true rfl) (by kernel_rfl)) ?_
 refine za rfl rfl ?_
 refine zn ?_
 refine zs ?_
 refine zr ?_
 refine zm rfl rfl ?_
 refine zm rfl rfl ?_
 refine XL.bool 29 rfl (fun g29 => ?_) (fun g29 => ?_)
 have g29 := of_decide_eq_true g29
 refine zp (p_fld_ptr rfl rfl fld_56_1) ?_
 refine zp (p_load_box rfl rfl sc_3 rfl rfl) ?_
 refine zp (p_leq rfl rfl rfl) ?_
 refine zq rfl rfl rfl ?_
 refine zm rfl rfl ?_
 refine XL.dec 34 rfl (fun g34 => ?_) (fun g34 => ?_)
 refine zm rfl rfl ?_
 refine zp (pure_eq (s' := .d (.agg (Me.c m))) (norm_pure (p_load_boxs rfl rfl agg_28 rfl (Nat.le_of_ble_eq_true rfl))) (by kernel_rfl)) ?_
 refine zm rfl rfl ?_
 refine XL.call1 rfl rfl (r4level_xc _ _ (by assumption) (by omega)) rfl ?_
 refine zp (p_geq rfl rfl rfl) ?_
 refine zq rfl rfl rfl ?_
 refine zm rfl rfl ?_
 refine XL.dec 41 rfl (fun g41 => ?_) (fun g41 => ?_)
 refine zp (p_fld_ptr rfl rfl fld_56_1) ?_
 refine zp (p_load_box rfl rfl sc_3 rfl rfl) ?_
 refine zp (p_gtr rfl rfl rfl) ?_
 refine zm rfl rfl ?_
 refine XL.dec 45 rfl (fun g45 => ?_) (fun g45 => ?_)
 refine zk 5 rfl ?_
 refine zq rfl rfl rfl ?_
 refine zq rfl rfl rfl ?_
 refine zn ?_
 refine xw_true (by kernel_rfl) rfl ?_
 refine zr ?_
 refine zp (pure_eq (s' := .d (.agg (Val.c (findV (b - a))))) (norm_pure (p_load_boxs rfl rfl agg_56 rfl (Nat.le_of_ble_eq_true rfl))) (by kernel_rfl)) ?_
 refine XL.step rfl (st_slice 7001 rfl Tryz.underlying106 sz_56 zero_56 rfl rfl (by omega) (by omega)) ?_
 refine zp (p_assign rfl (by conv => lhs; whnf)) ?_
 refine zn ?_
 refine zt ?_
 exact ⟨rsS1 rfl (RVS.tmp rfl rfl), HSub.cons (by first | exact rowE (by rw [splitF_nil c13]; rfl) | exact sApps (splitF_cut c13 (r4_cut hw hno) hw) | exact rowE (by rw [splitF_one c13 (r4_one ⟨⟨by omega, by omega⟩, by omega, by omega⟩)]; rfl)) (HSub.nil)⟩
 refine zm rfl rfl ?_
 refine zp (pure_eq (s' := .d (.agg (Me.c m))) (norm_pure (p_load_boxs rfl rfl agg_28 rfl (Nat.le_of_ble_eq_true rfl))) (by kernel_rfl)) ?_
 refine zm rfl rfl ?_
 refine XL.call1 rfl rfl (r4level_xc _ _ (by assumption) (by omega)) rfl ?_
 refine zp (p_geq rfl rfl rfl) ?_
 refine zq rfl rfl rfl ?_
 refine zq rfl rfl rfl ?_
 refine zn ?_
 refine zd rfl (fun c52 => ?_) (fun c52 => ?_)
 refine zr ?_
 refine zp (pure_eq (s' := .d (.agg (Val.c (findV (b - a))))) (norm_pure (p_load_boxs rfl rfl agg_56 rfl (Nat.le_of_ble_eq_true rfl))) (by kernel_rfl)) ?_
 refine XL.step rfl (st_slice 7001 rfl Tryz.underlying106 sz_56 zero_56 rfl rfl (by omega) (by omega)) ?_
 refine zp (p_assign rfl (by conv => lhs; whnf)) ?_
 refine zn ?_
 refine zt ?_
 exact ⟨rsS1 rfl (RVS.tmp rfl rfl), HSub.cons (by first | exact rowE (by rw [splitF_nil c13]; rfl) | exact sApps (splitF_cut c13 (r4_cut hw hno) hw) | exact rowE (by rw [splitF_one c13 (r4_one ⟨⟨by omega, by omega⟩, by omega, by omega⟩)]; rfl)) (HSub.nil)⟩
 refine zi ?_
 refine zs ?_
 have hno : ¬ ((findE (b - a) = 0 ∧ (findV (b - a)).dots ≤ 2) ∧ m.level a ≤ stl (m.strong a b) ∧ (0 < (findV (b - a)).dots ∨ m.level b ≤ stl (m.strong a b))) := by omega
 have hw := r4_found hab c13 hma hmb hno
 have hmc := strong_mod hma hw
 obtain ⟨hp1, hp2, hp3⟩ := spp_parts hp hw
 have hl1 := splitF_len (m := m) f _ _ hp1
 have hl2 := splitF_len (m := m) f _ _ hp2
 have hN : strN a b ≤ 2048 := by unfold strN; omega
 refine xw_anyP 7 [7001] (by kernel_rfl) (by kernel_rfl) (by kernel_rfl) (by kernel_rfl) (by decide) ?_
 refine yp (pure_eq (s' := .d (.agg (Me.c m))) (norm_pure (p_load_boxs rfl rfl agg_28 rfl (Nat.le_of_ble_eq_true rfl))) (by kernel_rfl)) ?_
 refine ym rfl rfl ?_
 refine ym rfl rfl ?_
 refine ChK.cons rfl (CStep.callS rfl ((ih _ _ hp1 hma hmc).lab 7001) rfl (hn_one (by kernel_rfl))) ?_
 refine yp (pure_eq (s' := .d (.agg (Me.c m))) (norm_pure (p_load_boxs rfl rfl agg_28 rfl (Nat.le_of_ble_eq_true rfl))) (by kernel_rfl)) ?_
 refine ym rfl rfl ?_
 refine ym rfl rfl ?_
 refine ChK.nil ⟨by kernel_rfl, ?_⟩
 refine XL.callS rfl rfl ((ih _ _ hp2 hmc hmb).lab 7002) rfl ?_
 refine XL.step rfl (st_append rfl elt_106 (.own rfl) (Src.own rfl) (by simp only [List.length_map]; unfold maxLen; omega) (by simp only [List.length_map]; omega)) ?_
 refine zp (p_assign rfl (by conv => lhs; whnf)) ?_
 refine zn ?_
 refine zt ?_
 exact ⟨rsS1 rfl (RVS.tmp rfl rfl), HSub.cons (by first | exact rowE (by rw [splitF_nil c13]; rfl) | exact sApps (splitF_cut c13 (r4_cut hw hno) hw) | exact rowE (by rw [splitF_one c13 (r4_one ⟨⟨by omega, by omega⟩, by omega, by omega⟩)]; rfl)) (HSub.nil)⟩
 refine zk 10 rfl ?_
 refine zq rfl rfl rfl ?_
 refine zn ?_
 refine xw_false (by kernel_rfl) rfl ?_
 refine zi ?_
 refine zs ?_
 have hno : ¬ ((findE (b - a) = 0 ∧ (findV (b - a)).dots ≤ 2) ∧ m.level a ≤ stl (m.strong a b) ∧ (0 < (findV (b - a)).dots ∨ m.level b ≤ stl (m.strong a b))) := by omega
 have hw := r4_found hab c13 hma hmb hno
 have hmc := strong_mod hma hw
 obtain ⟨hp1, hp2, hp3⟩ := spp_parts hp hw
 have hl1 := splitF_len (m := m) f _ _ hp1
 have hl2 := splitF_len (m := m) f _ _ hp2
 have hN : strN a b ≤ 2048 := by unfold strN; omega
 refine xw_anyP 7 [7001] (by kernel_rfl) (by kernel_rfl) (by kernel_rfl) (by kernel_rfl) (by decide) ?_
 refine yp (pure_eq (s' := .d (.agg (Me.c m))) (norm_pure (p_load_boxs rfl rfl agg_28 rfl (Nat.le_of_ble_eq_true rfl))) (by kernel_rfl)) ?_
 refine ym rfl rfl ?_
 refine ym rfl rfl ?_
 refine ChK.cons rfl (CStep.callS rfl ((ih _ _ hp1 hma hmc).lab 7001) rfl (hn_one (by kernel_rfl))) ?_
 refine yp (pure_eq (s' := .d (.agg (Me.c m))) (norm_pure (p_load_boxs rfl rfl agg_28 rfl (Nat.le_of_ble_eq_true rfl))) (by kernel_rfl)) ?_
 refine ym rfl rfl ?_
 refine ym rfl rfl ?_
 refine ChK.nil ⟨by kernel_rfl, ?_⟩
 refine XL.callS rfl rfl ((ih _ _ hp2 hmc hmb).lab 7003) rfl ?_
 refine XL.step rfl (st_append rfl elt_106 (.own rfl) (Src.own rfl) (by simp only [List.length_map]; unfold maxLen; omega) (by simp only [List.length_map]; omega)) ?_
 refine zp (p_assign rfl (by conv => lhs; whnf)) ?_
 refine zn ?_
 refine zt ?_
 exact ⟨rsS1 rfl (RVS.tmp rfl rfl), HSub.cons (by first | exact rowE (by rw [splitF_nil c13]; rfl) | exact sApps (splitF_cut c13 (r4_cut hw hno) hw) | exact rowE (by rw [splitF_one c13 (r4_one ⟨⟨by omega, by omega⟩, by omega, by omega⟩)]; rfl)) (HSub.nil)⟩
 refine zk 5 rfl ?_
 refine zq rfl rfl rfl ?_
 refine zm rfl rfl ?_
 refine zk 10 rfl ?_
 refine zq rfl rfl rfl ?_
 refine zn ?_
 refine xw_false (by kernel_rfl) rfl ?_
 refine zi ?_
 refine zs ?_
 have hno : ¬ ((findE (b - a) = 0 ∧ (findV (b - a)).dots ≤ 2) ∧ m.level a ≤ stl (m.strong a b) ∧ (0 < (findV (b - a)).dots ∨ m.level b ≤ stl (m.strong a b))) := by omega
 have hw := r4_found hab c13 hma hmb hno
 have hmc := strong_mod hma hw
 obtain ⟨hp1, hp2, hp3⟩ := spp_parts hp hw
 have hl1 := splitF_len (m := m) f _ _ hp1
 have hl2 := splitF_len (m := m) f _ _ hp2
 have hN : strN a b ≤ 2048 := by unfold strN; omega
 refine xw_anyP 7 [7001] (by kernel_rfl) (by kernel_rfl) (by kernel_rfl) (by kernel_rfl) (by decide) ?_
 refine yp (pure_eq (s' := .d (.agg (Me.c m))) (norm_pure (p_load_boxs rfl rfl agg_28 rfl (Nat.le_of_ble_eq_true rfl))) (by kernel_rfl)) ?_
 refine ym rfl rfl ?_
 refine ym rfl rfl ?_
 refine ChK.cons rfl (CStep.callS rfl ((ih _ _ hp1 hma hmc).lab 7001) rfl (hn_one (by kernel_rfl))) ?_
 refine yp (pure_eq (s' := .d (.agg (Me.c m))) (norm_pure (p_load_boxs rfl rfl agg_28 rfl (Nat.le_of_ble_eq_true rfl))) (by kernel_rfl)) ?_
 refine ym rfl rfl ?_
 refine ym rfl rfl ?_
 refine ChK.nil ⟨by kernel_rfl, ?_⟩
 refine XL.callS rfl rfl ((ih _ _ hp2 hmc hmb).lab 7004) rfl ?_
 refine XL.step rfl (st_append rfl elt_106 (.own rfl) (Src.own rfl) (by simp only [List.length_map]; unfold maxLen; omega) (by simp only [List.length_map]; omega)) ?_
 refine zp (p_assign rfl (by conv => lhs; whnf)) ?_
 refine zn ?_
 refine zt ?_
 exact ⟨rsS1 rfl (RVS.tmp rfl rfl), HSub.cons (by first | exact rowE (by rw [splitF_nil c13]; rfl) | exact sApps (splitF_cut c13 (r4_cut hw hno) hw) | exact rowE (by rw [splitF_one c13 (r4_one ⟨⟨by omega, by omega⟩, by omega, by omega⟩)]; rfl)) (HSub.nil)⟩
 have g29 := of_decide_eq_false g29
 refine zk 3 rfl ?_
 refine zq rfl rfl rfl ?_
 refine zm rfl rfl ?_
 refine zk 5 rfl ?_
 refine zq rfl rfl rfl ?_
 refine zm rfl rfl ?_
 refine zk 10 rfl ?_
 refine zq rfl rfl rfl ?_
 refine zn ?_
 refine xw_false (by kernel_rfl) rfl ?_
 refine zi ?_
 refine zs ?_
 have hno : ¬ ((findE (b - a) = 0 ∧ (findV (b - a)).dots ≤ 2) ∧ m.level a ≤ stl (m.strong a b) ∧ (0 < (findV (b - a)).dots ∨ m.level b ≤ stl (m.strong a b))) := by omega
 have hw := r4_found hab c13 hma hmb hno
 have hmc := strong_mod hma hw
 obtain ⟨hp1, hp2, hp3⟩ := spp_parts hp hw
 have hl1 := splitF_len (m := m) f _ _ hp1
 have hl2 := splitF_len (m := m) f _ _ hp2
 have hN : strN a b ≤ 2048 := by unfold strN; omega
 refine xw_anyP 7 [7001] (by kernel_rfl) (by kernel_rfl) (by kernel_rfl) (by kernel_rfl) (by decide) ?_
 refine yp (pure_eq (s' := .d (.agg (Me.c m))) (norm_pure (p_load_boxs rfl rfl agg_28 rfl (Nat.le_of_ble_eq_true rfl))) (by kernel_rfl)) ?_
 refine ym rfl rfl ?_
 refine ym rfl rfl ?_
 refine ChK.cons rfl (CStep.callS rfl ((ih _ _ hp1 hma hmc).lab 7001) rfl (hn_one (by kernel_rfl))) ?_
 refine yp (pure_eq (s' := .d (.agg (Me.c m))) (norm_pure (p_load_boxs rfl rfl agg_28 rfl (Nat.le_of_ble_eq_true rfl))) (by kernel_rfl)) ?_
 refine ym rfl rfl ?_
 refine ym rfl rfl ?_
 refine ChK.nil ⟨by kernel_rfl, ?_⟩
 refine XL.callS rfl rfl ((ih _ _ hp2 hmc hmb).lab 7005) rfl ?_
 refine XL.step rfl (st_append rfl elt_106 (.own rfl) (Src.own rfl) (by simp only [List.length_map]; unfold maxLen; omega) (by simp only [List.length_map]; omega)) ?_
 refine zp (p_assign rfl (by conv => lhs; whnf)) ?_
 refine zn ?_
 refine zt ?_
 exact ⟨rsS1 rfl (RVS.tmp rfl rfl), HSub.cons (by first | exact rowE (by rw [splitF_nil c13]; rfl) | exact sApps (splitF_cut c13 (r4_cut hw hno) hw) | exact rowE (by rw [splitF_one c13 (r4_one ⟨⟨by omega, by omega⟩, by omega, by omega⟩)]; rfl)) (HSub.nil)⟩
theorem r4split_xs (m : Me) (h : Mok m) : ∀ (f : Nat) (a b : Int), SpP f a b → a % 7560 = 0 → b % 7560 = 0 → XS Tryz.prog 76 [.agg (Me.c m), dI a, dI b] (.own 7001) [(7001, .row 56 2 ((splitF m f a b).map Val.c))]
 | 0, a, b, hp, _, _ => by have := hp.2.2.2.2; omega
 | f + 1, a, b, hp, h1, h2 => r4split_step m h f (r4split_xs m h f) a b hp h1 h2
theorem r4split2_xs (m : Me) (a b : Int) (h : m.splitE a b = 0) : XS Tryz.prog 76 [.agg (Me.c m), dI a, dI b] (.own 7001) [(7001, .row 56 2 ((m.split a b).map Val.c))] := by
 obtain ⟨h0, h1, h2, h3, h4, h5, h6, h7⟩ := splitE_ok h
 rw [h7]
 exact r4split_xs m (mok_of (by omega)) _ a b ⟨h1, h2, h3, h6, Nat.le_refl _⟩ h4 h5
end Go.Proofs.YtcihalbakenleaaGreat
