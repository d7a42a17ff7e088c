/- The statements voiceSounds_holds hold: no condition beyond the rows' own. -/
import Derived.Test.YtcihalbakenleaaGreatSn9
set_option linter.unusedVariables false
namespace Go.Proofs.YtcihalbakenleaaGreat
open Go.RowKit
def valOk (v : Val) : Prop := (-1 ≤ v.log ∧ v.log ≤ 8) ∧ 0 ≤ v.dots ∧ v.dots ≤ 3
instance (v : Val) : Decidable (valOk v) := by unfold valOk; exact inferInstance
theorem valOk_iff {v : Val} : valOk v ↔ valErr v = 0 := by
 unfold valOk valErr
 split
 ·rename_i h; exact ⟨fun _ => rfl, fun _ => ⟨⟨h.1, h.2.1⟩, h.2.2⟩⟩
 ·rename_i h; exact ⟨fun k => absurd ⟨k.1.1, k.1.2, k.2⟩ h, fun k => by omega⟩
set_option maxRecDepth 20000 in
theorem isval_xc (v : Val) : XC Tryz.prog 79 [.agg (Val.c v)] (fun r => r = dB (decide (valOk v))) := by
 refine xc_body callable_79 Tryz.func79 rfl rfl (Nat.le_of_ble_eq_true rfl) ?_
 refine zr ?_
 refine XL.step rfl (st_boxN 1 (l := [.d (dI v.log), .d (dI v.dots)]) rfl rfl (by kernel_rfl)) ?_
 refine za rfl rfl ?_
 refine znr ?_
 refine zp (p_fld_ptr rfl rfl fld_56_0) ?_
 refine zp (p_load_box rfl rfl sc_3 rfl rfl) ?_
 refine XL.call1 rfl rfl (in_xc _ _ _) rfl ?_
 refine zm rfl rfl ?_
 refine XL.dec 6 rfl (fun g6 => ?_) (fun g6 => ?_)
 refine zp (p_fld_ptr rfl rfl fld_56_1) ?_
 refine zp (p_load_box rfl rfl sc_3 rfl rfl) ?_
 refine XL.call1 rfl rfl (in_xc _ _ _) rfl ?_
 refine zq rfl rfl rfl ?_
 refine za rfl rfl ?_
 refine zn ?_
 refine zt ?_
 exact z1 rfl rfl (rB (by rw [decide_eq_decide]; exact ⟨fun h => ⟨g6, h⟩, fun h => h.2⟩))
 refine zk 3 rfl ?_
 refine zq rfl rfl rfl ?_
 refine za rfl rfl ?_
 refine zn ?_
 refine zt ?_
 exact z1 rfl rfl (rB (by rw [eq_comm, decide_eq_false_iff_not]; exact fun h => g6 h.1))
/-- half as often as a log says -/
def halves (k : Nat) : Int := 3870720 / 2 ^ k
theorem halves_bd (k : Nat) : 0 ≤ halves k ∧ halves k ≤ 3870720 := by
 have h : (0 : Int) < 2 ^ k := Int.pow_pos (by omega)
 exact ⟨Int.ediv_nonneg (by omega) (by omega), Int.ediv_le_self _ (by omega)⟩
theorem halves_succ (k : Nat) : halves k / 2 = halves (k + 1) := by
 unfold halves
 have h : (0 : Int) < 2 ^ k := Int.pow_pos (by omega)
 rw [Int.pow_succ, Int.ediv_ediv, if_neg (by omega), Int.sub_zero]
theorem halves_log {v : Val} {k : Nat} (h : (k : Int) = v.log + 1) : halves k = valPlain v := by rw [halves, valPlain, ← h, Int.toNat_natCast]
set_option maxRecDepth 20000 in
set_option maxHeartbeats 8000000 in
theorem rticks_xc (v : Val) (h : valErr v = 0) : XC Tryz.prog 114 [.agg (Val.c v)] (fun r => r = dI (valTicks v)) := by
 have hv := of_valErr (v := v) (by omega)
 have hp := valPlain_bd v
 refine xc_body callable_114 Tryz.func114 rfl rfl (Nat.le_of_ble_eq_true rfl) ?_
 refine zr ?_
 refine XL.step rfl (st_boxN 1 (l := [.d (dI v.log), .d (dI v.dots)]) rfl rfl (by kernel_rfl)) ?_
 refine za rfl rfl ?_
 refine znr ?_
 refine za rfl rfl ?_
 refine zn ?_
 refine zs ?_
 refine zr ?_
 refine za rfl rfl ?_
 refine zn ?_
 refine xw_block ?_
 refine xw_loop (α := Nat) (fun k => (k : Int) ≤ v.log + 1) (fun k => mkF [(1, .ptr 1 0 0), (2, .d (dI 0)), (3, .d (dI (halves k))), (4, .d (dI ((k : Int) - 1)))]) (fun k => mkH [(1, .box ((Val.c v).map S.d))]) (fun k => (v.log + 1).toNat - k) (0) (by omega) ?_ ?_ ?_
 exact fz ⟨sr, sr, .same (sI (by decide)), .same (sI (by decide)), trivial⟩
 exact gz ⟨rfl, trivial⟩
 intro k hk0
 have hh := halves_bd k
 refine zs ?_
 refine zr ?_
 refine zm rfl rfl ?_
 refine zp (p_fld_ptr rfl rfl fld_56_0) ?_
 refine zp (p_load_box rfl rfl sc_3 rfl rfl) ?_
 refine zp (p_lss rfl rfl rfl) ?_
 refine zn ?_
 refine zd rfl (fun c11 => ?_) (fun c11 => ?_)
 refine zi ?_
 refine zs ?_
 refine xw_block ?_
 refine xw_region (by kernel_rfl) ?_
 refine zm rfl rfl ?_
 refine zp (p_quo rfl rfl rfl (by omega) (by omega) (by omega)) ?_
 refine za rfl rfl ?_
 refine zn ?_
 refine xw_region (by kernel_rfl) ?_
 refine zm rfl rfl ?_
 refine zp (p_add rfl rfl rfl (by omega) (by omega)) ?_
 refine za rfl rfl ?_
 refine zn ?_
 exact k_round (k + 1) (by omega) (by omega) (fz ⟨sr, sr, .same (sI (halves_succ k)), .same (sI (by omega)), trivial⟩) (gz ⟨rfl, trivial⟩)
 have hpl := halves_log (v := v) (k := k) (by omega)
 refine xw_exit ?_
 refine zr ?_
 refine zm rfl rfl ?_
 refine zm rfl rfl ?_
 refine za rfl rfl ?_
 refine za rfl rfl ?_
 refine zn ?_
 refine zs ?_
 refine zr ?_
 refine za rfl rfl ?_
 refine zn ?_
 refine xw_block ?_
 refine xw_loop (α := Nat) (fun m => (m : Int) ≤ v.dots) (fun m => mkF [(1, .ptr 1 0 0), (2, .d (dI 0)), (5, .d (dI (dotted (valPlain v) m).2)), (6, .d (dI (dotted (valPlain v) m).1)), (7, .d (dI (m : Nat)))]) (fun m => mkH [(1, .box ((Val.c v).map S.d))]) (fun m => v.dots.toNat - m) (0) (hv.2.2.1) ?_ ?_ ?_
 exact fz ⟨sr, sr, .same (sI hpl), .same (sI hpl), sr, trivial⟩
 exact gz ⟨rfl, trivial⟩
 intro m hk2
 refine zs ?_
 refine zr ?_
 refine zm rfl rfl ?_
 refine zp (p_fld_ptr rfl rfl fld_56_1) ?_
 refine zp (p_load_box rfl rfl sc_3 rfl rfl) ?_
 refine zp (p_lss rfl rfl rfl) ?_
 refine zn ?_
 refine zd rfl (fun c21 => ?_) (fun c21 => ?_)
 have hb := dotted_bd hp.1 m
 have hb2 : valPlain v * ((m : Int) + 1) ≤ 3870720 * 4 := Int.mul_le_mul hp.2 (by omega) (by omega) (by omega)
 refine zi ?_
 refine zs ?_
 refine xw_block ?_
 refine zr ?_
 refine zm rfl rfl ?_
 refine zp (p_quo rfl rfl rfl (by omega) (by omega) (by omega)) ?_
 refine za rfl rfl ?_
 refine zng ?_
 refine zm rfl rfl ?_
 refine zm rfl rfl ?_
 refine zp (p_add rfl rfl rfl (by omega) (by omega)) ?_
 refine za rfl rfl ?_
 refine zn ?_
 refine xw_region (by kernel_rfl) ?_
 refine zm rfl rfl ?_
 refine zp (p_add rfl rfl rfl (by omega) (by omega)) ?_
 refine za rfl rfl ?_
 refine zn ?_
 exact k_round (m + 1) (by omega) (by omega) (fz ⟨sr, sr, sr, sr, sr, trivial⟩) (gz ⟨rfl, trivial⟩)
 have hke : v.dots.toNat = m := by omega
 refine xw_exit ?_
 refine zr ?_
 refine zm rfl rfl ?_
 refine za rfl rfl ?_
 refine zn ?_
 refine zt ?_
 exact z1 rfl rfl (rI (by rw [valTicks, hke]))
theorem ferm_yes {n : Int} (h : 0 ≤ n) (h2 : n / 16 % 2 = 1) : fermS n = 16 := by rw [fermS, if_neg (by omega), if_pos h2]
theorem ferm_no {n : Int} (h : ¬ (0 ≤ n ∧ n / 16 % 2 = 1)) : fermS n = 0 := by
 by_cases c : n < 0
 ·rw [fermS, if_pos c]
 ·rw [fermS, if_neg c, if_neg (by omega)]
theorem st_2 {e : Ev} (h : e.kind = 2) (a : Int) (ha : fermS e.art = a) : (⟨e.site, e.num, e.kind, e.v, [], [], a, 0, e.dyn, [], 0, 0⟩ : Ev) = e.strip := by
 subst ha; rw [Ev.strip, if_neg (by omega), if_pos (by omega), if_pos (by omega)]
theorem st_3 {e : Ev} (h : e.kind = 3) (a : Int) (ha : fermS e.art = a) : (⟨e.site, e.num, e.kind, ⟨0, 0⟩, [], [], a, 0, e.dyn, [], 0, 0⟩ : Ev) = e.strip := by
 subst ha; rw [Ev.strip, if_neg (by omega), if_neg (by omega), if_pos (by omega)]
theorem st_4 {e : Ev} (h : e.kind = 4) : (⟨e.site, e.num, e.kind, e.v, [], [], 0, 0, e.dyn, [], 0, 0⟩ : Ev) = e.strip := by
 rw [Ev.strip, if_neg (by omega), if_pos (by omega), if_neg (by omega)]
theorem st_0 {e : Ev} (h2 : ¬ e.kind = 2) (h3 : ¬ e.kind = 3) (h4 : ¬ e.kind = 4) : e = e.strip := by rw [Ev.strip, if_pos (by omega)]
set_option maxRecDepth 20000 in
set_option maxHeartbeats 8000000 in
theorem rstrip_xc (e : Ev) (he : e.art ≤ 9223372036854775807) : XC Tryz.prog 78 [.agg (Ev.c e)] (fun r => r = .agg (Ev.c e.strip)) := by
 refine xc_body callable_78 Tryz.func78 rfl rfl (Nat.le_of_ble_eq_true rfl) ?_
 refine zr ?_
 refine XL.step rfl (st_boxN 1 (l := [.d (dI e.site), .d (dI e.num), .d (dI e.kind), .d (dI e.v.log), .d (dI e.v.dots), .d (.sl 5 (e.heads.map Hd.c)), .d (.sl 5 (e.graces.map Gr.c)), .d (dI e.art), .d (dI e.orn), .d (dI e.dyn), .d (.sl 2 (e.lyr.map Sy.c)), .d (dI e.stem), .d (dI e.beam)]) rfl rfl (by kernel_rfl)) ?_
 refine XL.step rfl (st_allocN 2 (l := [.d (dI 0), .d (dI 0), .d (dI 0), .d (dI 0), .d (dI 0), .d (.v (.slice none 0 0)), .d (.v (.slice none 0 0)), .d (dI 0), .d (dI 0), .d (dI 0), .d (.v (.slice none 0 0)), .d (dI 0), .d (dI 0)]) rfl zero_60 (by kernel_rfl)) ?_
 refine znr ?_
 refine zp (p_fld_ptr rfl rfl fld_60_0) ?_
 refine zp (pure_eq (s' := .d (.agg [dI e.site, dI e.num])) (norm_pure (p_load_boxs rfl rfl agg_54 rfl (Nat.le_of_ble_eq_true rfl))) (by kernel_rfl)) ?_
 refine zp (p_fld_ptr rfl rfl fld_60_1) ?_
 refine zp (p_load_box rfl rfl sc_3 rfl rfl) ?_
 refine zp (p_fld_ptr rfl rfl fld_60_2) ?_
 refine zp (pure_eq (s' := .d (.agg (Val.c e.v))) (norm_pure (p_load_boxs rfl rfl agg_56 rfl (Nat.le_of_ble_eq_true rfl))) (by kernel_rfl)) ?_
 refine zp (p_fld_ptr rfl rfl fld_60_7) ?_
 refine zp (p_load_box rfl rfl sc_3 rfl rfl) ?_
 refine zp (pure_eq (s' := .d (.agg [dI e.site, dI e.num, dI e.kind, dI e.v.log, dI e.v.dots, .v (.slice none 0 0), .v (.slice none 0 0), dI 0, dI 0, dI e.dyn, .v (.slice none 0 0), dI 0, dI 0])) (norm_pure (p_build rfl str_60 zero_60 rfl)) (by kernel_rfl)) ?_
 refine XL.step rfl (st_allocN 3 (l := [.d (dI 0), .d (dI 0), .d (dI 0), .d (dI 0), .d (dI 0), .d (.v (.slice none 0 0)), .d (.v (.slice none 0 0)), .d (dI 0), .d (dI 0), .d (dI 0), .d (.v (.slice none 0 0)), .d (dI 0), .d (dI 0)]) rfl zero_60 (by kernel_rfl)) ?_
 refine XL.step rfl (st_storeN (l' := [.d (dI e.site), .d (dI e.num), .d (dI e.kind), .d (dI e.v.log), .d (dI e.v.dots), .d (.v (.slice none 0 0)), .d (.v (.slice none 0 0)), .d (dI 0), .d (dI 0), .d (dI e.dyn), .d (.v (.slice none 0 0)), .d (dI 0), .d (dI 0)]) rfl rfl rfl rfl sz_60 rfl (Nat.le_of_ble_eq_true rfl) (by kernel_rfl)) ?_
 refine zn ?_
 refine zs ?_
 refine zr ?_
 refine zp (p_fld_ptr rfl rfl fld_60_1) ?_
 refine zp (p_load_box rfl rfl sc_3 rfl rfl) ?_
 refine zn ?_
 refine xw_block ?_
 refine zs ?_
 refine zr ?_
 refine zp (p_eql rfl rfl rfl) ?_
 refine za rfl rfl ?_
 refine zn ?_
 refine zd rfl (fun c16 => ?_) (fun c16 => ?_)
 refine zi ?_
 refine zd rfl (fun c16 => ?_) (fun c16 => ?_)
 refine zs ?_
 refine zr ?_
 refine zp (p_fld_ptr rfl rfl fld_60_5) ?_
 refine zp (p_load_box rfl rfl sc_3 rfl rfl) ?_
 refine zp (p_geq rfl rfl rfl) ?_
 refine zm rfl rfl ?_
 refine XL.dec 22 rfl (fun g22 => ?_) (fun g22 => ?_)
 refine zp (p_fld_ptr rfl rfl fld_60_5) ?_
 refine zp (p_load_box rfl rfl sc_3 rfl rfl) ?_
 refine zp (p_quo rfl rfl rfl (by omega) (by omega) (by omega)) ?_
 refine zp (p_rem rfl rfl rfl (by omega) (by omega)) ?_
 refine zp (p_eql rfl rfl rfl) ?_
 refine zq rfl rfl rfl ?_
 refine zn ?_
 refine zd rfl (fun c28 => ?_) (fun c28 => ?_)
 refine xw_region (by kernel_rfl) ?_
 refine zp (p_fld_ptr rfl rfl fld_60_5) ?_
 refine XL.step rfl (st_storeN (l' := [.d (dI e.site), .d (dI e.num), .d (dI e.kind), .d (dI e.v.log), .d (dI e.v.dots), .d (.v (.slice none 0 0)), .d (.v (.slice none 0 0)), .d (dI 16), .d (dI 0), .d (dI e.dyn), .d (.v (.slice none 0 0)), .d (dI 0), .d (dI 0)]) rfl rfl rfl rfl sz_3 rfl (Nat.le_of_ble_eq_true rfl) (by kernel_rfl)) ?_
 refine znr ?_
 refine zp (p_fld_ptr rfl rfl fld_60_1) ?_
 refine zp (p_load_box rfl rfl sc_3 rfl rfl) ?_
 refine zp (p_eql rfl rfl rfl) ?_
 refine zn ?_
 refine zd rfl (fun c32 => ?_) (fun c32 => ?_)
 refine xw_region (by kernel_rfl) ?_
 refine zp (pure_eq (s' := .d (.agg [dI 0, dI 0])) (norm_pure (p_build rfl str_56 zero_56 rfl)) (by kernel_rfl)) ?_
 refine zp (p_fld_ptr rfl rfl fld_60_2) ?_
 refine XL.step rfl (st_storeN (l' := [.d (dI e.site), .d (dI e.num), .d (dI e.kind), .d (dI 0), .d (dI 0), .d (.v (.slice none 0 0)), .d (.v (.slice none 0 0)), .d (dI 16), .d (dI 0), .d (dI e.dyn), .d (.v (.slice none 0 0)), .d (dI 0), .d (dI 0)]) rfl rfl rfl rfl sz_56 rfl (Nat.le_of_ble_eq_true rfl) (by kernel_rfl)) ?_
 refine zn ?_
 refine zr ?_
 refine zp (pure_eq (s' := .d (.agg [dI e.site, dI e.num, dI e.kind, dI 0, dI 0, .v (.slice none 0 0), .v (.slice none 0 0), dI 16, dI 0, dI e.dyn, .v (.slice none 0 0), dI 0, dI 0])) (norm_pure (p_load_boxs rfl rfl agg_60 rfl (Nat.le_of_ble_eq_true rfl))) (by kernel_rfl)) ?_
 refine XL.step rfl (st_storeN (l' := [.d (dI e.site), .d (dI e.num), .d (dI e.kind), .d (dI 0), .d (dI 0), .d (.v (.slice none 0 0)), .d (.v (.slice none 0 0)), .d (dI 16), .d (dI 0), .d (dI e.dyn), .d (.v (.slice none 0 0)), .d (dI 0), .d (dI 0)]) rfl rfl rfl rfl sz_60 rfl (Nat.le_of_ble_eq_true rfl) (by kernel_rfl)) ?_
 refine zn ?_
 refine zt ?_
 exact ret1 rfl (RV.sub (RV.cells rfl rfl rfl agg_60 (Nat.le_of_ble_eq_true rfl) rfl) (.agg (.cons (.same rfl) (.cons (.same rfl) (.cons (.same rfl) (.cons (.same rfl) (.cons (.same rfl) (.cons (.nil 5) (.cons (.nil 5) (.cons (.same rfl) (.cons (.same rfl) (.cons (.same rfl) (.cons (.nil 2) (.cons (.same rfl) (.cons (.same rfl) (.nil)))))))))))))))) (by first | exact aggE (st_2 (by omega) 16 (ferm_yes (by omega) (by omega))) | exact aggE (st_3 (by omega) 16 (ferm_yes (by omega) (by omega))) | exact aggE (st_2 (by omega) 0 (ferm_no (by omega))) | exact aggE (st_3 (by omega) 0 (ferm_no (by omega))) | exact aggE (st_4 (by omega)) | exact aggE (st_0 (by omega) (by omega) (by omega)) | (exfalso; omega))
 refine zi ?_
 refine zr ?_
 refine zp (pure_eq (s' := .d (.agg [dI e.site, dI e.num, dI e.kind, dI e.v.log, dI e.v.dots, .v (.slice none 0 0), .v (.slice none 0 0), dI 16, dI 0, dI e.dyn, .v (.slice none 0 0), dI 0, dI 0])) (norm_pure (p_load_boxs rfl rfl agg_60 rfl (Nat.le_of_ble_eq_true rfl))) (by kernel_rfl)) ?_
 refine XL.step rfl (st_storeN (l' := [.d (dI e.site), .d (dI e.num), .d (dI e.kind), .d (dI e.v.log), .d (dI e.v.dots), .d (.v (.slice none 0 0)), .d (.v (.slice none 0 0)), .d (dI 16), .d (dI 0), .d (dI e.dyn), .d (.v (.slice none 0 0)), .d (dI 0), .d (dI 0)]) rfl rfl rfl rfl sz_60 rfl (Nat.le_of_ble_eq_true rfl) (by kernel_rfl)) ?_
 refine zn ?_
 refine zt ?_
 exact ret1 rfl (RV.sub (RV.cells rfl rfl rfl agg_60 (Nat.le_of_ble_eq_true rfl) rfl) (.agg (.cons (.same rfl) (.cons (.same rfl) (.cons (.same rfl) (.cons (.same rfl) (.cons (.same rfl) (.cons (.nil 5) (.cons (.nil 5) (.cons (.same rfl) (.cons (.same rfl) (.cons (.same rfl) (.cons (.nil 2) (.cons (.same rfl) (.cons (.same rfl) (.nil)))))))))))))))) (by first | exact aggE (st_2 (by omega) 16 (ferm_yes (by omega) (by omega))) | exact aggE (st_3 (by omega) 16 (ferm_yes (by omega) (by omega))) | exact aggE (st_2 (by omega) 0 (ferm_no (by omega))) | exact aggE (st_3 (by omega) 0 (ferm_no (by omega))) | exact aggE (st_4 (by omega)) | exact aggE (st_0 (by omega) (by omega) (by omega)) | (exfalso; omega))
 refine zi ?_
 refine zr ?_
 refine zp (p_fld_ptr rfl rfl fld_60_1) ?_
 refine zp (p_load_box rfl rfl sc_3 rfl rfl) ?_
 refine zp (p_eql rfl rfl rfl) ?_
 refine zn ?_
 refine zd rfl (fun c32 => ?_) (fun c32 => ?_)
 refine xw_region (by kernel_rfl) ?_
 refine zp (pure_eq (s' := .d (.agg [dI 0, dI 0])) (norm_pure (p_build rfl str_56 zero_56 rfl)) (by kernel_rfl)) ?_
 refine zp (p_fld_ptr rfl rfl fld_60_2) ?_
 refine XL.step rfl (st_storeN (l' := [.d (dI e.site), .d (dI e.num), .d (dI e.kind), .d (dI 0), .d (dI 0), .d (.v (.slice none 0 0)), .d (.v (.slice none 0 0)), .d (dI 0), .d (dI 0), .d (dI e.dyn), .d (.v (.slice none 0 0)), .d (dI 0), .d (dI 0)]) rfl rfl rfl rfl sz_56 rfl (Nat.le_of_ble_eq_true rfl) (by kernel_rfl)) ?_
 refine zn ?_
 refine zr ?_
 refine zp (pure_eq (s' := .d (.agg [dI e.site, dI e.num, dI e.kind, dI 0, dI 0, .v (.slice none 0 0), .v (.slice none 0 0), dI 0, dI 0, dI e.dyn, .v (.slice none 0 0), dI 0, dI 0])) (norm_pure (p_load_boxs rfl rfl agg_60 rfl (Nat.le_of_ble_eq_true rfl))) (by kernel_rfl)) ?_
 refine XL.step rfl (st_storeN (l' := [.d (dI e.site), .d (dI e.num), .d (dI e.kind), .d (dI 0), .d (dI 0), .d (.v (.slice none 0 0)), .d (.v (.slice none 0 0)), .d (dI 0), .d (dI 0), .d (dI e.dyn), .d (.v (.slice none 0 0)), .d (dI 0), .d (dI 0)]) rfl rfl rfl rfl sz_60 rfl (Nat.le_of_ble_eq_true rfl) (by kernel_rfl)) ?_
 refine zn ?_
 refine zt ?_
 exact ret1 rfl (RV.sub (RV.cells rfl rfl rfl agg_60 (Nat.le_of_ble_eq_true rfl) rfl) (.agg (.cons (.same rfl) (.cons (.same rfl) (.cons (.same rfl) (.cons (.same rfl) (.cons (.same rfl) (.cons (.nil 5) (.cons (.nil 5) (.cons (.same rfl) (.cons (.same rfl) (.cons (.same rfl) (.cons (.nil 2) (.cons (.same rfl) (.cons (.same rfl) (.nil)))))))))))))))) (by first | exact aggE (st_2 (by omega) 16 (ferm_yes (by omega) (by omega))) | exact aggE (st_3 (by omega) 16 (ferm_yes (by omega) (by omega))) | exact aggE (st_2 (by omega) 0 (ferm_no (by omega))) | exact aggE (st_3 (by omega) 0 (ferm_no (by omega))) | exact aggE (st_4 (by omega)) | exact aggE (st_0 (by omega) (by omega) (by omega)) | (exfalso; omega))
 refine zi ?_
 refine zr ?_
 refine zp (pure_eq (s' := .d (.agg [dI e.site, dI e.num, dI e.kind, dI e.v.log, dI e.v.dots, .v (.slice none 0 0), .v (.slice none 0 0), dI 0, dI 0, dI e.dyn, .v (.slice none 0 0), dI 0, dI 0])) (norm_pure (p_load_boxs rfl rfl agg_60 rfl (Nat.le_of_ble_eq_true rfl))) (by kernel_rfl)) ?_
 refine XL.step rfl (st_storeN (l' := [.d (dI e.site), .d (dI e.num), .d (dI e.kind), .d (dI e.v.log), .d (dI e.v.dots), .d (.v (.slice none 0 0)), .d (.v (.slice none 0 0)), .d (dI 0), .d (dI 0), .d (dI e.dyn), .d (.v (.slice none 0 0)), .d (dI 0), .d (dI 0)]) rfl rfl rfl rfl sz_60 rfl (Nat.le_of_ble_eq_true rfl) (by kernel_rfl)) ?_
 refine zn ?_
 refine zt ?_
 exact ret1 rfl (RV.sub (RV.cells rfl rfl rfl agg_60 (Nat.le_of_ble_eq_true rfl) rfl) (.agg (.cons (.same rfl) (.cons (.same rfl) (.cons (.same rfl) (.cons (.same rfl) (.cons (.same rfl) (.cons (.nil 5) (.cons (.nil 5) (.cons (.same rfl) (.cons (.same rfl) (.cons (.same rfl) (.cons (.nil 2) (.cons (.same rfl) (.cons (.same rfl) (.nil)))))))))))))))) (by first | exact aggE (st_2 (by omega) 16 (ferm_yes (by omega) (by omega))) | exact aggE (st_3 (by omega) 16 (ferm_yes (by omega) (by omega))) | exact aggE (st_2 (by omega) 0 (ferm_no (by omega))) | exact aggE (st_3 (by omega) 0 (ferm_no (by omega))) | exact aggE (st_4 (by omega)) | exact aggE (st_0 (by omega) (by omega) (by omega)) | (exfalso; omega))
 refine zk 5 rfl ?_
 refine zq rfl rfl rfl ?_
 refine zn ?_
 refine xw_false (by kernel_rfl) rfl ?_
 refine zi ?_
 refine zr ?_
 refine zp (p_fld_ptr rfl rfl fld_60_1) ?_
 refine zp (p_load_box rfl rfl sc_3 rfl rfl) ?_
 refine zp (p_eql rfl rfl rfl) ?_
 refine zn ?_
 refine zd rfl (fun c32 => ?_) (fun c32 => ?_)
 refine xw_region (by kernel_rfl) ?_
 refine zp (pure_eq (s' := .d (.agg [dI 0, dI 0])) (norm_pure (p_build rfl str_56 zero_56 rfl)) (by kernel_rfl)) ?_
 refine zp (p_fld_ptr rfl rfl fld_60_2) ?_
 refine XL.step rfl (st_storeN (l' := [.d (dI e.site), .d (dI e.num), .d (dI e.kind), .d (dI 0), .d (dI 0), .d (.v (.slice none 0 0)), .d (.v (.slice none 0 0)), .d (dI 0), .d (dI 0), .d (dI e.dyn), .d (.v (.slice none 0 0)), .d (dI 0), .d (dI 0)]) rfl rfl rfl rfl sz_56 rfl (Nat.le_of_ble_eq_true rfl) (by kernel_rfl)) ?_
 refine zn ?_
 refine zr ?_
 refine zp (pure_eq (s' := .d (.agg [dI e.site, dI e.num, dI e.kind, dI 0, dI 0, .v (.slice none 0 0), .v (.slice none 0 0), dI 0, dI 0, dI e.dyn, .v (.slice none 0 0), dI 0, dI 0])) (norm_pure (p_load_boxs rfl rfl agg_60 rfl (Nat.le_of_ble_eq_true rfl))) (by kernel_rfl)) ?_
 refine XL.step rfl (st_storeN (l' := [.d (dI e.site), .d (dI e.num), .d (dI e.kind), .d (dI 0), .d (dI 0), .d (.v (.slice none 0 0)), .d (.v (.slice none 0 0)), .d (dI 0), .d (dI 0), .d (dI e.dyn), .d (.v (.slice none 0 0)), .d (dI 0), .d (dI 0)]) rfl rfl rfl rfl sz_60 rfl (Nat.le_of_ble_eq_true rfl) (by kernel_rfl)) ?_
 refine zn ?_
 refine zt ?_
 exact ret1 rfl (RV.sub (RV.cells rfl rfl rfl agg_60 (Nat.le_of_ble_eq_true rfl) rfl) (.agg (.cons (.same rfl) (.cons (.same rfl) (.cons (.same rfl) (.cons (.same rfl) (.cons (.same rfl) (.cons (.nil 5) (.cons (.nil 5) (.cons (.same rfl) (.cons (.same rfl) (.cons (.same rfl) (.cons (.nil 2) (.cons (.same rfl) (.cons (.same rfl) (.nil)))))))))))))))) (by first | exact aggE (st_2 (by omega) 16 (ferm_yes (by omega) (by omega))) | exact aggE (st_3 (by omega) 16 (ferm_yes (by omega) (by omega))) | exact aggE (st_2 (by omega) 0 (ferm_no (by omega))) | exact aggE (st_3 (by omega) 0 (ferm_no (by omega))) | exact aggE (st_4 (by omega)) | exact aggE (st_0 (by omega) (by omega) (by omega)) | (exfalso; omega))
 refine zi ?_
 refine zr ?_
 refine zp (pure_eq (s' := .d (.agg [dI e.site, dI e.num, dI e.kind, dI e.v.log, dI e.v.dots, .v (.slice none 0 0), .v (.slice none 0 0), dI 0, dI 0, dI e.dyn, .v (.slice none 0 0), dI 0, dI 0])) (norm_pure (p_load_boxs rfl rfl agg_60 rfl (Nat.le_of_ble_eq_true rfl))) (by kernel_rfl)) ?_
 refine XL.step rfl (st_storeN (l' := [.d (dI e.site), .d (dI e.num), .d (dI e.kind), .d (dI e.v.log), .d (dI e.v.dots), .d (.v (.slice none 0 0)), .d (.v (.slice none 0 0)), .d (dI 0), .d (dI 0), .d (dI e.dyn), .d (.v (.slice none 0 0)), .d (dI 0), .d (dI 0)]) rfl rfl rfl rfl sz_60 rfl (Nat.le_of_ble_eq_true rfl) (by kernel_rfl)) ?_
 refine zn ?_
 refine zt ?_
 exact ret1 rfl (RV.sub (RV.cells rfl rfl rfl agg_60 (Nat.le_of_ble_eq_true rfl) rfl) (.agg (.cons (.same rfl) (.cons (.same rfl) (.cons (.same rfl) (.cons (.same rfl) (.cons (.same rfl) (.cons (.nil 5) (.cons (.nil 5) (.cons (.same rfl) (.cons (.same rfl) (.cons (.same rfl) (.cons (.nil 2) (.cons (.same rfl) (.cons (.same rfl) (.nil)))))))))))))))) (by first | exact aggE (st_2 (by omega) 16 (ferm_yes (by omega) (by omega))) | exact aggE (st_3 (by omega) 16 (ferm_yes (by omega) (by omega))) | exact aggE (st_2 (by omega) 0 (ferm_no (by omega))) | exact aggE (st_3 (by omega) 0 (ferm_no (by omega))) | exact aggE (st_4 (by omega)) | exact aggE (st_0 (by omega) (by omega) (by omega)) | (exfalso; omega))
 refine zr ?_
 refine zp (p_eql rfl rfl rfl) ?_
 refine za rfl rfl ?_
 refine zn ?_
 refine zd rfl (fun c35 => ?_) (fun c35 => ?_)
 refine zi ?_
 refine zr ?_
 refine zp (pure_eq (s' := .d (.agg [dI e.site, dI e.num, dI e.kind, dI e.v.log, dI e.v.dots, .v (.slice none 0 0), .v (.slice none 0 0), dI 0, dI 0, dI e.dyn, .v (.slice none 0 0), dI 0, dI 0])) (norm_pure (p_load_boxs rfl rfl agg_60 rfl (Nat.le_of_ble_eq_true rfl))) (by kernel_rfl)) ?_
 refine XL.step rfl (st_storeN (l' := [.d (dI e.site), .d (dI e.num), .d (dI e.kind), .d (dI e.v.log), .d (dI e.v.dots), .d (.v (.slice none 0 0)), .d (.v (.slice none 0 0)), .d (dI 0), .d (dI 0), .d (dI e.dyn), .d (.v (.slice none 0 0)), .d (dI 0), .d (dI 0)]) rfl rfl rfl rfl sz_60 rfl (Nat.le_of_ble_eq_true rfl) (by kernel_rfl)) ?_
 refine zn ?_
 refine zt ?_
 exact ret1 rfl (RV.sub (RV.cells rfl rfl rfl agg_60 (Nat.le_of_ble_eq_true rfl) rfl) (.agg (.cons (.same rfl) (.cons (.same rfl) (.cons (.same rfl) (.cons (.same rfl) (.cons (.same rfl) (.cons (.nil 5) (.cons (.nil 5) (.cons (.same rfl) (.cons (.same rfl) (.cons (.same rfl) (.cons (.nil 2) (.cons (.same rfl) (.cons (.same rfl) (.nil)))))))))))))))) (by first | exact aggE (st_2 (by omega) 16 (ferm_yes (by omega) (by omega))) | exact aggE (st_3 (by omega) 16 (ferm_yes (by omega) (by omega))) | exact aggE (st_2 (by omega) 0 (ferm_no (by omega))) | exact aggE (st_3 (by omega) 0 (ferm_no (by omega))) | exact aggE (st_4 (by omega)) | exact aggE (st_0 (by omega) (by omega) (by omega)) | (exfalso; omega))
 refine zr ?_
 refine zp (pure_eq (s' := .d (.agg (Ev.c e))) (norm_pure (p_load_boxs rfl rfl agg_60 rfl (Nat.le_of_ble_eq_true rfl))) (by kernel_rfl)) ?_
 refine XL.step rfl (st_storeN (l' := [.d (dI e.site), .d (dI e.num), .d (dI e.kind), .d (dI e.v.log), .d (dI e.v.dots), .d (.sl 5 (e.heads.map Hd.c)), .d (.sl 5 (e.graces.map Gr.c)), .d (dI e.art), .d (dI e.orn), .d (dI e.dyn), .d (.sl 2 (e.lyr.map Sy.c)), .d (dI e.stem), .d (dI e.beam)]) rfl rfl rfl rfl sz_60 rfl (Nat.le_of_ble_eq_true rfl) (by kernel_rfl)) ?_
 refine zn ?_
 refine zt ?_
 exact ret1 rfl (RV.cells rfl rfl rfl agg_60 (Nat.le_of_ble_eq_true rfl) rfl) (by first | exact aggE (st_2 (by omega) 16 (ferm_yes (by omega) (by omega))) | exact aggE (st_3 (by omega) 16 (ferm_yes (by omega) (by omega))) | exact aggE (st_2 (by omega) 0 (ferm_no (by omega))) | exact aggE (st_3 (by omega) 0 (ferm_no (by omega))) | exact aggE (st_4 (by omega)) | exact aggE (st_0 (by omega) (by omega) (by omega)) | (exfalso; omega))
 refine xw_region (by kernel_rfl) ?_
 refine zp (p_eql rfl rfl rfl) ?_
 refine za rfl rfl ?_
 refine zn ?_
 refine zd rfl (fun c16 => ?_) (fun c16 => ?_)
 refine zs ?_
 refine zr ?_
 refine zp (p_fld_ptr rfl rfl fld_60_5) ?_
 refine zp (p_load_box rfl rfl sc_3 rfl rfl) ?_
 refine zp (p_geq rfl rfl rfl) ?_
 refine zm rfl rfl ?_
 refine XL.dec 22 rfl (fun g22 => ?_) (fun g22 => ?_)
 refine zp (p_fld_ptr rfl rfl fld_60_5) ?_
 refine zp (p_load_box rfl rfl sc_3 rfl rfl) ?_
 refine zp (p_quo rfl rfl rfl (by omega) (by omega) (by omega)) ?_
 refine zp (p_rem rfl rfl rfl (by omega) (by omega)) ?_
 refine zp (p_eql rfl rfl rfl) ?_
 refine zq rfl rfl rfl ?_
 refine zn ?_
 refine zd rfl (fun c28 => ?_) (fun c28 => ?_)
 refine xw_region (by kernel_rfl) ?_
 refine zp (p_fld_ptr rfl rfl fld_60_5) ?_
 refine XL.step rfl (st_storeN (l' := [.d (dI e.site), .d (dI e.num), .d (dI e.kind), .d (dI e.v.log), .d (dI e.v.dots), .d (.v (.slice none 0 0)), .d (.v (.slice none 0 0)), .d (dI 16), .d (dI 0), .d (dI e.dyn), .d (.v (.slice none 0 0)), .d (dI 0), .d (dI 0)]) rfl rfl rfl rfl sz_3 rfl (Nat.le_of_ble_eq_true rfl) (by kernel_rfl)) ?_
 refine znr ?_
 refine zp (p_fld_ptr rfl rfl fld_60_1) ?_
 refine zp (p_load_box rfl rfl sc_3 rfl rfl) ?_
 refine zp (p_eql rfl rfl rfl) ?_
 refine zn ?_
 refine zd rfl (fun c32 => ?_) (fun c32 => ?_)
 refine xw_region (by kernel_rfl) ?_
 refine zp (pure_eq (s' := .d (.agg [dI 0, dI 0])) (norm_pure (p_build rfl str_56 zero_56 rfl)) (by kernel_rfl)) ?_
 refine zp (p_fld_ptr rfl rfl fld_60_2) ?_
 refine XL.step rfl (st_storeN (l' := [.d (dI e.site), .d (dI e.num), .d (dI e.kind), .d (dI 0), .d (dI 0), .d (.v (.slice none 0 0)), .d (.v (.slice none 0 0)), .d (dI 16), .d (dI 0), .d (dI e.dyn), .d (.v (.slice none 0 0)), .d (dI 0), .d (dI 0)]) rfl rfl rfl rfl sz_56 rfl (Nat.le_of_ble_eq_true rfl) (by kernel_rfl)) ?_
 refine zn ?_
 refine zr ?_
 refine zp (pure_eq (s' := .d (.agg [dI e.site, dI e.num, dI e.kind, dI 0, dI 0, .v (.slice none 0 0), .v (.slice none 0 0), dI 16, dI 0, dI e.dyn, .v (.slice none 0 0), dI 0, dI 0])) (norm_pure (p_load_boxs rfl rfl agg_60 rfl (Nat.le_of_ble_eq_true rfl))) (by kernel_rfl)) ?_
 refine XL.step rfl (st_storeN (l' := [.d (dI e.site), .d (dI e.num), .d (dI e.kind), .d (dI 0), .d (dI 0), .d (.v (.slice none 0 0)), .d (.v (.slice none 0 0)), .d (dI 16), .d (dI 0), .d (dI e.dyn), .d (.v (.slice none 0 0)), .d (dI 0), .d (dI 0)]) rfl rfl rfl rfl sz_60 rfl (Nat.le_of_ble_eq_true rfl) (by kernel_rfl)) ?_
 refine zn ?_
 refine zt ?_
 exact ret1 rfl (RV.sub (RV.cells rfl rfl rfl agg_60 (Nat.le_of_ble_eq_true rfl) rfl) (.agg (.cons (.same rfl) (.cons (.same rfl) (.cons (.same rfl) (.cons (.same rfl) (.cons (.same rfl) (.cons (.nil 5) (.cons (.nil 5) (.cons (.same rfl) (.cons (.same rfl) (.cons (.same rfl) (.cons (.nil 2) (.cons (.same rfl) (.cons (.same rfl) (.nil)))))))))))))))) (by first | exact aggE (st_2 (by omega) 16 (ferm_yes (by omega) (by omega))) | exact aggE (st_3 (by omega) 16 (ferm_yes (by omega) (by omega))) | exact aggE (st_2 (by omega) 0 (ferm_no (by omega))) | exact aggE (st_3 (by omega) 0 (ferm_no (by omega))) | exact aggE (st_4 (by omega)) | exact aggE (st_0 (by omega) (by omega) (by omega)) | (exfalso; omega))
 refine zi ?_
 refine zr ?_
 refine zp (pure_eq (s' := .d (.agg [dI e.site, dI e.num, dI e.kind, dI e.v.log, dI e.v.dots, .v (.slice none 0 0), .v (.slice none 0 0), dI 16, dI 0, dI e.dyn, .v (.slice none 0 0), dI 0, dI 0])) (norm_pure (p_load_boxs rfl rfl agg_60 rfl (Nat.le_of_ble_eq_true rfl))) (by kernel_rfl)) ?_
 refine XL.step rfl (st_storeN (l' := [.d (dI e.site), .d (dI e.num), .d (dI e.kind), .d (dI e.v.log), .d (dI e.v.dots), .d (.v (.slice none 0 0)), .d (.v (.slice none 0 0)), .d (dI 16), .d (dI 0), .d (dI e.dyn), .d (.v (.slice none 0 0)), .d (dI 0), .d (dI 0)]) rfl rfl rfl rfl sz_60 rfl (Nat.le_of_ble_eq_true rfl) (by kernel_rfl)) ?_
 refine zn ?_
 refine zt ?_
 exact ret1 rfl (RV.sub (RV.cells rfl rfl rfl agg_60 (Nat.le_of_ble_eq_true rfl) rfl) (.agg (.cons (.same rfl) (.cons (.same rfl) (.cons (.same rfl) (.cons (.same rfl) (.cons (.same rfl) (.cons (.nil 5) (.cons (.nil 5) (.cons (.same rfl) (.cons (.same rfl) (.cons (.same rfl) (.cons (.nil 2) (.cons (.same rfl) (.cons (.same rfl) (.nil)))))))))))))))) (by first | exact aggE (st_2 (by omega) 16 (ferm_yes (by omega) (by omega))) | exact aggE (st_3 (by omega) 16 (ferm_yes (by omega) (by omega))) | exact aggE (st_2 (by omega) 0 (ferm_no (by omega))) | exact aggE (st_3 (by omega) 0 (ferm_no (by omega))) | exact aggE (st_4 (by omega)) | exact aggE (st_0 (by omega) (by omega) (by omega)) | (exfalso; omega))
 refine zi ?_
 refine zr ?_
 refine zp (p_fld_ptr rfl rfl fld_60_1) ?_
 refine zp (p_load_box rfl rfl sc_3 rfl rfl) ?_
 refine zp (p_eql rfl rfl rfl) ?_
 refine zn ?_
 refine zd rfl (fun c32 => ?_) (fun c32 => ?_)
 refine xw_region (by kernel_rfl) ?_
 refine zp (pure_eq (s' := .d (.agg [dI 0, dI 0])) (norm_pure (p_build rfl str_56 zero_56 rfl)) (by kernel_rfl)) ?_
 refine zp (p_fld_ptr rfl rfl fld_60_2) ?_
 refine XL.step rfl (st_storeN (l' := [.d (dI e.site), .d (dI e.num), .d (dI e.kind), .d (dI 0), .d (dI 0), .d (.v (.slice none 0 0)), .d (.v (.slice none 0 0)), .d (dI 0), .d (dI 0), .d (dI e.dyn), .d (.v (.slice none 0 0)), .d (dI 0), .d (dI 0)]) rfl rfl rfl rfl sz_56 rfl (Nat.le_of_ble_eq_true rfl) (by kernel_rfl)) ?_
 refine zn ?_
 refine zr ?_
 refine zp (pure_eq (s' := .d (.agg [dI e.site, dI e.num, dI e.kind, dI 0, dI 0, .v (.slice none 0 0), .v (.slice none 0 0), dI 0, dI 0, dI e.dyn, .v (.slice none 0 0), dI 0, dI 0])) (norm_pure (p_load_boxs rfl rfl agg_60 rfl (Nat.le_of_ble_eq_true rfl))) (by kernel_rfl)) ?_
 refine XL.step rfl (st_storeN (l' := [.d (dI e.site), .d (dI e.num), .d (dI e.kind), .d (dI 0), .d (dI 0), .d (.v (.slice none 0 0)), .d (.v (.slice none 0 0)), .d (dI 0), .d (dI 0), .d (dI e.dyn), .d (.v (.slice none 0 0)), .d (dI 0), .d (dI 0)]) rfl rfl rfl rfl sz_60 rfl (Nat.le_of_ble_eq_true rfl) (by kernel_rfl)) ?_
 refine zn ?_
 refine zt ?_
 exact ret1 rfl (RV.sub (RV.cells rfl rfl rfl agg_60 (Nat.le_of_ble_eq_true rfl) rfl) (.agg (.cons (.same rfl) (.cons (.same rfl) (.cons (.same rfl) (.cons (.same rfl) (.cons (.same rfl) (.cons (.nil 5) (.cons (.nil 5) (.cons (.same rfl) (.cons (.same rfl) (.cons (.same rfl) (.cons (.nil 2) (.cons (.same rfl) (.cons (.same rfl) (.nil)))))))))))))))) (by first | exact aggE (st_2 (by omega) 16 (ferm_yes (by omega) (by omega))) | exact aggE (st_3 (by omega) 16 (ferm_yes (by omega) (by omega))) | exact aggE (st_2 (by omega) 0 (ferm_no (by omega))) | exact aggE (st_3 (by omega) 0 (ferm_no (by omega))) | exact aggE (st_4 (by omega)) | exact aggE (st_0 (by omega) (by omega) (by omega)) | (exfalso; omega))
 refine zi ?_
 refine zr ?_
 refine zp (pure_eq (s' := .d (.agg [dI e.site, dI e.num, dI e.kind, dI e.v.log, dI e.v.dots, .v (.slice none 0 0), .v (.slice none 0 0), dI 0, dI 0, dI e.dyn, .v (.slice none 0 0), dI 0, dI 0])) (norm_pure (p_load_boxs rfl rfl agg_60 rfl (Nat.le_of_ble_eq_true rfl))) (by kernel_rfl)) ?_
 refine XL.step rfl (st_storeN (l' := [.d (dI e.site), .d (dI e.num), .d (dI e.kind), .d (dI e.v.log), .d (dI e.v.dots), .d (.v (.slice none 0 0)), .d (.v (.slice none 0 0)), .d (dI 0), .d (dI 0), .d (dI e.dyn), .d (.v (.slice none 0 0)), .d (dI 0), .d (dI 0)]) rfl rfl rfl rfl sz_60 rfl (Nat.le_of_ble_eq_true rfl) (by kernel_rfl)) ?_
 refine zn ?_
 refine zt ?_
 exact ret1 rfl (RV.sub (RV.cells rfl rfl rfl agg_60 (Nat.le_of_ble_eq_true rfl) rfl) (.agg (.cons (.same rfl) (.cons (.same rfl) (.cons (.same rfl) (.cons (.same rfl) (.cons (.same rfl) (.cons (.nil 5) (.cons (.nil 5) (.cons (.same rfl) (.cons (.same rfl) (.cons (.same rfl) (.cons (.nil 2) (.cons (.same rfl) (.cons (.same rfl) (.nil)))))))))))))))) (by first | exact aggE (st_2 (by omega) 16 (ferm_yes (by omega) (by omega))) | exact aggE (st_3 (by omega) 16 (ferm_yes (by omega) (by omega))) | exact aggE (st_2 (by omega) 0 (ferm_no (by omega))) | exact aggE (st_3 (by omega) 0 (ferm_no (by omega))) | exact aggE (st_4 (by omega)) | exact aggE (st_0 (by omega) (by omega) (by omega)) | (exfalso; omega))
 refine zk 5 rfl ?_
 refine zq rfl rfl rfl ?_
 refine zn ?_
 refine xw_false (by kernel_rfl) rfl ?_
 refine zi ?_
 refine zr ?_
 refine zp (p_fld_ptr rfl rfl fld_60_1) ?_
 refine zp (p_load_box rfl rfl sc_3 rfl rfl) ?_
 refine zp (p_eql rfl rfl rfl) ?_
 refine zn ?_
 refine zd rfl (fun c32 => ?_) (fun c32 => ?_)
 refine xw_region (by kernel_rfl) ?_
 refine zp (pure_eq (s' := .d (.agg [dI 0, dI 0])) (norm_pure (p_build rfl str_56 zero_56 rfl)) (by kernel_rfl)) ?_
 refine zp (p_fld_ptr rfl rfl fld_60_2) ?_
 refine XL.step rfl (st_storeN (l' := [.d (dI e.site), .d (dI e.num), .d (dI e.kind), .d (dI 0), .d (dI 0), .d (.v (.slice none 0 0)), .d (.v (.slice none 0 0)), .d (dI 0), .d (dI 0), .d (dI e.dyn), .d (.v (.slice none 0 0)), .d (dI 0), .d (dI 0)]) rfl rfl rfl rfl sz_56 rfl (Nat.le_of_ble_eq_true rfl) (by kernel_rfl)) ?_
 refine zn ?_
 refine zr ?_
 refine zp (pure_eq (s' := .d (.agg [dI e.site, dI e.num, dI e.kind, dI 0, dI 0, .v (.slice none 0 0), .v (.slice none 0 0), dI 0, dI 0, dI e.dyn, .v (.slice none 0 0), dI 0, dI 0])) (norm_pure (p_load_boxs rfl rfl agg_60 rfl (Nat.le_of_ble_eq_true rfl))) (by kernel_rfl)) ?_
 refine XL.step rfl (st_storeN (l' := [.d (dI e.site), .d (dI e.num), .d (dI e.kind), .d (dI 0), .d (dI 0), .d (.v (.slice none 0 0)), .d (.v (.slice none 0 0)), .d (dI 0), .d (dI 0), .d (dI e.dyn), .d (.v (.slice none 0 0)), .d (dI 0), .d (dI 0)]) rfl rfl rfl rfl sz_60 rfl (Nat.le_of_ble_eq_true rfl) (by kernel_rfl)) ?_
 refine zn ?_
 refine zt ?_
 exact ret1 rfl (RV.sub (RV.cells rfl rfl rfl agg_60 (Nat.le_of_ble_eq_true rfl) rfl) (.agg (.cons (.same rfl) (.cons (.same rfl) (.cons (.same rfl) (.cons (.same rfl) (.cons (.same rfl) (.cons (.nil 5) (.cons (.nil 5) (.cons (.same rfl) (.cons (.same rfl) (.cons (.same rfl) (.cons (.nil 2) (.cons (.same rfl) (.cons (.same rfl) (.nil)))))))))))))))) (by first | exact aggE (st_2 (by omega) 16 (ferm_yes (by omega) (by omega))) | exact aggE (st_3 (by omega) 16 (ferm_yes (by omega) (by omega))) | exact aggE (st_2 (by omega) 0 (ferm_no (by omega))) | exact aggE (st_3 (by omega) 0 (ferm_no (by omega))) | exact aggE (st_4 (by omega)) | exact aggE (st_0 (by omega) (by omega) (by omega)) | (exfalso; omega))
 refine zi ?_
 refine zr ?_
 refine zp (pure_eq (s' := .d (.agg [dI e.site, dI e.num, dI e.kind, dI e.v.log, dI e.v.dots, .v (.slice none 0 0), .v (.slice none 0 0), dI 0, dI 0, dI e.dyn, .v (.slice none 0 0), dI 0, dI 0])) (norm_pure (p_load_boxs rfl rfl agg_60 rfl (Nat.le_of_ble_eq_true rfl))) (by kernel_rfl)) ?_
 refine XL.step rfl (st_storeN (l' := [.d (dI e.site), .d (dI e.num), .d (dI e.kind), .d (dI e.v.log), .d (dI e.v.dots), .d (.v (.slice none 0 0)), .d (.v (.slice none 0 0)), .d (dI 0), .d (dI 0), .d (dI e.dyn), .d (.v (.slice none 0 0)), .d (dI 0), .d (dI 0)]) rfl rfl rfl rfl sz_60 rfl (Nat.le_of_ble_eq_true rfl) (by kernel_rfl)) ?_
 refine zn ?_
 refine zt ?_
 exact ret1 rfl (RV.sub (RV.cells rfl rfl rfl agg_60 (Nat.le_of_ble_eq_true rfl) rfl) (.agg (.cons (.same rfl) (.cons (.same rfl) (.cons (.same rfl) (.cons (.same rfl) (.cons (.same rfl) (.cons (.nil 5) (.cons (.nil 5) (.cons (.same rfl) (.cons (.same rfl) (.cons (.same rfl) (.cons (.nil 2) (.cons (.same rfl) (.cons (.same rfl) (.nil)))))))))))))))) (by first | exact aggE (st_2 (by omega) 16 (ferm_yes (by omega) (by omega))) | exact aggE (st_3 (by omega) 16 (ferm_yes (by omega) (by omega))) | exact aggE (st_2 (by omega) 0 (ferm_no (by omega))) | exact aggE (st_3 (by omega) 0 (ferm_no (by omega))) | exact aggE (st_4 (by omega)) | exact aggE (st_0 (by omega) (by omega) (by omega)) | (exfalso; omega))
 refine zr ?_
 refine zp (p_eql rfl rfl rfl) ?_
 refine za rfl rfl ?_
 refine zn ?_
 refine zd rfl (fun c35 => ?_) (fun c35 => ?_)
 refine zi ?_
 refine zr ?_
 refine zp (pure_eq (s' := .d (.agg [dI e.site, dI e.num, dI e.kind, dI e.v.log, dI e.v.dots, .v (.slice none 0 0), .v (.slice none 0 0), dI 0, dI 0, dI e.dyn, .v (.slice none 0 0), dI 0, dI 0])) (norm_pure (p_load_boxs rfl rfl agg_60 rfl (Nat.le_of_ble_eq_true rfl))) (by kernel_rfl)) ?_
 refine XL.step rfl (st_storeN (l' := [.d (dI e.site), .d (dI e.num), .d (dI e.kind), .d (dI e.v.log), .d (dI e.v.dots), .d (.v (.slice none 0 0)), .d (.v (.slice none 0 0)), .d (dI 0), .d (dI 0), .d (dI e.dyn), .d (.v (.slice none 0 0)), .d (dI 0), .d (dI 0)]) rfl rfl rfl rfl sz_60 rfl (Nat.le_of_ble_eq_true rfl) (by kernel_rfl)) ?_
 refine zn ?_
 refine zt ?_
 exact ret1 rfl (RV.sub (RV.cells rfl rfl rfl agg_60 (Nat.le_of_ble_eq_true rfl) rfl) (.agg (.cons (.same rfl) (.cons (.same rfl) (.cons (.same rfl) (.cons (.same rfl) (.cons (.same rfl) (.cons (.nil 5) (.cons (.nil 5) (.cons (.same rfl) (.cons (.same rfl) (.cons (.same rfl) (.cons (.nil 2) (.cons (.same rfl) (.cons (.same rfl) (.nil)))))))))))))))) (by first | exact aggE (st_2 (by omega) 16 (ferm_yes (by omega) (by omega))) | exact aggE (st_3 (by omega) 16 (ferm_yes (by omega) (by omega))) | exact aggE (st_2 (by omega) 0 (ferm_no (by omega))) | exact aggE (st_3 (by omega) 0 (ferm_no (by omega))) | exact aggE (st_4 (by omega)) | exact aggE (st_0 (by omega) (by omega) (by omega)) | (exfalso; omega))
 refine zr ?_
 refine zp (pure_eq (s' := .d (.agg (Ev.c e))) (norm_pure (p_load_boxs rfl rfl agg_60 rfl (Nat.le_of_ble_eq_true rfl))) (by kernel_rfl)) ?_
 refine XL.step rfl (st_storeN (l' := [.d (dI e.site), .d (dI e.num), .d (dI e.kind), .d (dI e.v.log), .d (dI e.v.dots), .d (.sl 5 (e.heads.map Hd.c)), .d (.sl 5 (e.graces.map Gr.c)), .d (dI e.art), .d (dI e.orn), .d (dI e.dyn), .d (.sl 2 (e.lyr.map Sy.c)), .d (dI e.stem), .d (dI e.beam)]) rfl rfl rfl rfl sz_60 rfl (Nat.le_of_ble_eq_true rfl) (by kernel_rfl)) ?_
 refine zn ?_
 refine zt ?_
 exact ret1 rfl (RV.cells rfl rfl rfl agg_60 (Nat.le_of_ble_eq_true rfl) rfl) (by first | exact aggE (st_2 (by omega) 16 (ferm_yes (by omega) (by omega))) | exact aggE (st_3 (by omega) 16 (ferm_yes (by omega) (by omega))) | exact aggE (st_2 (by omega) 0 (ferm_no (by omega))) | exact aggE (st_3 (by omega) 0 (ferm_no (by omega))) | exact aggE (st_4 (by omega)) | exact aggE (st_0 (by omega) (by omega) (by omega)) | (exfalso; omega))
set_option maxRecDepth 20000 in
set_option maxHeartbeats 8000000 in
theorem rsame_xc (a b : Ev) : XC Tryz.prog 56 [.agg (Ev.c a), .agg (Ev.c b)] (fun r => r = dB (decide (a.same b))) := by
 refine xc_body callable_56 Tryz.func56 rfl rfl (Nat.le_of_ble_eq_true rfl) ?_
 refine zr ?_
 refine XL.step rfl (st_boxN 2 (l := [.d (dI a.site), .d (dI a.num), .d (dI a.kind), .d (dI a.v.log), .d (dI a.v.dots), .d (.sl 5 (a.heads.map Hd.c)), .d (.sl 5 (a.graces.map Gr.c)), .d (dI a.art), .d (dI a.orn), .d (dI a.dyn), .d (.sl 2 (a.lyr.map Sy.c)), .d (dI a.stem), .d (dI a.beam)]) rfl rfl (by kernel_rfl)) ?_
 refine XL.step rfl (st_boxN 3 (l := [.d (dI b.site), .d (dI b.num), .d (dI b.kind), .d (dI b.v.log), .d (dI b.v.dots), .d (.sl 5 (b.heads.map Hd.c)), .d (.sl 5 (b.graces.map Gr.c)), .d (dI b.art), .d (dI b.orn), .d (dI b.dyn), .d (.sl 2 (b.lyr.map Sy.c)), .d (dI b.stem), .d (dI b.beam)]) rfl rfl (by kernel_rfl)) ?_
 refine za rfl rfl ?_
 refine zn ?_
 refine zs ?_
 refine zr ?_
 refine zp (p_fld_ptr rfl rfl fld_60_1) ?_
 refine zp (p_load_box rfl rfl sc_3 rfl rfl) ?_
 refine zp (p_fld_ptr rfl rfl fld_60_1) ?_
 refine zp (p_load_box rfl rfl sc_3 rfl rfl) ?_
 refine zp (p_neq rfl rfl rfl) ?_
 refine zm rfl rfl ?_
 refine XL.dec 13 rfl (fun g13 => ?_) (fun g13 => ?_)
 refine zk 5 rfl ?_
 refine zq rfl rfl rfl ?_
 refine zm rfl rfl ?_
 refine zk 5 rfl ?_
 refine zq rfl rfl rfl ?_
 refine zm rfl rfl ?_
 refine zk 5 rfl ?_
 refine zq rfl rfl rfl ?_
 refine zm rfl rfl ?_
 refine zk 5 rfl ?_
 refine zq rfl rfl rfl ?_
 refine zm rfl rfl ?_
 refine zk 5 rfl ?_
 refine zq rfl rfl rfl ?_
 refine zm rfl rfl ?_
 refine zk 5 rfl ?_
 refine zq rfl rfl rfl ?_
 refine zm rfl rfl ?_
 refine zk 7 rfl ?_
 refine zq rfl rfl rfl ?_
 refine zm rfl rfl ?_
 refine zk 7 rfl ?_
 refine zq rfl rfl rfl ?_
 refine zm rfl rfl ?_
 refine zk 7 rfl ?_
 refine zq rfl rfl rfl ?_
 refine zn ?_
 refine xw_true (by kernel_rfl) rfl ?_
 refine zr ?_
 refine za rfl rfl ?_
 refine zn ?_
 refine zt ?_
 exact z1 rfl rfl (rB (same_no fun h => g13 h.1))
 refine zp (p_fld_ptr rfl rfl fld_60_2) ?_
 refine zp (pure_eq (s' := .d (.agg (Val.c a.v))) (norm_pure (p_load_boxs rfl rfl agg_56 rfl (Nat.le_of_ble_eq_true rfl))) (by kernel_rfl)) ?_
 refine zp (p_fld_ptr rfl rfl fld_60_2) ?_
 refine zp (pure_eq (s' := .d (.agg (Val.c b.v))) (norm_pure (p_load_boxs rfl rfl agg_56 rfl (Nat.le_of_ble_eq_true rfl))) (by kernel_rfl)) ?_
 refine zp (p_neq_56 rfl rfl rfl) ?_
 refine zq rfl rfl rfl ?_
 refine zm rfl rfl ?_
 refine XL.dec 20 rfl (fun g20 => ?_) (fun g20 => ?_)
 refine zk 5 rfl ?_
 refine zq rfl rfl rfl ?_
 refine zm rfl rfl ?_
 refine zk 5 rfl ?_
 refine zq rfl rfl rfl ?_
 refine zm rfl rfl ?_
 refine zk 5 rfl ?_
 refine zq rfl rfl rfl ?_
 refine zm rfl rfl ?_
 refine zk 5 rfl ?_
 refine zq rfl rfl rfl ?_
 refine zm rfl rfl ?_
 refine zk 5 rfl ?_
 refine zq rfl rfl rfl ?_
 refine zm rfl rfl ?_
 refine zk 7 rfl ?_
 refine zq rfl rfl rfl ?_
 refine zm rfl rfl ?_
 refine zk 7 rfl ?_
 refine zq rfl rfl rfl ?_
 refine zm rfl rfl ?_
 refine zk 7 rfl ?_
 refine zq rfl rfl rfl ?_
 refine zn ?_
 refine xw_true (by kernel_rfl) rfl ?_
 refine zr ?_
 refine za rfl rfl ?_
 refine zn ?_
 refine zt ?_
 exact z1 rfl rfl (rB (same_no fun h => g20 (by rw [h.2.1]; exact ⟨rfl, rfl⟩)))
 refine zp (p_fld_ptr rfl rfl fld_60_5) ?_
 refine zp (p_load_box rfl rfl sc_3 rfl rfl) ?_
 refine zp (p_fld_ptr rfl rfl fld_60_5) ?_
 refine zp (p_load_box rfl rfl sc_3 rfl rfl) ?_
 refine zp (p_neq rfl rfl rfl) ?_
 refine zq rfl rfl rfl ?_
 refine zm rfl rfl ?_
 refine XL.dec 27 rfl (fun g27 => ?_) (fun g27 => ?_)
 refine zk 5 rfl ?_
 refine zq rfl rfl rfl ?_
 refine zm rfl rfl ?_
 refine zk 5 rfl ?_
 refine zq rfl rfl rfl ?_
 refine zm rfl rfl ?_
 refine zk 5 rfl ?_
 refine zq rfl rfl rfl ?_
 refine zm rfl rfl ?_
 refine zk 5 rfl ?_
 refine zq rfl rfl rfl ?_
 refine zm rfl rfl ?_
 refine zk 7 rfl ?_
 refine zq rfl rfl rfl ?_
 refine zm rfl rfl ?_
 refine zk 7 rfl ?_
 refine zq rfl rfl rfl ?_
 refine zm rfl rfl ?_
 refine zk 7 rfl ?_
 refine zq rfl rfl rfl ?_
 refine zn ?_
 refine xw_true (by kernel_rfl) rfl ?_
 refine zr ?_
 refine za rfl rfl ?_
 refine zn ?_
 refine zt ?_
 exact z1 rfl rfl (rB (same_no fun h => g27 h.2.2.1))
 refine zp (p_fld_ptr rfl rfl fld_60_6) ?_
 refine zp (p_load_box rfl rfl sc_3 rfl rfl) ?_
 refine zp (p_fld_ptr rfl rfl fld_60_6) ?_
 refine zp (p_load_box rfl rfl sc_3 rfl rfl) ?_
 refine zp (p_neq rfl rfl rfl) ?_
 refine zq rfl rfl rfl ?_
 refine zm rfl rfl ?_
 refine XL.dec 34 rfl (fun g34 => ?_) (fun g34 => ?_)
 refine zk 5 rfl ?_
 refine zq rfl rfl rfl ?_
 refine zm rfl rfl ?_
 refine zk 5 rfl ?_
 refine zq rfl rfl rfl ?_
 refine zm rfl rfl ?_
 refine zk 5 rfl ?_
 refine zq rfl rfl rfl ?_
 refine zm rfl rfl ?_
 refine zk 7 rfl ?_
 refine zq rfl rfl rfl ?_
 refine zm rfl rfl ?_
 refine zk 7 rfl ?_
 refine zq rfl rfl rfl ?_
 refine zm rfl rfl ?_
 refine zk 7 rfl ?_
 refine zq rfl rfl rfl ?_
 refine zn ?_
 refine xw_true (by kernel_rfl) rfl ?_
 refine zr ?_
 refine za rfl rfl ?_
 refine zn ?_
 refine zt ?_
 exact z1 rfl rfl (rB (same_no fun h => g34 h.2.2.2.1))
 refine zp (p_fld_ptr rfl rfl fld_60_7) ?_
 refine zp (p_load_box rfl rfl sc_3 rfl rfl) ?_
 refine zp (p_fld_ptr rfl rfl fld_60_7) ?_
 refine zp (p_load_box rfl rfl sc_3 rfl rfl) ?_
 refine zp (p_neq rfl rfl rfl) ?_
 refine zq rfl rfl rfl ?_
 refine zm rfl rfl ?_
 refine XL.dec 41 rfl (fun g41 => ?_) (fun g41 => ?_)
 refine zk 5 rfl ?_
 refine zq rfl rfl rfl ?_
 refine zm rfl rfl ?_
 refine zk 5 rfl ?_
 refine zq rfl rfl rfl ?_
 refine zm rfl rfl ?_
 refine zk 7 rfl ?_
 refine zq rfl rfl rfl ?_
 refine zm rfl rfl ?_
 refine zk 7 rfl ?_
 refine zq rfl rfl rfl ?_
 refine zm rfl rfl ?_
 refine zk 7 rfl ?_
 refine zq rfl rfl rfl ?_
 refine zn ?_
 refine xw_true (by kernel_rfl) rfl ?_
 refine zr ?_
 refine za rfl rfl ?_
 refine zn ?_
 refine zt ?_
 exact z1 rfl rfl (rB (same_no fun h => g41 h.2.2.2.2.1))
 refine zp (p_fld_ptr rfl rfl fld_60_9) ?_
 refine zp (p_load_box rfl rfl sc_3 rfl rfl) ?_
 refine zp (p_fld_ptr rfl rfl fld_60_9) ?_
 refine zp (p_load_box rfl rfl sc_3 rfl rfl) ?_
 refine zp (p_neq rfl rfl rfl) ?_
 refine zq rfl rfl rfl ?_
 refine zm rfl rfl ?_
 refine XL.dec 48 rfl (fun g48 => ?_) (fun g48 => ?_)
 refine zk 5 rfl ?_
 refine zq rfl rfl rfl ?_
 refine zm rfl rfl ?_
 refine zk 7 rfl ?_
 refine zq rfl rfl rfl ?_
 refine zm rfl rfl ?_
 refine zk 7 rfl ?_
 refine zq rfl rfl rfl ?_
 refine zm rfl rfl ?_
 refine zk 7 rfl ?_
 refine zq rfl rfl rfl ?_
 refine zn ?_
 refine xw_true (by kernel_rfl) rfl ?_
 refine zr ?_
 refine za rfl rfl ?_
 refine zn ?_
 refine zt ?_
 exact z1 rfl rfl (rB (same_no fun h => g48 h.2.2.2.2.2.1))
 refine zp (p_fld_ptr rfl rfl fld_60_10) ?_
 refine zp (p_load_box rfl rfl sc_3 rfl rfl) ?_
 refine zp (p_fld_ptr rfl rfl fld_60_10) ?_
 refine zp (p_load_box rfl rfl sc_3 rfl rfl) ?_
 refine zp (p_neq rfl rfl rfl) ?_
 refine zq rfl rfl rfl ?_
 refine zm rfl rfl ?_
 refine XL.dec 55 rfl (fun g55 => ?_) (fun g55 => ?_)
 refine zk 7 rfl ?_
 refine zq rfl rfl rfl ?_
 refine zm rfl rfl ?_
 refine zk 7 rfl ?_
 refine zq rfl rfl rfl ?_
 refine zm rfl rfl ?_
 refine zk 7 rfl ?_
 refine zq rfl rfl rfl ?_
 refine zn ?_
 refine xw_true (by kernel_rfl) rfl ?_
 refine zr ?_
 refine za rfl rfl ?_
 refine zn ?_
 refine zt ?_
 exact z1 rfl rfl (rB (same_no fun h => g55 h.2.2.2.2.2.2.1))
 refine zp (p_fld_ptr rfl rfl fld_60_3) ?_
 refine zp (p_load_box rfl rfl sc_48 rfl rfl) ?_
 refine XL.len rfl rfl rfl Tryz.underlying48 (fun hl58 => ?_)
 refine zp (p_fld_ptr rfl rfl fld_60_3) ?_
 refine zp (p_load_box rfl rfl sc_48 rfl rfl) ?_
 refine XL.len rfl rfl rfl Tryz.underlying48 (fun hl61 => ?_)
 refine zp (p_neq rfl rfl rfl) ?_
 refine zq rfl rfl rfl ?_
 refine zm rfl rfl ?_
 refine XL.dec 64 rfl (fun g64 => ?_) (fun g64 => ?_)
 refine zk 7 rfl ?_
 refine zq rfl rfl rfl ?_
 refine zm rfl rfl ?_
 refine zk 7 rfl ?_
 refine zq rfl rfl rfl ?_
 refine zn ?_
 refine xw_true (by kernel_rfl) rfl ?_
 refine zr ?_
 refine za rfl rfl ?_
 refine zn ?_
 refine zt ?_
 exact z1 rfl rfl (rB (same_no fun h => g64 (by rw [h.2.2.2.2.2.2.2.1])))
 refine zp (p_fld_ptr rfl rfl fld_60_4) ?_
 refine zp (p_load_box rfl rfl sc_57 rfl rfl) ?_
 refine XL.len rfl rfl rfl Tryz.underlying57 (fun hl67 => ?_)
 refine zp (p_fld_ptr rfl rfl fld_60_4) ?_
 refine zp (p_load_box rfl rfl sc_57 rfl rfl) ?_
 refine XL.len rfl rfl rfl Tryz.underlying57 (fun hl70 => ?_)
 refine zp (p_neq rfl rfl rfl) ?_
 refine zq rfl rfl rfl ?_
 refine zm rfl rfl ?_
 refine XL.dec 73 rfl (fun g73 => ?_) (fun g73 => ?_)
 refine zk 7 rfl ?_
 refine zq rfl rfl rfl ?_
 refine zn ?_
 refine xw_true (by kernel_rfl) rfl ?_
 refine zr ?_
 refine za rfl rfl ?_
 refine zn ?_
 refine zt ?_
 exact z1 rfl rfl (rB (same_no fun h => g73 (by rw [h.2.2.2.2.2.2.2.2.1])))
 refine zp (p_fld_ptr rfl rfl fld_60_8) ?_
 refine zp (p_load_box rfl rfl sc_58 rfl rfl) ?_
 refine XL.len rfl rfl rfl Tryz.underlying58 (fun hl76 => ?_)
 refine zp (p_fld_ptr rfl rfl fld_60_8) ?_
 refine zp (p_load_box rfl rfl sc_58 rfl rfl) ?_
 refine XL.len rfl rfl rfl Tryz.underlying58 (fun hl79 => ?_)
 refine zp (p_neq rfl rfl rfl) ?_
 refine zq rfl rfl rfl ?_
 refine zn ?_
 refine zd rfl (fun c81 => ?_) (fun c81 => ?_)
 refine zr ?_
 refine za rfl rfl ?_
 refine zn ?_
 refine zt ?_
 exact z1 rfl rfl (rB (same_no fun h => c81 (by rw [h.2.2.2.2.2.2.2.2.2])))
 refine zi ?_
 refine zs ?_
 refine zr ?_
 refine za rfl rfl ?_
 refine zn ?_
 refine xw_block ?_
 refine xw_loop (α := Nat) (fun k => k ≤ a.heads.length ∧ ∀ j x y, j < k → a.heads[j]? = some x → b.heads[j]? = some y → x = y) (fun k => mkF [(2, .ptr 2 0 0), (3, .ptr 3 0 0), (5, .d (dI k))]) (fun k => mkH [(2, .box ((Ev.c a).map S.d)), (3, .box ((Ev.c b).map S.d))]) (fun k => a.heads.length - k) (0) (⟨Nat.zero_le _, fun j x y h => absurd h (Nat.not_lt_zero _)⟩) ?_ ?_ ?_
 exact fz ⟨sr, sr, sr, trivial⟩
 exact gz ⟨rfl, rfl, trivial⟩
 intro k hk0
 obtain ⟨hk, hf0⟩ := hk0
 refine zs ?_
 refine zr ?_
 refine zm rfl rfl ?_
 refine zp (p_fld_ptr rfl rfl fld_60_3) ?_
 refine zp (p_load_box rfl rfl sc_48 rfl rfl) ?_
 refine XL.len rfl rfl rfl Tryz.underlying48 (fun hl85 => ?_)
 refine zp (p_lss rfl rfl rfl) ?_
 refine zn ?_
 refine zd rfl (fun c86 => ?_) (fun c86 => ?_)
 have hk0a : k < a.heads.length := by omega
 obtain ⟨x, hx0⟩ := get_ex hk0a
 obtain ⟨y, hy0⟩ : ∃ y, b.heads[k]? = some y := get_ex (by omega)
 refine zi ?_
 refine zs ?_
 refine xw_block ?_
 refine zs ?_
 refine xw_any [] (by kernel_rfl) (by kernel_rfl) (by kernel_rfl) (by decide) ?_
 refine yp (p_fld_ptr rfl rfl fld_60_3) ?_
 refine yp (p_load_box rfl rfl sc_48 rfl rfl) ?_
 refine ym rfl rfl ?_
 refine yp (p_idx_map rfl rfl rfl el_48 hx0) ?_
 refine yp (pure_eq (s' := .d (.agg (Hd.c x))) (p_load_pts rfl rfl agg_91 (Nat.le_of_ble_eq_true rfl)) (by kernel_rfl)) ?_
 refine yp (p_fld_ptr rfl rfl fld_60_3) ?_
 refine yp (p_load_box rfl rfl sc_48 rfl rfl) ?_
 refine ym rfl rfl ?_
 refine yp (p_idx_map rfl rfl rfl el_48 (hy0)) ?_
 refine yp (pure_eq (s' := .d (.agg (Hd.c y))) (p_load_pts rfl rfl agg_91 (Nat.le_of_ble_eq_true rfl)) (by kernel_rfl)) ?_
 refine yp (p_neq_91 rfl rfl rfl) ?_
 refine ChK.nil ⟨by kernel_rfl, ?_⟩
 refine zd rfl (fun c99 => ?_) (fun c99 => ?_)
 refine zr ?_
 refine za rfl rfl ?_
 refine zn ?_
 refine zt ?_
 exact z1 rfl rfl (rB (same_no fun h => Hd.ne_of c99 (by have e := h.2.2.2.2.2.2.2.1; rw [e] at hx0; rw [hx0] at hy0; cases hy0; rfl)))
 refine zi ?_
 refine xw_region (by kernel_rfl) ?_
 refine zm rfl rfl ?_
 refine zp (p_add rfl rfl rfl (by omega) (by omega)) ?_
 refine za rfl rfl ?_
 refine zn ?_
 exact k_round (k + 1) (⟨by omega, fun j x' y' hj hx' hy' => by by_cases e : j = k; (· subst e; rw [hx0] at hx'; rw [hy0] at hy'; cases hx'; cases hy'; exact Hd.eq_of c99); (· exact hf0 j x' y' (by omega) hx' hy')⟩) (by omega) (fz ⟨sr, sr, sr, trivial⟩) (gz ⟨rfl, rfl, trivial⟩)
 have hk0b : k = a.heads.length := by omega
 have hq0 : a.heads = b.heads := eq_of_all (by omega) (fun j x y hj => hf0 j x y (by omega))
 refine xw_exit ?_
 refine zs ?_
 refine zr ?_
 refine za rfl rfl ?_
 refine zn ?_
 refine xw_block ?_
 refine xw_loop (α := Nat) (fun m => m ≤ a.graces.length ∧ ∀ j x y, j < m → a.graces[j]? = some x → b.graces[j]? = some y → x = y) (fun m => mkF [(2, .ptr 2 0 0), (3, .ptr 3 0 0), (6, .d (dI m))]) (fun m => mkH [(2, .box ((Ev.c a).map S.d)), (3, .box ((Ev.c b).map S.d))]) (fun m => a.graces.length - m) (0) (⟨Nat.zero_le _, fun j x y h => absurd h (Nat.not_lt_zero _)⟩) ?_ ?_ ?_
 exact fz ⟨sr, sr, sr, trivial⟩
 exact gz ⟨rfl, rfl, trivial⟩
 intro m hk2
 obtain ⟨hk, hf2⟩ := hk2
 refine zs ?_
 refine zr ?_
 refine zm rfl rfl ?_
 refine zp (p_fld_ptr rfl rfl fld_60_4) ?_
 refine zp (p_load_box rfl rfl sc_57 rfl rfl) ?_
 refine XL.len rfl rfl rfl Tryz.underlying57 (fun hl103 => ?_)
 refine zp (p_lss rfl rfl rfl) ?_
 refine zn ?_
 refine zd rfl (fun c104 => ?_) (fun c104 => ?_)
 have hk2a : m < a.graces.length := by omega
 obtain ⟨x, hx2⟩ := get_ex hk2a
 obtain ⟨y, hy2⟩ : ∃ y, b.graces[m]? = some y := get_ex (by omega)
 refine zi ?_
 refine zs ?_
 refine xw_block ?_
 refine zs ?_
 refine xw_any [] (by kernel_rfl) (by kernel_rfl) (by kernel_rfl) (by decide) ?_
 refine yp (p_fld_ptr rfl rfl fld_60_4) ?_
 refine yp (p_load_box rfl rfl sc_57 rfl rfl) ?_
 refine ym rfl rfl ?_
 refine yp (p_idx_map rfl rfl rfl el_57 hx2) ?_
 refine yp (pure_eq (s' := .d (.agg (Gr.c x))) (p_load_pts rfl rfl agg_138 (Nat.le_of_ble_eq_true rfl)) (by kernel_rfl)) ?_
 refine yp (p_fld_ptr rfl rfl fld_60_4) ?_
 refine yp (p_load_box rfl rfl sc_57 rfl rfl) ?_
 refine ym rfl rfl ?_
 refine yp (p_idx_map rfl rfl rfl el_57 (hy2)) ?_
 refine yp (pure_eq (s' := .d (.agg (Gr.c y))) (p_load_pts rfl rfl agg_138 (Nat.le_of_ble_eq_true rfl)) (by kernel_rfl)) ?_
 refine yp (p_neq_138 rfl rfl rfl) ?_
 refine ChK.nil ⟨by kernel_rfl, ?_⟩
 refine zd rfl (fun c117 => ?_) (fun c117 => ?_)
 refine zr ?_
 refine za rfl rfl ?_
 refine zn ?_
 refine zt ?_
 exact z1 rfl rfl (rB (same_no fun h => Gr.ne_of c117 (by have e := h.2.2.2.2.2.2.2.2.1; rw [e] at hx2; rw [hx2] at hy2; cases hy2; rfl)))
 refine zi ?_
 refine xw_region (by kernel_rfl) ?_
 refine zm rfl rfl ?_
 refine zp (p_add rfl rfl rfl (by omega) (by omega)) ?_
 refine za rfl rfl ?_
 refine zn ?_
 exact k_round (m + 1) (⟨by omega, fun j x' y' hj hx' hy' => by by_cases e : j = m; (· subst e; rw [hx2] at hx'; rw [hy2] at hy'; cases hx'; cases hy'; exact Gr.eq_of c117); (· exact hf2 j x' y' (by omega) hx' hy')⟩) (by omega) (fz ⟨sr, sr, sr, trivial⟩) (gz ⟨rfl, rfl, trivial⟩)
 have hk2b : m = a.graces.length := by omega
 have hq2 : a.graces = b.graces := eq_of_all (by omega) (fun j x y hj => hf2 j x y (by omega))
 refine xw_exit ?_
 refine zs ?_
 refine zr ?_
 refine za rfl rfl ?_
 refine zn ?_
 refine xw_block ?_
 refine xw_loop (α := Nat) (fun n => n ≤ a.lyr.length ∧ ∀ j x y, j < n → a.lyr[j]? = some x → b.lyr[j]? = some y → x = y) (fun n => mkF [(2, .ptr 2 0 0), (3, .ptr 3 0 0), (7, .d (dI n))]) (fun n => mkH [(2, .box ((Ev.c a).map S.d)), (3, .box ((Ev.c b).map S.d))]) (fun n => a.lyr.length - n) (0) (⟨Nat.zero_le _, fun j x y h => absurd h (Nat.not_lt_zero _)⟩) ?_ ?_ ?_
 exact fz ⟨sr, sr, sr, trivial⟩
 exact gz ⟨rfl, rfl, trivial⟩
 intro n hk4
 obtain ⟨hk, hf4⟩ := hk4
 refine zs ?_
 refine zr ?_
 refine zm rfl rfl ?_
 refine zp (p_fld_ptr rfl rfl fld_60_8) ?_
 refine zp (p_load_box rfl rfl sc_58 rfl rfl) ?_
 refine XL.len rfl rfl rfl Tryz.underlying58 (fun hl121 => ?_)
 refine zp (p_lss rfl rfl rfl) ?_
 refine zn ?_
 refine zd rfl (fun c122 => ?_) (fun c122 => ?_)
 have hk4a : n < a.lyr.length := by omega
 obtain ⟨x, hx4⟩ := get_ex hk4a
 obtain ⟨y, hy4⟩ : ∃ y, b.lyr[n]? = some y := get_ex (by omega)
 refine zi ?_
 refine zs ?_
 refine xw_block ?_
 refine zs ?_
 refine xw_any [] (by kernel_rfl) (by kernel_rfl) (by kernel_rfl) (by decide) ?_
 refine yp (p_fld_ptr rfl rfl fld_60_8) ?_
 refine yp (p_load_box rfl rfl sc_58 rfl rfl) ?_
 refine ym rfl rfl ?_
 refine yp (p_idx_map rfl rfl rfl el_58 hx4) ?_
 refine yp (pure_eq (s' := .d (.agg (Sy.c x))) (p_load_pts rfl rfl agg_140 (Nat.le_of_ble_eq_true rfl)) (by kernel_rfl)) ?_
 refine yp (p_fld_ptr rfl rfl fld_60_8) ?_
 refine yp (p_load_box rfl rfl sc_58 rfl rfl) ?_
 refine ym rfl rfl ?_
 refine yp (p_idx_map rfl rfl rfl el_58 (hy4)) ?_
 refine yp (pure_eq (s' := .d (.agg (Sy.c y))) (p_load_pts rfl rfl agg_140 (Nat.le_of_ble_eq_true rfl)) (by kernel_rfl)) ?_
 refine yp (p_neq_140 rfl rfl rfl) ?_
 refine ChK.nil ⟨by kernel_rfl, ?_⟩
 refine zd rfl (fun c135 => ?_) (fun c135 => ?_)
 refine zr ?_
 refine za rfl rfl ?_
 refine zn ?_
 refine zt ?_
 exact z1 rfl rfl (rB (same_no fun h => Sy.ne_of c135 (by have e := h.2.2.2.2.2.2.2.2.2; rw [e] at hx4; rw [hx4] at hy4; cases hy4; rfl)))
 refine zi ?_
 refine xw_region (by kernel_rfl) ?_
 refine zm rfl rfl ?_
 refine zp (p_add rfl rfl rfl (by omega) (by omega)) ?_
 refine za rfl rfl ?_
 refine zn ?_
 exact k_round (n + 1) (⟨by omega, fun j x' y' hj hx' hy' => by by_cases e : j = n; (· subst e; rw [hx4] at hx'; rw [hy4] at hy'; cases hx'; cases hy'; exact Sy.eq_of c135); (· exact hf4 j x' y' (by omega) hx' hy')⟩) (by omega) (fz ⟨sr, sr, sr, trivial⟩) (gz ⟨rfl, rfl, trivial⟩)
 have hk4b : n = a.lyr.length := by omega
 have hq4 : a.lyr = b.lyr := eq_of_all (by omega) (fun j x y hj => hf4 j x y (by omega))
 refine xw_exit ?_
 refine zr ?_
 refine za rfl rfl ?_
 refine zn ?_
 refine zt ?_
 exact z1 rfl rfl (rB (by rw [eq_comm, decide_eq_true_iff]; exact ⟨Decidable.not_not.1 g13, Val.eq_of (Decidable.not_not.1 g20), Decidable.not_not.1 g27, Decidable.not_not.1 g34, Decidable.not_not.1 g41, Decidable.not_not.1 g48, Decidable.not_not.1 g55, hq0, hq2, hq4⟩))
theorem within_no {n m : Int} (h : ¬ (0 ≤ n ∧ n ≤ m)) : withinS n m = 2 := by rw [withinS, if_pos (by omega)]
theorem within_ok {n m : Int} (h : 0 ≤ n ∧ n ≤ m) : withinS n m = 0 := by rw [withinS, if_neg (by omega)]
theorem first_2 {l : List Int} (h : ∀ x ∈ l, x = 0 ∨ x = 2) (h2 : ∃ x ∈ l, x = 2) : firstS l = 2 := by
 induction l with
 | nil => obtain ⟨_, h, _⟩ := h2; cases h
 | cons x l ih =>
  rw [firstS]
  rcases h x List.mem_cons_self with e | e
  ·rw [if_neg (by omega)]
   refine ih (fun y hy => h y (List.mem_cons_of_mem _ hy)) ?_
   obtain ⟨y, hy, hy2⟩ := h2
   rcases List.mem_cons.1 hy with k | k
   ·omega
   ·exact ⟨y, k, hy2⟩
  ·rw [if_pos (by omega), e]
theorem within_02 (n m : Int) : withinS n m = 0 ∨ withinS n m = 2 := by unfold withinS; split <;> simp
theorem e1_2 {e : Ev} (h : ¬ (0 ≤ e.site ∧ e.site ≤ 99) ∨ ¬ (0 ≤ e.num ∧ e.num ≤ 1073741824)) : e.err = 2 := by
 have : e.e1 = 2 := by
  unfold Ev.e1
  refine first_2 (fun x hx => ?_) ?_
  ·simp only [List.mem_cons, List.not_mem_nil, or_false] at hx
   rcases hx with rfl | rfl <;> exact within_02 _ _
  ·rcases h with h | h
   ·exact ⟨_, by simp, within_no h⟩
   ·exact ⟨_, by simp, within_no h⟩
 rw [Ev.err, this, if_pos (by decide)]
theorem e1_0 {e : Ev} (h : 0 ≤ e.site ∧ e.site ≤ 99) (h2 : 0 ≤ e.num ∧ e.num ≤ 1073741824) : ¬ e.e1 ≠ 0 := by
 refine fun k => k (first_zero.2 fun x hx => ?_)
 simp only [List.mem_cons, List.not_mem_nil, or_false] at hx
 rcases hx with rfl | rfl
 ·exact within_ok h
 ·exact within_ok h2
def Ev.okE (e : Ev) : Prop := (0 ≤ e.art ∧ e.art ≤ 31) ∧ (0 ≤ e.orn ∧ e.orn ≤ 4) ∧ (0 ≤ e.dyn ∧ e.dyn ≤ 9) ∧ (0 ≤ e.stem ∧ e.stem ≤ 2) ∧ (0 ≤ e.beam ∧ e.beam ≤ 2)
theorem e3_2 {e : Ev} (h : ¬ e.okE) : e.e3 = 2 := by
 unfold Ev.e3
 refine first_2 (fun x hx => ?_) ?_
 ·simp only [List.mem_cons, List.not_mem_nil, or_false] at hx
  rcases hx with rfl | rfl | rfl | rfl | rfl <;> exact within_02 _ _
 ·by_cases a : 0 ≤ e.art ∧ e.art ≤ 31
  ·by_cases b : 0 ≤ e.orn ∧ e.orn ≤ 4
   ·by_cases c : 0 ≤ e.dyn ∧ e.dyn ≤ 9
    ·by_cases d : 0 ≤ e.stem ∧ e.stem ≤ 2
     ·by_cases f : 0 ≤ e.beam ∧ e.beam ≤ 2
      ·exact absurd ⟨a, b, c, d, f⟩ h
      ·exact ⟨_, by simp, within_no f⟩
     ·exact ⟨_, by simp, within_no d⟩
    ·exact ⟨_, by simp, within_no c⟩
   ·exact ⟨_, by simp, within_no b⟩
  ·exact ⟨_, by simp, within_no a⟩
theorem e3_0 {e : Ev} (h : e.okE) : e.e3 = 0 := by
 refine first_zero.2 fun x hx => ?_
 simp only [List.mem_cons, List.not_mem_nil, or_false] at hx
 obtain ⟨a, b, c, d, f⟩ := h
 rcases hx with rfl | rfl | rfl | rfl | rfl
 ·exact within_ok a
 ·exact within_ok b
 ·exact within_ok c
 ·exact within_ok d
 ·exact within_ok f
theorem e2_1 {e : Ev} (h : headsErr e.heads ≠ 0) : e.e2 = headsErr e.heads := by rw [Ev.e2, firstS, if_pos h]
theorem e2_2 {e : Ev} (h : ¬ headsErr e.heads ≠ 0) (h2 : gracesErr e.graces ≠ 0) : e.e2 = gracesErr e.graces := by rw [Ev.e2, firstS, if_neg h, firstS, if_pos h2]
theorem e2_3 {e : Ev} (h : ¬ headsErr e.heads ≠ 0) (h2 : ¬ gracesErr e.graces ≠ 0) (h3 : lyrErr e.lyr ≠ 0) : e.e2 = lyrErr e.lyr := by rw [Ev.e2, firstS, if_neg h, firstS, if_neg h2, firstS, if_pos h3]
theorem e2_0 {e : Ev} (h : ¬ headsErr e.heads ≠ 0) (h2 : ¬ gracesErr e.graces ≠ 0) (h3 : ¬ lyrErr e.lyr ≠ 0) : e.e2 = 0 := by rw [Ev.e2, firstS, if_neg h, firstS, if_neg h2, firstS, if_neg h3]; rfl
theorem er_3 {e : Ev} (h : ¬ e.e1 ≠ 0) (h2 : 1 ≤ e.kind ∧ e.kind ≤ 4) (h3 : ¬ e.same e.strip) : e.err = 3 := (err_3 h (fun k => k h2) h3).symm
theorem er_17 {e : Ev} (h : ¬ e.e1 ≠ 0) (h2 : 1 ≤ e.kind ∧ e.kind ≤ 4) (h3 : ¬ ¬ e.same e.strip) (h4 : e.kind ≠ 3) (h5 : ¬ valOk e.v) : e.err = 17 := (err_4 h (fun k => k h2) h3 h4 (fun k => h5 (valOk_iff.2 k))).symm
theorem er_e2 {e : Ev} (h : ¬ e.e1 ≠ 0) (h2 : 1 ≤ e.kind ∧ e.kind ≤ 4) (h3 : ¬ ¬ e.same e.strip) (h4 : e.kind ≠ 3 → valOk e.v) (h5 : e.kind = 1) {n : Int} (h6 : e.e2 = n) (h7 : n ≠ 0) : e.err = n := by
 subst h6; exact (err_5 h (fun k => k h2) h3 (fun k => k.2 (valOk_iff.1 (h4 k.1))) h5 h7).symm
theorem er_e3 {e : Ev} (h : ¬ e.e1 ≠ 0) (h2 : 1 ≤ e.kind ∧ e.kind ≤ 4) (h3 : ¬ ¬ e.same e.strip) (h4 : e.kind ≠ 3 → valOk e.v) (h5 : e.kind = 1 → e.e2 = 0) {n : Int} (h6 : e.e3 = n) : e.err = n := by
 subst h6; exact (err_6 h (fun k => k h2) h3 (fun k => k.2 (valOk_iff.1 (h4 k.1))) (fun k => k.2 (h5 k.1))).symm
set_option maxRecDepth 20000 in
set_option maxHeartbeats 8000000 in
theorem rcheck11_xc (e : Ev) (he : e.art ≤ 9223372036854775807) : XC Tryz.prog 38 [.agg (Ev.c e)] (fun r => r = dI e.err) := by
 refine xc_body callable_38 Tryz.func38 rfl rfl (Nat.le_of_ble_eq_true rfl) ?_
 refine zr ?_
 refine XL.step rfl (st_boxN 1 (l := [.d (dI e.site), .d (dI e.num), .d (dI e.kind), .d (dI e.v.log), .d (dI e.v.dots), .d (.sl 5 (e.heads.map Hd.c)), .d (.sl 5 (e.graces.map Gr.c)), .d (dI e.art), .d (dI e.orn), .d (dI e.dyn), .d (.sl 2 (e.lyr.map Sy.c)), .d (dI e.stem), .d (dI e.beam)]) rfl rfl (by kernel_rfl)) ?_
 refine za rfl rfl ?_
 refine zn ?_
 refine zs ?_
 refine zr ?_
 refine zp (p_fld_ptr rfl rfl fld_60_0) ?_
 refine zp (p_fld_ptr rfl rfl fld_54_0) ?_
 refine zp (p_load_box rfl rfl sc_3 rfl rfl) ?_
 refine XL.call1 rfl rfl (in_xc _ _ _) rfl ?_
 refine zp (p_notdec rfl rfl) ?_
 refine zm rfl rfl ?_
 refine XL.dec 11 rfl (fun g11 => ?_) (fun g11 => ?_)
 refine zk 5 rfl ?_
 refine zq rfl rfl rfl ?_
 refine zn ?_
 refine xw_true (by kernel_rfl) rfl ?_
 refine zr ?_
 refine za rfl rfl ?_
 refine zn ?_
 refine zt ?_
 exact z1 rfl rfl (rI (e1_2 (.inl g11)).symm)
 refine zp (p_fld_ptr rfl rfl fld_60_0) ?_
 refine zp (p_fld_ptr rfl rfl fld_54_1) ?_
 refine zp (p_load_box rfl rfl sc_3 rfl rfl) ?_
 refine XL.call1 rfl rfl (in_xc _ _ _) rfl ?_
 refine zp (p_notdec rfl rfl) ?_
 refine zq rfl rfl rfl ?_
 refine zn ?_
 refine zd rfl (fun c17 => ?_) (fun c17 => ?_)
 refine zr ?_
 refine za rfl rfl ?_
 refine zn ?_
 refine zt ?_
 exact z1 rfl rfl (rI (e1_2 (.inr c17)).symm)
 refine zi ?_
 refine zs ?_
 refine zr ?_
 refine zp (p_fld_ptr rfl rfl fld_60_1) ?_
 refine zp (p_load_box rfl rfl sc_3 rfl rfl) ?_
 refine XL.call1 rfl rfl (in_xc _ _ _) rfl ?_
 refine zp (p_notdec rfl rfl) ?_
 refine zn ?_
 refine zd rfl (fun c21 => ?_) (fun c21 => ?_)
 refine zr ?_
 refine za rfl rfl ?_
 refine zn ?_
 refine zt ?_
 exact z1 rfl rfl (rI (err_2 (e1_0 (Decidable.not_not.1 g11) (Decidable.not_not.1 c17)) c21))
 refine zi ?_
 refine zs ?_
 refine zs ?_
 refine xw_any [] (by kernel_rfl) (by kernel_rfl) (by kernel_rfl) (by decide) ?_
 refine yp (pure_eq (s' := .d (.agg (Ev.c e))) (norm_pure (p_load_boxs rfl rfl agg_60 rfl (Nat.le_of_ble_eq_true rfl))) (by kernel_rfl)) ?_
 refine yp (pure_eq (s' := .d (.agg (Ev.c e))) (norm_pure (p_load_boxs rfl rfl agg_60 rfl (Nat.le_of_ble_eq_true rfl))) (by kernel_rfl)) ?_
 refine ChK.cons rfl (CStep.call rfl (rstrip_xc _ (by assumption)) rfl) ?_
 refine ChK.cons rfl (CStep.call rfl (rsame_xc _ _) rfl) ?_
 refine yp (p_notdec rfl rfl) ?_
 refine ChK.nil ⟨by kernel_rfl, ?_⟩
 refine zd rfl (fun c26 => ?_) (fun c26 => ?_)
 refine zr ?_
 refine za rfl rfl ?_
 refine zn ?_
 refine zt ?_
 exact z1 rfl rfl (rI (er_3 (e1_0 (Decidable.not_not.1 g11) (Decidable.not_not.1 c17)) (Decidable.not_not.1 c21) c26).symm)
 refine zi ?_
 refine zs ?_
 refine zr ?_
 refine zp (p_fld_ptr rfl rfl fld_60_1) ?_
 refine zp (p_load_box rfl rfl sc_3 rfl rfl) ?_
 refine zp (p_neq rfl rfl rfl) ?_
 refine zm rfl rfl ?_
 refine XL.dec 30 rfl (fun g30 => ?_) (fun g30 => ?_)
 refine zp (p_fld_ptr rfl rfl fld_60_2) ?_
 refine zp (pure_eq (s' := .d (.agg (Val.c e.v))) (norm_pure (p_load_boxs rfl rfl agg_56 rfl (Nat.le_of_ble_eq_true rfl))) (by kernel_rfl)) ?_
 refine XL.call1 rfl rfl (isval_xc _) rfl ?_
 refine zp (p_notdec rfl rfl) ?_
 refine zq rfl rfl rfl ?_
 refine zn ?_
 refine zd rfl (fun c35 => ?_) (fun c35 => ?_)
 refine zr ?_
 refine za rfl rfl ?_
 refine zn ?_
 refine zt ?_
 exact z1 rfl rfl (rI (er_17 (e1_0 (Decidable.not_not.1 g11) (Decidable.not_not.1 c17)) (Decidable.not_not.1 c21) c26 g30 c35).symm)
 refine zi ?_
 refine zs ?_
 refine zr ?_
 refine zp (p_fld_ptr rfl rfl fld_60_1) ?_
 refine zp (p_load_box rfl rfl sc_3 rfl rfl) ?_
 refine zp (p_eql rfl rfl rfl) ?_
 refine zn ?_
 refine zd rfl (fun c38 => ?_) (fun c38 => ?_)
 refine zs ?_
 refine zr ?_
 refine zp (p_fld_ptr rfl rfl fld_60_3) ?_
 refine zp (p_load_box rfl rfl sc_48 rfl rfl) ?_
 refine XL.call1 rfl rfl (rheads_xc _) rfl ?_
 refine za rfl rfl ?_
 refine znr ?_
 refine zm rfl rfl ?_
 refine zp (p_neq rfl rfl rfl) ?_
 refine zn ?_
 refine zd rfl (fun c43 => ?_) (fun c43 => ?_)
 refine zr ?_
 refine zm rfl rfl ?_
 refine za rfl rfl ?_
 refine zn ?_
 refine zt ?_
 exact z1 rfl rfl (rI (er_e2 (e1_0 (Decidable.not_not.1 g11) (Decidable.not_not.1 c17)) (Decidable.not_not.1 c21) c26 (by first | exact fun _ => Decidable.not_not.1 c35 | exact fun k => absurd k g30) c38 (e2_1 c43) c43).symm)
 refine zi ?_
 refine zs ?_
 refine zr ?_
 refine zp (p_fld_ptr rfl rfl fld_60_4) ?_
 refine zp (p_load_box rfl rfl sc_57 rfl rfl) ?_
 refine XL.call1 rfl rfl (rgraces_xc _) rfl ?_
 refine za rfl rfl ?_
 refine znr ?_
 refine zm rfl rfl ?_
 refine zp (p_neq rfl rfl rfl) ?_
 refine zn ?_
 refine zd rfl (fun c49 => ?_) (fun c49 => ?_)
 refine zr ?_
 refine zm rfl rfl ?_
 refine za rfl rfl ?_
 refine zn ?_
 refine zt ?_
 exact z1 rfl rfl (rI (er_e2 (e1_0 (Decidable.not_not.1 g11) (Decidable.not_not.1 c17)) (Decidable.not_not.1 c21) c26 (by first | exact fun _ => Decidable.not_not.1 c35 | exact fun k => absurd k g30) c38 (e2_2 c43 c49) c49).symm)
 refine zi ?_
 refine zr ?_
 refine zp (p_fld_ptr rfl rfl fld_60_8) ?_
 refine zp (p_load_box rfl rfl sc_58 rfl rfl) ?_
 refine XL.call1 rfl rfl (rlyrics_xc _) rfl ?_
 refine za rfl rfl ?_
 refine znr ?_
 refine zm rfl rfl ?_
 refine zp (p_neq rfl rfl rfl) ?_
 refine zn ?_
 refine zd rfl (fun c55 => ?_) (fun c55 => ?_)
 refine zr ?_
 refine zm rfl rfl ?_
 refine za rfl rfl ?_
 refine zn ?_
 refine zt ?_
 exact z1 rfl rfl (rI (er_e2 (e1_0 (Decidable.not_not.1 g11) (Decidable.not_not.1 c17)) (Decidable.not_not.1 c21) c26 (by first | exact fun _ => Decidable.not_not.1 c35 | exact fun k => absurd k g30) c38 (e2_3 c43 c49 c55) c55).symm)
 refine zi ?_
 refine zs ?_
 refine zr ?_
 refine zp (p_fld_ptr rfl rfl fld_60_5) ?_
 refine zp (p_load_box rfl rfl sc_3 rfl rfl) ?_
 refine XL.call1 rfl rfl (in_xc _ _ _) rfl ?_
 refine zp (p_notdec rfl rfl) ?_
 refine zm rfl rfl ?_
 refine XL.dec 61 rfl (fun g61 => ?_) (fun g61 => ?_)
 refine zk 4 rfl ?_
 refine zq rfl rfl rfl ?_
 refine zm rfl rfl ?_
 refine zk 4 rfl ?_
 refine zq rfl rfl rfl ?_
 refine zm rfl rfl ?_
 refine zk 4 rfl ?_
 refine zq rfl rfl rfl ?_
 refine zm rfl rfl ?_
 refine zk 4 rfl ?_
 refine zq rfl rfl rfl ?_
 refine zn ?_
 refine xw_true (by kernel_rfl) rfl ?_
 refine zr ?_
 refine za rfl rfl ?_
 refine zn ?_
 refine zt ?_
 exact z1 rfl rfl (rI (er_e3 (e1_0 (Decidable.not_not.1 g11) (Decidable.not_not.1 c17)) (Decidable.not_not.1 c21) c26 (by first | exact fun _ => Decidable.not_not.1 c35 | exact fun k => absurd k g30) (by first | exact fun _ => e2_0 c43 c49 c55 | exact fun k => absurd k c38) (e3_2 (by unfold Ev.okE; omega))).symm)
 refine zp (p_fld_ptr rfl rfl fld_60_6) ?_
 refine zp (p_load_box rfl rfl sc_3 rfl rfl) ?_
 refine XL.call1 rfl rfl (in_xc _ _ _) rfl ?_
 refine zp (p_notdec rfl rfl) ?_
 refine zq rfl rfl rfl ?_
 refine zm rfl rfl ?_
 refine XL.dec 67 rfl (fun g67 => ?_) (fun g67 => ?_)
 refine zk 4 rfl ?_
 refine zq rfl rfl rfl ?_
 refine zm rfl rfl ?_
 refine zk 4 rfl ?_
 refine zq rfl rfl rfl ?_
 refine zm rfl rfl ?_
 refine zk 4 rfl ?_
 refine zq rfl rfl rfl ?_
 refine zn ?_
 refine xw_true (by kernel_rfl) rfl ?_
 refine zr ?_
 refine za rfl rfl ?_
 refine zn ?_
 refine zt ?_
 exact z1 rfl rfl (rI (er_e3 (e1_0 (Decidable.not_not.1 g11) (Decidable.not_not.1 c17)) (Decidable.not_not.1 c21) c26 (by first | exact fun _ => Decidable.not_not.1 c35 | exact fun k => absurd k g30) (by first | exact fun _ => e2_0 c43 c49 c55 | exact fun k => absurd k c38) (e3_2 (by unfold Ev.okE; omega))).symm)
 refine zp (p_fld_ptr rfl rfl fld_60_7) ?_
 refine zp (p_load_box rfl rfl sc_3 rfl rfl) ?_
 refine XL.call1 rfl rfl (in_xc _ _ _) rfl ?_
 refine zp (p_notdec rfl rfl) ?_
 refine zq rfl rfl rfl ?_
 refine zm rfl rfl ?_
 refine XL.dec 73 rfl (fun g73 => ?_) (fun g73 => ?_)
 refine zk 4 rfl ?_
 refine zq rfl rfl rfl ?_
 refine zm rfl rfl ?_
 refine zk 4 rfl ?_
 refine zq rfl rfl rfl ?_
 refine zn ?_
 refine xw_true (by kernel_rfl) rfl ?_
 refine zr ?_
 refine za rfl rfl ?_
 refine zn ?_
 refine zt ?_
 exact z1 rfl rfl (rI (er_e3 (e1_0 (Decidable.not_not.1 g11) (Decidable.not_not.1 c17)) (Decidable.not_not.1 c21) c26 (by first | exact fun _ => Decidable.not_not.1 c35 | exact fun k => absurd k g30) (by first | exact fun _ => e2_0 c43 c49 c55 | exact fun k => absurd k c38) (e3_2 (by unfold Ev.okE; omega))).symm)
 refine zp (p_fld_ptr rfl rfl fld_60_9) ?_
 refine zp (p_load_box rfl rfl sc_3 rfl rfl) ?_
 refine XL.call1 rfl rfl (in_xc _ _ _) rfl ?_
 refine zp (p_notdec rfl rfl) ?_
 refine zq rfl rfl rfl ?_
 refine zm rfl rfl ?_
 refine XL.dec 79 rfl (fun g79 => ?_) (fun g79 => ?_)
 refine zk 4 rfl ?_
 refine zq rfl rfl rfl ?_
 refine zn ?_
 refine xw_true (by kernel_rfl) rfl ?_
 refine zr ?_
 refine za rfl rfl ?_
 refine zn ?_
 refine zt ?_
 exact z1 rfl rfl (rI (er_e3 (e1_0 (Decidable.not_not.1 g11) (Decidable.not_not.1 c17)) (Decidable.not_not.1 c21) c26 (by first | exact fun _ => Decidable.not_not.1 c35 | exact fun k => absurd k g30) (by first | exact fun _ => e2_0 c43 c49 c55 | exact fun k => absurd k c38) (e3_2 (by unfold Ev.okE; omega))).symm)
 refine zp (p_fld_ptr rfl rfl fld_60_10) ?_
 refine zp (p_load_box rfl rfl sc_3 rfl rfl) ?_
 refine XL.call1 rfl rfl (in_xc _ _ _) rfl ?_
 refine zp (p_notdec rfl rfl) ?_
 refine zq rfl rfl rfl ?_
 refine zn ?_
 refine zd rfl (fun c84 => ?_) (fun c84 => ?_)
 refine zr ?_
 refine za rfl rfl ?_
 refine zn ?_
 refine zt ?_
 exact z1 rfl rfl (rI (er_e3 (e1_0 (Decidable.not_not.1 g11) (Decidable.not_not.1 c17)) (Decidable.not_not.1 c21) c26 (by first | exact fun _ => Decidable.not_not.1 c35 | exact fun k => absurd k g30) (by first | exact fun _ => e2_0 c43 c49 c55 | exact fun k => absurd k c38) (e3_2 (by unfold Ev.okE; omega))).symm)
 refine zi ?_
 refine zr ?_
 refine za rfl rfl ?_
 refine zn ?_
 refine zt ?_
 exact z1 rfl rfl (rI (er_e3 (e1_0 (Decidable.not_not.1 g11) (Decidable.not_not.1 c17)) (Decidable.not_not.1 c21) c26 (by first | exact fun _ => Decidable.not_not.1 c35 | exact fun k => absurd k g30) (by first | exact fun _ => e2_0 c43 c49 c55 | exact fun k => absurd k c38) (e3_0 (by unfold Ev.okE; omega))).symm)
 refine zi ?_
 refine zs ?_
 refine zr ?_
 refine zp (p_fld_ptr rfl rfl fld_60_5) ?_
 refine zp (p_load_box rfl rfl sc_3 rfl rfl) ?_
 refine XL.call1 rfl rfl (in_xc _ _ _) rfl ?_
 refine zp (p_notdec rfl rfl) ?_
 refine zm rfl rfl ?_
 refine XL.dec 61 rfl (fun g61 => ?_) (fun g61 => ?_)
 refine zk 4 rfl ?_
 refine zq rfl rfl rfl ?_
 refine zm rfl rfl ?_
 refine zk 4 rfl ?_
 refine zq rfl rfl rfl ?_
 refine zm rfl rfl ?_
 refine zk 4 rfl ?_
 refine zq rfl rfl rfl ?_
 refine zm rfl rfl ?_
 refine zk 4 rfl ?_
 refine zq rfl rfl rfl ?_
 refine zn ?_
 refine xw_true (by kernel_rfl) rfl ?_
 refine zr ?_
 refine za rfl rfl ?_
 refine zn ?_
 refine zt ?_
 exact z1 rfl rfl (rI (er_e3 (e1_0 (Decidable.not_not.1 g11) (Decidable.not_not.1 c17)) (Decidable.not_not.1 c21) c26 (by first | exact fun _ => Decidable.not_not.1 c35 | exact fun k => absurd k g30) (by first | exact fun _ => e2_0 c43 c49 c55 | exact fun k => absurd k c38) (e3_2 (by unfold Ev.okE; omega))).symm)
 refine zp (p_fld_ptr rfl rfl fld_60_6) ?_
 refine zp (p_load_box rfl rfl sc_3 rfl rfl) ?_
 refine XL.call1 rfl rfl (in_xc _ _ _) rfl ?_
 refine zp (p_notdec rfl rfl) ?_
 refine zq rfl rfl rfl ?_
 refine zm rfl rfl ?_
 refine XL.dec 67 rfl (fun g67 => ?_) (fun g67 => ?_)
 refine zk 4 rfl ?_
 refine zq rfl rfl rfl ?_
 refine zm rfl rfl ?_
 refine zk 4 rfl ?_
 refine zq rfl rfl rfl ?_
 refine zm rfl rfl ?_
 refine zk 4 rfl ?_
 refine zq rfl rfl rfl ?_
 refine zn ?_
 refine xw_true (by kernel_rfl) rfl ?_
 refine zr ?_
 refine za rfl rfl ?_
 refine zn ?_
 refine zt ?_
 exact z1 rfl rfl (rI (er_e3 (e1_0 (Decidable.not_not.1 g11) (Decidable.not_not.1 c17)) (Decidable.not_not.1 c21) c26 (by first | exact fun _ => Decidable.not_not.1 c35 | exact fun k => absurd k g30) (by first | exact fun _ => e2_0 c43 c49 c55 | exact fun k => absurd k c38) (e3_2 (by unfold Ev.okE; omega))).symm)
 refine zp (p_fld_ptr rfl rfl fld_60_7) ?_
 refine zp (p_load_box rfl rfl sc_3 rfl rfl) ?_
 refine XL.call1 rfl rfl (in_xc _ _ _) rfl ?_
 refine zp (p_notdec rfl rfl) ?_
 refine zq rfl rfl rfl ?_
 refine zm rfl rfl ?_
 refine XL.dec 73 rfl (fun g73 => ?_) (fun g73 => ?_)
 refine zk 4 rfl ?_
 refine zq rfl rfl rfl ?_
 refine zm rfl rfl ?_
 refine zk 4 rfl ?_
 refine zq rfl rfl rfl ?_
 refine zn ?_
 refine xw_true (by kernel_rfl) rfl ?_
 refine zr ?_
 refine za rfl rfl ?_
 refine zn ?_
 refine zt ?_
 exact z1 rfl rfl (rI (er_e3 (e1_0 (Decidable.not_not.1 g11) (Decidable.not_not.1 c17)) (Decidable.not_not.1 c21) c26 (by first | exact fun _ => Decidable.not_not.1 c35 | exact fun k => absurd k g30) (by first | exact fun _ => e2_0 c43 c49 c55 | exact fun k => absurd k c38) (e3_2 (by unfold Ev.okE; omega))).symm)
 refine zp (p_fld_ptr rfl rfl fld_60_9) ?_
 refine zp (p_load_box rfl rfl sc_3 rfl rfl) ?_
 refine XL.call1 rfl rfl (in_xc _ _ _) rfl ?_
 refine zp (p_notdec rfl rfl) ?_
 refine zq rfl rfl rfl ?_
 refine zm rfl rfl ?_
 refine XL.dec 79 rfl (fun g79 => ?_) (fun g79 => ?_)
 refine zk 4 rfl ?_
 refine zq rfl rfl rfl ?_
 refine zn ?_
 refine xw_true (by kernel_rfl) rfl ?_
 refine zr ?_
 refine za rfl rfl ?_
 refine zn ?_
 refine zt ?_
 exact z1 rfl rfl (rI (er_e3 (e1_0 (Decidable.not_not.1 g11) (Decidable.not_not.1 c17)) (Decidable.not_not.1 c21) c26 (by first | exact fun _ => Decidable.not_not.1 c35 | exact fun k => absurd k g30) (by first | exact fun _ => e2_0 c43 c49 c55 | exact fun k => absurd k c38) (e3_2 (by unfold Ev.okE; omega))).symm)
 refine zp (p_fld_ptr rfl rfl fld_60_10) ?_
 refine zp (p_load_box rfl rfl sc_3 rfl rfl) ?_
 refine XL.call1 rfl rfl (in_xc _ _ _) rfl ?_
 refine zp (p_notdec rfl rfl) ?_
 refine zq rfl rfl rfl ?_
 refine zn ?_
 refine zd rfl (fun c84 => ?_) (fun c84 => ?_)
 refine zr ?_
 refine za rfl rfl ?_
 refine zn ?_
 refine zt ?_
 exact z1 rfl rfl (rI (er_e3 (e1_0 (Decidable.not_not.1 g11) (Decidable.not_not.1 c17)) (Decidable.not_not.1 c21) c26 (by first | exact fun _ => Decidable.not_not.1 c35 | exact fun k => absurd k g30) (by first | exact fun _ => e2_0 c43 c49 c55 | exact fun k => absurd k c38) (e3_2 (by unfold Ev.okE; omega))).symm)
 refine zi ?_
 refine zr ?_
 refine za rfl rfl ?_
 refine zn ?_
 refine zt ?_
 exact z1 rfl rfl (rI (er_e3 (e1_0 (Decidable.not_not.1 g11) (Decidable.not_not.1 c17)) (Decidable.not_not.1 c21) c26 (by first | exact fun _ => Decidable.not_not.1 c35 | exact fun k => absurd k g30) (by first | exact fun _ => e2_0 c43 c49 c55 | exact fun k => absurd k c38) (e3_0 (by unfold Ev.okE; omega))).symm)
 refine zk 4 rfl ?_
 refine zq rfl rfl rfl ?_
 refine zn ?_
 refine xw_false (by kernel_rfl) rfl ?_
 refine zi ?_
 refine zs ?_
 refine zr ?_
 refine zp (p_fld_ptr rfl rfl fld_60_1) ?_
 refine zp (p_load_box rfl rfl sc_3 rfl rfl) ?_
 refine zp (p_eql rfl rfl rfl) ?_
 refine zn ?_
 refine zd rfl (fun c38 => ?_) (fun c38 => ?_)
 refine zs ?_
 refine zr ?_
 refine zp (p_fld_ptr rfl rfl fld_60_3) ?_
 refine zp (p_load_box rfl rfl sc_48 rfl rfl) ?_
 refine XL.call1 rfl rfl (rheads_xc _) rfl ?_
 refine za rfl rfl ?_
 refine znr ?_
 refine zm rfl rfl ?_
 refine zp (p_neq rfl rfl rfl) ?_
 refine zn ?_
 refine zd rfl (fun c43 => ?_) (fun c43 => ?_)
 refine zr ?_
 refine zm rfl rfl ?_
 refine za rfl rfl ?_
 refine zn ?_
 refine zt ?_
 exact z1 rfl rfl (rI (er_e2 (e1_0 (Decidable.not_not.1 g11) (Decidable.not_not.1 c17)) (Decidable.not_not.1 c21) c26 (by first | exact fun _ => Decidable.not_not.1 c35 | exact fun k => absurd k g30) c38 (e2_1 c43) c43).symm)
 refine zi ?_
 refine zs ?_
 refine zr ?_
 refine zp (p_fld_ptr rfl rfl fld_60_4) ?_
 refine zp (p_load_box rfl rfl sc_57 rfl rfl) ?_
 refine XL.call1 rfl rfl (rgraces_xc _) rfl ?_
 refine za rfl rfl ?_
 refine znr ?_
 refine zm rfl rfl ?_
 refine zp (p_neq rfl rfl rfl) ?_
 refine zn ?_
 refine zd rfl (fun c49 => ?_) (fun c49 => ?_)
 refine zr ?_
 refine zm rfl rfl ?_
 refine za rfl rfl ?_
 refine zn ?_
 refine zt ?_
 exact z1 rfl rfl (rI (er_e2 (e1_0 (Decidable.not_not.1 g11) (Decidable.not_not.1 c17)) (Decidable.not_not.1 c21) c26 (by first | exact fun _ => Decidable.not_not.1 c35 | exact fun k => absurd k g30) c38 (e2_2 c43 c49) c49).symm)
 refine zi ?_
 refine zr ?_
 refine zp (p_fld_ptr rfl rfl fld_60_8) ?_
 refine zp (p_load_box rfl rfl sc_58 rfl rfl) ?_
 refine XL.call1 rfl rfl (rlyrics_xc _) rfl ?_
 refine za rfl rfl ?_
 refine znr ?_
 refine zm rfl rfl ?_
 refine zp (p_neq rfl rfl rfl) ?_
 refine zn ?_
 refine zd rfl (fun c55 => ?_) (fun c55 => ?_)
 refine zr ?_
 refine zm rfl rfl ?_
 refine za rfl rfl ?_
 refine zn ?_
 refine zt ?_
 exact z1 rfl rfl (rI (er_e2 (e1_0 (Decidable.not_not.1 g11) (Decidable.not_not.1 c17)) (Decidable.not_not.1 c21) c26 (by first | exact fun _ => Decidable.not_not.1 c35 | exact fun k => absurd k g30) c38 (e2_3 c43 c49 c55) c55).symm)
 refine zi ?_
 refine zs ?_
 refine zr ?_
 refine zp (p_fld_ptr rfl rfl fld_60_5) ?_
 refine zp (p_load_box rfl rfl sc_3 rfl rfl) ?_
 refine XL.call1 rfl rfl (in_xc _ _ _) rfl ?_
 refine zp (p_notdec rfl rfl) ?_
 refine zm rfl rfl ?_
 refine XL.dec 61 rfl (fun g61 => ?_) (fun g61 => ?_)
 refine zk 4 rfl ?_
 refine zq rfl rfl rfl ?_
 refine zm rfl rfl ?_
 refine zk 4 rfl ?_
 refine zq rfl rfl rfl ?_
 refine zm rfl rfl ?_
 refine zk 4 rfl ?_
 refine zq rfl rfl rfl ?_
 refine zm rfl rfl ?_
 refine zk 4 rfl ?_
 refine zq rfl rfl rfl ?_
 refine zn ?_
 refine xw_true (by kernel_rfl) rfl ?_
 refine zr ?_
 refine za rfl rfl ?_
 refine zn ?_
 refine zt ?_
 exact z1 rfl rfl (rI (er_e3 (e1_0 (Decidable.not_not.1 g11) (Decidable.not_not.1 c17)) (Decidable.not_not.1 c21) c26 (by first | exact fun _ => Decidable.not_not.1 c35 | exact fun k => absurd k g30) (by first | exact fun _ => e2_0 c43 c49 c55 | exact fun k => absurd k c38) (e3_2 (by unfold Ev.okE; omega))).symm)
 refine zp (p_fld_ptr rfl rfl fld_60_6) ?_
 refine zp (p_load_box rfl rfl sc_3 rfl rfl) ?_
 refine XL.call1 rfl rfl (in_xc _ _ _) rfl ?_
 refine zp (p_notdec rfl rfl) ?_
 refine zq rfl rfl rfl ?_
 refine zm rfl rfl ?_
 refine XL.dec 67 rfl (fun g67 => ?_) (fun g67 => ?_)
 refine zk 4 rfl ?_
 refine zq rfl rfl rfl ?_
 refine zm rfl rfl ?_
 refine zk 4 rfl ?_
 refine zq rfl rfl rfl ?_
 refine zm rfl rfl ?_
 refine zk 4 rfl ?_
 refine zq rfl rfl rfl ?_
 refine zn ?_
 refine xw_true (by kernel_rfl) rfl ?_
 refine zr ?_
 refine za rfl rfl ?_
 refine zn ?_
 refine zt ?_
 exact z1 rfl rfl (rI (er_e3 (e1_0 (Decidable.not_not.1 g11) (Decidable.not_not.1 c17)) (Decidable.not_not.1 c21) c26 (by first | exact fun _ => Decidable.not_not.1 c35 | exact fun k => absurd k g30) (by first | exact fun _ => e2_0 c43 c49 c55 | exact fun k => absurd k c38) (e3_2 (by unfold Ev.okE; omega))).symm)
 refine zp (p_fld_ptr rfl rfl fld_60_7) ?_
 refine zp (p_load_box rfl rfl sc_3 rfl rfl) ?_
 refine XL.call1 rfl rfl (in_xc _ _ _) rfl ?_
 refine zp (p_notdec rfl rfl) ?_
 refine zq rfl rfl rfl ?_
 refine zm rfl rfl ?_
 refine XL.dec 73 rfl (fun g73 => ?_) (fun g73 => ?_)
 refine zk 4 rfl ?_
 refine zq rfl rfl rfl ?_
 refine zm rfl rfl ?_
 refine zk 4 rfl ?_
 refine zq rfl rfl rfl ?_
 refine zn ?_
 refine xw_true (by kernel_rfl) rfl ?_
 refine zr ?_
 refine za rfl rfl ?_
 refine zn ?_
 refine zt ?_
 exact z1 rfl rfl (rI (er_e3 (e1_0 (Decidable.not_not.1 g11) (Decidable.not_not.1 c17)) (Decidable.not_not.1 c21) c26 (by first | exact fun _ => Decidable.not_not.1 c35 | exact fun k => absurd k g30) (by first | exact fun _ => e2_0 c43 c49 c55 | exact fun k => absurd k c38) (e3_2 (by unfold Ev.okE; omega))).symm)
 refine zp (p_fld_ptr rfl rfl fld_60_9) ?_
 refine zp (p_load_box rfl rfl sc_3 rfl rfl) ?_
 refine XL.call1 rfl rfl (in_xc _ _ _) rfl ?_
 refine zp (p_notdec rfl rfl) ?_
 refine zq rfl rfl rfl ?_
 refine zm rfl rfl ?_
 refine XL.dec 79 rfl (fun g79 => ?_) (fun g79 => ?_)
 refine zk 4 rfl ?_
 refine zq rfl rfl rfl ?_
 refine zn ?_
 refine xw_true (by kernel_rfl) rfl ?_
 refine zr ?_
 refine za rfl rfl ?_
 refine zn ?_
 refine zt ?_
 exact z1 rfl rfl (rI (er_e3 (e1_0 (Decidable.not_not.1 g11) (Decidable.not_not.1 c17)) (Decidable.not_not.1 c21) c26 (by first | exact fun _ => Decidable.not_not.1 c35 | exact fun k => absurd k g30) (by first | exact fun _ => e2_0 c43 c49 c55 | exact fun k => absurd k c38) (e3_2 (by unfold Ev.okE; omega))).symm)
 refine zp (p_fld_ptr rfl rfl fld_60_10) ?_
 refine zp (p_load_box rfl rfl sc_3 rfl rfl) ?_
 refine XL.call1 rfl rfl (in_xc _ _ _) rfl ?_
 refine zp (p_notdec rfl rfl) ?_
 refine zq rfl rfl rfl ?_
 refine zn ?_
 refine zd rfl (fun c84 => ?_) (fun c84 => ?_)
 refine zr ?_
 refine za rfl rfl ?_
 refine zn ?_
 refine zt ?_
 exact z1 rfl rfl (rI (er_e3 (e1_0 (Decidable.not_not.1 g11) (Decidable.not_not.1 c17)) (Decidable.not_not.1 c21) c26 (by first | exact fun _ => Decidable.not_not.1 c35 | exact fun k => absurd k g30) (by first | exact fun _ => e2_0 c43 c49 c55 | exact fun k => absurd k c38) (e3_2 (by unfold Ev.okE; omega))).symm)
 refine zi ?_
 refine zr ?_
 refine za rfl rfl ?_
 refine zn ?_
 refine zt ?_
 exact z1 rfl rfl (rI (er_e3 (e1_0 (Decidable.not_not.1 g11) (Decidable.not_not.1 c17)) (Decidable.not_not.1 c21) c26 (by first | exact fun _ => Decidable.not_not.1 c35 | exact fun k => absurd k g30) (by first | exact fun _ => e2_0 c43 c49 c55 | exact fun k => absurd k c38) (e3_0 (by unfold Ev.okE; omega))).symm)
 refine zi ?_
 refine zs ?_
 refine zr ?_
 refine zp (p_fld_ptr rfl rfl fld_60_5) ?_
 refine zp (p_load_box rfl rfl sc_3 rfl rfl) ?_
 refine XL.call1 rfl rfl (in_xc _ _ _) rfl ?_
 refine zp (p_notdec rfl rfl) ?_
 refine zm rfl rfl ?_
 refine XL.dec 61 rfl (fun g61 => ?_) (fun g61 => ?_)
 refine zk 4 rfl ?_
 refine zq rfl rfl rfl ?_
 refine zm rfl rfl ?_
 refine zk 4 rfl ?_
 refine zq rfl rfl rfl ?_
 refine zm rfl rfl ?_
 refine zk 4 rfl ?_
 refine zq rfl rfl rfl ?_
 refine zm rfl rfl ?_
 refine zk 4 rfl ?_
 refine zq rfl rfl rfl ?_
 refine zn ?_
 refine xw_true (by kernel_rfl) rfl ?_
 refine zr ?_
 refine za rfl rfl ?_
 refine zn ?_
 refine zt ?_
 exact z1 rfl rfl (rI (er_e3 (e1_0 (Decidable.not_not.1 g11) (Decidable.not_not.1 c17)) (Decidable.not_not.1 c21) c26 (by first | exact fun _ => Decidable.not_not.1 c35 | exact fun k => absurd k g30) (by first | exact fun _ => e2_0 c43 c49 c55 | exact fun k => absurd k c38) (e3_2 (by unfold Ev.okE; omega))).symm)
 refine zp (p_fld_ptr rfl rfl fld_60_6) ?_
 refine zp (p_load_box rfl rfl sc_3 rfl rfl) ?_
 refine XL.call1 rfl rfl (in_xc _ _ _) rfl ?_
 refine zp (p_notdec rfl rfl) ?_
 refine zq rfl rfl rfl ?_
 refine zm rfl rfl ?_
 refine XL.dec 67 rfl (fun g67 => ?_) (fun g67 => ?_)
 refine zk 4 rfl ?_
 refine zq rfl rfl rfl ?_
 refine zm rfl rfl ?_
 refine zk 4 rfl ?_
 refine zq rfl rfl rfl ?_
 refine zm rfl rfl ?_
 refine zk 4 rfl ?_
 refine zq rfl rfl rfl ?_
 refine zn ?_
 refine xw_true (by kernel_rfl) rfl ?_
 refine zr ?_
 refine za rfl rfl ?_
 refine zn ?_
 refine zt ?_
 exact z1 rfl rfl (rI (er_e3 (e1_0 (Decidable.not_not.1 g11) (Decidable.not_not.1 c17)) (Decidable.not_not.1 c21) c26 (by first | exact fun _ => Decidable.not_not.1 c35 | exact fun k => absurd k g30) (by first | exact fun _ => e2_0 c43 c49 c55 | exact fun k => absurd k c38) (e3_2 (by unfold Ev.okE; omega))).symm)
 refine zp (p_fld_ptr rfl rfl fld_60_7) ?_
 refine zp (p_load_box rfl rfl sc_3 rfl rfl) ?_
 refine XL.call1 rfl rfl (in_xc _ _ _) rfl ?_
 refine zp (p_notdec rfl rfl) ?_
 refine zq rfl rfl rfl ?_
 refine zm rfl rfl ?_
 refine XL.dec 73 rfl (fun g73 => ?_) (fun g73 => ?_)
 refine zk 4 rfl ?_
 refine zq rfl rfl rfl ?_
 refine zm rfl rfl ?_
 refine zk 4 rfl ?_
 refine zq rfl rfl rfl ?_
 refine zn ?_
 refine xw_true (by kernel_rfl) rfl ?_
 refine zr ?_
 refine za rfl rfl ?_
 refine zn ?_
 refine zt ?_
 exact z1 rfl rfl (rI (er_e3 (e1_0 (Decidable.not_not.1 g11) (Decidable.not_not.1 c17)) (Decidable.not_not.1 c21) c26 (by first | exact fun _ => Decidable.not_not.1 c35 | exact fun k => absurd k g30) (by first | exact fun _ => e2_0 c43 c49 c55 | exact fun k => absurd k c38) (e3_2 (by unfold Ev.okE; omega))).symm)
 refine zp (p_fld_ptr rfl rfl fld_60_9) ?_
 refine zp (p_load_box rfl rfl sc_3 rfl rfl) ?_
 refine XL.call1 rfl rfl (in_xc _ _ _) rfl ?_
 refine zp (p_notdec rfl rfl) ?_
 refine zq rfl rfl rfl ?_
 refine zm rfl rfl ?_
 refine XL.dec 79 rfl (fun g79 => ?_) (fun g79 => ?_)
 refine zk 4 rfl ?_
 refine zq rfl rfl rfl ?_
 refine zn ?_
 refine xw_true (by kernel_rfl) rfl ?_
 refine zr ?_
 refine za rfl rfl ?_
 refine zn ?_
 refine zt ?_
 exact z1 rfl rfl (rI (er_e3 (e1_0 (Decidable.not_not.1 g11) (Decidable.not_not.1 c17)) (Decidable.not_not.1 c21) c26 (by first | exact fun _ => Decidable.not_not.1 c35 | exact fun k => absurd k g30) (by first | exact fun _ => e2_0 c43 c49 c55 | exact fun k => absurd k c38) (e3_2 (by unfold Ev.okE; omega))).symm)
 refine zp (p_fld_ptr rfl rfl fld_60_10) ?_
 refine zp (p_load_box rfl rfl sc_3 rfl rfl) ?_
 refine XL.call1 rfl rfl (in_xc _ _ _) rfl ?_
 refine zp (p_notdec rfl rfl) ?_
 refine zq rfl rfl rfl ?_
 refine zn ?_
 refine zd rfl (fun c84 => ?_) (fun c84 => ?_)
 refine zr ?_
 refine za rfl rfl ?_
 refine zn ?_
 refine zt ?_
 exact z1 rfl rfl (rI (er_e3 (e1_0 (Decidable.not_not.1 g11) (Decidable.not_not.1 c17)) (Decidable.not_not.1 c21) c26 (by first | exact fun _ => Decidable.not_not.1 c35 | exact fun k => absurd k g30) (by first | exact fun _ => e2_0 c43 c49 c55 | exact fun k => absurd k c38) (e3_2 (by unfold Ev.okE; omega))).symm)
 refine zi ?_
 refine zr ?_
 refine za rfl rfl ?_
 refine zn ?_
 refine zt ?_
 exact z1 rfl rfl (rI (er_e3 (e1_0 (Decidable.not_not.1 g11) (Decidable.not_not.1 c17)) (Decidable.not_not.1 c21) c26 (by first | exact fun _ => Decidable.not_not.1 c35 | exact fun k => absurd k g30) (by first | exact fun _ => e2_0 c43 c49 c55 | exact fun k => absurd k c38) (e3_0 (by unfold Ev.okE; omega))).symm)
end Go.Proofs.YtcihalbakenleaaGreat
namespace Go.Proofs.YtcihalbakenleaaGreat
open Go.RowKit
theorem pure_sub {P : Program} {o : Oper} {e : Operand → S} {h : Xh} {d : D} (d' : D) (hp : Pure P o e h (.d d)) (hs : DSub d d') : Pure P o e h (.d d') := fun E H β ρ w hsim hop => by
 obtain ⟨u, r1, r2⟩ := hp E H β ρ w hsim hop
 exact ⟨u, r1, .d (hs.vd (vs_d r2))⟩
end Go.Proofs.YtcihalbakenleaaGreat
namespace Go.Proofs.YtcihalbakenleaaGreat
open Go.RowKit
theorem dno {p : Prop} [Decidable p] (h : ¬ p) : false = decide p := (decide_eq_false h).symm
theorem dyes {p : Prop} [Decidable p] (h : p) : true = decide p := (decide_eq_true h).symm
theorem Ev.eqv_iff {a b : Ev} : a.eqv b ↔ a = b := by
 constructor
 ·rintro ⟨⟨h1, h2⟩, h3, h4, h5, h6, h7, h8, h9, h10, h11, h12⟩
  obtain ⟨a1, a2, a3, a4, a5, a6, a7, a8, a9, a10, a11, a12⟩ := a
  obtain ⟨b1, b2, b3, b4, b5, b6, b7, b8, b9, b10, b11, b12⟩ := b
  simp only at h1 h2 h3 h4 h5 h6 h7 h8 h9 h10 h11 h12
  subst h1 h2 h3 h4 h5 h6 h7 h8 h9 h10 h11 h12; rfl
 ·rintro rfl
  exact ⟨⟨rfl, rfl⟩, rfl, rfl, rfl, rfl, rfl, rfl, rfl, rfl, rfl, rfl⟩
instance : DecidableEq Ev := fun a b => decidable_of_iff _ Ev.eqv_iff
instance : DecidableEq Vo := fun a b => decidable_of_iff (a.evs = b.evs ∧ a.tups = b.tups) ⟨fun h => by obtain ⟨x, y⟩ := a; obtain ⟨z, t⟩ := b; obtain ⟨rfl, rfl⟩ := h; rfl, fun h => by rw [h]; exact ⟨rfl, rfl⟩⟩
def pitsOf (l : List Hd) : List Pit := l.map Hd.p
theorem pits_at {l : List Hd} {k : Nat} {x : Hd} (h : l[k]? = some x) : (pitsOf l)[k]? = some x.p := by rw [pitsOf, List.getElem?_map, h]; rfl
theorem pits_eq {a b : List Hd} (hl : a.length = b.length) (h : ∀ j x y, j < a.length → a[j]? = some x → b[j]? = some y → x.p = y.p) : pitsOf a = pitsOf b := by
 refine eq_of_all (by rw [pitsOf, pitsOf, List.length_map, List.length_map, hl]) fun j x y hj hx hy => ?_
 rw [pitsOf, List.getElem?_map] at hx hy
 cases ha : a[j]? with
 | none => rw [ha] at hx; cases hx
 | some x' =>
  cases hb : b[j]? with
  | none => rw [hb] at hy; cases hy
  | some y' =>
   rw [ha] at hx; rw [hb] at hy; cases hx; cases hy
   exact h j x' y' (List.getElem?_eq_some_iff.1 ha).1 ha hb
set_option maxRecDepth 20000 in
theorem lpit_xc (a b : List Hd) : XC Tryz.prog 26 [.sl 5 (a.map Hd.c), .sl 5 (b.map Hd.c)] (fun r => r = dB (decide (pitsOf a = pitsOf b))) := by
 refine xc_body callable_26 Tryz.func26 rfl rfl (Nat.le_of_ble_eq_true rfl) ?_
 refine zr ?_
 refine za rfl rfl ?_
 refine zn ?_
 refine zs ?_
 refine zr ?_
 refine zm rfl rfl ?_
 refine XL.len rfl rfl rfl Tryz.underlying48 (fun hl7 => ?_)
 refine zm rfl rfl ?_
 refine XL.len rfl rfl rfl Tryz.underlying48 (fun hl9 => ?_)
 refine zp (p_neq rfl rfl rfl) ?_
 refine zn ?_
 refine zd rfl (fun c10 => ?_) (fun c10 => ?_)
 refine zr ?_
 refine za rfl rfl ?_
 refine zn ?_
 refine zt ?_
 exact z1 rfl rfl (rB (dno (fun h => c10 (by have := congrArg List.length h; rw [pitsOf, pitsOf, List.length_map, List.length_map] at this; omega))))
 refine zi ?_
 refine zs ?_
 refine zr ?_
 refine za rfl rfl ?_
 refine zn ?_
 refine xw_block ?_
 refine xw_loop (α := Nat) (fun k => k ≤ a.length ∧ ∀ j x y, j < k → a[j]? = some x → b[j]? = some y → x.p = y.p) (fun k => mkF [(0, .d (.sl 5 (a.map Hd.c))), (1, .d (.sl 5 (b.map Hd.c))), (5, .d (dI k))]) (fun k => mkH []) (fun k => a.length - k) (0) (⟨Nat.zero_le _, fun j x y h => absurd h (Nat.not_lt_zero _)⟩) ?_ ?_ ?_
 exact fz ⟨sr, sr, sr, trivial⟩
 exact HSub.nil
 intro k hk0
 obtain ⟨hk, hf0⟩ := hk0
 refine zs ?_
 refine zr ?_
 refine zm rfl rfl ?_
 refine zm rfl rfl ?_
 refine XL.len rfl rfl rfl Tryz.underlying48 (fun hl13 => ?_)
 refine zp (p_lss rfl rfl rfl) ?_
 refine zn ?_
 refine zd rfl (fun c14 => ?_) (fun c14 => ?_)
 have hk0a : k < a.length := by omega
 obtain ⟨x, hx0⟩ := get_ex hk0a
 obtain ⟨y, hy0⟩ : ∃ y, b[k]? = some y := get_ex (by omega)
 refine zi ?_
 refine zs ?_
 refine xw_block ?_
 refine zs ?_
 refine xw_any [] (by kernel_rfl) (by kernel_rfl) (by kernel_rfl) (by decide) ?_
 refine ym rfl rfl ?_
 refine ym rfl rfl ?_
 refine yp (p_idx_map rfl rfl rfl el_48 hx0) ?_
 refine yp (p_fld_pt rfl rfl fld_91_0) ?_
 refine yp (pure_eq (s' := .d (.agg (Pit.c x.p))) (p_load_pts rfl rfl agg_89 (Nat.le_of_ble_eq_true rfl)) (by kernel_rfl)) ?_
 refine ym rfl rfl ?_
 refine ym rfl rfl ?_
 refine yp (p_idx_map rfl rfl rfl el_48 (hy0)) ?_
 refine yp (p_fld_pt rfl rfl fld_91_0) ?_
 refine yp (pure_eq (s' := .d (.agg (Pit.c y.p))) (p_load_pts rfl rfl agg_89 (Nat.le_of_ble_eq_true rfl)) (by kernel_rfl)) ?_
 refine yp (p_neq_89 rfl rfl rfl) ?_
 refine ChK.nil ⟨by kernel_rfl, ?_⟩
 refine zd rfl (fun c27 => ?_) (fun c27 => ?_)
 refine zr ?_
 refine za rfl rfl ?_
 refine zn ?_
 refine zt ?_
 exact z1 rfl rfl (rB (dno (fun h => c27 (by have h1 := pits_at hx0; have h2 := pits_at hy0; rw [h, h2] at h1; have := Option.some.inj h1; rw [this]; exact ⟨rfl, rfl, rfl⟩))))
 refine zi ?_
 refine xw_region (by kernel_rfl) ?_
 refine zm rfl rfl ?_
 refine zp (p_add rfl rfl rfl (by omega) (by omega)) ?_
 refine za rfl rfl ?_
 refine zn ?_
 exact k_round (k + 1) (⟨by omega, fun j x' y' hj hx' hy' => by by_cases e : j = k; (· subst e; rw [hx0] at hx'; rw [hy0] at hy'; cases hx'; cases hy'; exact Pit.eq_of (Decidable.not_not.1 c27)); (· exact hf0 j x' y' (by omega) hx' hy')⟩) (by omega) (fz ⟨sr, sr, sr, trivial⟩) (HSub.nil)
 have hk0b : k = a.length := by omega
 have hq0 := pits_eq (a := a) (b := b) (by omega) (fun j x y hj => hf0 j x y (by omega))
 refine xw_exit ?_
 refine zr ?_
 refine za rfl rfl ?_
 refine zn ?_
 refine zt ?_
 exact z1 rfl rfl (rB (dyes hq0))
/-- is a voice small? -/
def Vo.few (v : Vo) : Prop := (∀ e ∈ v.evs, e.heads.length ≤ 12 ∧ e.graces.length ≤ 12 ∧ e.lyr.length ≤ 12) ∧ v.evs.length ≤ 130 ∧ v.tups.length ≤ 20
instance (v : Vo) : Decidable v.few := by unfold Vo.few; exact inferInstance
theorem Vo.few.fit {v : Vo} (h : v.few) : v.fit := ⟨by have := h.2.1; omega, by have := h.2.2; omega, fun e he => by have := h.1 e he; exact ⟨by omega, by omega, by omega⟩⟩
theorem few_all {v : Vo} (h : ∀ (j : Nat) e, j < v.evs.length → v.evs[j]? = some e → e.heads.length ≤ 12 ∧ e.graces.length ≤ 12 ∧ e.lyr.length ≤ 12) : ∀ e ∈ v.evs, e.heads.length ≤ 12 ∧ e.graces.length ≤ 12 ∧ e.lyr.length ≤ 12 := fun e he => by
 obtain ⟨j, hj⟩ := List.getElem?_of_mem he
 exact h j e (List.getElem?_eq_some_iff.1 hj).1 hj
set_option maxRecDepth 20000 in
set_option maxHeartbeats 8000000 in
theorem few_xc (v : Vo) : XC Tryz.prog 14 [.agg (Vo.c v)] (fun r => r = dB (decide v.few)) := by
 refine xc_body callable_14 Tryz.func14 rfl rfl (Nat.le_of_ble_eq_true rfl) ?_
 refine zr ?_
 refine XL.step rfl (st_boxN 1 (l := [.d (.sl 13 (v.evs.map Ev.c)), .d (.sl 4 (v.tups.map Tp.c))]) rfl rfl (by kernel_rfl)) ?_
 refine za rfl rfl ?_
 refine zn ?_
 refine zs ?_
 refine zr ?_
 refine za rfl rfl ?_
 refine zn ?_
 refine xw_block ?_
 refine xw_loop (α := Nat) (fun k => k ≤ v.evs.length ∧ ∀ (j : Nat) e, j < k → v.evs[j]? = some e → e.heads.length ≤ 12 ∧ e.graces.length ≤ 12 ∧ e.lyr.length ≤ 12) (fun k => mkF [(1, .ptr 1 0 0), (3, .d (dI k))]) (fun k => mkH [(1, .box ((Vo.c v).map S.d))]) (fun k => v.evs.length - k) (0) (⟨Nat.zero_le _, fun j x h => absurd h (Nat.not_lt_zero _)⟩) ?_ ?_ ?_
 exact fz ⟨sr, sr, trivial⟩
 exact gz ⟨rfl, trivial⟩
 intro k hk0
 obtain ⟨hk, hf⟩ := hk0
 refine zs ?_
 refine zr ?_
 refine zm rfl rfl ?_
 refine zp (p_fld_ptr rfl rfl fld_25_0) ?_
 refine zp (p_load_box rfl rfl sc_22 rfl rfl) ?_
 refine XL.len rfl rfl rfl Tryz.underlying22 (fun hl8 => ?_)
 refine zp (p_lss rfl rfl rfl) ?_
 refine zn ?_
 refine zd rfl (fun c9 => ?_) (fun c9 => ?_)
 have hk0a : k < v.evs.length := by omega
 obtain ⟨x0, hx0⟩ := get_ex hk0a
 refine zi ?_
 refine zs ?_
 refine xw_block ?_
 refine zr ?_
 refine zp (p_fld_ptr rfl rfl fld_25_0) ?_
 refine zp (p_load_box rfl rfl sc_22 rfl rfl) ?_
 refine zm rfl rfl ?_
 refine zp (p_idx_map rfl rfl rfl el_22 hx0) ?_
 refine zp (pure_eq (s' := .d (.agg (Ev.c x0))) (p_load_pts rfl rfl agg_60 (Nat.le_of_ble_eq_true rfl)) (by kernel_rfl)) ?_
 refine XL.step rfl (st_allocN 4 (l := [.d (dI 0), .d (dI 0), .d (dI 0), .d (dI 0), .d (dI 0), .d (.v (.slice none 0 0)), .d (.v (.slice none 0 0)), .d (dI 0), .d (dI 0), .d (dI 0), .d (.v (.slice none 0 0)), .d (dI 0), .d (dI 0)]) rfl zero_60 (by kernel_rfl)) ?_
 refine XL.step rfl (st_storeN (l' := [.d (dI x0.site), .d (dI x0.num), .d (dI x0.kind), .d (dI x0.v.log), .d (dI x0.v.dots), .d (.sl 5 (x0.heads.map Hd.c)), .d (.sl 5 (x0.graces.map Gr.c)), .d (dI x0.art), .d (dI x0.orn), .d (dI x0.dyn), .d (.sl 2 (x0.lyr.map Sy.c)), .d (dI x0.stem), .d (dI x0.beam)]) rfl rfl rfl rfl sz_60 rfl (Nat.le_of_ble_eq_true rfl) (by kernel_rfl)) ?_
 refine znr ?_
 refine zp (p_fld_ptr rfl rfl fld_60_3) ?_
 refine zp (p_load_box rfl rfl sc_48 rfl rfl) ?_
 refine XL.len rfl rfl rfl Tryz.underlying48 (fun hl19 => ?_)
 refine zp (p_gtr rfl rfl rfl) ?_
 refine zm rfl rfl ?_
 refine XL.dec 21 rfl (fun g21 => ?_) (fun g21 => ?_)
 refine zk 4 rfl ?_
 refine zq rfl rfl rfl ?_
 refine zm rfl rfl ?_
 refine zk 4 rfl ?_
 refine zq rfl rfl rfl ?_
 refine zn ?_
 refine xw_true (by kernel_rfl) rfl ?_
 refine zr ?_
 refine za rfl rfl ?_
 refine zn ?_
 refine zt ?_
 exact z1 rfl rfl (rB (by rw [eq_comm, decide_eq_false_iff_not]; intro h; have := h.1 x0 (List.mem_of_getElem? hx0); omega))
 refine zp (p_fld_ptr rfl rfl fld_60_4) ?_
 refine zp (p_load_box rfl rfl sc_57 rfl rfl) ?_
 refine XL.len rfl rfl rfl Tryz.underlying57 (fun hl24 => ?_)
 refine zp (p_gtr rfl rfl rfl) ?_
 refine zq rfl rfl rfl ?_
 refine zm rfl rfl ?_
 refine XL.dec 27 rfl (fun g27 => ?_) (fun g27 => ?_)
 refine zk 4 rfl ?_
 refine zq rfl rfl rfl ?_
 refine zn ?_
 refine xw_true (by kernel_rfl) rfl ?_
 refine zr ?_
 refine za rfl rfl ?_
 refine zn ?_
 refine zt ?_
 exact z1 rfl rfl (rB (by rw [eq_comm, decide_eq_false_iff_not]; intro h; have := h.1 x0 (List.mem_of_getElem? hx0); omega))
 refine zp (p_fld_ptr rfl rfl fld_60_8) ?_
 refine zp (p_load_box rfl rfl sc_58 rfl rfl) ?_
 refine XL.len rfl rfl rfl Tryz.underlying58 (fun hl30 => ?_)
 refine zp (p_gtr rfl rfl rfl) ?_
 refine zq rfl rfl rfl ?_
 refine zn ?_
 refine zd rfl (fun c32 => ?_) (fun c32 => ?_)
 refine zr ?_
 refine za rfl rfl ?_
 refine zn ?_
 refine zt ?_
 exact z1 rfl rfl (rB (by rw [eq_comm, decide_eq_false_iff_not]; intro h; have := h.1 x0 (List.mem_of_getElem? hx0); omega))
 refine zi ?_
 refine xw_region (by kernel_rfl) ?_
 refine zm rfl rfl ?_
 refine zp (p_add rfl rfl rfl (by omega) (by omega)) ?_
 refine za rfl rfl ?_
 refine zn ?_
 exact k_round (k + 1) (⟨by omega, fun j e hj he => by by_cases q : j = k; (· subst q; rw [hx0] at he; cases he; omega); (· exact hf j e (by omega) he)⟩) (by omega) (fz ⟨sr, sr, trivial⟩) (gz ⟨rfl, trivial⟩)
 have hk0b : k = v.evs.length := by omega
 have hfa := few_all (v := v) (fun j e hj => hf j e (by omega))
 refine xw_exit ?_
 refine zr ?_
 refine zp (p_fld_ptr rfl rfl fld_25_0) ?_
 refine zp (p_load_box rfl rfl sc_22 rfl rfl) ?_
 refine XL.len rfl rfl rfl Tryz.underlying22 (fun hl35 => ?_)
 refine zp (p_leq rfl rfl rfl) ?_
 refine zm rfl rfl ?_
 refine XL.dec 37 rfl (fun g37 => ?_) (fun g37 => ?_)
 refine zp (p_fld_ptr rfl rfl fld_25_1) ?_
 refine zp (p_load_box rfl rfl sc_23 rfl rfl) ?_
 refine XL.len rfl rfl rfl Tryz.underlying23 (fun hl40 => ?_)
 refine zp (p_leq rfl rfl rfl) ?_
 refine zq rfl rfl rfl ?_
 refine za rfl rfl ?_
 refine zn ?_
 refine zt ?_
 exact z1 rfl rfl (rB (by rw [decide_eq_decide]; exact ⟨fun h => ⟨hfa, by omega, by omega⟩, fun h => by have := h.2.2; omega⟩))
 refine zk 4 rfl ?_
 refine zq rfl rfl rfl ?_
 refine za rfl rfl ?_
 refine zn ?_
 refine zt ?_
 exact z1 rfl rfl (rB (by rw [eq_comm, decide_eq_false_iff_not]; intro h; have := h.2.1; omega))
theorem kdiv_xc : XC Tryz.prog 15 [.agg (Vo.c kV), .agg (Pl.c kP), dI 483840] (fun r => r = .tup [.agg (Vo.c kW), dI 0]) := by
 have := Divide_xc kV kP 483840 (fun e he => by have := List.mem_singleton.1 he; subst this; decide) (Vo.few.fit (by decide))
 rw [kn_div] at this; exact this
theorem ksim_xc : XC Tryz.prog 20 [.agg (Vo.c kW), .agg (Pl.c kP)] (fun r => r = .tup [.agg (Vo.c kV), dI 0]) := by
 have := simplify_xc kW kP (fun e he => by simp [kW] at he; rcases he with rfl | rfl | rfl <;> decide) (Vo.few.fit (by decide))
 rw [kn_sim] at this; exact this
set_option maxRecDepth 20000 in
set_option maxHeartbeats 8000000 in
theorem known_xc  : XC Tryz.prog 13 [] (fun r => r = dB true) := by
 refine xc_body callable_13 Tryz.func13 rfl rfl (Nat.le_of_ble_eq_true rfl) ?_
 refine zr ?_
 refine za rfl rfl ?_
 refine znr ?_
 refine zp (pure_eq (s' := .d (.agg [dI 1, dI 1])) (norm_pure (p_build rfl str_54 zero_54 rfl)) (by kernel_rfl)) ?_
 refine zp (pure_eq (s' := .d (.agg [dI 0, dI 0, dI 5])) (norm_pure (p_build rfl str_89 zero_89 rfl)) (by kernel_rfl)) ?_
 refine zp (pure_eq (s' := .d (.agg [dI 0, dI 0, dI 5, dB false, dI 0])) (norm_pure (p_build rfl str_91 zero_91 rfl)) (by kernel_rfl)) ?_
 refine XL.step rfl (st_sliced (l := [kH false].map Hd.c) rfl Tryz.underlying48 sz_91 zero_91 (by kernel_rfl) rfl (by omega) (by omega)) ?_
 refine zp (pure_sub (.agg (Ev.c (kE 1 ⟨0, 0⟩ false))) (pure_eq (s' := .d (.agg [dI 1, dI 1, dI 1, dI 0, dI 0, .sl 5 ([kH false].map Hd.c), .v (.slice none 0 0), dI 0, dI 0, dI 0, .v (.slice none 0 0), dI 0, dI 0])) (norm_pure (p_build rfl str_60 zero_60 rfl)) (by kernel_rfl)) (.agg (.cons (.same rfl) (.cons (.same rfl) (.cons (.same rfl) (.cons (.same rfl) (.cons (.same rfl) (.cons (.same rfl) (.cons (.nil 5) (.cons (.same rfl) (.cons (.same rfl) (.cons (.same rfl) (.cons (.nil 2) (.cons (.same rfl) (.cons (.same rfl) (.nil)))))))))))))))) ?_
 refine XL.step rfl (st_allocN 1 (l := [.d (dI 0), .d (dI 0), .d (dI 0), .d (dI 0), .d (dI 0), .d (.v (.slice none 0 0)), .d (.v (.slice none 0 0)), .d (dI 0), .d (dI 0), .d (dI 0), .d (.v (.slice none 0 0)), .d (dI 0), .d (dI 0)]) rfl zero_60 (by kernel_rfl)) ?_
 refine XL.step rfl (st_storeN (l' := [.d (dI (kE 1 ⟨0, 0⟩ false).site), .d (dI (kE 1 ⟨0, 0⟩ false).num), .d (dI (kE 1 ⟨0, 0⟩ false).kind), .d (dI (kE 1 ⟨0, 0⟩ false).v.log), .d (dI (kE 1 ⟨0, 0⟩ false).v.dots), .d (.sl 5 ((kE 1 ⟨0, 0⟩ false).heads.map Hd.c)), .d (.sl 5 ((kE 1 ⟨0, 0⟩ false).graces.map Gr.c)), .d (dI (kE 1 ⟨0, 0⟩ false).art), .d (dI (kE 1 ⟨0, 0⟩ false).orn), .d (dI (kE 1 ⟨0, 0⟩ false).dyn), .d (.sl 2 ((kE 1 ⟨0, 0⟩ false).lyr.map Sy.c)), .d (dI (kE 1 ⟨0, 0⟩ false).stem), .d (dI (kE 1 ⟨0, 0⟩ false).beam)]) rfl rfl rfl rfl sz_60 rfl (Nat.le_of_ble_eq_true rfl) (by kernel_rfl)) ?_
 refine znr ?_
 refine zp (pure_eq (s' := .d (.agg (Ev.c (kE 1 ⟨0, 0⟩ false)))) (norm_pure (p_load_boxs rfl rfl agg_60 rfl (Nat.le_of_ble_eq_true rfl))) (by kernel_rfl)) ?_
 refine XL.step rfl (st_sliced (l := [kE 1 ⟨0, 0⟩ false].map Ev.c) rfl Tryz.underlying22 sz_60 zero_60 (by kernel_rfl) rfl (by omega) (by omega)) ?_
 refine zp (pure_sub (.agg (Vo.c kV)) (pure_eq (s' := .d (.agg [.sl 13 ([kE 1 ⟨0, 0⟩ false].map Ev.c), .v (.slice none 0 0)])) (norm_pure (p_build rfl str_25 zero_25 rfl)) (by kernel_rfl)) (.agg (.cons (.same rfl) (.cons (.nil 4) (.nil))))) ?_
 refine XL.step rfl (st_allocN 2 (l := [.d (.v (.slice none 0 0)), .d (.v (.slice none 0 0))]) rfl zero_25 (by kernel_rfl)) ?_
 refine XL.step rfl (st_storeN (l' := [.d (.sl 13 (kV.evs.map Ev.c)), .d (.sl 4 (kV.tups.map Tp.c))]) rfl rfl rfl rfl sz_25 rfl (Nat.le_of_ble_eq_true rfl) (by kernel_rfl)) ?_
 refine znr ?_
 refine zp (pure_eq (s' := .d (.agg (Me.c kP.m))) (norm_pure (p_build rfl str_28 zero_28 rfl)) (by kernel_rfl)) ?_
 refine zp (pure_eq (s' := .d (.agg (Pl.c kP))) (norm_pure (p_build rfl str_30 zero_30 rfl)) (by kernel_rfl)) ?_
 refine XL.step rfl (st_allocN 3 (l := [.d (dI 0), .d (dI 0), .d (dI 0), .d (dI 0), .d (dI 0), .d (dI 0), .d (dI 0), .d (dI 0), .d (dI 0), .d (dI 0)]) rfl zero_30 (by kernel_rfl)) ?_
 refine XL.step rfl (st_storeN (l' := [.d (dI kP.m.count), .d (dI kP.m.unit), .d (dI kP.m.g0), .d (dI kP.m.g1), .d (dI kP.m.g2), .d (dI kP.m.g3), .d (dI kP.m.g4), .d (dI kP.m.g5), .d (dI kP.off), .d (dI kP.len)]) rfl rfl rfl rfl sz_30 rfl (Nat.le_of_ble_eq_true rfl) (by kernel_rfl)) ?_
 refine znr ?_
 refine zp (pure_eq (s' := .d (.agg (Vo.c kV))) (norm_pure (p_load_boxs rfl rfl agg_25 rfl (Nat.le_of_ble_eq_true rfl))) (by kernel_rfl)) ?_
 refine zp (pure_eq (s' := .d (.agg (Pl.c kP))) (norm_pure (p_load_boxs rfl rfl agg_30 rfl (Nat.le_of_ble_eq_true rfl))) (by kernel_rfl)) ?_
 refine XL.call1 rfl rfl (kdiv_xc) rfl ?_
 refine zm rfl rfl ?_
 refine zp (p_ext rfl rfl rfl) ?_
 refine zp (p_ext rfl rfl rfl) ?_
 refine XL.step rfl (st_allocN 4 (l := [.d (.v (.slice none 0 0)), .d (.v (.slice none 0 0))]) rfl zero_25 (by kernel_rfl)) ?_
 refine XL.step rfl (st_storeN (l' := [.d (.sl 13 (kW.evs.map Ev.c)), .d (.sl 4 (kW.tups.map Tp.c))]) rfl rfl rfl rfl sz_25 rfl (Nat.le_of_ble_eq_true rfl) (by kernel_rfl)) ?_
 refine za rfl rfl ?_
 refine znr ?_
 refine zp (pure_eq (s' := .d (.agg (Vo.c kW))) (norm_pure (p_load_boxs rfl rfl agg_25 rfl (Nat.le_of_ble_eq_true rfl))) (by kernel_rfl)) ?_
 refine zp (pure_eq (s' := .d (.agg (Pl.c kP))) (norm_pure (p_load_boxs rfl rfl agg_30 rfl (Nat.le_of_ble_eq_true rfl))) (by kernel_rfl)) ?_
 refine XL.call1 rfl rfl (ksim_xc) rfl ?_
 refine zm rfl rfl ?_
 refine zp (p_ext rfl rfl rfl) ?_
 refine zp (p_ext rfl rfl rfl) ?_
 refine XL.step rfl (st_allocN 6 (l := [.d (.v (.slice none 0 0)), .d (.v (.slice none 0 0))]) rfl zero_25 (by kernel_rfl)) ?_
 refine XL.step rfl (st_storeN (l' := [.d (.sl 13 (kV.evs.map Ev.c)), .d (.sl 4 (kV.tups.map Tp.c))]) rfl rfl rfl rfl sz_25 rfl (Nat.le_of_ble_eq_true rfl) (by kernel_rfl)) ?_
 refine za rfl rfl ?_
 refine znr ?_
 refine zm rfl rfl ?_
 refine zp (p_yes (p_eql rfl rfl rfl) (rfl)) ?_
 refine zm rfl rfl ?_
 refine zp (p_fld_ptr rfl rfl fld_25_0) ?_
 refine zp (p_load_box rfl rfl sc_22 rfl rfl) ?_
 refine XL.len rfl rfl rfl Tryz.underlying22 (fun hl35 => ?_)
 refine zp (p_yes (p_eql rfl rfl rfl) (by decide)) ?_
 refine zq rfl rfl rfl ?_
 refine zm rfl rfl ?_
 refine zp (p_fld_ptr rfl rfl fld_25_0) ?_
 refine zp (p_load_box rfl rfl sc_22 rfl rfl) ?_
 refine zp (p_idx_map (k := 0) rfl rfl rfl el_22 ((rfl : kW.evs[0]? = some (kE 1 ⟨2, 0⟩ true)))) ?_
 refine zp (p_fld_pt rfl rfl fld_60_2) ?_
 refine zp (pure_eq (s' := .d (.agg (Val.c (kE 1 ⟨2, 0⟩ true).v))) (p_load_pts rfl rfl agg_56 (Nat.le_of_ble_eq_true rfl)) (by kernel_rfl)) ?_
 refine zp (pure_eq (s' := .d (.agg [dI 2, dI 0])) (norm_pure (p_build rfl str_56 zero_56 rfl)) (by kernel_rfl)) ?_
 refine zp (p_yes (p_eql_56 rfl rfl rfl) (by decide)) ?_
 refine zq rfl rfl rfl ?_
 refine zm rfl rfl ?_
 refine zp (p_fld_ptr rfl rfl fld_25_0) ?_
 refine zp (p_load_box rfl rfl sc_22 rfl rfl) ?_
 refine zp (p_idx_map (k := 2) rfl rfl rfl el_22 ((rfl : kW.evs[2]? = some (kE 0 ⟨1, 0⟩ false)))) ?_
 refine zp (p_fld_pt rfl rfl fld_60_2) ?_
 refine zp (pure_eq (s' := .d (.agg (Val.c (kE 0 ⟨1, 0⟩ false).v))) (p_load_pts rfl rfl agg_56 (Nat.le_of_ble_eq_true rfl)) (by kernel_rfl)) ?_
 refine zp (pure_eq (s' := .d (.agg [dI 1, dI 0])) (norm_pure (p_build rfl str_56 zero_56 rfl)) (by kernel_rfl)) ?_
 refine zp (p_yes (p_eql_56 rfl rfl rfl) (by decide)) ?_
 refine zq rfl rfl rfl ?_
 refine zm rfl rfl ?_
 refine zp (p_fld_ptr rfl rfl fld_25_0) ?_
 refine zp (p_load_box rfl rfl sc_22 rfl rfl) ?_
 refine zp (p_idx_map (k := 1) rfl rfl rfl el_22 ((rfl : kW.evs[1]? = some (kE 0 ⟨2, 0⟩ true)))) ?_
 refine zp (p_fld_pt rfl rfl fld_60_3) ?_
 refine zp (p_load_pt rfl rfl sc_48) ?_
 refine zp (p_idx_map (k := 0) rfl rfl rfl el_48 ((rfl : (kE 0 ⟨2, 0⟩ true).heads[0]? = some (kH true)))) ?_
 refine zp (p_fld_pt rfl rfl fld_91_1) ?_
 refine zp (pure_eq (s' := .d (dB true)) (p_load_pt rfl rfl sc_4) (by kernel_rfl)) ?_
 refine zq rfl rfl rfl ?_
 refine zm rfl rfl ?_
 refine zm rfl rfl ?_
 refine zp (p_yes (p_eql rfl rfl rfl) (rfl)) ?_
 refine zq rfl rfl rfl ?_
 refine zm rfl rfl ?_
 refine zp (p_fld_ptr rfl rfl fld_25_0) ?_
 refine zp (p_load_box rfl rfl sc_22 rfl rfl) ?_
 refine XL.len rfl rfl rfl Tryz.underlying22 (fun hl73 => ?_)
 refine zp (p_yes (p_eql rfl rfl rfl) (by decide)) ?_
 refine zq rfl rfl rfl ?_
 refine zm rfl rfl ?_
 refine zp (p_fld_ptr rfl rfl fld_25_0) ?_
 refine zp (p_load_box rfl rfl sc_22 rfl rfl) ?_
 refine zp (p_idx_map (k := 0) rfl rfl rfl el_22 ((rfl : kV.evs[0]? = some (kE 1 ⟨0, 0⟩ false)))) ?_
 refine zp (p_fld_pt rfl rfl fld_60_2) ?_
 refine zp (pure_eq (s' := .d (.agg (Val.c (kE 1 ⟨0, 0⟩ false).v))) (p_load_pts rfl rfl agg_56 (Nat.le_of_ble_eq_true rfl)) (by kernel_rfl)) ?_
 refine zp (pure_eq (s' := .d (.agg [dI 0, dI 0])) (norm_pure (p_build rfl str_56 zero_56 rfl)) (by kernel_rfl)) ?_
 refine zp (p_yes (p_eql_56 rfl rfl rfl) (by decide)) ?_
 refine zq rfl rfl rfl ?_
 refine za rfl rfl ?_
 refine zn ?_
 refine zt ?_
 exact z1 rfl rfl (rfl)
end Go.Proofs.YtcihalbakenleaaGreat
namespace Go.Proofs.YtcihalbakenleaaGreat
open Go.RowKit
set_option maxRecDepth 20000 in
theorem rIn_xc (t : Tp) (n : Int) (ht : t.ok) : XC Tryz.prog 97 [.agg (Tp.c t), .v (.int .i64 n)] (fun r => r = dB (decide (t.has n))) := by
 have h2t := ht
 simp only [Tp.ok] at h2t
 refine xc_body callable_97 Tryz.func97 rfl rfl (Nat.le_of_ble_eq_true rfl) ?_
 refine zr ?_
 refine XL.step rfl (st_boxN 2 (l := [.d (dI t.first), .d (dI t.count), .d (dI t.actual), .d (dI t.normal)]) rfl rfl (by kernel_rfl)) ?_
 refine za rfl rfl ?_
 refine znr ?_
 refine zp (p_fld_ptr rfl rfl fld_135_0) ?_
 refine zp (p_load_box rfl rfl sc_3 rfl rfl) ?_
 refine zm rfl rfl ?_
 refine zp (p_leq rfl rfl rfl) ?_
 refine zm rfl rfl ?_
 refine XL.dec 9 rfl (fun g9 => ?_) (fun g9 => ?_)
 refine zm rfl rfl ?_
 refine zp (p_fld_ptr rfl rfl fld_135_0) ?_
 refine zp (p_load_box rfl rfl sc_3 rfl rfl) ?_
 refine zp (p_fld_ptr rfl rfl fld_135_1) ?_
 refine zp (p_load_box rfl rfl sc_3 rfl rfl) ?_
 refine zp (p_add rfl rfl rfl (by omega) (by omega)) ?_
 refine zp (p_lss rfl rfl rfl) ?_
 refine zq rfl rfl rfl ?_
 refine za rfl rfl ?_
 refine zn ?_
 refine zt ?_
 exact z1 rfl rfl (rB (by rw [decide_eq_decide]; unfold Tp.has; omega))
 refine zk 7 rfl ?_
 refine zq rfl rfl rfl ?_
 refine za rfl rfl ?_
 refine zn ?_
 refine zt ?_
 exact z1 rfl rfl (rB (by rw [eq_comm, decide_eq_false_iff_not]; unfold Tp.has; omega))
set_option maxRecDepth 20000 in
theorem rAfter_xc (a b : Tp) : XC Tryz.prog 146 [.agg (Tp.c a), .agg (Tp.c b)] (fun r => r = dB (decide (¬ b.bef a))) := by
 refine xc_body callable_146 Tryz.func146 rfl rfl (Nat.le_of_ble_eq_true rfl) ?_
 refine zr ?_
 refine XL.step rfl (st_boxN 2 (l := [.d (dI a.first), .d (dI a.count), .d (dI a.actual), .d (dI a.normal)]) rfl rfl (by kernel_rfl)) ?_
 refine XL.step rfl (st_boxN 3 (l := [.d (dI b.first), .d (dI b.count), .d (dI b.actual), .d (dI b.normal)]) rfl rfl (by kernel_rfl)) ?_
 refine za rfl rfl ?_
 refine znr ?_
 refine zp (p_fld_ptr rfl rfl fld_135_0) ?_
 refine zp (p_load_box rfl rfl sc_3 rfl rfl) ?_
 refine zp (p_fld_ptr rfl rfl fld_135_0) ?_
 refine zp (p_load_box rfl rfl sc_3 rfl rfl) ?_
 refine zp (p_lss rfl rfl rfl) ?_
 refine zm rfl rfl ?_
 refine XL.dec 10 rfl (fun g10 => ?_) (fun g10 => ?_)
 refine zk 12 rfl ?_
 refine zq rfl rfl rfl ?_
 refine za rfl rfl ?_
 refine zn ?_
 refine zt ?_
 exact z1 rfl rfl (rB (by rw [eq_comm, decide_eq_true_iff]; unfold Tp.bef; omega))
 refine zp (p_fld_ptr rfl rfl fld_135_0) ?_
 refine zp (p_load_box rfl rfl sc_3 rfl rfl) ?_
 refine zp (p_fld_ptr rfl rfl fld_135_0) ?_
 refine zp (p_load_box rfl rfl sc_3 rfl rfl) ?_
 refine zp (p_eql rfl rfl rfl) ?_
 refine zm rfl rfl ?_
 refine XL.dec 16 rfl (fun g16 => ?_) (fun g16 => ?_)
 refine zp (p_fld_ptr rfl rfl fld_135_1) ?_
 refine zp (p_load_box rfl rfl sc_3 rfl rfl) ?_
 refine zp (p_fld_ptr rfl rfl fld_135_1) ?_
 refine zp (p_load_box rfl rfl sc_3 rfl rfl) ?_
 refine zp (p_gtr rfl rfl rfl) ?_
 refine zq rfl rfl rfl ?_
 refine zq rfl rfl rfl ?_
 refine za rfl rfl ?_
 refine zn ?_
 refine zt ?_
 exact z1 rfl rfl (rB (by rw [decide_eq_decide]; unfold Tp.bef; omega))
 refine zk 5 rfl ?_
 refine zq rfl rfl rfl ?_
 refine zq rfl rfl rfl ?_
 refine za rfl rfl ?_
 refine zn ?_
 refine zt ?_
 exact z1 rfl rfl (rB (by rw [eq_comm, decide_eq_false_iff_not]; unfold Tp.bef; omega))
/-- all of a tuplet's events are events of another one -/
def Tp.inside (a b : Tp) : Prop := b.first ≤ a.first ∧ a.e ≤ b.e
instance (a b : Tp) : Decidable (a.inside b) := by unfold Tp.inside; exact inferInstance
set_option maxRecDepth 20000 in
theorem rWithin_xc (a b : Tp) (ha : a.ok) (hb : b.ok) : XC Tryz.prog 147 [.agg (Tp.c a), .agg (Tp.c b)] (fun r => r = dB (decide (a.inside b))) := by
 have h2a := ha
 have h2b := hb
 simp only [Tp.ok] at h2a
 simp only [Tp.ok] at h2b
 refine xc_body callable_147 Tryz.func147 rfl rfl (Nat.le_of_ble_eq_true rfl) ?_
 refine zr ?_
 refine XL.step rfl (st_boxN 2 (l := [.d (dI a.first), .d (dI a.count), .d (dI a.actual), .d (dI a.normal)]) rfl rfl (by kernel_rfl)) ?_
 refine XL.step rfl (st_boxN 3 (l := [.d (dI b.first), .d (dI b.count), .d (dI b.actual), .d (dI b.normal)]) rfl rfl (by kernel_rfl)) ?_
 refine za rfl rfl ?_
 refine znr ?_
 refine zp (p_fld_ptr rfl rfl fld_135_0) ?_
 refine zp (p_load_box rfl rfl sc_3 rfl rfl) ?_
 refine zp (p_fld_ptr rfl rfl fld_135_0) ?_
 refine zp (p_load_box rfl rfl sc_3 rfl rfl) ?_
 refine zp (p_leq rfl rfl rfl) ?_
 refine zm rfl rfl ?_
 refine XL.dec 10 rfl (fun g10 => ?_) (fun g10 => ?_)
 refine zp (p_fld_ptr rfl rfl fld_135_0) ?_
 refine zp (p_load_box rfl rfl sc_3 rfl rfl) ?_
 refine zp (p_fld_ptr rfl rfl fld_135_1) ?_
 refine zp (p_load_box rfl rfl sc_3 rfl rfl) ?_
 refine zp (p_add rfl rfl rfl (by omega) (by omega)) ?_
 refine zp (p_fld_ptr rfl rfl fld_135_0) ?_
 refine zp (p_load_box rfl rfl sc_3 rfl rfl) ?_
 refine zp (p_fld_ptr rfl rfl fld_135_1) ?_
 refine zp (p_load_box rfl rfl sc_3 rfl rfl) ?_
 refine zp (p_add rfl rfl rfl (by omega) (by omega)) ?_
 refine zp (p_leq rfl rfl rfl) ?_
 refine zq rfl rfl rfl ?_
 refine za rfl rfl ?_
 refine zn ?_
 refine zt ?_
 exact z1 rfl rfl (rB (by rw [decide_eq_decide]; unfold Tp.inside Tp.e; omega))
 refine zk 11 rfl ?_
 refine zq rfl rfl rfl ?_
 refine za rfl rfl ?_
 refine zn ?_
 refine zt ?_
 exact z1 rfl rfl (rB (by rw [eq_comm, decide_eq_false_iff_not]; unfold Tp.inside Tp.e; omega))
theorem prevT_last {l : List Tp} {k : Nat} (h : k ≤ l.length) : prevT l k = (l.take k).getLast? := by
 cases k with
 | zero => rfl
 | succ k =>
  rw [prevT_succ, List.getLast?_eq_getElem?, List.length_take, Nat.min_eq_left h, Nat.add_sub_cancel, List.getElem?_take, if_pos (by omega)]
theorem after_of {l : List Tp} {k : Nat} {t : Tp} {n : Int} (h : k ≤ l.length) (hv : TV (l.take k) n) : afterO (prevT l k) t ↔ ¬ ∀ a ∈ l.take k, a.bef t := by
 rw [prevT_last h]; exact after_last hv.ord
theorem hits_le {P : List Tp} {t : Tp} {e : Int} (hb : ∀ a ∈ P, a.bef t) (he : t.has e) : hits P e ≤ hits P t.first := by
 unfold hits
 rw [← List.countP_eq_length_filter, ← List.countP_eq_length_filter]
 refine List.countP_mono_left fun o ho hh => ?_
 have h7 := (hb o ho).first
 simp only [decide_eq_true_eq] at hh ⊢
 unfold Tp.has at hh he ⊢
 omega
theorem over_y1 {P s : List Tp} {t o : Tp} {n e : Int} (hr : Rep P s) (hv : TV P n) (hb : ∀ a ∈ P, a.bef t) (ho : o ∈ P) (h1 : t.has e) (h2 : o.has e) (h3 : ¬ t.inside o) : overR t (popR t s) :=
 (hr.over hv fun a ha => (hb a ha).first).2 (.inl ⟨o, ho, by unfold Tp.has at h1 h2; unfold Tp.e; omega, by have := (hb o ho).first; unfold Tp.inside at h3; omega⟩)
theorem over_y2 {P s : List Tp} {t : Tp} {n e : Int} (hr : Rep P s) (hv : TV P n) (hb : ∀ a ∈ P, a.bef t) (h1 : t.has e) (h2 : 3 ≤ hits P e) : overR t (popR t s) :=
 (hr.over hv fun a ha => (hb a ha).first).2 (.inr (Nat.le_trans h2 (hits_le hb h1)))
theorem over_n {P s : List Tp} {t : Tp} {n : Int} (hr : Rep P s) (hv : TV P n) (hb : ∀ a ∈ P, a.bef t) (hi : t.inR n) (h : ∀ e : Nat, (e : Int) < n → t.has e → (∀ o ∈ P, o.has e → t.inside o) ∧ hits P e ≤ 2) : ¬ overR t (popR t s) := fun k => by
 have hi2 := hi
 unfold Tp.inR at hi2
 have hf : ((t.first.toNat : Nat) : Int) = t.first := by omega
 obtain ⟨h1, h2⟩ := h t.first.toNat (by omega) (by unfold Tp.has; omega)
 rcases (hr.over hv fun a ha => (hb a ha).first).1 k with ⟨o, ho, k1, k2⟩ | k
 ·have := h1 o ho (by have := (hb o ho).first; unfold Tp.has; unfold Tp.e at k1; omega)
  unfold Tp.inside at this; omega
 ·rw [hf] at h2; omega
theorem TV_next {P s : List Tp} {t : Tp} {n : Int} (hr : Rep P s) (hv : TV P n) (hb : ∀ a ∈ P, a.bef t) (hi : t.inR n) (ho : ¬ overR t (popR t s)) : TV (P ++ [t]) n ∧ Rep (P ++ [t]) (t :: popR t s) :=
 ⟨(hv.step hi hb).2 fun k => ho ((hr.over hv fun a ha => (hb a ha).first).2 k), hr.snoc (fun a ha => (hb a ha).first) ho⟩
set_option maxRecDepth 20000 in
set_option maxHeartbeats 8000000 in
theorem rCheck03_xc (l : List Tp) (n : Int) : XC Tryz.prog 112 [.sl 4 (l.map Tp.c), .v (.int .i64 n)] (fun r => r = dI (tupErr l n)) := by
 refine xc_body callable_112 Tryz.func112 rfl rfl (Nat.le_of_ble_eq_true rfl) ?_
 refine zr ?_
 refine za rfl rfl ?_
 refine zn ?_
 refine zs ?_
 refine zr ?_
 refine zm rfl rfl ?_
 refine zp (p_lss rfl rfl rfl) ?_
 refine zm rfl rfl ?_
 refine XL.dec 12 rfl (fun g12 => ?_) (fun g12 => ?_)
 refine zk 2 rfl ?_
 refine zq rfl rfl rfl ?_
 refine zn ?_
 refine xw_true (by kernel_rfl) rfl ?_
 refine zr ?_
 refine za rfl rfl ?_
 refine zn ?_
 refine zt ?_
 exact z1 rfl rfl (rI (tup_1 (by omega)))
 refine zm rfl rfl ?_
 refine zp (p_gtr rfl rfl rfl) ?_
 refine zq rfl rfl rfl ?_
 refine zn ?_
 refine zd rfl (fun c15 => ?_) (fun c15 => ?_)
 refine zr ?_
 refine za rfl rfl ?_
 refine zn ?_
 refine zt ?_
 exact z1 rfl rfl (rI (tup_1 (by omega)))
 refine zi ?_
 refine zs ?_
 refine zr ?_
 refine zm rfl rfl ?_
 refine XL.len rfl rfl rfl Tryz.underlying98 (fun hl17 => ?_)
 refine zp (p_gtr rfl rfl rfl) ?_
 refine zn ?_
 refine zd rfl (fun c18 => ?_) (fun c18 => ?_)
 refine zr ?_
 refine za rfl rfl ?_
 refine zn ?_
 refine zt ?_
 exact z1 rfl rfl (rI (tup_2 (by omega) (by omega) c18))
 refine zi ?_
 refine zs ?_
 refine zr ?_
 refine za rfl rfl ?_
 refine zn ?_
 refine xw_block ?_
 refine xw_loop (α := Nat) (fun k => k ≤ l.length ∧ TV (l.take k) n ∧ Rep (l.take k) (stk l k) ∧ tupGo n (prevT l k) (stk l k) (l.drop k) = tupGo n none [] l) (fun k => mkF [(0, .d (.sl 4 (l.map Tp.c))), (1, .d (dI n)), (5, .d (dI k))]) (fun k => mkH []) (fun k => l.length - k) (0) (⟨Nat.zero_le _, TV.nil n, Rep.nil, by rw [List.drop_zero]; rfl⟩) ?_ ?_ ?_
 exact fz ⟨sr, sr, sr, trivial⟩
 exact HSub.nil
 intro k hk0
 obtain ⟨hk, hv, hr, hgo⟩ := hk0
 refine zs ?_
 refine zr ?_
 refine zm rfl rfl ?_
 refine zm rfl rfl ?_
 refine XL.len rfl rfl rfl Tryz.underlying98 (fun hl21 => ?_)
 refine zp (p_lss rfl rfl rfl) ?_
 refine zn ?_
 refine zd rfl (fun c22 => ?_) (fun c22 => ?_)
 have hk0a : k < l.length := by omega
 obtain ⟨x0, hx0⟩ := get_ex hk0a
 refine zi ?_
 refine zs ?_
 refine xw_block ?_
 refine zr ?_
 refine zm rfl rfl ?_
 refine zm rfl rfl ?_
 refine zp (p_idx_map rfl rfl rfl el_98 hx0) ?_
 refine zp (pure_eq (s' := .d (.agg (Tp.c x0))) (p_load_pts rfl rfl agg_135 (Nat.le_of_ble_eq_true rfl)) (by kernel_rfl)) ?_
 refine XL.step rfl (st_allocN 6 (l := [.d (dI 0), .d (dI 0), .d (dI 0), .d (dI 0)]) rfl zero_135 (by kernel_rfl)) ?_
 refine XL.step rfl (st_storeN (l' := [.d (dI x0.first), .d (dI x0.count), .d (dI x0.actual), .d (dI x0.normal)]) rfl rfl rfl rfl sz_135 rfl (Nat.le_of_ble_eq_true rfl) (by kernel_rfl)) ?_
 refine zn ?_
 refine zs ?_
 refine zr ?_
 refine zp (p_fld_ptr rfl rfl fld_135_1) ?_
 refine zp (p_load_box rfl rfl sc_3 rfl rfl) ?_
 refine zp (p_lss rfl rfl rfl) ?_
 refine zm rfl rfl ?_
 refine XL.dec 32 rfl (fun g32 => ?_) (fun g32 => ?_)
 refine zk 4 rfl ?_
 refine zq rfl rfl rfl ?_
 refine zm rfl rfl ?_
 refine zk 3 rfl ?_
 refine zq rfl rfl rfl ?_
 refine zm rfl rfl ?_
 refine zk 7 rfl ?_
 refine zq rfl rfl rfl ?_
 refine zm rfl rfl ?_
 refine zk 3 rfl ?_
 refine zq rfl rfl rfl ?_
 refine zm rfl rfl ?_
 refine zk 3 rfl ?_
 refine zq rfl rfl rfl ?_
 refine zm rfl rfl ?_
 refine zk 3 rfl ?_
 refine zq rfl rfl rfl ?_
 refine zm rfl rfl ?_
 refine zk 3 rfl ?_
 refine zq rfl rfl rfl ?_
 refine zm rfl rfl ?_
 refine zk 5 rfl ?_
 refine zq rfl rfl rfl ?_
 refine zn ?_
 refine xw_true (by kernel_rfl) rfl ?_
 refine zr ?_
 refine za rfl rfl ?_
 refine zn ?_
 refine zt ?_
 exact z1 rfl rfl (rI (tup_3 (by omega) (by omega) (by omega) (by rw [← hgo, tupGo_range hx0 (by unfold Tp.inR; omega)])))
 refine zp (p_fld_ptr rfl rfl fld_135_1) ?_
 refine zp (p_load_box rfl rfl sc_3 rfl rfl) ?_
 refine zm rfl rfl ?_
 refine zp (p_gtr rfl rfl rfl) ?_
 refine zq rfl rfl rfl ?_
 refine zm rfl rfl ?_
 refine XL.dec 38 rfl (fun g38 => ?_) (fun g38 => ?_)
 refine zk 3 rfl ?_
 refine zq rfl rfl rfl ?_
 refine zm rfl rfl ?_
 refine zk 7 rfl ?_
 refine zq rfl rfl rfl ?_
 refine zm rfl rfl ?_
 refine zk 3 rfl ?_
 refine zq rfl rfl rfl ?_
 refine zm rfl rfl ?_
 refine zk 3 rfl ?_
 refine zq rfl rfl rfl ?_
 refine zm rfl rfl ?_
 refine zk 3 rfl ?_
 refine zq rfl rfl rfl ?_
 refine zm rfl rfl ?_
 refine zk 3 rfl ?_
 refine zq rfl rfl rfl ?_
 refine zm rfl rfl ?_
 refine zk 5 rfl ?_
 refine zq rfl rfl rfl ?_
 refine zn ?_
 refine xw_true (by kernel_rfl) rfl ?_
 refine zr ?_
 refine za rfl rfl ?_
 refine zn ?_
 refine zt ?_
 exact z1 rfl rfl (rI (tup_3 (by omega) (by omega) (by omega) (by rw [← hgo, tupGo_range hx0 (by unfold Tp.inR; omega)])))
 refine zp (p_fld_ptr rfl rfl fld_135_0) ?_
 refine zp (p_load_box rfl rfl sc_3 rfl rfl) ?_
 refine zp (p_lss rfl rfl rfl) ?_
 refine zq rfl rfl rfl ?_
 refine zm rfl rfl ?_
 refine XL.dec 43 rfl (fun g43 => ?_) (fun g43 => ?_)
 refine zk 7 rfl ?_
 refine zq rfl rfl rfl ?_
 refine zm rfl rfl ?_
 refine zk 3 rfl ?_
 refine zq rfl rfl rfl ?_
 refine zm rfl rfl ?_
 refine zk 3 rfl ?_
 refine zq rfl rfl rfl ?_
 refine zm rfl rfl ?_
 refine zk 3 rfl ?_
 refine zq rfl rfl rfl ?_
 refine zm rfl rfl ?_
 refine zk 3 rfl ?_
 refine zq rfl rfl rfl ?_
 refine zm rfl rfl ?_
 refine zk 5 rfl ?_
 refine zq rfl rfl rfl ?_
 refine zn ?_
 refine xw_true (by kernel_rfl) rfl ?_
 refine zr ?_
 refine za rfl rfl ?_
 refine zn ?_
 refine zt ?_
 exact z1 rfl rfl (rI (tup_3 (by omega) (by omega) (by omega) (by rw [← hgo, tupGo_range hx0 (by unfold Tp.inR; omega)])))
 refine zp (p_fld_ptr rfl rfl fld_135_0) ?_
 refine zp (p_load_box rfl rfl sc_3 rfl rfl) ?_
 refine zm rfl rfl ?_
 refine zp (p_fld_ptr rfl rfl fld_135_1) ?_
 refine zp (p_load_box rfl rfl sc_3 rfl rfl) ?_
 refine zp (p_sub rfl rfl rfl (by omega) (by omega)) ?_
 refine zp (p_gtr rfl rfl rfl) ?_
 refine zq rfl rfl rfl ?_
 refine zm rfl rfl ?_
 refine XL.dec 52 rfl (fun g52 => ?_) (fun g52 => ?_)
 refine zk 3 rfl ?_
 refine zq rfl rfl rfl ?_
 refine zm rfl rfl ?_
 refine zk 3 rfl ?_
 refine zq rfl rfl rfl ?_
 refine zm rfl rfl ?_
 refine zk 3 rfl ?_
 refine zq rfl rfl rfl ?_
 refine zm rfl rfl ?_
 refine zk 3 rfl ?_
 refine zq rfl rfl rfl ?_
 refine zm rfl rfl ?_
 refine zk 5 rfl ?_
 refine zq rfl rfl rfl ?_
 refine zn ?_
 refine xw_true (by kernel_rfl) rfl ?_
 refine zr ?_
 refine za rfl rfl ?_
 refine zn ?_
 refine zt ?_
 exact z1 rfl rfl (rI (tup_3 (by omega) (by omega) (by omega) (by rw [← hgo, tupGo_range hx0 (by unfold Tp.inR; omega)])))
 refine zp (p_fld_ptr rfl rfl fld_135_2) ?_
 refine zp (p_load_box rfl rfl sc_3 rfl rfl) ?_
 refine zp (p_lss rfl rfl rfl) ?_
 refine zq rfl rfl rfl ?_
 refine zm rfl rfl ?_
 refine XL.dec 57 rfl (fun g57 => ?_) (fun g57 => ?_)
 refine zk 3 rfl ?_
 refine zq rfl rfl rfl ?_
 refine zm rfl rfl ?_
 refine zk 3 rfl ?_
 refine zq rfl rfl rfl ?_
 refine zm rfl rfl ?_
 refine zk 3 rfl ?_
 refine zq rfl rfl rfl ?_
 refine zm rfl rfl ?_
 refine zk 5 rfl ?_
 refine zq rfl rfl rfl ?_
 refine zn ?_
 refine xw_true (by kernel_rfl) rfl ?_
 refine zr ?_
 refine za rfl rfl ?_
 refine zn ?_
 refine zt ?_
 exact z1 rfl rfl (rI (tup_3 (by omega) (by omega) (by omega) (by rw [← hgo, tupGo_range hx0 (by unfold Tp.inR; omega)])))
 refine zp (p_fld_ptr rfl rfl fld_135_2) ?_
 refine zp (p_load_box rfl rfl sc_3 rfl rfl) ?_
 refine zp (p_gtr rfl rfl rfl) ?_
 refine zq rfl rfl rfl ?_
 refine zm rfl rfl ?_
 refine XL.dec 62 rfl (fun g62 => ?_) (fun g62 => ?_)
 refine zk 3 rfl ?_
 refine zq rfl rfl rfl ?_
 refine zm rfl rfl ?_
 refine zk 3 rfl ?_
 refine zq rfl rfl rfl ?_
 refine zm rfl rfl ?_
 refine zk 5 rfl ?_
 refine zq rfl rfl rfl ?_
 refine zn ?_
 refine xw_true (by kernel_rfl) rfl ?_
 refine zr ?_
 refine za rfl rfl ?_
 refine zn ?_
 refine zt ?_
 exact z1 rfl rfl (rI (tup_3 (by omega) (by omega) (by omega) (by rw [← hgo, tupGo_range hx0 (by unfold Tp.inR; omega)])))
 refine zp (p_fld_ptr rfl rfl fld_135_3) ?_
 refine zp (p_load_box rfl rfl sc_3 rfl rfl) ?_
 refine zp (p_lss rfl rfl rfl) ?_
 refine zq rfl rfl rfl ?_
 refine zm rfl rfl ?_
 refine XL.dec 67 rfl (fun g67 => ?_) (fun g67 => ?_)
 refine zk 3 rfl ?_
 refine zq rfl rfl rfl ?_
 refine zm rfl rfl ?_
 refine zk 5 rfl ?_
 refine zq rfl rfl rfl ?_
 refine zn ?_
 refine xw_true (by kernel_rfl) rfl ?_
 refine zr ?_
 refine za rfl rfl ?_
 refine zn ?_
 refine zt ?_
 exact z1 rfl rfl (rI (tup_3 (by omega) (by omega) (by omega) (by rw [← hgo, tupGo_range hx0 (by unfold Tp.inR; omega)])))
 refine zp (p_fld_ptr rfl rfl fld_135_3) ?_
 refine zp (p_load_box rfl rfl sc_3 rfl rfl) ?_
 refine zp (p_gtr rfl rfl rfl) ?_
 refine zq rfl rfl rfl ?_
 refine zm rfl rfl ?_
 refine XL.dec 72 rfl (fun g72 => ?_) (fun g72 => ?_)
 refine zk 5 rfl ?_
 refine zq rfl rfl rfl ?_
 refine zn ?_
 refine xw_true (by kernel_rfl) rfl ?_
 refine zr ?_
 refine za rfl rfl ?_
 refine zn ?_
 refine zt ?_
 exact z1 rfl rfl (rI (tup_3 (by omega) (by omega) (by omega) (by rw [← hgo, tupGo_range hx0 (by unfold Tp.inR; omega)])))
 refine zp (p_fld_ptr rfl rfl fld_135_2) ?_
 refine zp (p_load_box rfl rfl sc_3 rfl rfl) ?_
 refine zp (p_fld_ptr rfl rfl fld_135_3) ?_
 refine zp (p_load_box rfl rfl sc_3 rfl rfl) ?_
 refine zp (p_eql rfl rfl rfl) ?_
 refine zq rfl rfl rfl ?_
 refine zn ?_
 refine zd rfl (fun c78 => ?_) (fun c78 => ?_)
 refine zr ?_
 refine za rfl rfl ?_
 refine zn ?_
 refine zt ?_
 exact z1 rfl rfl (rI (tup_3 (by omega) (by omega) (by omega) (by rw [← hgo, tupGo_range hx0 (by unfold Tp.inR; omega)])))
 have hin : x0.inR n := by unfold Tp.inR; omega
 have hok : x0.ok := hin.ok (by omega)
 refine zi ?_
 refine zs ?_
 refine zs ?_
 by_cases q80 : (0 : Int) < (k : Int)
 obtain ⟨q, hq⟩ : ∃ q, l[k - 1]? = some q := get_ex (by omega)
 refine xw_any [] (by kernel_rfl) (by kernel_rfl) (by kernel_rfl) (by decide) ?_
 refine ym rfl rfl ?_
 refine yp (p_yes (p_gtr rfl rfl rfl) (q80)) ?_
 refine ym rfl rfl ?_
 refine yp (pure_eq (s' := .d (.agg (Tp.c x0))) (norm_pure (p_load_boxs rfl rfl agg_135 rfl (Nat.le_of_ble_eq_true rfl))) (by kernel_rfl)) ?_
 refine ym rfl rfl ?_
 refine ym rfl rfl ?_
 refine yp (p_sub rfl rfl rfl (by omega) (by omega)) ?_
 refine yp (p_idx_mapi rfl rfl rfl (by omega) el_98 (hq)) ?_
 refine yp (pure_eq (s' := .d (.agg (Tp.c q))) (p_load_pts rfl rfl agg_135 (Nat.le_of_ble_eq_true rfl)) (by kernel_rfl)) ?_
 refine ChK.cons rfl (CStep.call rfl (rAfter_xc _ _) rfl) ?_
 refine yp (p_pick_any rfl rfl (by conv => lhs; whnf)) ?_
 refine ChK.nil ⟨by kernel_rfl, ?_⟩
 refine zd rfl (fun c89 => ?_) (fun c89 => ?_)
 refine zr ?_
 refine za rfl rfl ?_
 refine zn ?_
 refine zt ?_
 exact z1 rfl rfl (rI (tup_3 (by omega) (by omega) (by omega) (by rw [← hgo, tupGo_order hx0 hin ((after_at (by omega) hq).2 (Decidable.not_not.1 fun hno => c89 ((bef_iff _ _).2 hno)))])))
 have hna : ¬ afterO (prevT l k) x0 := fun h => c89 (fun hbf => (bef_iff _ _).1 hbf ((after_at (by omega) hq).1 h))
 have hb := Decidable.not_not.1 (fun j => hna ((after_of (by omega) hv).2 j))
 refine zi ?_
 refine zr ?_
 refine za rfl rfl ?_
 refine zn ?_
 refine xw_block ?_
 refine xw_loop (α := Nat) (fun m => (m : Int) ≤ n ∧ ∀ e : Nat, e < m → x0.has e → (∀ o ∈ l.take k, o.has e → x0.inside o) ∧ hits (l.take k) e ≤ 2) (fun m => mkF [(0, .d (.sl 4 (l.map Tp.c))), (1, .d (dI n)), (5, .d (dI k)), (6, .ptr 6 0 0), (7, .d (dI (m : Nat)))]) (fun m => mkH [(6, .box ((Tp.c x0).map S.d))]) (fun m => n.toNat - m) (0) (⟨by omega, fun e h => absurd h (Nat.not_lt_zero _)⟩) ?_ ?_ ?_
 exact fz ⟨sr, sr, sr, sr, sr, trivial⟩
 exact gz ⟨rfl, trivial⟩
 intro m hk2
 obtain ⟨hm, hall⟩ := hk2
 refine zs ?_
 refine zr ?_
 refine zm rfl rfl ?_
 refine zm rfl rfl ?_
 refine zp (p_lss rfl rfl rfl) ?_
 refine zn ?_
 refine zd rfl (fun c92 => ?_) (fun c92 => ?_)
 refine zi ?_
 refine zs ?_
 refine xw_block ?_
 refine zr ?_
 refine za rfl rfl ?_
 refine zn ?_
 refine zs ?_
 refine zr ?_
 refine za rfl rfl ?_
 refine zn ?_
 refine xw_block ?_
 refine xw_loop (α := Nat) (fun j => j ≤ k ∧ (x0.has m → ∀ o ∈ l.take j, o.has m → x0.inside o)) (fun j => mkF [(0, .d (.sl 4 (l.map Tp.c))), (1, .d (dI n)), (5, .d (dI k)), (6, .ptr 6 0 0), (7, .d (dI (m : Nat))), (8, .d (dI (if x0.has m then (hits (l.take j) m : Int) else 0))), (9, .d (dI (j : Nat)))]) (fun j => mkH [(6, .box ((Tp.c x0).map S.d))]) (fun j => k - j) (0) (⟨Nat.zero_le _, fun _ o ho => (by cases ho)⟩) ?_ ?_ ?_
 exact fz ⟨sr, sr, sr, sr, sr, .same (sI (by split <;> rfl)), sr, trivial⟩
 exact gz ⟨rfl, trivial⟩
 intro j hk4
 obtain ⟨hj, hall4⟩ := hk4
 refine zs ?_
 refine zr ?_
 refine zm rfl rfl ?_
 refine zm rfl rfl ?_
 refine zp (p_lss rfl rfl rfl) ?_
 refine zn ?_
 refine zd rfl (fun c97 => ?_) (fun c97 => ?_)
 have hjk2 : j < k := by omega
 obtain ⟨y, hy⟩ : ∃ y, l[j]? = some y := get_ex (by omega)
 have hym : y ∈ l.take k := List.mem_of_getElem? (by rw [List.getElem?_take, if_pos hjk2]; exact hy)
 have hyok := (hv.inR y hym).ok (by omega)
 have hhl := hits_len (l.take j) m
 have htl : (l.take j).length ≤ j := List.length_take_le _ _
 refine zi ?_
 refine zs ?_
 refine xw_block ?_
 refine zs ?_
 refine zr ?_
 refine zp (pure_eq (s' := .d (.agg (Tp.c x0))) (norm_pure (p_load_boxs rfl rfl agg_135 rfl (Nat.le_of_ble_eq_true rfl))) (by kernel_rfl)) ?_
 refine zm rfl rfl ?_
 refine XL.call1 rfl rfl (rIn_xc _ _ (by assumption)) rfl ?_
 refine zp (p_notdec rfl rfl) ?_
 refine zm rfl rfl ?_
 refine XL.dec 104 rfl (fun g104 => ?_) (fun g104 => ?_)
 refine zk 7 rfl ?_
 refine zq rfl rfl rfl ?_
 refine zn ?_
 refine xw_true (by kernel_rfl) rfl ?_
 refine xw_exit ?_
 refine xw_region (by kernel_rfl) ?_
 refine zm rfl rfl ?_
 refine zp (p_add rfl rfl rfl (by omega) (by omega)) ?_
 refine za rfl rfl ?_
 refine zn ?_
 exact k_round (j + 1) (⟨by omega, fun h => absurd h g104⟩) (by omega) (fz ⟨sr, sr, sr, sr, sr, .same (sI (by rw [if_neg g104, if_neg g104])), sr, trivial⟩) (gz ⟨rfl, trivial⟩)
 refine zm rfl rfl ?_
 refine zm rfl rfl ?_
 refine zp (p_idx_map rfl rfl rfl el_98 (hy)) ?_
 refine zp (pure_eq (s' := .d (.agg (Tp.c y))) (p_load_pts rfl rfl agg_135 (Nat.le_of_ble_eq_true rfl)) (by kernel_rfl)) ?_
 refine zm rfl rfl ?_
 refine XL.call1 rfl rfl (rIn_xc _ _ (by assumption)) rfl ?_
 refine zp (p_notdec rfl rfl) ?_
 refine zq rfl rfl rfl ?_
 refine zn ?_
 refine zd rfl (fun c112 => ?_) (fun c112 => ?_)
 refine xw_exit ?_
 refine xw_region (by kernel_rfl) ?_
 refine zm rfl rfl ?_
 refine zp (p_add rfl rfl rfl (by omega) (by omega)) ?_
 refine za rfl rfl ?_
 refine zn ?_
 exact k_round (j + 1) (⟨by omega, fun h o ho hh => by rw [take_snoc hy] at ho; rcases List.mem_append.1 ho with q | q; (· exact hall4 h o q hh); (· rw [List.mem_singleton.1 q] at hh; exact absurd hh c112)⟩) (by omega) (fz ⟨sr, sr, sr, sr, sr, .same (sI (by rw [if_pos (Decidable.not_not.1 g104), if_pos (Decidable.not_not.1 g104), hits_no hy c112])), sr, trivial⟩) (gz ⟨rfl, trivial⟩)
 refine zi ?_
 refine zs ?_
 have hd1 : (if x0.has m then (hits (l.take j) m : Int) else 0) ≤ 16 := by split <;> omega
 have hd0 : 0 ≤ (if x0.has m then (hits (l.take j) m : Int) else 0) := by split <;> omega
 refine xw_region (by kernel_rfl) ?_
 refine zm rfl rfl ?_
 refine zp (p_add rfl rfl rfl (by omega) (by omega)) ?_
 refine za rfl rfl ?_
 refine zn ?_
 refine zs ?_
 refine xw_any [] (by kernel_rfl) (by kernel_rfl) (by kernel_rfl) (by decide) ?_
 refine yp (pure_eq (s' := .d (.agg (Tp.c x0))) (norm_pure (p_load_boxs rfl rfl agg_135 rfl (Nat.le_of_ble_eq_true rfl))) (by kernel_rfl)) ?_
 refine ym rfl rfl ?_
 refine ym rfl rfl ?_
 refine yp (p_idx_map rfl rfl rfl el_98 (hy)) ?_
 refine yp (pure_eq (s' := .d (.agg (Tp.c y))) (p_load_pts rfl rfl agg_135 (Nat.le_of_ble_eq_true rfl)) (by kernel_rfl)) ?_
 refine ChK.cons rfl (CStep.call rfl (rWithin_xc _ _ (by assumption) (by assumption)) rfl) ?_
 refine yp (p_notdec rfl rfl) ?_
 refine ChK.nil ⟨by kernel_rfl, ?_⟩
 refine zd rfl (fun c121 => ?_) (fun c121 => ?_)
 refine zr ?_
 refine za rfl rfl ?_
 refine zn ?_
 refine zt ?_
 exact z1 rfl rfl (rI (tup_3 (by omega) (by omega) (by omega) (by rw [← hgo, tupGo_over hx0 hin hna (over_y1 hr hv hb hym (Decidable.not_not.1 g104) (Decidable.not_not.1 c112) c121)])))
 refine zi ?_
 refine xw_region (by kernel_rfl) ?_
 refine zm rfl rfl ?_
 refine zp (p_add rfl rfl rfl (by omega) (by omega)) ?_
 refine za rfl rfl ?_
 refine zn ?_
 exact k_round (j + 1) (⟨by omega, fun h o ho hh => by rw [take_snoc hy] at ho; rcases List.mem_append.1 ho with q | q; (· exact hall4 h o q hh); (· rw [List.mem_singleton.1 q]; exact Decidable.not_not.1 c121)⟩) (by omega) (fz ⟨sr, sr, sr, sr, sr, .same (sI (by rw [if_pos (Decidable.not_not.1 g104), if_pos (Decidable.not_not.1 g104), hits_yes hy (Decidable.not_not.1 c112)]; rfl)), sr, trivial⟩) (gz ⟨rfl, trivial⟩)
 have hjk : j = k := by omega
 refine xw_exit ?_
 refine zr ?_
 refine zm rfl rfl ?_
 refine zp (p_geq rfl rfl rfl) ?_
 refine zn ?_
 refine zd rfl (fun c123 => ?_) (fun c123 => ?_)
 refine zr ?_
 refine za rfl rfl ?_
 refine zn ?_
 refine zt ?_
 exact z1 rfl rfl (rI (tup_3 (by omega) (by omega) (by omega) (by rw [← hgo, tupGo_over hx0 hin hna (by split at c123; (· rename_i hh; exact over_y2 hr hv hb hh (by rw [← hjk]; omega)); (· omega))])))
 refine zi ?_
 refine xw_region (by kernel_rfl) ?_
 refine zm rfl rfl ?_
 refine zp (p_add rfl rfl rfl (by omega) (by omega)) ?_
 refine za rfl rfl ?_
 refine zn ?_
 exact k_round (m + 1) (⟨by omega, fun e he hh => by by_cases q : e = m; (· subst q; rw [if_pos hh] at c123; exact ⟨fun o ho => hall4 hh o (by rw [hjk]; exact ho), by rw [← hjk]; omega⟩); (· exact hall e (by omega) hh)⟩) (by omega) (fz ⟨sr, sr, sr, sr, sr, trivial⟩) (gz ⟨rfl, trivial⟩)
 have hov := over_n hr hv hb hin (fun e he => hall e (by omega))
 refine xw_exit ?_
 refine xw_region (by kernel_rfl) ?_
 refine zm rfl rfl ?_
 refine zp (p_add rfl rfl rfl (by omega) (by omega)) ?_
 refine za rfl rfl ?_
 refine zn ?_
 exact k_round (k + 1) (⟨by omega, by rw [take_snoc hx0]; exact (TV_next hr hv hb hin hov).1, by rw [take_snoc hx0, stk_succ hx0]; exact (TV_next hr hv hb hin hov).2, by rw [prevT_succ, hx0, stk_succ hx0, ← tupGo_next hx0 hin hna hov]; exact hgo⟩) (by omega) (fz ⟨sr, sr, sr, trivial⟩) (HSub.nil)
 have hna := after_zero (l := l) (t := x0) q80
 have hb := Decidable.not_not.1 (fun j => hna ((after_of (by omega) hv).2 j))
 refine xw_any [] (by kernel_rfl) (by kernel_rfl) (by kernel_rfl) (by decide) ?_
 refine ym rfl rfl ?_
 refine yp (p_no (p_gtr rfl rfl rfl) (q80)) ?_
 refine ym rfl rfl ?_
 refine ChK.skip rfl ?_
 refine ChK.skip rfl ?_
 refine ChK.skip rfl ?_
 refine ChK.skip rfl ?_
 refine ChK.skip rfl ?_
 refine ChK.skip rfl ?_
 refine ChK.skip rfl ?_
 refine yp (p_pick_any rfl rfl (by conv => lhs; whnf)) ?_
 refine ChK.nil ⟨by kernel_rfl, ?_⟩
 refine xw_false (by kernel_rfl) rfl ?_
 refine zi ?_
 refine zr ?_
 refine za rfl rfl ?_
 refine zn ?_
 refine xw_block ?_
 refine xw_loop (α := Nat) (fun m => (m : Int) ≤ n ∧ ∀ e : Nat, e < m → x0.has e → (∀ o ∈ l.take k, o.has e → x0.inside o) ∧ hits (l.take k) e ≤ 2) (fun m => mkF [(0, .d (.sl 4 (l.map Tp.c))), (1, .d (dI n)), (5, .d (dI k)), (6, .ptr 6 0 0), (7, .d (dI (m : Nat)))]) (fun m => mkH [(6, .box ((Tp.c x0).map S.d))]) (fun m => n.toNat - m) (0) (⟨by omega, fun e h => absurd h (Nat.not_lt_zero _)⟩) ?_ ?_ ?_
 exact fz ⟨sr, sr, sr, sr, sr, trivial⟩
 exact gz ⟨rfl, trivial⟩
 intro m hk2
 obtain ⟨hm, hall⟩ := hk2
 refine zs ?_
 refine zr ?_
 refine zm rfl rfl ?_
 refine zm rfl rfl ?_
 refine zp (p_lss rfl rfl rfl) ?_
 refine zn ?_
 refine zd rfl (fun c92 => ?_) (fun c92 => ?_)
 refine zi ?_
 refine zs ?_
 refine xw_block ?_
 refine zr ?_
 refine za rfl rfl ?_
 refine zn ?_
 refine zs ?_
 refine zr ?_
 refine za rfl rfl ?_
 refine zn ?_
 refine xw_block ?_
 refine xw_loop (α := Nat) (fun j => j ≤ k ∧ (x0.has m → ∀ o ∈ l.take j, o.has m → x0.inside o)) (fun j => mkF [(0, .d (.sl 4 (l.map Tp.c))), (1, .d (dI n)), (5, .d (dI k)), (6, .ptr 6 0 0), (7, .d (dI (m : Nat))), (8, .d (dI (if x0.has m then (hits (l.take j) m : Int) else 0))), (9, .d (dI (j : Nat)))]) (fun j => mkH [(6, .box ((Tp.c x0).map S.d))]) (fun j => k - j) (0) (⟨Nat.zero_le _, fun _ o ho => (by cases ho)⟩) ?_ ?_ ?_
 exact fz ⟨sr, sr, sr, sr, sr, .same (sI (by split <;> rfl)), sr, trivial⟩
 exact gz ⟨rfl, trivial⟩
 intro j hk4
 obtain ⟨hj, hall4⟩ := hk4
 refine zs ?_
 refine zr ?_
 refine zm rfl rfl ?_
 refine zm rfl rfl ?_
 refine zp (p_lss rfl rfl rfl) ?_
 refine zn ?_
 refine zd rfl (fun c97 => ?_) (fun c97 => ?_)
 have hjk2 : j < k := by omega
 obtain ⟨y, hy⟩ : ∃ y, l[j]? = some y := get_ex (by omega)
 have hym : y ∈ l.take k := List.mem_of_getElem? (by rw [List.getElem?_take, if_pos hjk2]; exact hy)
 have hyok := (hv.inR y hym).ok (by omega)
 have hhl := hits_len (l.take j) m
 have htl : (l.take j).length ≤ j := List.length_take_le _ _
 refine zi ?_
 refine zs ?_
 refine xw_block ?_
 refine zs ?_
 refine zr ?_
 refine zp (pure_eq (s' := .d (.agg (Tp.c x0))) (norm_pure (p_load_boxs rfl rfl agg_135 rfl (Nat.le_of_ble_eq_true rfl))) (by kernel_rfl)) ?_
 refine zm rfl rfl ?_
 refine XL.call1 rfl rfl (rIn_xc _ _ (by assumption)) rfl ?_
 refine zp (p_notdec rfl rfl) ?_
 refine zm rfl rfl ?_
 refine XL.dec 104 rfl (fun g104 => ?_) (fun g104 => ?_)
 refine zk 7 rfl ?_
 refine zq rfl rfl rfl ?_
 refine zn ?_
 refine xw_true (by kernel_rfl) rfl ?_
 refine xw_exit ?_
 refine xw_region (by kernel_rfl) ?_
 refine zm rfl rfl ?_
 refine zp (p_add rfl rfl rfl (by omega) (by omega)) ?_
 refine za rfl rfl ?_
 refine zn ?_
 exact k_round (j + 1) (⟨by omega, fun h => absurd h g104⟩) (by omega) (fz ⟨sr, sr, sr, sr, sr, .same (sI (by rw [if_neg g104, if_neg g104])), sr, trivial⟩) (gz ⟨rfl, trivial⟩)
 refine zm rfl rfl ?_
 refine zm rfl rfl ?_
 refine zp (p_idx_map rfl rfl rfl el_98 (hy)) ?_
 refine zp (pure_eq (s' := .d (.agg (Tp.c y))) (p_load_pts rfl rfl agg_135 (Nat.le_of_ble_eq_true rfl)) (by kernel_rfl)) ?_
 refine zm rfl rfl ?_
 refine XL.call1 rfl rfl (rIn_xc _ _ (by assumption)) rfl ?_
 refine zp (p_notdec rfl rfl) ?_
 refine zq rfl rfl rfl ?_
 refine zn ?_
 refine zd rfl (fun c112 => ?_) (fun c112 => ?_)
 refine xw_exit ?_
 refine xw_region (by kernel_rfl) ?_
 refine zm rfl rfl ?_
 refine zp (p_add rfl rfl rfl (by omega) (by omega)) ?_
 refine za rfl rfl ?_
 refine zn ?_
 exact k_round (j + 1) (⟨by omega, fun h o ho hh => by rw [take_snoc hy] at ho; rcases List.mem_append.1 ho with q | q; (· exact hall4 h o q hh); (· rw [List.mem_singleton.1 q] at hh; exact absurd hh c112)⟩) (by omega) (fz ⟨sr, sr, sr, sr, sr, .same (sI (by rw [if_pos (Decidable.not_not.1 g104), if_pos (Decidable.not_not.1 g104), hits_no hy c112])), sr, trivial⟩) (gz ⟨rfl, trivial⟩)
 refine zi ?_
 refine zs ?_
 have hd1 : (if x0.has m then (hits (l.take j) m : Int) else 0) ≤ 16 := by split <;> omega
 have hd0 : 0 ≤ (if x0.has m then (hits (l.take j) m : Int) else 0) := by split <;> omega
 refine xw_region (by kernel_rfl) ?_
 refine zm rfl rfl ?_
 refine zp (p_add rfl rfl rfl (by omega) (by omega)) ?_
 refine za rfl rfl ?_
 refine zn ?_
 refine zs ?_
 refine xw_any [] (by kernel_rfl) (by kernel_rfl) (by kernel_rfl) (by decide) ?_
 refine yp (pure_eq (s' := .d (.agg (Tp.c x0))) (norm_pure (p_load_boxs rfl rfl agg_135 rfl (Nat.le_of_ble_eq_true rfl))) (by kernel_rfl)) ?_
 refine ym rfl rfl ?_
 refine ym rfl rfl ?_
 refine yp (p_idx_map rfl rfl rfl el_98 (hy)) ?_
 refine yp (pure_eq (s' := .d (.agg (Tp.c y))) (p_load_pts rfl rfl agg_135 (Nat.le_of_ble_eq_true rfl)) (by kernel_rfl)) ?_
 refine ChK.cons rfl (CStep.call rfl (rWithin_xc _ _ (by assumption) (by assumption)) rfl) ?_
 refine yp (p_notdec rfl rfl) ?_
 refine ChK.nil ⟨by kernel_rfl, ?_⟩
 refine zd rfl (fun c121 => ?_) (fun c121 => ?_)
 refine zr ?_
 refine za rfl rfl ?_
 refine zn ?_
 refine zt ?_
 exact z1 rfl rfl (rI (tup_3 (by omega) (by omega) (by omega) (by rw [← hgo, tupGo_over hx0 hin hna (over_y1 hr hv hb hym (Decidable.not_not.1 g104) (Decidable.not_not.1 c112) c121)])))
 refine zi ?_
 refine xw_region (by kernel_rfl) ?_
 refine zm rfl rfl ?_
 refine zp (p_add rfl rfl rfl (by omega) (by omega)) ?_
 refine za rfl rfl ?_
 refine zn ?_
 exact k_round (j + 1) (⟨by omega, fun h o ho hh => by rw [take_snoc hy] at ho; rcases List.mem_append.1 ho with q | q; (· exact hall4 h o q hh); (· rw [List.mem_singleton.1 q]; exact Decidable.not_not.1 c121)⟩) (by omega) (fz ⟨sr, sr, sr, sr, sr, .same (sI (by rw [if_pos (Decidable.not_not.1 g104), if_pos (Decidable.not_not.1 g104), hits_yes hy (Decidable.not_not.1 c112)]; rfl)), sr, trivial⟩) (gz ⟨rfl, trivial⟩)
 have hjk : j = k := by omega
 refine xw_exit ?_
 refine zr ?_
 refine zm rfl rfl ?_
 refine zp (p_geq rfl rfl rfl) ?_
 refine zn ?_
 refine zd rfl (fun c123 => ?_) (fun c123 => ?_)
 refine zr ?_
 refine za rfl rfl ?_
 refine zn ?_
 refine zt ?_
 exact z1 rfl rfl (rI (tup_3 (by omega) (by omega) (by omega) (by rw [← hgo, tupGo_over hx0 hin hna (by split at c123; (· rename_i hh; exact over_y2 hr hv hb hh (by rw [← hjk]; omega)); (· omega))])))
 refine zi ?_
 refine xw_region (by kernel_rfl) ?_
 refine zm rfl rfl ?_
 refine zp (p_add rfl rfl rfl (by omega) (by omega)) ?_
 refine za rfl rfl ?_
 refine zn ?_
 exact k_round (m + 1) (⟨by omega, fun e he hh => by by_cases q : e = m; (· subst q; rw [if_pos hh] at c123; exact ⟨fun o ho => hall4 hh o (by rw [hjk]; exact ho), by rw [← hjk]; omega⟩); (· exact hall e (by omega) hh)⟩) (by omega) (fz ⟨sr, sr, sr, sr, sr, trivial⟩) (gz ⟨rfl, trivial⟩)
 have hov := over_n hr hv hb hin (fun e he => hall e (by omega))
 refine xw_exit ?_
 refine xw_region (by kernel_rfl) ?_
 refine zm rfl rfl ?_
 refine zp (p_add rfl rfl rfl (by omega) (by omega)) ?_
 refine za rfl rfl ?_
 refine zn ?_
 exact k_round (k + 1) (⟨by omega, by rw [take_snoc hx0]; exact (TV_next hr hv hb hin hov).1, by rw [take_snoc hx0, stk_succ hx0]; exact (TV_next hr hv hb hin hov).2, by rw [prevT_succ, hx0, stk_succ hx0, ← tupGo_next hx0 hin hna hov]; exact hgo⟩) (by omega) (fz ⟨sr, sr, sr, trivial⟩) (HSub.nil)
 have hk0b : k = l.length := by omega
 have hz : tupGo n none [] l = 0 := by rw [← hgo, hk0b, List.drop_length]; rfl
 refine xw_exit ?_
 refine zr ?_
 refine za rfl rfl ?_
 refine zn ?_
 refine zt ?_
 exact z1 rfl rfl (rI (tup_3 (by omega) (by omega) (by omega) hz.symm))
end Go.Proofs.YtcihalbakenleaaGreat
namespace Go.Proofs.YtcihalbakenleaaGreat
open Go.RowKit
theorem nd_t {p : Prop} [Decidable p] (h : (!decide p) = true) : ¬ p := by simpa using h
theorem nd_f {p : Prop} [Decidable p] (h : (!decide p) = false) : ¬ ¬ p := by simpa using h
def rawStep (n : Int) (p : Int × Int) (t : Tp) : Int × Int := if t.has n then (p.1 * t.normal, p.2 * t.actual) else p
/-- a written length times and over the numbers of the tuplets that contain an event -/
def rawF (l : List Tp) (n w : Int) : Int × Int := l.foldl (rawStep n) (w, 1)
theorem rawF_snoc (l : List Tp) (t : Tp) (n w : Int) : rawF (l ++ [t]) n w = rawStep n (rawF l n w) t := by unfold rawF; rw [List.foldl_append]; rfl
theorem rawF_hit {l : List Tp} {k : Nat} {t : Tp} {n w : Int} (h : l[k]? = some t) (ht : t.has n) : rawF (l.take (k + 1)) n w = ((rawF (l.take k) n w).1 * t.normal, (rawF (l.take k) n w).2 * t.actual) := by rw [take_snoc h, rawF_snoc, rawStep, if_pos ht]
theorem rawF_miss {l : List Tp} {k : Nat} {t : Tp} {n w : Int} (h : l[k]? = some t) (ht : ¬ t.has n) : rawF (l.take (k + 1)) n w = rawF (l.take k) n w := by rw [take_snoc h, rawF_snoc, rawStep, if_neg ht]
theorem raw_bd0 (l : List Tp) (n w : Int) (hw : 0 ≤ w) : (∀ t ∈ l, t.ok) → 0 ≤ (rawF l n w).1 ∧ (rawF l n w).1 ≤ w * 32 ^ hits l n ∧ 1 ≤ (rawF l n w).2 ∧ (rawF l n w).2 ≤ 32 ^ hits l n := by
 refine snoc_ind (p := fun l => (∀ t ∈ l, t.ok) → 0 ≤ (rawF l n w).1 ∧ (rawF l n w).1 ≤ w * 32 ^ hits l n ∧ 1 ≤ (rawF l n w).2 ∧ (rawF l n w).2 ≤ 32 ^ hits l n) (fun _ => by simp [rawF, hits]; omega) (fun l t ih hl => ?_) l
 obtain ⟨h1, h2, h3, h4⟩ := ih (fun t ht => hl t (List.mem_append_left _ ht))
 obtain ⟨_, _, _, _, q1, q2, q3, q4⟩ := hl t (List.mem_append_right _ (List.mem_singleton.2 rfl))
 rw [rawF_snoc, hits_snoc, rawStep]
 by_cases h : t.has n
 ·rw [if_pos h, if_pos h, Int.pow_succ, ← Int.mul_assoc]
  exact ⟨Int.mul_nonneg h1 (by omega), Int.mul_le_mul h2 q4 (by omega) (by omega), Int.le_trans h3 (le_mul1 (by omega) q1), Int.mul_le_mul h4 q2 (by omega) (by omega)⟩
 ·rw [if_neg h, if_neg h]; exact ⟨h1, h2, h3, h4⟩
theorem pow_3 {k : Nat} (h : k ≤ 3) : (32 : Int) ^ k ≤ 32768 := by
 match k, h with
 | 0, _ => decide
 | 1, _ => decide
 | 2, _ => decide
 | 3, _ => decide
 | k + 4, h => omega
theorem raw_bd {l : List Tp} {n w : Int} (hw : 0 ≤ w) (hw2 : w ≤ 7741440) (hl : ∀ t ∈ l, t.ok) (h : hits l n ≤ 3) : 0 ≤ (rawF l n w).1 ∧ (rawF l n w).1 ≤ 253671505920 ∧ 1 ≤ (rawF l n w).2 ∧ (rawF l n w).2 ≤ 32768 := by
 obtain ⟨h1, h2, h3, h4⟩ := raw_bd0 l n w hw hl
 have e := pow_3 h
 have e2 : w * 32 ^ hits l n ≤ 7741440 * 32768 := Int.mul_le_mul hw2 e (by omega) (by omega)
 omega
theorem raw_red (l : List Tp) (n w : Int) : (∀ t ∈ l, t.ok) → ∃ g : Int, 0 < g ∧ rawF l n w = (w * (prodF l n).1 * g, (prodF l n).2 * g) := by
 refine snoc_ind (p := fun l => (∀ t ∈ l, t.ok) → ∃ g : Int, 0 < g ∧ rawF l n w = (w * (prodF l n).1 * g, (prodF l n).2 * g)) (fun _ => ⟨1, by decide, by simp [rawF, prodF]⟩) (fun l t ih hl => ?_) l
 have hl' : ∀ t ∈ l, t.ok := fun t ht => hl t (List.mem_append_left _ ht)
 obtain ⟨g, hg, e⟩ := ih hl'
 obtain ⟨_, _, _, _, q1, q2, q3, q4⟩ := hl t (List.mem_append_right _ (List.mem_singleton.2 rfl))
 rw [rawF_snoc, prodF_snoc, rawStep, prodStep]
 by_cases h : t.has n
 ·rw [if_pos h, if_pos h, e]
  have hb := prodF_bd0 l n hl'
  have e1 : 1 ≤ (prodF l n).1 * t.normal := Int.le_trans hb.1 (le_mul1 (by omega) q3)
  have e2 : 1 ≤ (prodF l n).2 * t.actual := Int.le_trans hb.2.2.1 (le_mul1 (by omega) q1)
  have hd := (div_gcd_bd e1 e2).2.2.1
  have d1 := Int.mul_ediv_cancel' (Int.gcd_dvd_left ((prodF l n).1 * t.normal) ((prodF l n).2 * t.actual))
  have d2 := Int.mul_ediv_cancel' (Int.gcd_dvd_right ((prodF l n).1 * t.normal) ((prodF l n).2 * t.actual))
  generalize (Int.gcd ((prodF l n).1 * t.normal) ((prodF l n).2 * t.actual) : Int) = d at *
  refine ⟨g * d, Int.mul_pos hg (by omega), ?_⟩
  have f1 : w * ((prodF l n).1 * t.normal / d) * (g * d) = w * g * (d * ((prodF l n).1 * t.normal / d)) := by ac_rfl
  have f2 : ((prodF l n).2 * t.actual / d) * (g * d) = g * (d * ((prodF l n).2 * t.actual / d)) := by ac_rfl
  refine Prod.ext ?_ ?_
  ·show w * (prodF l n).1 * g * t.normal = w * ((prodF l n).1 * t.normal / d) * (g * d)
   rw [f1, d1]; ac_rfl
  ·show (prodF l n).2 * g * t.actual = ((prodF l n).2 * t.actual / d) * (g * d)
   rw [f2, d2]; ac_rfl
 ·rw [if_neg h, if_neg h]; exact ⟨g, hg, e⟩
theorem raw_div {l : List Tp} {n w : Int} (hl : ∀ t ∈ l, t.ok) : (rawF l n w).1 / (rawF l n w).2 = w * (prodF l n).1 / (prodF l n).2 ∧ ((rawF l n w).1 % (rawF l n w).2 = 0 ↔ w * (prodF l n).1 % (prodF l n).2 = 0) := by
 obtain ⟨g, hg, e⟩ := raw_red l n w hl
 rw [e]
 refine ⟨Int.mul_ediv_mul_of_pos_left _ _ hg, ?_⟩
 show w * (prodF l n).1 * g % ((prodF l n).2 * g) = 0 ↔ _
 rw [← Int.dvd_iff_emod_eq_zero, ← Int.dvd_iff_emod_eq_zero]
 exact Int.mul_dvd_mul_iff_right (by omega)
set_option maxRecDepth 20000 in
set_option maxHeartbeats 8000000 in
theorem rScale_xc (l : List Tp) (f : Nat) (n w : Int) (hf : f ≤ l.length) (hl : ∀ t ∈ l.drop f, t.ok) (hh : hits (l.drop f) n ≤ 3) (hw : 0 ≤ w) (hw2 : w ≤ 7741440) (hlen : l.length ≤ 16) : XC Tryz.prog 113 [.sl 4 (l.map Tp.c), .v (.int .i64 (f : Nat)), .v (.int .i64 n), .v (.int .i64 w)] (fun r => r = .tup [dI (w * (prodF (l.drop f) n).1 / (prodF (l.drop f) n).2), dB (decide (w * (prodF (l.drop f) n).1 % (prodF (l.drop f) n).2 = 0))]) := by
 have hdl : (l.drop f).length = l.length - f := List.length_drop
 refine xc_body callable_113 Tryz.func113 rfl rfl (Nat.le_of_ble_eq_true rfl) ?_
 refine zr ?_
 refine za rfl rfl ?_
 refine za rfl rfl ?_
 refine znr ?_
 refine zm rfl rfl ?_
 refine za rfl rfl ?_
 refine za rfl rfl ?_
 refine zn ?_
 refine zs ?_
 refine zr ?_
 refine zm rfl rfl ?_
 refine za rfl rfl ?_
 refine zn ?_
 refine xw_block ?_
 refine xw_loop (α := Nat) (fun j => j ≤ (l.drop f).length) (fun j => mkF [(0, .d (.sl 4 (l.map Tp.c))), (2, .d (dI n)), (8, .d (dI 0)), (9, .d (dB false)), (10, .d (dI (rawF ((l.drop f).take j) n w).1)), (11, .d (dI (rawF ((l.drop f).take j) n w).2)), (12, .d (dI (f + j : Nat)))]) (fun j => mkH []) (fun j => (l.drop f).length - j) (0) (Nat.zero_le _) ?_ ?_ ?_
 exact fz ⟨sr, sr, sr, sr, sr, sr, sr, trivial⟩
 exact HSub.nil
 intro j hk0
 refine zs ?_
 refine zr ?_
 refine zm rfl rfl ?_
 refine zm rfl rfl ?_
 refine XL.len rfl rfl rfl Tryz.underlying98 (fun hl17 => ?_)
 refine zp (p_lss rfl rfl rfl) ?_
 refine zn ?_
 refine zd rfl (fun c18 => ?_) (fun c18 => ?_)
 have hjl : j < (l.drop f).length := by omega
 obtain ⟨y, hy⟩ := get_ex hjl
 have hly : l[f + j]? = some y := by rw [← List.getElem?_drop]; exact hy
 have hok : y.ok := hl y (List.mem_of_getElem? hy)
 have hb := raw_bd (n := n) hw hw2 (ok_take hl (j + 1)) (Nat.le_trans (hits_take _ (j + 1) n) hh)
 refine zi ?_
 refine zs ?_
 refine xw_block ?_
 refine zr ?_
 refine zm rfl rfl ?_
 refine zm rfl rfl ?_
 refine zp (p_idx_map rfl rfl rfl el_98 (hly)) ?_
 refine zp (pure_eq (s' := .d (.agg (Tp.c y))) (p_load_pts rfl rfl agg_135 (Nat.le_of_ble_eq_true rfl)) (by kernel_rfl)) ?_
 refine zm rfl rfl ?_
 refine XL.call1 rfl rfl (rIn_xc _ _ (by assumption)) rfl ?_
 refine zn ?_
 refine zd rfl (fun c26 => ?_) (fun c26 => ?_)
 rw [rawF_hit hy c26] at hb
 simp only at hb
 refine xw_any [] (by kernel_rfl) (by kernel_rfl) (by kernel_rfl) (by decide) ?_
 refine ym rfl rfl ?_
 refine ym rfl rfl ?_
 refine ym rfl rfl ?_
 refine yp (p_idx_map rfl rfl rfl el_98 (hly)) ?_
 refine yp (p_fld_pt rfl rfl fld_135_3) ?_
 refine yp (p_load_pt rfl rfl sc_3) ?_
 refine yp (p_mul rfl rfl rfl (by omega) (by omega)) ?_
 refine ym rfl rfl ?_
 refine ym rfl rfl ?_
 refine ym rfl rfl ?_
 refine yp (p_idx_map rfl rfl rfl el_98 (hly)) ?_
 refine yp (p_fld_pt rfl rfl fld_135_2) ?_
 refine yp (p_load_pt rfl rfl sc_3) ?_
 refine yp (p_mul rfl rfl rfl (by omega) (by omega)) ?_
 refine ya rfl rfl ?_
 refine ya rfl rfl ?_
 refine ChK.nil ⟨by kernel_rfl, ?_⟩
 refine xw_region (by kernel_rfl) ?_
 refine zm rfl rfl ?_
 refine zp (p_add rfl rfl rfl (by omega) (by omega)) ?_
 refine za rfl rfl ?_
 refine zn ?_
 exact k_round (j + 1) (by omega) (by omega) (fz ⟨sr, sr, sr, sr, .same (sI (by rw [rawF_hit hy c26])), .same (sI (by rw [rawF_hit hy c26])), .same (sI (by omega)), trivial⟩) (HSub.nil)
 refine zi ?_
 refine xw_region (by kernel_rfl) ?_
 refine zm rfl rfl ?_
 refine zp (p_add rfl rfl rfl (by omega) (by omega)) ?_
 refine za rfl rfl ?_
 refine zn ?_
 exact k_round (j + 1) (by omega) (by omega) (fz ⟨sr, sr, sr, sr, .same (sI (by rw [rawF_miss hy c26])), .same (sI (by rw [rawF_miss hy c26])), .same (sI (by omega)), trivial⟩) (HSub.nil)
 have ht : (l.drop f).take j = l.drop f := List.take_of_length_le (by omega)
 rw [ht]
 have hb := raw_bd (n := n) hw hw2 hl hh
 have hd := raw_div (n := n) (w := w) hl
 refine xw_exit ?_
 refine zs ?_
 refine xw_any [] (by kernel_rfl) (by kernel_rfl) (by kernel_rfl) (by decide) ?_
 refine ym rfl rfl ?_
 refine ym rfl rfl ?_
 refine yp (p_quo rfl rfl rfl (by omega) (by omega) (by omega)) ?_
 refine ym rfl rfl ?_
 refine ym rfl rfl ?_
 refine yp (p_rem rfl rfl rfl (by omega) (by omega)) ?_
 refine yp (p_eql rfl rfl rfl) ?_
 refine ya rfl rfl ?_
 refine ya rfl rfl ?_
 refine ChK.nil ⟨by kernel_rfl, ?_⟩
 refine zt ?_
 exact ret2 rfl (RV.tmp rfl rfl) (RV.tmp rfl rfl) (r2 (rI hd.1) (rB (by rw [decide_eq_decide]; exact hd.2)))
theorem rScale0_xc (l : List Tp) (n w : Int) (hl : ∀ t ∈ l, t.ok) (hh : hits l n ≤ 3) (hw : 0 ≤ w) (hw2 : w ≤ 7741440) (hlen : l.length ≤ 16) : XC Tryz.prog 113 [.sl 4 (l.map Tp.c), dI 0, dI n, dI w] (fun r => r = .tup [dI (w * (prodF l n).1 / (prodF l n).2), dB (decide (w * (prodF l n).1 % (prodF l n).2 = 0))]) := by
 have := rScale_xc l 0 n w (Nat.zero_le _) hl hh hw hw2 hlen
 rw [List.drop_zero] at this; exact this
theorem sE_16 {l : List Tp} {n w : Int} (hw : 0 ≤ w) (hw2 : w ≤ 7741440) (h : ¬ w * (prodF l n).1 % (prodF l n).2 = 0) : scaleE l n w = 16 := (scale_2 (by omega) (by omega) h).2.symm
theorem sE_0 {l : List Tp} {n w : Int} (hw : 0 ≤ w) (hw2 : w ≤ 7741440) (h : ¬ ¬ w * (prodF l n).1 % (prodF l n).2 = 0) : scaleE l n w = 0 ∧ scaleN l n w = w * (prodF l n).1 / (prodF l n).2 := ⟨(scale_3 (by omega) (by omega) h).2.symm, (scale_3 (by omega) (by omega) h).1.symm⟩
set_option maxRecDepth 20000 in
set_option maxHeartbeats 8000000 in
theorem rLengths03_xc (l : List Tp) (ws : List Int) : XC Tryz.prog 73 [.sl 4 (l.map Tp.c), .sl 1 (ints ws)] (fun r => r = .tup [.sl 1 (ints (tlens l ws)), dI (tlenE l ws)]) := by
 refine xc_body callable_73 Tryz.func73 rfl rfl (Nat.le_of_ble_eq_true rfl) ?_
 refine zr ?_
 refine za rfl rfl ?_
 refine za rfl rfl ?_
 refine zn ?_
 refine zs ?_
 refine zr ?_
 refine zm rfl rfl ?_
 refine zm rfl rfl ?_
 refine XL.len rfl rfl rfl Tryz.underlying64 (fun hl13 => ?_)
 refine XL.call1 rfl rfl (rCheck03_xc _ _) rfl ?_
 refine za rfl rfl ?_
 refine znr ?_
 refine zm rfl rfl ?_
 refine zp (p_neq rfl rfl rfl) ?_
 refine zn ?_
 refine zd rfl (fun c16 => ?_) (fun c16 => ?_)
 refine zr ?_
 refine zm rfl rfl ?_
 refine za rfl rfl ?_
 refine za rfl rfl ?_
 refine zn ?_
 refine zt ?_
 exact ret2 rfl (RV.nil (sz := 1) rfl rfl) (RV.tmp rfl rfl) (r2 (rSl (tlen_1 c16).1) (rI (tlen_1 c16).2))
 refine zi ?_
 refine zs ?_
 have hT := tups_of c16
 have hbd := hT.bd
 have hlen := hT.len
 refine xw_region (by kernel_rfl) ?_
 refine za rfl rfl ?_
 refine zn ?_
 refine zs ?_
 refine zr ?_
 refine za rfl rfl ?_
 refine zn ?_
 refine xw_block ?_
 refine xw_ownnil 900 7 3 1 rfl ?_
 refine xw_loop (α := Nat) (fun k => k ≤ ws.length ∧ scGo l k (ws.drop k) = scGo l 0 ws) (fun k => mkF [(0, .d (.sl 4 (l.map Tp.c))), (1, .d (.sl 1 (ints ws))), (7, .own 900), (8, .d (dI k))]) (fun k => mkH [(900, .row 3 1 ((lensGo l 0 (ws.take k)).map iv))]) (fun k => ws.length - k) (0) (⟨Nat.zero_le _, by rw [List.drop_zero]⟩) ?_ ?_ ?_
 exact fz ⟨sr, sr, sr, sr, trivial⟩
 exact gz ⟨rfl, trivial⟩
 intro k hk0
 obtain ⟨hk, hgo⟩ := hk0
 refine zs ?_
 refine zr ?_
 refine zm rfl rfl ?_
 refine zm rfl rfl ?_
 refine XL.len rfl rfl rfl Tryz.underlying64 (fun hl20 => ?_)
 refine zp (p_lss rfl rfl rfl) ?_
 refine zn ?_
 refine zd rfl (fun c21 => ?_) (fun c21 => ?_)
 have hk0a : k < ws.length := by omega
 obtain ⟨x0, hx0⟩ := get_ex hk0a
 have hll : (lensGo l 0 (ws.take k)).length = k := by rw [lensGo_len, List.length_take]; omega
 refine zi ?_
 refine zs ?_
 refine xw_block ?_
 refine zs ?_
 refine zr ?_
 refine zm rfl rfl ?_
 refine zm rfl rfl ?_
 refine zp (p_idx_map rfl rfl rfl el_64 hx0) ?_
 refine zp (p_load_pt rfl rfl sc_3) ?_
 refine zp (p_lss rfl rfl rfl) ?_
 refine zm rfl rfl ?_
 refine XL.dec 29 rfl (fun g29 => ?_) (fun g29 => ?_)
 refine zk 5 rfl ?_
 refine zq rfl rfl rfl ?_
 refine zn ?_
 refine xw_true (by kernel_rfl) rfl ?_
 refine zr ?_
 refine za rfl rfl ?_
 refine za rfl rfl ?_
 refine zn ?_
 refine zt ?_
 exact ret2 rfl (RV.nil (sz := 1) rfl rfl) (RV.tmp rfl rfl) (r2 (rSl (tlen_2 c16 (e := 2) (by rw [← hgo, scGo_hit hx0 (by rw [← (scale_1 (l := l) (n := k) (w := x0) (.inl g29)).2]; decide), ← (scale_1 (l := l) (n := k) (w := x0) (.inl g29)).2]) (by decide)).1) (rI (tlen_2 c16 (e := 2) (by rw [← hgo, scGo_hit hx0 (by rw [← (scale_1 (l := l) (n := k) (w := x0) (.inl g29)).2]; decide), ← (scale_1 (l := l) (n := k) (w := x0) (.inl g29)).2]) (by decide)).2))
 refine zm rfl rfl ?_
 refine zm rfl rfl ?_
 refine zp (p_idx_map rfl rfl rfl el_64 hx0) ?_
 refine zp (p_load_pt rfl rfl sc_3) ?_
 refine zp (p_gtr rfl rfl rfl) ?_
 refine zq rfl rfl rfl ?_
 refine zn ?_
 refine zd rfl (fun c35 => ?_) (fun c35 => ?_)
 refine zr ?_
 refine za rfl rfl ?_
 refine za rfl rfl ?_
 refine zn ?_
 refine zt ?_
 exact ret2 rfl (RV.nil (sz := 1) rfl rfl) (RV.tmp rfl rfl) (r2 (rSl (tlen_2 c16 (e := 2) (by rw [← hgo, scGo_hit hx0 (by rw [← (scale_1 (l := l) (n := k) (w := x0) (.inr c35)).2]; decide), ← (scale_1 (l := l) (n := k) (w := x0) (.inr c35)).2]) (by decide)).1) (rI (tlen_2 c16 (e := 2) (by rw [← hgo, scGo_hit hx0 (by rw [← (scale_1 (l := l) (n := k) (w := x0) (.inr c35)).2]; decide), ← (scale_1 (l := l) (n := k) (w := x0) (.inr c35)).2]) (by decide)).2))
 refine zi ?_
 refine zs ?_
 have hh := hT.hits k
 refine xw_region (by kernel_rfl) ?_
 refine zm rfl rfl ?_
 refine zm rfl rfl ?_
 refine zm rfl rfl ?_
 refine zm rfl rfl ?_
 refine zp (p_idx_map rfl rfl rfl el_64 hx0) ?_
 refine zp (p_load_pt rfl rfl sc_3) ?_
 refine XL.call1 rfl rfl (rScale0_xc l k x0 hT.ok hh (by omega) (by omega) hlen) rfl ?_
 refine zm rfl rfl ?_
 refine zp (p_ext rfl rfl rfl) ?_
 refine zp (p_ext rfl rfl rfl) ?_
 refine za rfl rfl ?_
 refine za rfl rfl ?_
 refine zn ?_
 refine zs ?_
 refine zr ?_
 refine zm rfl rfl ?_
 refine zp (p_not rfl rfl) ?_
 refine zn ?_
 refine xw_cond (by kernel_rfl) rfl (fun c47 => ?_) (fun c47 => ?_)
 have c47 := nd_t c47
 refine zr ?_
 refine za rfl rfl ?_
 refine za rfl rfl ?_
 refine zn ?_
 refine zt ?_
 exact ret2 rfl (RV.nil (sz := 1) rfl rfl) (RV.tmp rfl rfl) (r2 (rSl (tlen_2 c16 (e := 16) (by rw [← hgo, scGo_hit hx0 (by rw [sE_16 (by omega) (by omega) c47]; decide), sE_16 (by omega) (by omega) c47]) (by decide)).1) (rI (tlen_2 c16 (e := 16) (by rw [← hgo, scGo_hit hx0 (by rw [sE_16 (by omega) (by omega) c47]; decide), sE_16 (by omega) (by omega) c47]) (by decide)).2))
 have c47 := nd_f c47
 refine zi ?_
 refine xw_region (by kernel_rfl) ?_
 refine zp (p_move rfl (by conv => lhs; whnf)) ?_
 refine zm rfl rfl ?_
 refine XL.step rfl (st_slice 50 rfl Tryz.underlying64 sz_3 zero_3 rfl rfl (by omega) (by omega)) ?_
 refine XL.step rfl (st_append rfl elt_64 (.own rfl) (Src.own rfl) (by unfold maxLen; simp; omega) (by simp; omega)) ?_
 refine zp (p_assign rfl (by conv => lhs; whnf)) ?_
 refine zn ?_
 refine xw_region (by kernel_rfl) ?_
 refine zm rfl rfl ?_
 refine zp (p_add rfl rfl rfl (by omega) (by omega)) ?_
 refine za rfl rfl ?_
 refine zn ?_
 exact k_round (k + 1) (⟨by omega, by rw [← scGo_next hx0 (by rw [(sE_0 (by omega) (by omega) c47).1]; decide)]; exact hgo⟩) (by omega) (fz ⟨sr, sr, sr, sr, trivial⟩) (gz ⟨sApp (by rw [← (sE_0 (l := l) (n := k) (by omega) (by omega) c47).2]; rfl) (lensGo_take hx0), trivial⟩)
 have hk0b : k = ws.length := by omega
 have hz : scGo l 0 ws = 0 := by rw [← hgo, hk0b, List.drop_length]; rfl
 have ht : ws.take k = ws := by rw [hk0b, List.take_length]
 refine xw_exit ?_
 refine zr ?_
 refine zp (p_move rfl (by conv => lhs; whnf)) ?_
 refine zp (p_assign rfl (by conv => lhs; whnf)) ?_
 refine za rfl rfl ?_
 refine zn ?_
 refine zt ?_
 refine ret_freeze (i := 900) rfl ?_
 exact ret2 rfl (RV.tmp rfl rfl) (RV.tmp rfl rfl) (r2 (rSl (by rw [ht]; exact (tlen_3 c16 hz).1)) (rI (tlen_3 c16 hz).2))
theorem clamp_no {f c e : Nat} (h : ¬ (f ≤ e ∧ e < f + c)) : min (e + 1 - f) c = min (e - f) c := by omega
theorem clamp_yes {f c e : Nat} (h : f ≤ e ∧ e < f + c) : min (e - f) c = e - f ∧ min (e + 1 - f) c = e - f + 1 := by omega
set_option maxRecDepth 20000 in
set_option maxHeartbeats 8000000 in
theorem rUnit_xc (l : List Tp) (i : Nat) (t : Tp) (ws : List Int) (ht : l[i]? = some t) (hT : Tups l ws.length) (hws : ∀ w ∈ ws, 0 ≤ w ∧ w ≤ 7741440) : XC Tryz.prog 98 [.sl 4 (l.map Tp.c), .v (.int .i64 i), .sl 1 (ints ws)] (fun r => r = .tup [dI ((unitT (l.drop (i + 1)) t ws).getD 0), dB (unitT (l.drop (i + 1)) t ws).isSome]) := by
 have hin := hT.inR t (List.mem_of_getElem? ht)
 have hok := hT.ok t (List.mem_of_getElem? ht)
 have hbd := hT.bd
 have hlen := hT.len
 have hil := (List.getElem?_eq_some_iff.1 ht).1
 have hin2 := hin
 simp only [Tp.inR] at hin2
 obtain ⟨f, hf⟩ : ∃ f : Nat, t.first = f := ⟨t.first.toNat, by omega⟩
 obtain ⟨c, hc⟩ : ∃ c : Nat, t.count = c := ⟨t.count.toNat, by omega⟩
 have hf2 : t.first.toNat = f := by omega
 have hc2 : t.count.toNat = c := by omega
 have hsl : (segT t ws).length = c := by rw [segT, List.length_take, List.length_drop]; omega
 have hoks := ok_drop hT.ok (i + 1)
 have hhs : ∀ e, hits (l.drop (i + 1)) e ≤ 3 := fun e => Nat.le_trans (hits_drop _ _ e) (hT.hits e)
 refine xc_body callable_98 Tryz.func98 rfl rfl (Nat.le_of_ble_eq_true rfl) ?_
 refine zr ?_
 refine za rfl rfl ?_
 refine za rfl rfl ?_
 refine znr ?_
 refine za rfl rfl ?_
 refine zn ?_
 refine zs ?_
 refine zr ?_
 refine za rfl rfl ?_
 refine zn ?_
 refine xw_block ?_
 refine xw_loop (α := Nat × Int) (fun p => p.1 ≤ ws.length ∧ unitS (l.drop (i + 1)) (f + min (p.1 - f) c) ((segT t ws).drop (min (p.1 - f) c)) p.2 = unitS (l.drop (i + 1)) f (segT t ws) 0 ∧ 0 ≤ p.2 ∧ p.2 ≤ (p.1 : Int) * 253671505920) (fun p => mkF [(0, .d (.sl 4 (l.map Tp.c))), (1, .d (dI i)), (2, .d (.sl 1 (ints ws))), (8, .d (dI p.2)), (9, .d (dI (p.1 : Nat)))]) (fun p => mkH []) (fun p => ws.length - p.1) ((0, 0)) (⟨Nat.zero_le _, by rw [Nat.zero_sub, Nat.zero_min, List.drop_zero]; rfl, Int.le_refl _, by simp⟩) ?_ ?_ ?_
 exact fz ⟨sr, sr, sr, sr, sr, trivial⟩
 exact HSub.nil
 intro p hk0
 obtain ⟨hk, hgo, hs0, hs1⟩ := hk0
 refine zs ?_
 refine zr ?_
 refine zm rfl rfl ?_
 refine zm rfl rfl ?_
 refine XL.len rfl rfl rfl Tryz.underlying64 (fun hl16 => ?_)
 refine zp (p_lss rfl rfl rfl) ?_
 refine zn ?_
 refine zd rfl (fun c17 => ?_) (fun c17 => ?_)
 have hpl : p.1 < ws.length := by omega
 obtain ⟨w, hw⟩ : ∃ w, ws[p.1]? = some w := get_ex hpl
 have hwb := hws w (List.mem_of_getElem? hw)
 have hh := hhs (p.1 : Nat)
 have hsb := scale_bd (n := ((p.1 : Nat) : Int)) (w := w) hoks hh
 have hdl : (l.drop (i + 1)).length = l.length - (i + 1) := List.length_drop
 refine zi ?_
 refine zs ?_
 refine xw_block ?_
 refine zs ?_
 refine zr ?_
 refine zm rfl rfl ?_
 refine zm rfl rfl ?_
 refine zp (p_idx_map rfl rfl rfl el_98 (ht)) ?_
 refine zp (pure_eq (s' := .d (.agg (Tp.c t))) (p_load_pts rfl rfl agg_135 (Nat.le_of_ble_eq_true rfl)) (by kernel_rfl)) ?_
 refine zm rfl rfl ?_
 refine XL.call1 rfl rfl (rIn_xc _ _ (by assumption)) rfl ?_
 refine zp (p_notdec rfl rfl) ?_
 refine zn ?_
 refine zd rfl (fun c26 => ?_) (fun c26 => ?_)
 refine xw_exit ?_
 refine xw_region (by kernel_rfl) ?_
 refine zm rfl rfl ?_
 refine zp (p_add rfl rfl rfl (by omega) (by omega)) ?_
 refine za rfl rfl ?_
 refine zn ?_
 exact k_round ((p.1 + 1, p.2)) (⟨by simp only; omega, by rw [clamp_no (fun h => c26 (by unfold Tp.has; omega))]; exact hgo, hs0, by simp only; omega⟩) (by simp only; omega) (fz ⟨sr, sr, sr, sr, sr, trivial⟩) (HSub.nil)
 refine zi ?_
 refine zs ?_
 have hhas : f ≤ p.1 ∧ p.1 < f + c := by have := Decidable.not_not.1 c26; unfold Tp.has at this; omega
 refine xw_region (by kernel_rfl) ?_
 refine zm rfl rfl ?_
 refine zm rfl rfl ?_
 refine zp (pure_eq (s' := .d (dI (i + 1 : Nat))) (p_add rfl rfl rfl (by omega) (by omega)) (sI (by omega))) ?_
 refine zm rfl rfl ?_
 refine zm rfl rfl ?_
 refine zm rfl rfl ?_
 refine zp (p_idx_map rfl rfl rfl el_64 (hw)) ?_
 refine zp (p_load_pt rfl rfl sc_3) ?_
 refine XL.call1 rfl rfl (rScale_xc l (i + 1) (p.1 : Nat) w (by omega) hoks hh hwb.1 hwb.2 hlen) rfl ?_
 refine zm rfl rfl ?_
 refine zp (p_ext rfl rfl rfl) ?_
 refine zp (p_ext rfl rfl rfl) ?_
 refine za rfl rfl ?_
 refine za rfl rfl ?_
 refine zn ?_
 refine zs ?_
 refine zr ?_
 refine zm rfl rfl ?_
 refine zp (p_not rfl rfl) ?_
 refine zn ?_
 refine xw_cond (by kernel_rfl) rfl (fun c40 => ?_) (fun c40 => ?_)
 have c40 := nd_t c40
 refine zr ?_
 refine za rfl rfl ?_
 refine za rfl rfl ?_
 refine zn ?_
 refine zt ?_
 exact ret2 rfl (RV.tmp rfl rfl) (RV.tmp rfl rfl) (opt_none (unitT_none (by rw [hf2, ← hgo, (clamp_yes hhas).1, show f + (p.1 - f) = p.1 by omega]; exact unitS_none (w := w) (by rw [seg_get (by omega), hf2, show f + (p.1 - f) = p.1 by omega]; exact hw) (by rw [sE_16 hwb.1 hwb.2 c40]; decide))))
 have c40 := nd_f c40
 have hE0 := sE_0 hwb.1 hwb.2 c40
 refine zi ?_
 refine xw_region (by kernel_rfl) ?_
 refine zm rfl rfl ?_
 refine zm rfl rfl ?_
 refine zp (pure_eq (s' := .d (dI (p.2 + w * (prodF (l.drop (i + 1)) (p.1 : Nat)).1 / (prodF (l.drop (i + 1)) (p.1 : Nat)).2))) (p_add rfl rfl rfl (by rw [hE0.2] at hsb; omega) (by rw [hE0.2] at hsb; omega)) (sI (rfl))) ?_
 refine za rfl rfl ?_
 refine zn ?_
 refine xw_region (by kernel_rfl) ?_
 refine zm rfl rfl ?_
 refine zp (p_add rfl rfl rfl (by omega) (by omega)) ?_
 refine za rfl rfl ?_
 refine zn ?_
 have hfe : f + (p.1 - f) = p.1 := by omega
 have hsw : (segT t ws)[p.1 - f]? = some w := by rw [seg_get (by omega), hf2, hfe]; exact hw
 have hnext : unitS (l.drop (i + 1)) (f + min (p.1 + 1 - f) c) ((segT t ws).drop (min (p.1 + 1 - f) c)) (p.2 + scaleN (l.drop (i + 1)) (p.1 : Nat) w) = unitS (l.drop (i + 1)) f (segT t ws) 0 := by rw [(clamp_yes hhas).1, hfe] at hgo; rw [(clamp_yes hhas).2, ← hgo, unitS_next hsw (by rw [hE0.1]; decide), show f + (p.1 - f + 1) = p.1 + 1 by omega]
 exact k_round ((p.1 + 1, p.2 + scaleN (l.drop (i + 1)) (p.1 : Nat) w)) (⟨by simp only; omega, hnext, by simp only; omega, by simp only; omega⟩) (by simp only; omega) (fz ⟨sr, sr, sr, .same (sI (by rw [hE0.2])), sr, trivial⟩) (HSub.nil)
 have hu : unitS (l.drop (i + 1)) t.first.toNat (segT t ws) 0 = some p.2 := by rw [hf2, ← hgo]; exact unitS_end (by omega)
 have hkb : p.2 ≤ 128 * 253671505920 := by omega
 refine xw_exit ?_
 refine zr ?_
 refine za rfl rfl ?_
 refine zn ?_
 refine zs ?_
 refine zr ?_
 refine za rfl rfl ?_
 refine zn ?_
 refine xw_block ?_
 refine xw_loop (α := Nat) (fun k => k ≤ 10 ∧ ∀ j, j < k → ¬ p.2 = t.actual * (3870720 / 2 ^ j)) (fun k => mkF [(0, .d (.sl 4 (l.map Tp.c))), (1, .d (dI i)), (8, .d (dI p.2)), (12, .d (dI (halves k))), (13, .d (dI ((k : Int) - 1)))]) (fun k => mkH []) (fun k => 10 - k) (0) (⟨Nat.zero_le _, fun j hj => absurd hj (Nat.not_lt_zero _)⟩) ?_ ?_ ?_
 exact fz ⟨sr, sr, sr, .same (sI (by decide)), .same (sI (by decide)), trivial⟩
 exact HSub.nil
 intro k hk2
 obtain ⟨hk, hno⟩ := hk2
 have hsh := halves_bd k
 refine zs ?_
 refine zr ?_
 refine zm rfl rfl ?_
 refine zp (p_leq rfl rfl rfl) ?_
 refine zn ?_
 refine zd rfl (fun c45 => ?_) (fun c45 => ?_)
 have hml1 : 0 ≤ halves k * t.actual := Int.mul_nonneg hsh.1 (by omega)
 have hml2 : halves k * t.actual ≤ 3870720 * 32 := Int.mul_le_mul hsh.2 (by omega) (by omega) (by omega)
 refine zi ?_
 refine zs ?_
 refine xw_block ?_
 refine zs ?_
 refine zr ?_
 refine zm rfl rfl ?_
 refine zm rfl rfl ?_
 refine zm rfl rfl ?_
 refine zm rfl rfl ?_
 refine zp (p_idx_map rfl rfl rfl el_98 (ht)) ?_
 refine zp (p_fld_pt rfl rfl fld_135_2) ?_
 refine zp (p_load_pt rfl rfl sc_3) ?_
 refine zp (p_mul rfl rfl rfl (by omega) (by omega)) ?_
 refine zp (p_eql rfl rfl rfl) ?_
 refine zn ?_
 refine zd rfl (fun c56 => ?_) (fun c56 => ?_)
 refine zr ?_
 refine zm rfl rfl ?_
 refine za rfl rfl ?_
 refine za rfl rfl ?_
 refine zn ?_
 refine zt ?_
 exact ret2 rfl (RV.tmp rfl rfl) (RV.tmp rfl rfl) (opt_some (by rw [unitT_some hu]; exact logF_at (by omega) (by rw [Int.mul_comm]; exact c56) hno))
 refine zi ?_
 refine xw_region (by kernel_rfl) ?_
 refine zm rfl rfl ?_
 refine zp (p_quo rfl rfl rfl (by omega) (by omega) (by omega)) ?_
 refine za rfl rfl ?_
 refine zn ?_
 refine xw_region (by kernel_rfl) ?_
 refine zm rfl rfl ?_
 refine zp (p_add rfl rfl rfl (by omega) (by omega)) ?_
 refine za rfl rfl ?_
 refine zn ?_
 exact k_round (k + 1) (⟨by omega, fun j hj => by by_cases e : j = k; (· subst e; rw [Int.mul_comm]; exact c56); (· exact hno j (by omega))⟩) (by omega) (fz ⟨sr, sr, sr, .same (sI (halves_succ k)), .same (sI (by omega)), trivial⟩) (HSub.nil)
 have hke : k = 10 := by omega
 have hnone : logF t.actual p.2 = none := logF_none (fun j hj => hno j (by omega))
 refine xw_exit ?_
 refine zr ?_
 refine za rfl rfl ?_
 refine za rfl rfl ?_
 refine zn ?_
 refine zt ?_
 exact ret2 rfl (RV.tmp rfl rfl) (RV.tmp rfl rfl) (opt_none (by rw [unitT_some hu]; exact hnone))
end Go.Proofs.YtcihalbakenleaaGreat
namespace Go.Proofs.YtcihalbakenleaaGreat
open Go.RowKit
set_option maxRecDepth 20000 in
theorem rtups_xc (l : List Tp) (h : l.length ≤ 1000) : XC Tryz.prog 55 [.sl 4 (l.map Tp.c)] (fun r => r = .sl 4 (l.map Tp.c)) := by
 refine xc_body callable_55 Tryz.func55 rfl rfl (Nat.le_of_ble_eq_true rfl) ?_
 refine zr ?_
 refine za rfl rfl ?_
 refine znr ?_
 refine za rfl rfl ?_
 refine zn ?_
 refine zs ?_
 refine zr ?_
 refine za rfl rfl ?_
 refine zn ?_
 refine xw_block ?_
 refine xw_ownnil 900 3 135 4 rfl ?_
 refine xw_loop (α := Nat) (fun k => k ≤ l.length) (fun k => mkF [(0, .d (.sl 4 (l.map Tp.c))), (2, .d (.v (.slice none 0 0))), (3, .own 900), (4, .d (dI k))]) (fun k => mkH [(900, .row 135 4 ((l.take k).map Tp.c))]) (fun k => l.length - k) (0) (Nat.zero_le _) ?_ ?_ ?_
 exact fz ⟨sr, sr, sr, sr, trivial⟩
 exact gz ⟨rfl, trivial⟩
 intro k hk0
 refine zs ?_
 refine zr ?_
 refine zm rfl rfl ?_
 refine zm rfl rfl ?_
 refine XL.len rfl rfl rfl Tryz.underlying23 (fun hl7 => ?_)
 refine zp (p_lss rfl rfl rfl) ?_
 refine zn ?_
 refine zd rfl (fun c8 => ?_) (fun c8 => ?_)
 have hk0a : k < l.length := by omega
 obtain ⟨x0, hx0⟩ := get_ex hk0a
 have htl : (l.take k).length = k := by rw [List.length_take]; omega
 refine zi ?_
 refine zs ?_
 refine xw_block ?_
 refine xw_anyP 23 [] (by kernel_rfl) (by kernel_rfl) (by kernel_rfl) (by kernel_rfl) (by decide) ?_
 refine yp (p_move rfl (by conv => lhs; whnf)) ?_
 refine ym rfl rfl ?_
 refine ym rfl rfl ?_
 refine yp (p_idx_map rfl rfl rfl el_23 hx0) ?_
 refine yp (p_fld_pt rfl rfl fld_102_0) ?_
 refine yp (p_load_pt rfl rfl sc_3) ?_
 refine ym rfl rfl ?_
 refine ym rfl rfl ?_
 refine yp (p_idx_map rfl rfl rfl el_23 hx0) ?_
 refine yp (p_fld_pt rfl rfl fld_102_1) ?_
 refine yp (p_load_pt rfl rfl sc_3) ?_
 refine ym rfl rfl ?_
 refine ym rfl rfl ?_
 refine yp (p_idx_map rfl rfl rfl el_23 hx0) ?_
 refine yp (p_fld_pt rfl rfl fld_102_2) ?_
 refine yp (p_load_pt rfl rfl sc_3) ?_
 refine ym rfl rfl ?_
 refine ym rfl rfl ?_
 refine yp (p_idx_map rfl rfl rfl el_23 hx0) ?_
 refine yp (p_fld_pt rfl rfl fld_102_3) ?_
 refine yp (p_load_pt rfl rfl sc_3) ?_
 refine yp (pure_eq (s' := .d (.agg [dI x0.first, dI x0.count, dI x0.actual, dI x0.normal])) (norm_pure (p_build rfl str_135 zero_135 rfl)) (by kernel_rfl)) ?_
 refine ChK.cons rfl (CStep.slice rfl Tryz.underlying98 sz_135 zero_135 rfl rfl (by omega) (by omega)) ?_
 refine ChK.nil ⟨by kernel_rfl, ?_⟩
 refine XL.step rfl (st_append rfl elt_98 (.own rfl) (Src.sl (by omega)) (by unfold maxLen; simp; omega) (by simp; omega)) ?_
 refine zp (p_assign rfl (by conv => lhs; whnf)) ?_
 refine zn ?_
 refine xw_region (by kernel_rfl) ?_
 refine zm rfl rfl ?_
 refine zp (p_add rfl rfl rfl (by omega) (by omega)) ?_
 refine za rfl rfl ?_
 refine zn ?_
 exact k_round (k + 1) (by omega) (by omega) (fz ⟨sr, sr, sr, sr, trivial⟩) (gz ⟨sApp rfl (take_snoc hx0), trivial⟩)
 have hk0b : k = l.length := by omega
 have ht : l.take k = l := by rw [hk0b, List.take_length]
 refine xw_exit ?_
 refine zr ?_
 refine zp (p_move rfl (by conv => lhs; whnf)) ?_
 refine zp (p_assign rfl (by conv => lhs; whnf)) ?_
 refine zn ?_
 refine zt ?_
 refine ret_freeze (i := 900) rfl ?_
 exact z1 rfl rfl (rSl (by rw [ht]))
set_option maxRecDepth 20000 in
theorem rwritten_xc (l : List Ev) (hv : ∀ e ∈ l, e.err = 0 ∧ e.kind ≠ 3) (h : l.length ≤ 1000) : XC Tryz.prog 74 [.sl 13 (l.map Ev.c)] (fun r => r = .sl 1 (ints (wrS l))) := by
 refine xc_body callable_74 Tryz.func74 rfl rfl (Nat.le_of_ble_eq_true rfl) ?_
 refine zr ?_
 refine za rfl rfl ?_
 refine znr ?_
 refine za rfl rfl ?_
 refine zn ?_
 refine zs ?_
 refine zr ?_
 refine za rfl rfl ?_
 refine zn ?_
 refine xw_block ?_
 refine xw_ownnil 900 3 3 1 rfl ?_
 refine xw_loop (α := Nat) (fun k => k ≤ l.length) (fun k => mkF [(0, .d (.sl 13 (l.map Ev.c))), (2, .d (.v (.slice none 0 0))), (3, .own 900), (4, .d (dI k))]) (fun k => mkH [(900, .row 3 1 ((wrS (l.take k)).map iv))]) (fun k => l.length - k) (0) (Nat.zero_le _) ?_ ?_ ?_
 exact fz ⟨sr, sr, sr, sr, trivial⟩
 exact gz ⟨rfl, trivial⟩
 intro k hk0
 refine zs ?_
 refine zr ?_
 refine zm rfl rfl ?_
 refine zm rfl rfl ?_
 refine XL.len rfl rfl rfl Tryz.underlying22 (fun hl7 => ?_)
 refine zp (p_lss rfl rfl rfl) ?_
 refine zn ?_
 refine zd rfl (fun c8 => ?_) (fun c8 => ?_)
 have hk0a : k < l.length := by omega
 obtain ⟨x0, hx0⟩ := get_ex hk0a
 have htl : (wrS (l.take k)).length = k := by rw [wrS_len, List.length_take]; omega
 have hxv := hv x0 (List.mem_of_getElem? hx0)
 have hval := (err_iff.1 hxv.1).2.2.2.1 hxv.2
 refine zi ?_
 refine zs ?_
 refine xw_block ?_
 refine xw_region (by kernel_rfl) ?_
 refine zp (p_move rfl (by conv => lhs; whnf)) ?_
 refine zm rfl rfl ?_
 refine zm rfl rfl ?_
 refine zp (p_idx_map rfl rfl rfl el_22 hx0) ?_
 refine zp (p_fld_pt rfl rfl fld_60_2) ?_
 refine zp (pure_eq (s' := .d (.agg (Val.c x0.v))) (p_load_pts rfl rfl agg_56 (Nat.le_of_ble_eq_true rfl)) (by kernel_rfl)) ?_
 refine XL.call1 rfl rfl (rticks_xc _ (by assumption)) rfl ?_
 refine XL.step rfl (st_slice 18 rfl Tryz.underlying64 sz_3 zero_3 rfl rfl (by omega) (by omega)) ?_
 refine XL.step rfl (st_append rfl elt_64 (.own rfl) (Src.own rfl) (by unfold maxLen; simp; omega) (by simp; omega)) ?_
 refine zp (p_assign rfl (by conv => lhs; whnf)) ?_
 refine zn ?_
 refine xw_region (by kernel_rfl) ?_
 refine zm rfl rfl ?_
 refine zp (p_add rfl rfl rfl (by omega) (by omega)) ?_
 refine za rfl rfl ?_
 refine zn ?_
 exact k_round (k + 1) (by omega) (by omega) (fz ⟨sr, sr, sr, sr, trivial⟩) (gz ⟨sApp (a := x0.len) (by rw [Ev.len_ok hxv.1 hxv.2]; rfl) (by rw [take_snoc hx0, wrS_app]; rfl), trivial⟩)
 have hk0b : k = l.length := by omega
 have ht : l.take k = l := by rw [hk0b, List.take_length]
 refine xw_exit ?_
 refine zr ?_
 refine zp (p_move rfl (by conv => lhs; whnf)) ?_
 refine zp (p_assign rfl (by conv => lhs; whnf)) ?_
 refine zn ?_
 refine zt ?_
 refine ret_freeze (i := 900) rfl ?_
 exact z1 rfl rfl (rSl (by rw [ht]))
set_option maxRecDepth 20000 in
theorem rsum_xc (l : List Int) (h : Nums l) : XC Tryz.prog 58 [.sl 1 (ints l)] (fun r => r = dI (tot l)) := by
 refine xc_body callable_58 Tryz.func58 rfl rfl (Nat.le_of_ble_eq_true rfl) ?_
 refine zr ?_
 refine za rfl rfl ?_
 refine znr ?_
 refine za rfl rfl ?_
 refine zn ?_
 refine zs ?_
 refine zr ?_
 refine za rfl rfl ?_
 refine zn ?_
 refine xw_block ?_
 refine xw_loop (α := Nat) (fun k => k ≤ l.length) (fun k => mkF [(0, .d (.sl 1 (ints l))), (2, .d (dI 0)), (3, .d (dI (tot (l.take k)))), (4, .d (dI k))]) (fun k => mkH []) (fun k => l.length - k) (0) (Nat.zero_le _) ?_ ?_ ?_
 exact fz ⟨sr, sr, sr, sr, trivial⟩
 exact HSub.nil
 intro k hk0
 refine zs ?_
 refine zr ?_
 refine zm rfl rfl ?_
 refine zm rfl rfl ?_
 refine XL.len rfl rfl rfl Tryz.underlying64 (fun hl7 => ?_)
 refine zp (p_lss rfl rfl rfl) ?_
 refine zn ?_
 refine zd rfl (fun c8 => ?_) (fun c8 => ?_)
 have hk0a : k < l.length := by omega
 obtain ⟨x0, hx0⟩ := get_ex hk0a
 have h1 := (h.take k).tot
 have h2 := h.bd x0 (List.mem_of_getElem? hx0)
 refine zi ?_
 refine zs ?_
 refine xw_block ?_
 refine xw_region (by kernel_rfl) ?_
 refine zm rfl rfl ?_
 refine zm rfl rfl ?_
 refine zm rfl rfl ?_
 refine zp (p_idx_map rfl rfl rfl el_64 hx0) ?_
 refine zp (p_load_pt rfl rfl sc_3) ?_
 refine zp (p_add rfl rfl rfl (by omega) (by omega)) ?_
 refine za rfl rfl ?_
 refine zn ?_
 refine xw_region (by kernel_rfl) ?_
 refine zm rfl rfl ?_
 refine zp (p_add rfl rfl rfl (by omega) (by omega)) ?_
 refine za rfl rfl ?_
 refine zn ?_
 exact k_round (k + 1) (by omega) (by omega) (fz ⟨sr, sr, .same (sI (by rw [take_snoc hx0, tot_snoc])), sr, trivial⟩) (HSub.nil)
 have hk0b : k = l.length := by omega
 have ht : l.take k = l := by rw [hk0b, List.take_length]
 refine xw_exit ?_
 refine zr ?_
 refine zm rfl rfl ?_
 refine za rfl rfl ?_
 refine zn ?_
 refine zt ?_
 exact z1 rfl rfl (rI (by rw [ht]))
set_option maxRecDepth 20000 in
theorem rfull_xc (v : Vo) : XC Tryz.prog 72 [.agg (Vo.c v)] (fun r => r = dB (decide v.rest)) := by
 refine xc_body callable_72 Tryz.func72 rfl rfl (Nat.le_of_ble_eq_true rfl) ?_
 refine zr ?_
 refine XL.step rfl (st_boxN 1 (l := [.d (.sl 13 (v.evs.map Ev.c)), .d (.sl 4 (v.tups.map Tp.c))]) rfl rfl (by kernel_rfl)) ?_
 refine za rfl rfl ?_
 refine znr ?_
 refine zp (p_fld_ptr rfl rfl fld_25_0) ?_
 refine zp (p_load_box rfl rfl sc_22 rfl rfl) ?_
 refine XL.len rfl rfl rfl Tryz.underlying22 (fun hl5 => ?_)
 refine zp (p_eql rfl rfl rfl) ?_
 refine zm rfl rfl ?_
 refine XL.dec 7 rfl (fun g7 => ?_) (fun g7 => ?_)
 obtain ⟨e, he⟩ : ∃ e, v.evs[0]? = some e := get_ex (by omega)
 refine zp (p_fld_ptr rfl rfl fld_25_0) ?_
 refine zp (p_load_box rfl rfl sc_22 rfl rfl) ?_
 refine zp (p_idx_map (k := 0) rfl rfl rfl el_22 (he)) ?_
 refine zp (p_fld_pt rfl rfl fld_60_1) ?_
 refine zp (p_load_pt rfl rfl sc_3) ?_
 refine zp (p_eql rfl rfl rfl) ?_
 refine zq rfl rfl rfl ?_
 refine za rfl rfl ?_
 refine zn ?_
 refine zt ?_
 exact z1 rfl rfl (rB (by rw [decide_eq_decide]; exact ⟨fun h => ⟨(whole_at he).2 h, by omega⟩, fun h => (whole_at he).1 h.1⟩))
 refine zk 6 rfl ?_
 refine zq rfl rfl rfl ?_
 refine za rfl rfl ?_
 refine zn ?_
 refine zt ?_
 exact z1 rfl rfl (rB (by rw [eq_comm, decide_eq_false_iff_not]; exact fun h => g7 (by have := h.2; omega)))
theorem rUnit2_xc (l : List Tp) (i : Nat) (t : Tp) (ws : List Int) (ht : l[i]? = some t) (hT : Tups l ws.length) (hws : ∀ w ∈ ws, 0 ≤ w ∧ w ≤ 7741440) : XC Tryz.prog 98 [.sl 4 (l.map Tp.c), dI i, .sl 1 (ints ws)] (fun r => r = .tup [dI ((unitT (tailT l i) t ws).getD 0), dB (unitT (tailT l i) t ws).isSome]) := by
 have := rUnit_xc l i t ws ht hT hws
 rwa [← tailT_eq] at this
theorem lenE_any {v : Vo} {L : Int} (h : ¬ (L < 1 ∨ 15482880 < L)) : lenE v L = lenE v 1 := by unfold lenE; rw [if_neg h, if_neg (show ¬ ((1 : Int) < 1 ∨ (15482880 : Int) < 1) by decide)]
theorem lenE_rest {v : Vo} (h2 : ¬ 128 < (v.evs.length : Int)) (hr : v.rest) {e : Ev} (he : v.evs[0]? = some e) : lenE v 1 = (if e.err ≠ 0 then e.err else if 0 < v.tups.length then 21 else 0) := len_c (by decide) (by decide) h2 hr.1 (by have := hr.2; omega) he
theorem lenE_in {v : Vo} (h2 : ¬ 128 < (v.evs.length : Int)) (hr : ¬ v.rest) : lenE v 1 = innE v := (len_d (by decide) (by decide) h2 (fun k => hr ⟨k.1, by have := k.2; omega⟩)).2.symm
theorem pt_err {v : Vo} {k : Nat} {e : Ev} (h2 : ¬ 128 < (v.evs.length : Int)) (he : v.evs[k]? = some e) (h : e.err ≠ 0) (hgo : inGo v.evs.length k (v.evs.drop k) = inGo v.evs.length 0 v.evs) : e.err = lenE v 1 := by
 by_cases hr : v.rest
 ·have hk := (List.getElem?_eq_some_iff.1 he).1
  have : k = 0 := by have := hr.2; omega
  subst this
  rw [lenE_rest h2 hr he, if_pos h]
 ·rw [lenE_in h2 hr, ← (inn_1 (v := v) (e := e.err) (by rw [← hgo, inGo_err he h]) h).2]
theorem pt_kind {v : Vo} {k : Nat} {e : Ev} (h2 : ¬ 128 < (v.evs.length : Int)) (he : v.evs[k]? = some e) (h : ¬ e.err ≠ 0) (h3 : e.kind = 3) (h4 : ¬ (v.evs.length : Int) = 1) (hgo : inGo v.evs.length k (v.evs.drop k) = inGo v.evs.length 0 v.evs) : 11 = lenE v 1 := by
 have hk := (List.getElem?_eq_some_iff.1 he).1
 have hr : ¬ v.rest := fun k => h4 (by have := k.2; omega)
 rw [lenE_in h2 hr, ← (inn_1 (v := v) (e := 11) (by rw [← hgo, inGo_kind he h ⟨h3, by omega⟩]) (by decide)).2]
theorem pt_evs {v : Vo} (hz : inGo v.evs.length 0 v.evs = 0) : ∀ e ∈ v.evs, e.err = 0 := fun e he => by
 obtain ⟨j, hj⟩ := List.getElem?_of_mem he
 exact (inGo_zero.1 hz j e hj).1
theorem pt_all {v : Vo} (hz : inGo v.evs.length 0 v.evs = 0) (hr : ¬ v.rest) : ∀ e ∈ v.evs, e.err = 0 ∧ e.kind ≠ 3 := fun e he => by
 obtain ⟨j, hj⟩ := List.getElem?_of_mem he
 have h5 := inGo_zero.1 hz j e hj
 refine ⟨h5.1, fun k => ?_⟩
 have h6 := fun q => h5.2 ⟨k, q⟩
 have hl := (List.getElem?_eq_some_iff.1 hj).1
 have : j = 0 ∧ v.evs.length = 1 := by omega
 rw [this.1] at hj
 exact hr ⟨(whole_at hj).2 k, this.2⟩
theorem pt_rest {v : Vo} (h2 : ¬ 128 < (v.evs.length : Int)) (hz : inGo v.evs.length 0 v.evs = 0) (hr : v.rest) : lenE v 1 = if 0 < v.tups.length then 21 else 0 := by
 obtain ⟨e, he⟩ : ∃ e, v.evs[0]? = some e := get_ex (by rw [hr.2]; omega)
 rw [lenE_rest h2 hr he, if_neg (by rw [pt_evs hz e (List.mem_of_getElem? he)]; decide)]
theorem pt_len {v : Vo} (h2 : ¬ 128 < (v.evs.length : Int)) (hz : inGo v.evs.length 0 v.evs = 0) (hr : ¬ v.rest) (h : tlenE v.tups (wrS v.evs) ≠ 0) : tlenE v.tups (wrS v.evs) = lenE v 1 := by
 rw [lenE_in h2 hr, ← (inn_2 hz h).2]
theorem pt_unit {v : Vo} {k : Nat} {t : Tp} (h2 : ¬ 128 < (v.evs.length : Int)) (hz : inGo v.evs.length 0 v.evs = 0) (hr : ¬ v.rest) (h : ¬ tlenE v.tups (wrS v.evs) ≠ 0) (ht : v.tups[k]? = some t) (hn : (!(unitT (tailT v.tups k) t (wrS v.evs)).isSome) = true) : 21 = lenE v 1 := by
 rw [lenE_in h2 hr, ← (inn_3 hz h (by rw [← (tu_2 h ht hn).2]; decide)).2]
theorem pt_ok {v : Vo} (h2 : ¬ 128 < (v.evs.length : Int)) (hz : inGo v.evs.length 0 v.evs = 0) (hr : ¬ v.rest) (h : ¬ tlenE v.tups (wrS v.evs) ≠ 0) (hn : unitAll v.tups (wrS v.evs)) : 0 = lenE v 1 := by
 rw [lenE_in h2 hr, ← (inn_4 hz h (by rw [← (tu_3 h hn).2]; decide)).2]
set_option maxRecDepth 20000 in
set_option maxHeartbeats 8000000 in
theorem rparts_xc (v : Vo) (hE : Evs v.evs) (ht : v.tups.length ≤ 1000) : XC Tryz.prog 57 [.agg (Vo.c v), .v (.bool true)] (fun r => r = dI (lenE v 1)) := by
 refine xc_body callable_57 Tryz.func57 rfl rfl (Nat.le_of_ble_eq_true rfl) ?_
 refine zr ?_
 refine XL.step rfl (st_boxN 2 (l := [.d (.sl 13 (v.evs.map Ev.c)), .d (.sl 4 (v.tups.map Tp.c))]) rfl rfl (by kernel_rfl)) ?_
 refine za rfl rfl ?_
 refine zn ?_
 refine zs ?_
 refine zr ?_
 refine zp (p_fld_ptr rfl rfl fld_25_0) ?_
 refine zp (p_load_box rfl rfl sc_22 rfl rfl) ?_
 refine XL.len rfl rfl rfl Tryz.underlying22 (fun hl14 => ?_)
 refine zp (p_gtr rfl rfl rfl) ?_
 refine zn ?_
 refine zd rfl (fun c15 => ?_) (fun c15 => ?_)
 refine zr ?_
 refine za rfl rfl ?_
 refine zn ?_
 refine zt ?_
 exact z1 rfl rfl (rI (len_b (v := v) (L := 1) (by decide) (by decide) c15).2)
 refine zi ?_
 refine zs ?_
 refine zr ?_
 refine za rfl rfl ?_
 refine zn ?_
 refine xw_block ?_
 refine xw_loop (α := Nat) (fun k => k ≤ v.evs.length ∧ inGo v.evs.length k (v.evs.drop k) = inGo v.evs.length 0 v.evs) (fun k => mkF [(1, .d (dB true)), (2, .ptr 2 0 0), (5, .d (dI k))]) (fun k => mkH [(2, .box ((Vo.c v).map S.d))]) (fun k => v.evs.length - k) (0) (⟨Nat.zero_le _, by rw [List.drop_zero]⟩) ?_ ?_ ?_
 exact fz ⟨sr, sr, sr, trivial⟩
 exact gz ⟨rfl, trivial⟩
 intro k hk0
 obtain ⟨hk, hgo⟩ := hk0
 refine zs ?_
 refine zr ?_
 refine zm rfl rfl ?_
 refine zp (p_fld_ptr rfl rfl fld_25_0) ?_
 refine zp (p_load_box rfl rfl sc_22 rfl rfl) ?_
 refine XL.len rfl rfl rfl Tryz.underlying22 (fun hl19 => ?_)
 refine zp (p_lss rfl rfl rfl) ?_
 refine zn ?_
 refine zd rfl (fun c20 => ?_) (fun c20 => ?_)
 have hk0a : k < v.evs.length := by omega
 obtain ⟨x0, hx0⟩ := get_ex hk0a
 have he := hE x0 (List.mem_of_getElem? hx0)
 refine zi ?_
 refine zs ?_
 refine xw_block ?_
 refine zs ?_
 refine zr ?_
 refine zp (p_fld_ptr rfl rfl fld_25_0) ?_
 refine zp (p_load_box rfl rfl sc_22 rfl rfl) ?_
 refine zm rfl rfl ?_
 refine zp (p_idx_map rfl rfl rfl el_22 hx0) ?_
 refine zp (pure_eq (s' := .d (.agg (Ev.c x0))) (p_load_pts rfl rfl agg_60 (Nat.le_of_ble_eq_true rfl)) (by kernel_rfl)) ?_
 refine XL.call1 rfl rfl (rcheck11_xc _ (by assumption)) rfl ?_
 refine za rfl rfl ?_
 refine znr ?_
 refine zm rfl rfl ?_
 refine zp (p_neq rfl rfl rfl) ?_
 refine zn ?_
 refine zd rfl (fun c30 => ?_) (fun c30 => ?_)
 refine zr ?_
 refine zm rfl rfl ?_
 refine za rfl rfl ?_
 refine zn ?_
 refine zt ?_
 exact z1 rfl rfl (rI (pt_err c15 hx0 c30 hgo))
 refine zi ?_
 refine zr ?_
 refine zp (p_fld_ptr rfl rfl fld_25_0) ?_
 refine zp (p_load_box rfl rfl sc_22 rfl rfl) ?_
 refine zm rfl rfl ?_
 refine zp (p_idx_map rfl rfl rfl el_22 hx0) ?_
 refine zp (p_fld_pt rfl rfl fld_60_1) ?_
 refine zp (p_load_pt rfl rfl sc_3) ?_
 refine zp (p_eql rfl rfl rfl) ?_
 refine zm rfl rfl ?_
 refine XL.dec 39 rfl (fun g39 => ?_) (fun g39 => ?_)
 refine zm rfl rfl ?_
 refine zm rfl rfl ?_
 refine zp (p_fld_ptr rfl rfl fld_25_0) ?_
 refine zp (p_load_box rfl rfl sc_22 rfl rfl) ?_
 refine XL.len rfl rfl rfl Tryz.underlying22 (fun hl44 => ?_)
 refine zp (p_eql rfl rfl rfl) ?_
 refine zq rfl rfl rfl ?_
 refine zp (p_notdec rfl rfl) ?_
 refine zq rfl rfl rfl ?_
 refine zn ?_
 refine zd rfl (fun c48 => ?_) (fun c48 => ?_)
 refine zr ?_
 refine za rfl rfl ?_
 refine zn ?_
 refine zt ?_
 exact z1 rfl rfl (rI (pt_kind c15 hx0 c30 g39 c48 hgo))
 refine zi ?_
 refine xw_region (by kernel_rfl) ?_
 refine zm rfl rfl ?_
 refine zp (p_add rfl rfl rfl (by omega) (by omega)) ?_
 refine za rfl rfl ?_
 refine zn ?_
 exact k_round (k + 1) (⟨by omega, by rw [← inGo_next hx0 c30 (by omega)]; exact hgo⟩) (by omega) (fz ⟨sr, sr, sr, trivial⟩) (gz ⟨rfl, trivial⟩)
 refine zk 8 rfl ?_
 refine zq rfl rfl rfl ?_
 refine zn ?_
 refine xw_false (by kernel_rfl) rfl ?_
 refine zi ?_
 refine xw_region (by kernel_rfl) ?_
 refine zm rfl rfl ?_
 refine zp (p_add rfl rfl rfl (by omega) (by omega)) ?_
 refine za rfl rfl ?_
 refine zn ?_
 exact k_round (k + 1) (⟨by omega, by rw [← inGo_next hx0 c30 (by omega)]; exact hgo⟩) (by omega) (fz ⟨sr, sr, sr, trivial⟩) (gz ⟨rfl, trivial⟩)
 have hk0b : k = v.evs.length := by omega
 have hz : inGo v.evs.length 0 v.evs = 0 := by rw [← hgo, hk0b, List.drop_length]; rfl
 refine xw_exit ?_
 refine zs ?_
 refine zr ?_
 refine zp (pure_eq (s' := .d (.agg (Vo.c v))) (norm_pure (p_load_boxs rfl rfl agg_25 rfl (Nat.le_of_ble_eq_true rfl))) (by kernel_rfl)) ?_
 refine XL.call1 rfl rfl (rfull_xc _) rfl ?_
 refine zn ?_
 refine zd rfl (fun c50 => ?_) (fun c50 => ?_)
 refine zs ?_
 refine zr ?_
 refine zp (p_fld_ptr rfl rfl fld_25_1) ?_
 refine zp (p_load_box rfl rfl sc_23 rfl rfl) ?_
 refine XL.len rfl rfl rfl Tryz.underlying23 (fun hl53 => ?_)
 refine zp (p_gtr rfl rfl rfl) ?_
 refine zn ?_
 refine zd rfl (fun c54 => ?_) (fun c54 => ?_)
 refine zr ?_
 refine za rfl rfl ?_
 refine zn ?_
 refine zt ?_
 exact z1 rfl rfl (rI (by rw [pt_rest c15 hz c50, if_pos (by omega)]))
 refine zi ?_
 refine zr ?_
 refine za rfl rfl ?_
 refine zn ?_
 refine zt ?_
 exact z1 rfl rfl (rI (by rw [pt_rest c15 hz c50, if_neg (by omega)]))
 refine zi ?_
 refine zs ?_
 refine zs ?_
 have hnr : ¬ v.rest := c50
 have hva := pt_all hz hnr
 refine xw_any [] (by kernel_rfl) (by kernel_rfl) (by kernel_rfl) (by decide) ?_
 refine yp (p_fld_ptr rfl rfl fld_25_1) ?_
 refine yp (p_load_box rfl rfl sc_23 rfl rfl) ?_
 refine ChK.cons rfl (CStep.call rfl (rtups_xc _ (by omega)) rfl) ?_
 refine yp (p_fld_ptr rfl rfl fld_25_0) ?_
 refine yp (p_load_box rfl rfl sc_22 rfl rfl) ?_
 refine ChK.cons rfl (CStep.call rfl (rwritten_xc _ (by assumption) (by omega)) rfl) ?_
 refine ChK.cons rfl (CStep.call rfl (rLengths03_xc _ _) rfl) ?_
 refine ym rfl rfl ?_
 refine yp (p_ext rfl rfl rfl) ?_
 refine yp (p_ext rfl rfl rfl) ?_
 refine ya rfl rfl ?_
 refine ya rfl rfl ?_
 refine ChK.nil ⟨by kernel_rfl, ?_⟩
 refine zr ?_
 refine zm rfl rfl ?_
 refine zp (p_neq rfl rfl rfl) ?_
 refine zn ?_
 refine zd rfl (fun c66 => ?_) (fun c66 => ?_)
 refine zr ?_
 refine zm rfl rfl ?_
 refine za rfl rfl ?_
 refine zn ?_
 refine zt ?_
 exact z1 rfl rfl (rI (pt_len c15 hz c50 c66))
 refine zi ?_
 refine zs ?_
 refine zs ?_
 have hT := tlen_tups c66
 have hws := wr_bd hva
 refine xw_region (by kernel_rfl) ?_
 refine za rfl rfl ?_
 refine zn ?_
 refine xw_block ?_
 refine xw_loop (α := Nat) (fun m => m ≤ v.tups.length ∧ ∀ j, j < m → (unitV v.tups j (wrS v.evs)).isSome = true) (fun m => mkF [(2, .ptr 2 0 0), (9, .d (dI m))]) (fun m => mkH [(2, .box ((Vo.c v).map S.d))]) (fun m => v.tups.length - m) (0) (⟨Nat.zero_le _, fun j hj => absurd hj (Nat.not_lt_zero _)⟩) ?_ ?_ ?_
 exact fz ⟨sr, sr, trivial⟩
 exact gz ⟨rfl, trivial⟩
 intro m hk2
 obtain ⟨hm, hall⟩ := hk2
 refine zs ?_
 refine zr ?_
 refine zm rfl rfl ?_
 refine zp (p_fld_ptr rfl rfl fld_25_1) ?_
 refine zp (p_load_box rfl rfl sc_23 rfl rfl) ?_
 refine XL.len rfl rfl rfl Tryz.underlying23 (fun hl71 => ?_)
 refine zp (p_lss rfl rfl rfl) ?_
 refine zn ?_
 refine zd rfl (fun c72 => ?_) (fun c72 => ?_)
 have hk2a : m < v.tups.length := by omega
 obtain ⟨x2, hx2⟩ := get_ex hk2a
 refine zi ?_
 refine zs ?_
 refine xw_block ?_
 refine zs ?_
 refine xw_any [] (by kernel_rfl) (by kernel_rfl) (by kernel_rfl) (by decide) ?_
 refine yp (p_fld_ptr rfl rfl fld_25_1) ?_
 refine yp (p_load_box rfl rfl sc_23 rfl rfl) ?_
 refine ChK.cons rfl (CStep.call rfl (rtups_xc _ (by omega)) rfl) ?_
 refine ym rfl rfl ?_
 refine yp (p_fld_ptr rfl rfl fld_25_0) ?_
 refine yp (p_load_box rfl rfl sc_22 rfl rfl) ?_
 refine ChK.cons rfl (CStep.call rfl (rwritten_xc _ (by assumption) (by omega)) rfl) ?_
 refine ChK.cons rfl (CStep.call rfl (rUnit2_xc v.tups m x2 (wrS v.evs) hx2 hT hws) rfl) ?_
 refine ym rfl rfl ?_
 refine yp (p_ext rfl rfl rfl) ?_
 refine yp (p_ext rfl rfl rfl) ?_
 refine ya rfl rfl ?_
 refine ya rfl rfl ?_
 refine ChK.nil ⟨by kernel_rfl, ?_⟩
 refine zr ?_
 refine zm rfl rfl ?_
 refine zp (p_not rfl rfl) ?_
 refine zn ?_
 refine xw_cond (by kernel_rfl) rfl (fun c87 => ?_) (fun c87 => ?_)
 refine zr ?_
 refine za rfl rfl ?_
 refine zn ?_
 refine zt ?_
 exact z1 rfl rfl (rI (pt_unit c15 hz c50 c66 hx2 c87))
 refine zi ?_
 refine xw_region (by kernel_rfl) ?_
 refine zm rfl rfl ?_
 refine zp (p_add rfl rfl rfl (by omega) (by omega)) ?_
 refine za rfl rfl ?_
 refine zn ?_
 exact k_round (m + 1) (⟨by omega, fun j hj => by by_cases e : j = m; (· subst e; rw [unitV_at hx2]; exact (by simpa using c87)); (· exact hall j (by omega))⟩) (by omega) (fz ⟨sr, sr, trivial⟩) (gz ⟨rfl, trivial⟩)
 have hk2b : m = v.tups.length := by omega
 have ha : unitAll v.tups (wrS v.evs) := fun j hj => hall j (by omega)
 refine xw_exit ?_
 refine zr ?_
 refine za rfl rfl ?_
 refine zn ?_
 refine zt ?_
 exact z1 rfl rfl (rI (pt_ok c15 hz c50 c66 ha))
theorem lenL_rest {v : Vo} {L : Int} (h : lenE v L = 0) (hr : v.rest) : [L] = lenL v L := by rw [lenL, if_neg (by rw [h]; decide), if_pos (show v.whole ∧ v.evs.length = 1 from hr)]
theorem len_in {v : Vo} (h : lenE v 1 = 0) (hr : ¬ v.rest) : innE v = 0 := by
 have h2 : ¬ 128 < (v.evs.length : Int) := by
  obtain ⟨h5, _⟩ := len_ok h
  omega
 rw [← lenE_in h2 hr]; exact h
theorem lenL_in {v : Vo} {L : Int} (h : lenE v L = 0) (h1 : lenE v 1 = 0) (hr : ¬ v.rest) : tlens v.tups (wrS v.evs) = lenL v L := by
 rw [lenL, if_neg (by rw [h]; decide), if_neg (show ¬ (v.whole ∧ v.evs.length = 1) from hr), innL, if_pos (len_in h1 hr)]
theorem len_evs {v : Vo} (h : lenE v 1 = 0) (hr : ¬ v.rest) : ∀ e ∈ v.evs, e.err = 0 ∧ e.kind ≠ 3 := pt_all (innE_zero.1 (len_in h hr)).1 hr
set_option maxRecDepth 20000 in
theorem rLengths12_xc (v : Vo) (L : Int) (h : lenE v L = 0) (h1 : lenE v 1 = 0) : XC Tryz.prog 32 [.agg (Vo.c v), .v (.int .i64 L)] (fun r => r = .sl 1 (ints (lenL v L))) := by
 have hev := (len_ok h).1
 have htl : v.tups.length ≤ 100 := by (rcases (len_ok h1).2.1 with q | q; (· omega); (· have := (tlen_tups (fun k => k q)).len; omega))
 refine xc_body callable_32 Tryz.func32 rfl rfl (Nat.le_of_ble_eq_true rfl) ?_
 refine zr ?_
 refine XL.step rfl (st_boxN 2 (l := [.d (.sl 13 (v.evs.map Ev.c)), .d (.sl 4 (v.tups.map Tp.c))]) rfl rfl (by kernel_rfl)) ?_
 refine za rfl rfl ?_
 refine zn ?_
 refine zs ?_
 refine zr ?_
 refine zp (pure_eq (s' := .d (.agg (Vo.c v))) (norm_pure (p_load_boxs rfl rfl agg_25 rfl (Nat.le_of_ble_eq_true rfl))) (by kernel_rfl)) ?_
 refine XL.call1 rfl rfl (rfull_xc _) rfl ?_
 refine zn ?_
 refine zd rfl (fun c8 => ?_) (fun c8 => ?_)
 refine zr ?_
 refine zm rfl rfl ?_
 refine XL.step rfl (st_slice 10 rfl Tryz.underlying64 sz_3 zero_3 rfl rfl (by omega) (by omega)) ?_
 refine zp (p_assign rfl (by conv => lhs; whnf)) ?_
 refine zn ?_
 refine zt ?_
 refine ret_freeze (i := 10) rfl ?_
 exact z1 rfl rfl (rSl (l := [L]) (g := iv) (lenL_rest h c8))
 refine zi ?_
 refine zs ?_
 have hva := len_evs h1 c8
 refine xw_any [] (by kernel_rfl) (by kernel_rfl) (by kernel_rfl) (by decide) ?_
 refine yp (p_fld_ptr rfl rfl fld_25_1) ?_
 refine yp (p_load_box rfl rfl sc_23 rfl rfl) ?_
 refine ChK.cons rfl (CStep.call rfl (rtups_xc _ (by omega)) rfl) ?_
 refine yp (p_fld_ptr rfl rfl fld_25_0) ?_
 refine yp (p_load_box rfl rfl sc_22 rfl rfl) ?_
 refine ChK.cons rfl (CStep.call rfl (rwritten_xc _ (by assumption) (by omega)) rfl) ?_
 refine ChK.cons rfl (CStep.call rfl (rLengths03_xc _ _) rfl) ?_
 refine ym rfl rfl ?_
 refine yp (p_ext rfl rfl rfl) ?_
 refine yp (p_ext rfl rfl rfl) ?_
 refine ya rfl rfl ?_
 refine ya rfl rfl ?_
 refine ChK.nil ⟨by kernel_rfl, ?_⟩
 refine zr ?_
 refine zm rfl rfl ?_
 refine za rfl rfl ?_
 refine zn ?_
 refine zt ?_
 exact z1 rfl rfl (rSl (lenL_in h h1 c8))
theorem ck_of {v : Vo} {L a : Int} (h : lenE v L = a) (ha : a ≠ 0) : a = ckE v L := by rw [ckE, if_neg (by rw [h]; exact fun k => ha k.1), h]
theorem ck_20 {v : Vo} {L : Int} (h : lenE v L = 0) (h2 : 0 < (v.evs.length : Int)) (h3 : tot (lenL v L) ≠ L) : 20 = ckE v L := by rw [ckE, if_pos ⟨h, by rw [len_len h]; omega, h3⟩]
theorem ck_0 {v : Vo} {L : Int} (h : lenE v L = 0) (h3 : ¬ (0 < (v.evs.length : Int) ∧ tot (lenL v L) ≠ L)) : 0 = ckE v L := by
 rw [ckE, if_neg, h]
 rintro ⟨_, k2, k3⟩
 rw [len_len h] at k2
 exact h3 ⟨by omega, k3⟩
set_option maxRecDepth 20000 in
set_option maxHeartbeats 8000000 in
theorem rCheck12_xc (v : Vo) (L : Int) (hE : Evs v.evs) (ht : v.tups.length ≤ 1000) : XC Tryz.prog 19 [.agg (Vo.c v), .v (.int .i64 L)] (fun r => r = dI (ckE v L)) := by
 refine xc_body callable_19 Tryz.func19 rfl rfl (Nat.le_of_ble_eq_true rfl) ?_
 refine zr ?_
 refine XL.step rfl (st_boxN 2 (l := [.d (.sl 13 (v.evs.map Ev.c)), .d (.sl 4 (v.tups.map Tp.c))]) rfl rfl (by kernel_rfl)) ?_
 refine za rfl rfl ?_
 refine zn ?_
 refine zs ?_
 refine zr ?_
 refine zm rfl rfl ?_
 refine zp (p_lss rfl rfl rfl) ?_
 refine zm rfl rfl ?_
 refine XL.dec 8 rfl (fun g8 => ?_) (fun g8 => ?_)
 refine zk 2 rfl ?_
 refine zq rfl rfl rfl ?_
 refine zn ?_
 refine xw_true (by kernel_rfl) rfl ?_
 refine zr ?_
 refine za rfl rfl ?_
 refine zn ?_
 refine zt ?_
 exact z1 rfl rfl (rI (ck_of (len_a (v := v) (L := L) (by omega)).2.symm (by decide)))
 refine zm rfl rfl ?_
 refine zp (p_gtr rfl rfl rfl) ?_
 refine zq rfl rfl rfl ?_
 refine zn ?_
 refine zd rfl (fun c11 => ?_) (fun c11 => ?_)
 refine zr ?_
 refine za rfl rfl ?_
 refine zn ?_
 refine zt ?_
 exact z1 rfl rfl (rI (ck_of (len_a (v := v) (L := L) (by omega)).2.symm (by decide)))
 refine zi ?_
 refine zs ?_
 refine zs ?_
 have hany : lenE v L = lenE v 1 := lenE_any (by omega)
 refine xw_region (by kernel_rfl) ?_
 refine zp (pure_eq (s' := .d (.agg (Vo.c v))) (norm_pure (p_load_boxs rfl rfl agg_25 rfl (Nat.le_of_ble_eq_true rfl))) (by kernel_rfl)) ?_
 refine XL.call1 rfl rfl (rparts_xc _ (by assumption) (by omega)) rfl ?_
 refine za rfl rfl ?_
 refine znr ?_
 refine zm rfl rfl ?_
 refine zp (p_neq rfl rfl rfl) ?_
 refine zn ?_
 refine zd rfl (fun c15 => ?_) (fun c15 => ?_)
 refine zr ?_
 refine zm rfl rfl ?_
 refine za rfl rfl ?_
 refine zn ?_
 refine zt ?_
 exact z1 rfl rfl (rI (ck_of hany c15))
 refine zi ?_
 refine zs ?_
 refine zs ?_
 have hl1 : lenE v 1 = 0 := by omega
 have hl : lenE v L = 0 := by omega
 have hN := nums_lenL v L
 refine xw_region (by kernel_rfl) ?_
 refine zp (p_fld_ptr rfl rfl fld_25_0) ?_
 refine zp (p_load_box rfl rfl sc_22 rfl rfl) ?_
 refine XL.len rfl rfl rfl Tryz.underlying22 (fun hl19 => ?_)
 refine zp (p_gtr rfl rfl rfl) ?_
 refine zm rfl rfl ?_
 refine XL.dec 21 rfl (fun g21 => ?_) (fun g21 => ?_)
 refine zp (pure_eq (s' := .d (.agg (Vo.c v))) (norm_pure (p_load_boxs rfl rfl agg_25 rfl (Nat.le_of_ble_eq_true rfl))) (by kernel_rfl)) ?_
 refine zm rfl rfl ?_
 refine XL.call1 rfl rfl (rLengths12_xc _ _ (by assumption) (by assumption)) rfl ?_
 refine XL.call1 rfl rfl (rsum_xc _ (by assumption)) rfl ?_
 refine zm rfl rfl ?_
 refine zp (p_neq rfl rfl rfl) ?_
 refine zq rfl rfl rfl ?_
 refine zn ?_
 refine zd rfl (fun c28 => ?_) (fun c28 => ?_)
 refine zr ?_
 refine za rfl rfl ?_
 refine zn ?_
 refine zt ?_
 exact z1 rfl rfl (rI (ck_20 hl g21 c28))
 refine zi ?_
 refine zr ?_
 refine za rfl rfl ?_
 refine zn ?_
 refine zt ?_
 exact z1 rfl rfl (rI (ck_0 hl (fun k => c28 k.2)))
 refine zk 6 rfl ?_
 refine zq rfl rfl rfl ?_
 refine zn ?_
 refine xw_false (by kernel_rfl) rfl ?_
 refine zi ?_
 refine zr ?_
 refine za rfl rfl ?_
 refine zn ?_
 refine zt ?_
 exact z1 rfl rfl (rI (ck_0 hl (fun k => g21 k.1)))
theorem tot_mono {l : List Int} (h : ∀ x ∈ l, 0 < x) {j k : Nat} (hjk : j ≤ k) : tot (l.take j) ≤ tot (l.take k) := by
 rw [tot_cut l j k hjk]
 have : ∀ l : List Int, (∀ x ∈ l, 0 < x) → 0 ≤ tot l := by
  intro l
  induction l with
  | nil => intro _; exact Int.le_refl _
  | cons x l ih => intro h; rw [tot_cons]; have := h x List.mem_cons_self; have := ih fun y hy => h y (List.mem_cons_of_mem _ hy); omega
 have := this ((l.take k).drop j) fun x hx => h x (List.mem_of_mem_take (List.mem_of_mem_drop hx))
 omega
/-- the event that lasts at a tick, where the first j events begin no later -/
def atJ (l : List Int) : Nat → Int × Int
 | 0 => (0, 0)
 | j + 1 => ((j : Int), tot (l.take j))
theorem atJ_S {l : List Int} (h : ∀ x ∈ l, 0 < x) {t : Int} {j : Nat} (hj : j ≤ l.length) (h1 : ∀ i, i < j → tot (l.take i) ≤ t) (h2 : j = l.length ∨ t < tot (l.take j)) : ∀ n, j ≤ n → n ≤ l.length → atS l t n = atJ l j := by
 have h0 : atS l t j = atJ l j := by
  cases j with
  | zero => rfl
  | succ j =>
   obtain ⟨x, hx⟩ : ∃ x, l[j]? = some x := get_ex (by omega)
   rw [at_hit hx (h1 j (by omega)) (h x (List.mem_of_getElem? hx))]; rfl
 intro n
 induction n with
 | zero =>
  intro hn _
  have : j = 0 := by omega
  subst this; exact h0
 | succ n ih =>
  intro hn hl
  by_cases e : j = n + 1
  ·rw [← e]; exact h0
  ·obtain ⟨x, hx⟩ : ∃ x, l[n]? = some x := get_ex (by omega)
   rw [at_miss hx, ih (by omega) (by omega)]
   rintro ⟨k, _⟩
   have := tot_mono h (j := j) (k := n) (by omega)
   omega
theorem val_pos {v : Val} (h : valErr v = 0) : 0 < valTicks v := by
 have hv := of_valErr (v := v) (by omega)
 have hp : 0 < valPlain v := by
  unfold valPlain
  obtain ⟨k, hk⟩ : ∃ k : Nat, (v.log + 1).toNat = k := ⟨_, rfl⟩
  rw [hk]
  have : k < 10 := by omega
  match k, this with
  | 0, _ => decide
  | 1, _ => decide
  | 2, _ => decide
  | 3, _ => decide
  | 4, _ => decide
  | 5, _ => decide
  | 6, _ => decide
  | 7, _ => decide
  | 8, _ => decide
  | 9, _ => decide
  | k + 10, h => omega
 have : ∀ n, valPlain v ≤ (dotted (valPlain v) n).2 := by
  intro n
  induction n with
  | zero => exact Int.le_refl _
  | succ n ih => have := (dotted_bd (Int.le_of_lt hp) n).1; simp only [dotted]; omega
 have := this v.dots.toNat
 unfold valTicks
 omega
theorem sc_pos {T : List Tp} {n w : Int} (hT : ∀ t ∈ T, t.ok) (hw : 0 < w) (h : scaleE T n w = 0) : 0 < scaleN T n w := by
 have hb := prodF_bd0 T n hT
 unfold scaleE at h
 split at h
 ·omega
 ·rename_i c
  split at h
  ·omega
  ·rename_i c2
   rw [scaleN, if_neg c, if_neg c2]
   have h1 : 0 < w * (prodF T n).1 := Int.mul_pos hw (by omega)
   have h2 := Int.ediv_mul_cancel (Int.dvd_of_emod_eq_zero (Decidable.not_not.1 c2))
   refine Int.not_le.1 fun k => ?_
   have := Int.mul_le_mul_of_nonneg_right k (show 0 ≤ (prodF T n).2 by omega)
   omega
theorem ckL_pos {v : Vo} {L : Int} (h : ckE v L = 0) : ∀ x ∈ ckL v L, 0 < x := by
 by_cases c : v.rest
 ·obtain ⟨_, hl, _⟩ := ck_rest c h
  have := (len_ok (ck_len h).1).2.2.1
  rw [hl]; intro x hx; rw [List.mem_singleton.1 hx]; omega
 ·obtain ⟨_, _, hv, _⟩ := (ck_vl c).1 ⟨h, rfl⟩
  have hok : ∀ t ∈ v.tups, t.ok := fun t ht => (hv.tl.tv.inR t ht).ok (by have := hv.tl.wl; omega)
  intro x hx
  obtain ⟨i, hi⟩ := List.getElem?_of_mem hx
  rw [hv.tl.ls] at hi
  have hil := (List.getElem?_eq_some_iff.1 hi).1
  rw [lensGo_len] at hil
  obtain ⟨w, hw⟩ : ∃ w, (wrS v.evs)[i]? = some w := get_ex hil
  have hg : ∀ (ws : List Int) (n i : Nat) (w : Int), ws[i]? = some w → (lensGo v.tups n ws)[i]? = some (scaleN v.tups ((n + i : Nat) : Int) w) := by
   intro ws
   induction ws with
   | nil => intro n i w h; simp at h
   | cons a ws ih =>
    intro n i w h
    cases i with
    | zero => cases h; rfl
    | succ i =>
     have := ih (n + 1) i w (by simpa using h)
     rw [lensGo, List.getElem?_cons_succ, this, show n + 1 + i = n + (i + 1) by omega]
  have hs := hv.tl.sc i w hw
  rw [hg _ 0 i w hw, Nat.zero_add] at hi
  cases hi
  refine sc_pos hok ?_ hs
  obtain ⟨e, he, rfl⟩ := List.mem_map.1 (List.mem_of_getElem? hw)
  have hee := hv.ev e he
  rw [Ev.len_ok hee.1 hee.2]
  exact val_pos ((err_iff.1 hee.1).2.2.2.1 hee.2)
end Go.Proofs.YtcihalbakenleaaGreat
namespace Go.Proofs.YtcihalbakenleaaGreat
open Go.RowKit
theorem dq_int : DecQ Tryz.prog 3 QInt := DecQ.int Tryz.underlying3
def QPit : List D → Prop := QS [QInt, QInt, QInt]
theorem dq_Pit : DecQ Tryz.prog 89 QPit := by
 refine DecQ.struct _ Tryz.underlying89 rfl (by kernel_rfl) fun i f Q hf hQ => ?_
 match i, hf, hQ with
 | 0, hf, hQ => cases hf; cases hQ; exact dq_int
 | 1, hf, hQ => cases hf; cases hQ; exact dq_int
 | 2, hf, hQ => cases hf; cases hQ; exact dq_int
 | _ + 3, hf, hQ => simp at hQ
def QHd : List D → Prop := QS [QPit, QBool, QInt]
theorem dq_Hd : DecQ Tryz.prog 91 QHd := by
 refine DecQ.struct _ Tryz.underlying91 rfl (by kernel_rfl) fun i f Q hf hQ => ?_
 match i, hf, hQ with
 | 0, hf, hQ => cases hf; cases hQ; exact dq_Pit
 | 1, hf, hQ => cases hf; cases hQ; exact (DecQ.bool Tryz.underlying4)
 | 2, hf, hQ => cases hf; cases hQ; exact dq_int
 | _ + 3, hf, hQ => simp at hQ
def QGr : List D → Prop := QS [QPit, QInt, QBool]
theorem dq_Gr : DecQ Tryz.prog 138 QGr := by
 refine DecQ.struct _ Tryz.underlying138 rfl (by kernel_rfl) fun i f Q hf hQ => ?_
 match i, hf, hQ with
 | 0, hf, hQ => cases hf; cases hQ; exact dq_Pit
 | 1, hf, hQ => cases hf; cases hQ; exact dq_int
 | 2, hf, hQ => cases hf; cases hQ; exact (DecQ.bool Tryz.underlying4)
 | _ + 3, hf, hQ => simp at hQ
def QSy : List D → Prop := QS [QStr, QInt]
theorem dq_Sy : DecQ Tryz.prog 140 QSy := by
 refine DecQ.struct _ Tryz.underlying140 rfl (by kernel_rfl) fun i f Q hf hQ => ?_
 match i, hf, hQ with
 | 0, hf, hQ => cases hf; cases hQ; exact (DecQ.str Tryz.underlying9)
 | 1, hf, hQ => cases hf; cases hQ; exact dq_int
 | _ + 2, hf, hQ => simp at hQ
def QId : List D → Prop := QS [QInt, QInt]
theorem dq_Id : DecQ Tryz.prog 54 QId := by
 refine DecQ.struct _ Tryz.underlying54 rfl (by kernel_rfl) fun i f Q hf hQ => ?_
 match i, hf, hQ with
 | 0, hf, hQ => cases hf; cases hQ; exact dq_int
 | 1, hf, hQ => cases hf; cases hQ; exact dq_int
 | _ + 2, hf, hQ => simp at hQ
def QVal : List D → Prop := QS [QInt, QInt]
theorem dq_Val : DecQ Tryz.prog 56 QVal := by
 refine DecQ.struct _ Tryz.underlying56 rfl (by kernel_rfl) fun i f Q hf hQ => ?_
 match i, hf, hQ with
 | 0, hf, hQ => cases hf; cases hQ; exact dq_int
 | 1, hf, hQ => cases hf; cases hQ; exact dq_int
 | _ + 2, hf, hQ => simp at hQ
def QEv : List D → Prop := QS [QId, QInt, QVal, QSl 5 QHd, QSl 5 QGr, QInt, QInt, QInt, QSl 2 QSy, QInt, QInt]
theorem dq_Ev : DecQ Tryz.prog 60 QEv := by
 refine DecQ.struct _ Tryz.underlying60 rfl (by kernel_rfl) fun i f Q hf hQ => ?_
 match i, hf, hQ with
 | 0, hf, hQ => cases hf; cases hQ; exact dq_Id
 | 1, hf, hQ => cases hf; cases hQ; exact dq_int
 | 2, hf, hQ => cases hf; cases hQ; exact dq_Val
 | 3, hf, hQ => cases hf; cases hQ; exact (DecQ.slice Tryz.underlying48 dq_Hd (by kernel_rfl) (by decide))
 | 4, hf, hQ => cases hf; cases hQ; exact (DecQ.slice Tryz.underlying57 dq_Gr (by kernel_rfl) (by decide))
 | 5, hf, hQ => cases hf; cases hQ; exact dq_int
 | 6, hf, hQ => cases hf; cases hQ; exact dq_int
 | 7, hf, hQ => cases hf; cases hQ; exact dq_int
 | 8, hf, hQ => cases hf; cases hQ; exact (DecQ.slice Tryz.underlying58 dq_Sy (by kernel_rfl) (by decide))
 | 9, hf, hQ => cases hf; cases hQ; exact dq_int
 | 10, hf, hQ => cases hf; cases hQ; exact dq_int
 | _ + 11, hf, hQ => simp at hQ
def QTp : List D → Prop := QS [QInt, QInt, QInt, QInt]
theorem dq_Tp : DecQ Tryz.prog 102 QTp := by
 refine DecQ.struct _ Tryz.underlying102 rfl (by kernel_rfl) fun i f Q hf hQ => ?_
 match i, hf, hQ with
 | 0, hf, hQ => cases hf; cases hQ; exact dq_int
 | 1, hf, hQ => cases hf; cases hQ; exact dq_int
 | 2, hf, hQ => cases hf; cases hQ; exact dq_int
 | 3, hf, hQ => cases hf; cases hQ; exact dq_int
 | _ + 4, hf, hQ => simp at hQ
def QVo : List D → Prop := QS [QSl 13 QEv, QSl 4 QTp]
theorem dq_Vo : DecQ Tryz.prog 25 QVo := by
 refine DecQ.struct _ Tryz.underlying25 rfl (by kernel_rfl) fun i f Q hf hQ => ?_
 match i, hf, hQ with
 | 0, hf, hQ => cases hf; cases hQ; exact (DecQ.slice Tryz.underlying22 dq_Ev (by kernel_rfl) (by decide))
 | 1, hf, hQ => cases hf; cases hQ; exact (DecQ.slice Tryz.underlying23 dq_Tp (by kernel_rfl) (by decide))
 | _ + 2, hf, hQ => simp at hQ
def QMe : List D → Prop := QS [QInt, QInt, QS (List.replicate 6 QInt)]
theorem dq_Me : DecQ Tryz.prog 28 QMe := by
 refine DecQ.struct _ Tryz.underlying28 rfl (by kernel_rfl) fun i f Q hf hQ => ?_
 match i, hf, hQ with
 | 0, hf, hQ => cases hf; cases hQ; exact dq_int
 | 1, hf, hQ => cases hf; cases hQ; exact dq_int
 | 2, hf, hQ => cases hf; cases hQ; exact (DecQ.array Tryz.underlying26 (by kernel_rfl) dq_int)
 | _ + 3, hf, hQ => simp at hQ
def QPl : List D → Prop := QS [QMe, QInt, QInt]
theorem dq_Pl : DecQ Tryz.prog 30 QPl := by
 refine DecQ.struct _ Tryz.underlying30 rfl (by kernel_rfl) fun i f Q hf hQ => ?_
 match i, hf, hQ with
 | 0, hf, hQ => cases hf; cases hQ; exact dq_Me
 | 1, hf, hQ => cases hf; cases hQ; exact dq_int
 | 2, hf, hQ => cases hf; cases hQ; exact dq_int
 | _ + 3, hf, hQ => simp at hQ
def QA2 : List D → Prop := QS (List.replicate 2 QInt)
theorem dq_A2 : DecQ Tryz.prog 62 QA2 := DecQ.array Tryz.underlying62 (by kernel_rfl) dq_int
theorem inv_list {α : Type} {Q : List D → Prop} {c : α → List D} {ok : α → Prop} (hq : ∀ ds, Q ds → ∃ a, ds = c a ∧ ok a) : ∀ {l : List (List D)}, (∀ x ∈ l, Q x) → ∃ L : List α, l = L.map c ∧ ∀ a ∈ L, ok a
 | [], _ => ⟨[], rfl, fun a h => by cases h⟩
 | x :: l, h => by
  obtain ⟨a, rfl, ha⟩ := hq x (h x List.mem_cons_self)
  obtain ⟨L, rfl, hL⟩ := inv_list hq fun y hy => h y (List.mem_cons_of_mem _ hy)
  refine ⟨a :: L, rfl, fun b hb => ?_⟩
  rcases List.mem_cons.1 hb with e | e
  ·rw [e]; exact ha
  ·exact hL b e
theorem QPit.inv {ds : List D} (h : QPit ds) : ∃ p : Pit, ds = p.c := by
 obtain ⟨_, _, rfl, ⟨a, rfl, ha⟩, _, _, rfl, ⟨b, rfl, hb⟩, _, _, rfl, ⟨c, rfl, hc⟩, rfl⟩ := h
 exact ⟨⟨a, b, c⟩, rfl⟩
theorem QHd.inv (ds : List D) (h : QHd ds) : ∃ x : Hd, ds = x.c ∧ True := by
 obtain ⟨_, _, rfl, hp, _, _, rfl, ⟨t, rfl⟩, _, _, rfl, ⟨s, rfl, _⟩, rfl⟩ := h
 obtain ⟨p, rfl⟩ := hp.inv
 exact ⟨⟨p, t, s⟩, rfl, trivial⟩
theorem QGr.inv (ds : List D) (h : QGr ds) : ∃ x : Gr, ds = x.c ∧ True := by
 obtain ⟨_, _, rfl, hp, _, _, rfl, ⟨s, rfl, _⟩, _, _, rfl, ⟨t, rfl⟩, rfl⟩ := h
 obtain ⟨p, rfl⟩ := hp.inv
 exact ⟨⟨p, s, t⟩, rfl, trivial⟩
theorem QSy.inv (ds : List D) (h : QSy ds) : ∃ x : Sy, ds = x.c ∧ True := by
 obtain ⟨_, _, rfl, ⟨t, rfl⟩, _, _, rfl, ⟨s, rfl, _⟩, rfl⟩ := h
 exact ⟨⟨t.data.toList, s⟩, rfl, trivial⟩
theorem QTp.inv (ds : List D) (h : QTp ds) : ∃ x : Tp, ds = x.c ∧ True := by
 obtain ⟨_, _, rfl, ⟨a, rfl, ha⟩, _, _, rfl, ⟨b, rfl, hb⟩, _, _, rfl, ⟨c, rfl, hc⟩, _, _, rfl, ⟨d, rfl, hd⟩, rfl⟩ := h
 exact ⟨⟨a, b, c, d⟩, rfl, trivial⟩
theorem QEv.inv (ds : List D) (h : QEv ds) : ∃ x : Ev, ds = x.c ∧ x.art ≤ 9223372036854775807 := by
 obtain ⟨_, _, rfl, ⟨_, _, rfl, ⟨s, rfl, _⟩, _, _, rfl, ⟨n, rfl, _⟩, rfl⟩, _, _, rfl, ⟨k, rfl, _⟩, _, _, rfl, ⟨_, _, rfl, ⟨lg, rfl, _⟩, _, _, rfl, ⟨dt, rfl, _⟩, rfl⟩, _, _, rfl, ⟨hs, rfl, hh⟩, _, _, rfl, ⟨gs, rfl, hg⟩,
  _, _, rfl, ⟨ar, rfl, har⟩, _, _, rfl, ⟨om, rfl, _⟩, _, _, rfl, ⟨dy, rfl, _⟩, _, _, rfl, ⟨ls, rfl, hl⟩, _, _, rfl, ⟨st, rfl, _⟩, _, _, rfl, ⟨be, rfl, _⟩, rfl⟩ := h
 obtain ⟨H, rfl, _⟩ := inv_list QHd.inv hh
 obtain ⟨G, rfl, _⟩ := inv_list QGr.inv hg
 obtain ⟨L, rfl, _⟩ := inv_list QSy.inv hl
 exact ⟨⟨s, n, k, ⟨lg, dt⟩, H, G, ar, om, dy, L, st, be⟩, rfl, har.2⟩
theorem QVo.inv (ds : List D) (h : QVo ds) : ∃ v : Vo, ds = v.c ∧ Evs v.evs := by
 obtain ⟨_, _, rfl, ⟨es, rfl, he⟩, _, _, rfl, ⟨ts, rfl, ht⟩, rfl⟩ := h
 obtain ⟨E, rfl, hE⟩ := inv_list QEv.inv he
 obtain ⟨T, rfl, _⟩ := inv_list QTp.inv ht
 exact ⟨⟨E, T⟩, rfl, hE⟩
theorem QA2.inv (ds : List D) (h : QA2 ds) : ∃ a b : Int, ds = [dI a, dI b] := by
 obtain ⟨_, _, rfl, ⟨a, rfl, _⟩, _, _, rfl, ⟨b, rfl, _⟩, rfl⟩ := h
 exact ⟨a, b, rfl⟩
theorem QMe.inv (ds : List D) (h : QMe ds) : ∃ m : Me, ds = m.c := by
 obtain ⟨_, _, rfl, ⟨c, rfl, _⟩, _, _, rfl, ⟨u, rfl, _⟩, _, _, rfl, ⟨_, _, rfl, ⟨g0, rfl, hg0⟩, _, _, rfl, ⟨g1, rfl, hg1⟩, _, _, rfl, ⟨g2, rfl, hg2⟩, _, _, rfl, ⟨g3, rfl, hg3⟩, _, _, rfl, ⟨g4, rfl, hg4⟩, _, _, rfl, ⟨g5, rfl, hg5⟩, rfl⟩, rfl⟩ := h
 exact ⟨⟨c, u, g0, g1, g2, g3, g4, g5⟩, rfl⟩
theorem QPl.inv (ds : List D) (h : QPl ds) : ∃ p : Pl, ds = p.c := by
 obtain ⟨_, _, rfl, hm, _, _, rfl, ⟨a, rfl, _⟩, _, _, rfl, ⟨b, rfl, _⟩, rfl⟩ := h
 obtain ⟨m, rfl⟩ := QMe.inv _ hm
 exact ⟨⟨m, a, b⟩, rfl⟩
end Go.Proofs.YtcihalbakenleaaGreat
namespace Go.Proofs.YtcihalbakenleaaGreat
open Go.RowKit
/-- the heads that sound at a tick -/
def soundS (v : Vo) (L t : Int) : List Hd := if atE v L t ≠ 0 then [] else match v.evs[(atV v L t).1.toNat]? with
 | some x => x.heads
 | none => []
theorem sound_no {v : Vo} {L t : Int} (h : atE v L t ≠ 0) : soundS v L t = [] := by rw [soundS, if_pos h]
theorem sound_at {v : Vo} {L t a : Int} {k : Nat} {x : Ev} (h : ¬ atE v L t ≠ 0) (hat : atV v L t = ((k : Int), a)) (hx : v.evs[k]? = some x) : soundS v L t = x.heads := by
 rw [soundS, if_neg h, hat]
 simp only [Int.toNat_natCast, hx]
theorem at_def (v : Vo) (L t : Int) : (ckE v L ≠ 0 → atE v L t = ckE v L) ∧ (ckE v L = 0 → v.evs.length = 0 → atE v L t = 10) ∧ (ckE v L = 0 → v.evs.length ≠ 0 → (t < 0 ∨ L ≤ t) → atE v L t = 2) ∧ (ckE v L = 0 → v.evs.length ≠ 0 → ¬ (t < 0 ∨ L ≤ t) → atE v L t = 0) := by
 refine ⟨fun h => at_1 h, fun h h2 => at_2 (fun k => k h) (by have := ckL_len h; omega), fun h h2 h3 => at_3 (fun k => k h) (by have := ckL_len h; omega) h3, fun h h2 h3 => (at_4 (fun k => k h) (by have := ckL_len h; omega) h3).2.symm⟩
theorem at_S {v : Vo} {L t : Int} (h : atE v L t = 0) : atV v L t = atS (ckL v L) t (ckL v L).length := by rw [atV, if_neg (by omega)]
set_option maxRecDepth 20000 in
theorem sound_xc (v : Vo) (L t : Int) (hE : Evs v.evs) (hF : v.fit) : XC Tryz.prog 23 [.agg (Vo.c v), .v (.int .i64 L), .v (.int .i64 t)] (fun r => r = .sl 5 ((soundS v L t).map Hd.c)) := by
 refine xc_body callable_23 Tryz.func23 rfl rfl (Nat.le_of_ble_eq_true rfl) ?_
 refine zr ?_
 refine XL.step rfl (st_boxN 3 (l := [.d (.sl 13 (v.evs.map Ev.c)), .d (.sl 4 (v.tups.map Tp.c))]) rfl rfl (by kernel_rfl)) ?_
 refine za rfl rfl ?_
 refine znr ?_
 refine zp (pure_eq (s' := .d (.agg (Vo.c v))) (norm_pure (p_load_boxs rfl rfl agg_25 rfl (Nat.le_of_ble_eq_true rfl))) (by kernel_rfl)) ?_
 refine zm rfl rfl ?_
 refine zm rfl rfl ?_
 refine XL.call1 rfl rfl (At_xc _ _ _ (by assumption)) rfl ?_
 refine zm rfl rfl ?_
 refine zp (p_ext rfl rfl rfl) ?_
 refine zp (p_ext rfl rfl rfl) ?_
 refine zp (p_ext rfl rfl rfl) ?_
 refine za rfl rfl ?_
 refine za rfl rfl ?_
 refine za rfl rfl ?_
 refine zn ?_
 refine zs ?_
 refine zr ?_
 refine zm rfl rfl ?_
 refine zp (p_neq rfl rfl rfl) ?_
 refine zn ?_
 refine zd rfl (fun c19 => ?_) (fun c19 => ?_)
 refine zr ?_
 refine za rfl rfl ?_
 refine zn ?_
 refine zt ?_
 exact ret1 rfl (RV.nil (sz := 5) rfl rfl) (rSl (sound_no c19).symm)
 refine zi ?_
 refine zs ?_
 obtain ⟨k, a, hat, _, _, hak⟩ := atV_nat v L t
 have hkl := (hak (by omega)).1
 have hcl := ckL_len (at_range (v := v) (L := L) (t := t) (by omega)).1
 obtain ⟨x, hx⟩ : ∃ x, v.evs[k]? = some x := get_ex (by omega)
 have hxh := (hF.ev x (List.mem_of_getElem? hx)).1
 refine xw_region (by kernel_rfl) ?_
 refine zp (p_fld_ptr rfl rfl fld_25_0) ?_
 refine zp (p_load_box rfl rfl sc_22 rfl rfl) ?_
 refine zm rfl rfl ?_
 refine zp (p_idx_mapi rfl rfl rfl (by rw [hat]) el_22 (hx)) ?_
 refine zp (p_fld_pt rfl rfl fld_60_3) ?_
 refine zp (p_load_pt rfl rfl sc_48) ?_
 refine XL.callS rfl rfl ((clone_Hd_xs _ (by omega)).lab 7001) rfl ?_
 refine zp (p_assign rfl (by conv => lhs; whnf)) ?_
 refine zn ?_
 refine zt ?_
 refine ret_freeze (i := 7001) rfl ?_
 exact z1 rfl rfl (rSl (sound_at c19 hat hx).symm)
end Go.Proofs.YtcihalbakenleaaGreat
namespace Go.Proofs.YtcihalbakenleaaGreat
/-- the pitches that sound at a tick, of pitches with lengths -/
def sndL : List (List Pit × Int) → Int → List Pit
  | [], _ => []
  | (p, w) :: r, t => if t < w then p else sndL r (t - w)
theorem snd_same : ∀ (A : List (List Pit × Int)) {X Y : List (List Pit × Int)}, (∀ s, 0 ≤ s → sndL X s = sndL Y s) → ∀ t, 0 ≤ t → sndL (A ++ X) t = sndL (A ++ Y) t
  | [], _, _, h, t, ht => h t ht
  | (p, w) :: A, X, Y, h, t, ht => by
    rw [List.cons_append, List.cons_append, sndL, sndL]
    by_cases c : t < w
    · rw [if_pos c, if_pos c]
    · rw [if_neg c, if_neg c]; exact snd_same A h (t - w) (by omega)
theorem snd_const {P : List Pit} : ∀ (B : List (List Pit × Int)) {C : List (List Pit × Int)}, (∀ q ∈ B, q.1 = P ∧ 0 ≤ q.2) → ∀ t, 0 ≤ t → sndL (B ++ C) t = if t < tot (B.map (·.2)) then P else sndL C (t - tot (B.map (·.2)))
  | [], C, _, t, ht => by
    rw [List.map_nil, tot_nil, if_neg (by omega), List.nil_append, Int.sub_zero]
  | (p, w) :: B, C, h, t, ht => by
    have h1 := h (p, w) List.mem_cons_self
    have h0 : ∀ l : List (List Pit × Int), (∀ q ∈ l, 0 ≤ q.2) → 0 ≤ tot (l.map (·.2)) := by
      intro l
      induction l with
      | nil => intro _; exact Int.le_refl _
      | cons q l ih => intro hq; rw [List.map_cons, tot_cons]; have := hq q List.mem_cons_self; have := ih fun y hy => hq y (List.mem_cons_of_mem _ hy); omega
    have h2 := h0 B fun q hq => (h q (List.mem_cons_of_mem _ hq)).2
    have h3 := h1.1
    have h4 := h1.2
    simp only at h3 h4
    rw [List.cons_append, sndL, List.map_cons, tot_cons]
    show (if t < w then p else sndL (B ++ C) (t - w)) = if t < w + tot (B.map (·.2)) then P else sndL C (t - (w + tot (B.map (·.2))))
    by_cases c : t < w
    · rw [if_pos c, if_pos (by omega), h3]
    · rw [if_neg c, snd_const B (fun q hq => h q (List.mem_cons_of_mem _ hq)) (t - w) (by omega)]
      by_cases c2 : t - w < tot (B.map (·.2))
      · rw [if_pos c2, if_pos (by omega)]
      · rw [if_neg c2, if_neg (by omega)]; congr 1; omega
/-- a part in which nothing but one chord sounds, in the place of another one -/
theorem snd_repl {P : List Pit} (A : List (List Pit × Int)) {B B' C : List (List Pit × Int)} (h : ∀ q ∈ B, q.1 = P ∧ 0 ≤ q.2) (h' : ∀ q ∈ B', q.1 = P ∧ 0 ≤ q.2) (ht : tot (B.map (·.2)) = tot (B'.map (·.2))) (t : Int) (h0 : 0 ≤ t) :
    sndL (A ++ (B ++ C)) t = sndL (A ++ (B' ++ C)) t := snd_same A (fun s hs => by rw [snd_const B h s hs, snd_const B' h' s hs, ht]) t h0
def evP (e : Ev) : List Pit := pitsOf e.heads
/-- the pitches and lengths of a voice -/
def zipV (es : List Ev) (ls : List Int) : List (List Pit × Int) := (es.map evP).zip ls
theorem zip_app {a b : List Ev} {x y : List Int} (h : a.length = x.length) : zipV (a ++ b) (x ++ y) = zipV a x ++ zipV b y := by
  unfold zipV; rw [List.map_append, List.zip_append (by rw [List.length_map]; exact h)]
theorem zip_snd {a : List Ev} {x : List Int} (h : a.length = x.length) : (zipV a x).map (·.2) = x := by
  unfold zipV
  rw [List.map_snd_zip (by rw [List.length_map]; omega)]
theorem zip_mem {a : List Ev} {x : List Int} {q : List Pit × Int} (h : q ∈ zipV a x) : (∃ e ∈ a, q.1 = evP e) ∧ q.2 ∈ x := by
  unfold zipV at h
  obtain ⟨p, w⟩ := q
  have := List.of_mem_zip h
  obtain ⟨e, he, rfl⟩ := List.mem_map.1 this.1
  exact ⟨⟨e, he, rfl⟩, this.2⟩
theorem snd_ex : ∀ {ls : List Int} {t : Int}, 0 ≤ t → t < tot ls → ∃ (k : Nat) (w : Int), ls[k]? = some w ∧ tot (ls.take k) ≤ t ∧ t < tot (ls.take k) + w
  | [], t, h0, h => by rw [tot_nil] at h; omega
  | w :: r, t, h0, h => by
    rw [tot_cons] at h
    by_cases c : t < w
    · exact ⟨0, w, rfl, by rw [List.take_zero, tot_nil]; exact h0, by rw [List.take_zero, tot_nil]; omega⟩
    · obtain ⟨k, u, h1, h2, h3⟩ := snd_ex (ls := r) (t := t - w) (by omega) (by omega)
      exact ⟨k + 1, u, by simpa using h1, by rw [List.take_succ_cons, tot_cons]; omega, by rw [List.take_succ_cons, tot_cons]; omega⟩
theorem snd_hit : ∀ {es : List Ev} {ls : List Int} {k : Nat} {x : Ev} {w t : Int}, (∀ u ∈ ls, 0 < u) → es[k]? = some x → ls[k]? = some w → tot (ls.take k) ≤ t → t < tot (ls.take k) + w → sndL (zipV es ls) t = evP x
  | e :: es, u :: ls, 0, x, w, t, hp, hx, hw, h1, h2 => by
    cases hx; cases hw
    rw [List.take_zero, tot_nil] at h2
    show sndL ((evP e, u) :: zipV es ls) t = evP e
    rw [sndL, if_pos (by omega)]
  | e :: es, u :: ls, k + 1, x, w, t, hp, hx, hw, h1, h2 => by
    rw [List.take_succ_cons, tot_cons] at h1 h2
    have hp' : ∀ y ∈ ls, 0 < y := fun y hy => hp y (List.mem_cons_of_mem _ hy)
    have h3 : 0 ≤ tot (ls.take k) := by have := tot_mono hp' (j := 0) (k := k) (Nat.zero_le _); rwa [List.take_zero, tot_nil] at this
    show sndL ((evP e, u) :: zipV es ls) t = evP x
    rw [sndL, if_neg (by omega)]
    exact snd_hit hp' (by simpa using hx) (by simpa using hw) (by omega) (by omega)
  | [], _, _, x, w, t, _, hx, _, _, _ => by simp at hx
  | _ :: _, [], k, x, w, t, _, _, hw, _, _ => by simp at hw
theorem ck_tot {v : Vo} {L : Int} (h : ckE v L = 0) (hne : v.evs ≠ []) : tot (ckL v L) = L := by
  by_cases c : v.rest
  · rw [(ck_rest c h).2.1, tot_cons, tot_nil]; omega
  · exact ((ck_vl c).1 ⟨h, rfl⟩).2.2.2 hne
/-- what sounds, by the pitches and lengths -/
theorem sound_snd {v : Vo} {L t : Int} (h : ckE v L = 0) (h0 : 0 ≤ t) (h1 : t < L) : pitsOf (soundS v L t) = sndL (zipV v.evs (ckL v L)) t := by
  have hcl := ckL_len h
  obtain ⟨hA1, hA2, hA3, hA4⟩ := at_def v L t
  by_cases c : v.evs = []
  · rw [sound_no (by rw [hA2 h (by rw [c]; rfl)]; decide), c]; rfl
  · have hlen : v.evs.length ≠ 0 := fun k => c (List.eq_nil_of_length_eq_zero k)
    have he := hA4 h hlen (by omega)
    obtain ⟨k, w, hw, k1, k2⟩ := snd_ex h0 (by rw [ck_tot h c]; exact h1)
    have hp := ckL_pos h
    have hkl := (List.getElem?_eq_some_iff.1 hw).1
    obtain ⟨x, hx⟩ : ∃ x, v.evs[k]? = some x := get_ex (by omega)
    rw [snd_hit hp hx hw k1 k2]
    have hj := atJ_S hp (t := t) (j := k + 1) (by omega) (fun i hi => by have := tot_mono hp (j := i) (k := k) (by omega); omega) (.inr (by rw [take_snoc hw, tot_snoc]; omega)) (ckL v L).length (by omega) (Nat.le_refl _)
    have hat : atV v L t = ((k : Int), tot ((ckL v L).take k)) := by rw [at_S he, hj]; rfl
    rw [sound_at (by omega) hat hx]; rfl
theorem pits_map {f : Hd → Hd} (hf : ∀ h, (f h).p = h.p) (l : List Hd) : pitsOf (l.map f) = pitsOf l := by
  unfold pitsOf
  rw [List.map_map]
  exact List.map_congr_left fun x _ => hf x
theorem pits_tie (l : List Hd) : pitsOf (l.map Hd.tie) = pitsOf l := pits_map (f := Hd.tie) (fun _ => rfl) l
theorem pits_plain (l : List Hd) : pitsOf (l.map Hd.plain) = pitsOf l := pits_map (f := Hd.plain) (fun _ => rfl) l
theorem pits_tieAs (a b : List Hd) : pitsOf (tieAs a b) = pitsOf a := by
  unfold pitsOf tieAs
  refine List.ext_getElem? fun j => ?_
  rw [List.getElem?_map, List.getElem?_mapIdx, List.getElem?_map]
  cases a[j]? with
  | none => rfl
  | some h => simp only [Option.map_some]; rw [(tieAt_p b j h).1]
theorem put_pits (x : Ev) (v : Val) (t : Bool) : evP (x.put v t) = evP x := by
  unfold evP Ev.put
  cases t with
  | false => rfl
  | true => exact pits_tie _
theorem note_pits {x : Ev} {vs : List Val} {f : Bool} : ∀ e ∈ notesS x vs f, evP e = evP x := by
  intro e he
  obtain ⟨i, hi⟩ := List.getElem?_of_mem he
  rw [notesS, List.getElem?_mapIdx] at hi
  cases hv : vs[i]? with
  | none => rw [hv] at hi; cases hi
  | some v =>
    rw [hv] at hi; cases hi
    unfold noteAt
    rw [put_pits]
    split
    · exact pits_plain _
    · rfl
theorem unrest_pits (x : Ev) : evP x.unrest = evP x := by unfold Ev.unrest; split <;> rfl
theorem divN_pits {p : Pl} {t a w : Int} {x : Ev} : ∀ e ∈ divN p t a w x, evP e = evP x := by
  intro e he
  rcases List.mem_append.1 he with k | k
  · rw [note_pits e k]
    show pitsOf (x.unrest.heads.map Hd.tie) = _
    rw [pits_tie]; exact unrest_pits x
  · rw [note_pits e k]; exact unrest_pits x
theorem ids_pits {js os : List Ev} {P : List Pit} (h : ∀ e ∈ js, evP e = P) : ∀ e ∈ idsS js os, evP e = P := by
  intro e he
  obtain ⟨j, hj⟩ := List.getElem?_of_mem he
  rw [idsS, List.getElem?_mapIdx] at hj
  cases hv : js[j]? with
  | none => rw [hv] at hj; cases hj
  | some x =>
    rw [hv] at hj; cases hj
    have := h x (List.mem_of_getElem? hv)
    unfold idAt
    split
    · exact this
    · exact this
theorem joins_pits {x y : Ev} {s : Int} (hx : x.err = 0) (hy : y.err = 0) (h : joins x y s) : evP x = evP y := by
  rcases h with ⟨⟨h1, h2⟩, h3⟩ | h
  · unfold Ev.silent at h1 h2
    unfold evP
    rw [Ev.no_heads hx (by omega), Ev.no_heads hy (by omega)]
  · obtain ⟨_, hl, ht, _⟩ := h
    exact pits_eq hl fun j a b _ ha hb => (ht j a b ha hb).2
theorem run_pits {v : Vo} (hE : ∀ e ∈ v.evs, e.err = 0) {i : Nat} {x : Ev} (hx : v.evs[i]? = some x) : ∀ (n : Nat) {y : Ev}, i + n < runS v i → v.evs[i + n]? = some y → evP y = evP x
  | 0, y, _, hy => by rw [Nat.add_zero, hx] at hy; cases hy; rfl
  | n + 1, y, h, hy => by
    obtain ⟨a, b, z, ha, hb, hz, hj⟩ := joinAt_ex (run_join (v := v) (i := i) (j := i + (n + 1)) (by omega) h)
    rw [hy] at hb; cases hb
    rw [show i + (n + 1) - 1 = i + n by omega] at ha
    rw [← run_pits hE hx n (by omega) ha]
    exact (joins_pits (hE a (List.mem_of_getElem? ha)) (hE _ (List.mem_of_getElem? hy)) hj).symm
theorem cut3 {α : Type} (l : List α) (i n : Nat) : l = l.take i ++ ((l.drop i).take n ++ l.drop (i + n)) := by
  rw [← List.drop_drop, List.take_append_drop, List.take_append_drop]
/-- events of one chord in the place of others of it -/
theorem repl_sound {v : Vo} {L : Int} {i n : Nat} {l : List Ev} {lx : List Int} {P : List Pit} (h : ckE v L = 0) (hi : i + n ≤ v.evs.length) (h2 : ckE (replS v i n ⟨l, []⟩) L = 0)
    (hl : ckL (replS v i n ⟨l, []⟩) L = (ckL v L).take i ++ lx ++ (ckL v L).drop (i + n)) (hlx : lx.length = l.length) (hs : tot lx = tot (((ckL v L).drop i).take n)) (hP : ∀ e ∈ (v.evs.drop i).take n, evP e = P) (hP2 : ∀ e ∈ l, evP e = P)
    (t : Int) (h0 : 0 ≤ t) (h1 : t < L) : pitsOf (soundS (replS v i n ⟨l, []⟩) L t) = pitsOf (soundS v L t) := by
  have hcl := ckL_len h
  have hp := ckL_pos h
  have hp2 := ckL_pos h2
  rw [sound_snd h2 h0 h1, sound_snd h h0 h1, hl]
  show sndL (zipV (v.evs.take i ++ l ++ v.evs.drop (i + n)) _) t = _
  rw [List.append_assoc, List.append_assoc, zip_app (by rw [List.length_take, List.length_take, hcl]), zip_app hlx.symm]
  have e1 : v.evs = v.evs.take i ++ ((v.evs.drop i).take n ++ v.evs.drop (i + n)) := cut3 _ i n
  have e2 : ckL v L = (ckL v L).take i ++ (((ckL v L).drop i).take n ++ (ckL v L).drop (i + n)) := cut3 _ i n
  have e3 : zipV v.evs (ckL v L) = zipV (v.evs.take i) ((ckL v L).take i) ++ (zipV ((v.evs.drop i).take n) (((ckL v L).drop i).take n) ++ zipV (v.evs.drop (i + n)) ((ckL v L).drop (i + n))) := by
    rw [← zip_app (by rw [List.length_take, List.length_take, List.length_drop, List.length_drop, hcl]), ← zip_app (by rw [List.length_take, List.length_take, hcl]), ← e1, ← e2]
  rw [e3]
  refine snd_repl (P := P) _ (fun q hq => ?_) (fun q hq => ?_) ?_ t h0
  · obtain ⟨⟨e, he, hq1⟩, hq2⟩ := zip_mem hq
    exact ⟨by rw [hq1]; exact hP2 e he, Int.le_of_lt (hp2 q.2 (by rw [hl]; exact List.mem_append_left _ (List.mem_append_right _ hq2)))⟩
  · obtain ⟨⟨e, he, hq1⟩, hq2⟩ := zip_mem hq
    exact ⟨by rw [hq1]; exact hP e he, Int.le_of_lt (hp q.2 (List.mem_of_mem_drop (List.mem_of_mem_take hq2)))⟩
  · rw [zip_snd hlx.symm, zip_snd (by rw [List.length_take, List.length_take, List.length_drop, List.length_drop, hcl]), hs]
theorem div_sound {v : Vo} {p : Pl} {t0 : Int} (hc : p.chk v = 0) (h : (divS v p t0).2 = 0) (t : Int) (h0 : 0 ≤ t) (h1 : t < p.len) : pitsOf (soundS (divS v p t0).1 p.len t) = pitsOf (soundS v p.len t) := by
  obtain ⟨hme, hpb, hck⟩ := chk_ok hc
  rcases divR hc t0 with h | ⟨h', _⟩ | ⟨k, a, w, x, hk, hw, ha, hat, hat2, hne, hd, q1, q2, hl, he⟩
  · rw [h]
  · exact absurd h h'
  · rw [he]
    have hkl := (List.getElem?_eq_some_iff.1 hk).1
    obtain ⟨d1, d2, d3⟩ := div_ck hck hk hw hd q1 q2 hl
    have hxe := (ck_fits hck).1 x (List.mem_of_getElem? hk)
    have hlen : (replS v k 1 ⟨divN p t0 a w x, []⟩).evs.length = v.evs.length - 1 + (divN p t0 a w x).length := by
      show (v.evs.take k ++ divN p t0 a w x ++ v.evs.drop (k + 1)).length = _
      rw [List.length_append, List.length_append, List.length_take, List.length_drop]; omega
    obtain ⟨hN, hs⟩ := divN_vl hxe q1 q2 (by omega)
    refine repl_sound (P := evP x) hck (by omega) d1 d2 (wrS_len _) (by rw [hs, len_one hw, tot_cons, tot_nil]; omega) (fun e hh => ?_) divN_pits t h0 h1
    have : (v.evs.drop k).take 1 = [x] := by rw [drop_cons hk]; rfl
    rw [this] at hh
    rw [List.mem_singleton.1 hh]
theorem smN_sound {v : Vo} {p : Pl} {i : Nat} (hc : p.chk v = 0) (hi : i < v.evs.length) (t : Int) (h0 : 0 ≤ t) (h1 : t < p.len) : pitsOf (soundS (smN v p i).1 p.len t) = pitsOf (soundS v p.len t) := by
  obtain ⟨hk1, hk2⟩ := run_bd hi
  obtain ⟨x, hx⟩ : ∃ x, v.evs[i]? = some x := get_ex hi
  obtain ⟨y, hy⟩ : ∃ y, v.evs[runS v i - 1]? = some y := get_ex (by omega)
  by_cases c : smJ p (smA v p i) (smA v p (runS v i)) (runS v i - i)
  · have hj := join_ok (y := y) hc hx c
    obtain ⟨hme, hpb, hck⟩ := chk_ok hc
    have hE := (ck_fits hck).1
    rw [smN_yes hx hy c]
    have hl := hj.lens
    rw [show runS v i = i + (runS v i - i) by omega] at hl
    rw [show i + (runS v i - i) - i = runS v i - i by omega] at hl
    refine repl_sound (P := evP x) hck (by omega) hj.ck hl (wrS_len _) ?_ (fun e he => ?_) (ids_pits fun e he => ?_) t h0 h1
    · rw [hj.sum, ← List.drop_take]
      have := tot_cut (ckL v p.len) i (runS v i) (by omega)
      unfold smA; omega
    · obtain ⟨m, hm⟩ := List.getElem?_of_mem he
      have hml := (List.getElem?_eq_some_iff.1 hm).1
      rw [List.length_take] at hml
      rw [List.getElem?_take, if_pos (by omega), List.getElem?_drop] at hm
      exact run_pits hE hx m (by omega) hm
    · rw [note_pits e he]; exact pits_tieAs _ _
  · rw [smN_no c]
theorem simGo_sound {p : Pl} : ∀ (f : Nat) {q : Vo × Nat}, p.chk q.1 = 0 → p.chk (simGo p f q) = 0 ∧ ∀ t, 0 ≤ t → t < p.len → pitsOf (soundS (simGo p f q) p.len t) = pitsOf (soundS q.1 p.len t)
  | 0, q, hc => ⟨hc, fun t _ _ => rfl⟩
  | f + 1, q, hc => by
    rw [simGo]
    split
    · rename_i hq
      obtain ⟨_, _, _, h4, _⟩ := smN_le hc hq
      obtain ⟨h5, h6⟩ := simGo_sound f (q := smN q.1 p q.2) h4
      exact ⟨h5, fun t h0 h1 => by rw [h6 t h0 h1, smN_sound hc hq t h0 h1]⟩
    · exact ⟨hc, fun t _ _ => rfl⟩
theorem sim_sound {v : Vo} {p : Pl} (hc : p.chk v = 0) (t : Int) (h0 : 0 ≤ t) (h1 : t < p.len) : pitsOf (soundS (simV v p) p.len t) = pitsOf (soundS v p.len t) := (simGo_sound v.evs.length (q := (v, 0)) hc).2 t h0 h1
theorem sim_chk {v : Vo} {p : Pl} (hc : p.chk v = 0) : p.chk (simV v p) = 0 := (simGo_sound v.evs.length (q := (v, 0)) hc).1
end Go.Proofs.YtcihalbakenleaaGreat
namespace Go.Proofs.YtcihalbakenleaaGreat
open Go.RowKit
/-- is a number one of the first j powers of two? -/
def powJ (u : Int) (j : Nat) : Bool := (List.range j).any fun i => decide (u = 2 ^ i)
theorem powJ_succ (u : Int) (j : Nat) : powJ u (j + 1) = (powJ u j || decide (u = 2 ^ j)) := by
 unfold powJ; rw [List.range_succ, List.any_append]; simp
theorem pow7 {j : Nat} (h : j ≤ 7) : (j < 7 ∧ 1 ≤ (2 : Int) ^ j ∧ (2 : Int) ^ j ≤ 64) ∨ (j = 7 ∧ (2 : Int) ^ j = 128) := by
 match j, h with
 | 0, _ => decide
 | 1, _ => decide
 | 2, _ => decide
 | 3, _ => decide
 | 4, _ => decide
 | 5, _ => decide
 | 6, _ => decide
 | 7, _ => decide
 | j + 8, h => omega
theorem pow_iff {m : Me} : powJ m.unit 7 = true ↔ ¬ (m.unit < 1 ∨ 64 < m.unit ∨ ¬ m.pow) := by
 have h0 : ∀ n : Nat, n < 65 → (powJ (n : Int) 7 = true ↔ ¬ ((n : Int) < 1 ∨ 64 < (n : Int) ∨ ¬ (((n : Int).toNat &&& ((n : Int) - 1).toNat : Nat) : Int) = 0)) := by decide +kernel
 by_cases c : 0 ≤ m.unit ∧ m.unit ≤ 64
 ·obtain ⟨n, hn⟩ := Int.eq_ofNat_of_zero_le c.1
  have := h0 n (by omega)
  unfold Me.pow
  rw [hn]; exact this
 ·constructor
  ·intro h
   unfold powJ at h
   rw [List.any_eq_true] at h
   obtain ⟨i, hi, h⟩ := h
   have hi := List.mem_range.1 hi
   have h := of_decide_eq_true h
   have := pow7 (j := i) (by omega)
   omega
  ·intro h; omega
/-- the groups' sum and number, as far as they fit -/
theorem flat_n {m : Me} {s n : Int} (h : gGo 0 0 0 m.gs = some (s, n)) : m.flat ↔ n = 0 := by
 have hg : ∀ (l : List Int) (k : Nat) (s n s' n' : Int), gGo k s n l = some (s', n') → 0 ≤ n → n ≤ n' ∧ (n' = n ↔ ∀ g ∈ l, g = 0) := by
  intro l
  induction l with
  | nil =>
   intro k s n s' n' h _
   rw [gGo] at h; cases h
   exact ⟨Int.le_refl _, fun _ g hg => (by cases hg), fun _ => rfl⟩
  | cons g l ih =>
   intro k s n s' n' h h0
   rw [gGo] at h
   split at h
   ·cases h
   ·rename_i c
    split at h
    ·rename_i c2
     obtain ⟨h1, h2⟩ := ih _ _ _ _ _ h (by omega)
     exact ⟨by omega, fun e => by omega, fun e => by have := e g List.mem_cons_self; omega⟩
    ·rename_i c2
     obtain ⟨h1, h2⟩ := ih _ _ _ _ _ h h0
     refine ⟨h1, fun e x hx => ?_, fun e => h2.2 fun x hx => e x (List.mem_cons_of_mem _ hx)⟩
     rcases List.mem_cons.1 hx with q | q
     ·rw [q]; omega
     ·exact h2.1 e x q
 have h2 := (hg m.gs 0 0 0 s n h (Int.le_refl _)).2
 rw [h2]
 unfold Me.flat Me.gs
 simp only [List.mem_cons, List.not_mem_nil, or_false, forall_eq_or_imp, forall_eq]
theorem grp_ref {m : Me} {s n : Int} (h : gGo 0 0 0 m.gs = some (s, n)) (h0 : 0 ≤ n) : m.grouped ↔ ¬ (n = 1 ∨ (1 < n ∧ s ≠ m.count)) := by
 by_cases c : m.flat
 ·have := (flat_n h).1 c
  exact ⟨fun _ => by omega, fun _ => .inl c⟩
 ·have hn := (not_congr (flat_n h)).1 c
  rw [grp_at c h]; omega
theorem me_19 {m : Me} (h : ¬ (m.count < 1 ∨ 64 < m.count)) (h2 : powJ m.unit 7 = true) (h3 : ¬ m.grouped) : 19 = m.err := me_3 h (pow_iff.1 h2) h3
theorem me_00 {m : Me} (h : ¬ (m.count < 1 ∨ 64 < m.count)) (h2 : powJ m.unit 7 = true) (h3 : m.grouped) : 0 = m.err := me_4 h (pow_iff.1 h2) h3
theorem me_17 {m : Me} (h : ¬ (m.count < 1 ∨ 64 < m.count)) (h2 : ¬ powJ m.unit 7 = true) : 17 = m.err := me_2 h (Decidable.not_not.1 fun k => h2 (pow_iff.2 k))
theorem no_grp {m : Me} (h1 : gGo 0 0 0 m.gs = none) : ¬ m.grouped := by
 rintro (h | h)
 ·have : m.gs = [0, 0, 0, 0, 0, 0] := by unfold Me.flat at h; unfold Me.gs; rw [h.1, h.2.1, h.2.2.1, h.2.2.2.1, h.2.2.2.2.1, h.2.2.2.2.2]
  rw [this] at h1
  revert h1; decide
 ·rw [h1] at h; exact h
theorem gs_box {m : Me} {k : Nat} {g : Int} (h : m.gs[k]? = some g) : ((Me.c m).map S.d)[2 + k]? = some (S.d (dI g)) := by
 have : (m.gs.map fun g => S.d (dI g))[k]? = some (S.d (dI g)) := by rw [List.getElem?_map, h]; rfl
 have e : ((Me.c m).map S.d) = [S.d (dI m.count), S.d (dI m.unit)] ++ m.gs.map fun g => S.d (dI g) := rfl
 rw [e, List.getElem?_append_right (by simp)]
 simpa using this
theorem notb {b : Bool} (h : (!b) = true) : ¬ b = true := by cases b <;> simp_all
theorem notb2 {b : Bool} (h : (!b) = false) : b = true := by cases b <;> simp_all
set_option maxRecDepth 20000 in
set_option maxHeartbeats 8000000 in
theorem rCheck04_xc (m : Me) : XC Tryz.prog 36 [.agg (Me.c m)] (fun r => r = dI m.err) := by
 refine xc_body callable_36 Tryz.func36 rfl rfl (Nat.le_of_ble_eq_true rfl) ?_
 refine zr ?_
 refine XL.step rfl (st_boxN 1 (l := [.d (dI m.count), .d (dI m.unit), .d (dI m.g0), .d (dI m.g1), .d (dI m.g2), .d (dI m.g3), .d (dI m.g4), .d (dI m.g5)]) rfl rfl (by kernel_rfl)) ?_
 refine za rfl rfl ?_
 refine zn ?_
 refine zs ?_
 refine zr ?_
 refine zp (p_fld_ptr rfl rfl fld_28_0) ?_
 refine zp (p_load_box rfl rfl sc_3 rfl rfl) ?_
 refine zp (p_lss rfl rfl rfl) ?_
 refine zm rfl rfl ?_
 refine XL.dec 12 rfl (fun g12 => ?_) (fun g12 => ?_)
 refine zk 3 rfl ?_
 refine zq rfl rfl rfl ?_
 refine zn ?_
 refine xw_true (by kernel_rfl) rfl ?_
 refine zr ?_
 refine za rfl rfl ?_
 refine zn ?_
 refine zt ?_
 exact z1 rfl rfl (rI (me_1 (.inl g12)))
 refine zp (p_fld_ptr rfl rfl fld_28_0) ?_
 refine zp (p_load_box rfl rfl sc_3 rfl rfl) ?_
 refine zp (p_gtr rfl rfl rfl) ?_
 refine zq rfl rfl rfl ?_
 refine zn ?_
 refine zd rfl (fun c16 => ?_) (fun c16 => ?_)
 refine zr ?_
 refine za rfl rfl ?_
 refine zn ?_
 refine zt ?_
 exact z1 rfl rfl (rI (me_1 (.inr c16)))
 refine zi ?_
 refine zr ?_
 refine za rfl rfl ?_
 refine zn ?_
 refine zs ?_
 refine zr ?_
 refine za rfl rfl ?_
 refine zn ?_
 refine xw_block ?_
 refine xw_loop (α := Nat) (fun j => j ≤ 7) (fun j => mkF [(1, .ptr 1 0 0), (2, .d (dI 0)), (3, .d (dB (powJ m.unit j))), (4, .d (dI (2 ^ j)))]) (fun j => mkH [(1, .box ((Me.c m).map S.d))]) (fun j => 7 - j) (0) (Nat.zero_le _) ?_ ?_ ?_
 exact fz ⟨sr, sr, sr, .same (sI (by decide)), trivial⟩
 exact gz ⟨rfl, trivial⟩
 intro j hk0
 have hp7 := pow7 hk0
 refine zs ?_
 refine zr ?_
 refine zm rfl rfl ?_
 refine zp (p_leq rfl rfl rfl) ?_
 refine zn ?_
 refine zd rfl (fun c18 => ?_) (fun c18 => ?_)
 refine zi ?_
 refine zs ?_
 refine xw_block ?_
 refine xw_region (by kernel_rfl) ?_
 refine zm rfl rfl ?_
 refine zm rfl rfl ?_
 refine XL.bool 22 rfl (fun g22 => ?_) (fun g22 => ?_)
 refine zk 4 rfl ?_
 refine zq rfl rfl rfl ?_
 refine za rfl rfl ?_
 refine zn ?_
 refine xw_region (by kernel_rfl) ?_
 refine zm rfl rfl ?_
 refine zp (p_mul rfl rfl rfl (by omega) (by omega)) ?_
 refine za rfl rfl ?_
 refine zn ?_
 exact k_round (j + 1) (by omega) (by omega) (fz ⟨sr, sr, .same (sB (by rw [powJ_succ, g22]; rfl)), .same (sI (by rw [Int.pow_succ]; omega)), trivial⟩) (gz ⟨rfl, trivial⟩)
 refine zp (p_fld_ptr rfl rfl fld_28_1) ?_
 refine zp (p_load_box rfl rfl sc_3 rfl rfl) ?_
 refine zm rfl rfl ?_
 refine zp (p_eql rfl rfl rfl) ?_
 refine zq rfl rfl rfl ?_
 refine za rfl rfl ?_
 refine zn ?_
 refine xw_region (by kernel_rfl) ?_
 refine zm rfl rfl ?_
 refine zp (p_mul rfl rfl rfl (by omega) (by omega)) ?_
 refine za rfl rfl ?_
 refine zn ?_
 exact k_round (j + 1) (by omega) (by omega) (fz ⟨sr, sr, .same (sB (by rw [powJ_succ, g22]; rfl)), .same (sI (by rw [Int.pow_succ]; omega)), trivial⟩) (gz ⟨rfl, trivial⟩)
 have hj7 : j = 7 := by omega
 subst hj7
 refine xw_exit ?_
 refine zs ?_
 refine zr ?_
 refine zm rfl rfl ?_
 refine zp (p_not rfl rfl) ?_
 refine zn ?_
 refine xw_cond (by kernel_rfl) rfl (fun c29 => ?_) (fun c29 => ?_)
 refine zr ?_
 refine za rfl rfl ?_
 refine zn ?_
 refine zt ?_
 exact z1 rfl rfl (rI (me_17 (by omega) (notb c29)))
 have hpw := notb2 c29
 refine zi ?_
 refine zr ?_
 refine za rfl rfl ?_
 refine za rfl rfl ?_
 refine zn ?_
 refine zs ?_
 refine zr ?_
 refine za rfl rfl ?_
 refine zn ?_
 refine xw_block ?_
 refine xw_loop (α := Nat × Int × Int) (fun p => p.1 ≤ 6 ∧ gGo p.1 p.2.1 p.2.2 (m.gs.drop p.1) = gGo 0 0 0 m.gs ∧ 0 ≤ p.2.1 ∧ p.2.1 ≤ 64 * p.1 ∧ 0 ≤ p.2.2 ∧ p.2.2 ≤ p.1) (fun p => mkF [(1, .ptr 1 0 0), (5, .d (dI p.2.1)), (6, .d (dI p.2.2)), (7, .d (dI (p.1 : Nat)))]) (fun p => mkH [(1, .box ((Me.c m).map S.d))]) (fun p => 6 - p.1) ((0, 0, 0)) (⟨Nat.zero_le _, rfl, by simp, by simp, by simp, by simp⟩) ?_ ?_ ?_
 exact fz ⟨sr, sr, sr, sr, trivial⟩
 exact gz ⟨rfl, trivial⟩
 intro p hk2
 obtain ⟨hk, hgo, hs0, hs1, hn0, hn1⟩ := hk2
 refine zs ?_
 refine zr ?_
 refine zm rfl rfl ?_
 refine zp (p_lss rfl rfl rfl) ?_
 refine zn ?_
 refine zd rfl (fun c31 => ?_) (fun c31 => ?_)
 obtain ⟨g, hg⟩ : ∃ g, m.gs[p.1]? = some g := get_ex (by show p.1 < 6; omega)
 refine zi ?_
 refine zs ?_
 refine xw_block ?_
 refine zr ?_
 refine zm rfl rfl ?_
 refine zp (p_fld_ptr rfl rfl fld_28_2) ?_
 refine zp (p_idx_arr rfl rfl rfl Tryz.underlying26 sz_3 (by omega)) ?_
 refine zp (p_load_box rfl rfl sc_3 rfl (gs_box hg)) ?_
 refine za rfl rfl ?_
 refine zn ?_
 refine zs ?_
 refine zr ?_
 refine zm rfl rfl ?_
 refine zp (p_lss rfl rfl rfl) ?_
 refine zm rfl rfl ?_
 refine XL.dec 40 rfl (fun g40 => ?_) (fun g40 => ?_)
 refine zk 2 rfl ?_
 refine zq rfl rfl rfl ?_
 refine zm rfl rfl ?_
 refine zk 7 rfl ?_
 refine zq rfl rfl rfl ?_
 refine zn ?_
 refine xw_true (by kernel_rfl) rfl ?_
 refine zr ?_
 refine za rfl rfl ?_
 refine zn ?_
 refine zt ?_
 exact z1 rfl rfl (rI (me_19 (by omega) hpw (no_grp (by rw [← hgo]; exact gGo_none hg (by omega)))))
 refine zm rfl rfl ?_
 refine zp (p_gtr rfl rfl rfl) ?_
 refine zq rfl rfl rfl ?_
 refine zm rfl rfl ?_
 refine XL.dec 44 rfl (fun g44 => ?_) (fun g44 => ?_)
 refine zk 7 rfl ?_
 refine zq rfl rfl rfl ?_
 refine zn ?_
 refine xw_true (by kernel_rfl) rfl ?_
 refine zr ?_
 refine za rfl rfl ?_
 refine zn ?_
 refine zt ?_
 exact z1 rfl rfl (rI (me_19 (by omega) hpw (no_grp (by rw [← hgo]; exact gGo_none hg (by omega)))))
 refine zm rfl rfl ?_
 refine zp (p_gtr rfl rfl rfl) ?_
 refine zm rfl rfl ?_
 refine XL.dec 47 rfl (fun g47 => ?_) (fun g47 => ?_)
 refine zm rfl rfl ?_
 refine zm rfl rfl ?_
 refine zp (p_lss rfl rfl rfl) ?_
 refine zq rfl rfl rfl ?_
 refine zq rfl rfl rfl ?_
 refine zn ?_
 refine zd rfl (fun c52 => ?_) (fun c52 => ?_)
 refine zr ?_
 refine za rfl rfl ?_
 refine zn ?_
 refine zt ?_
 exact z1 rfl rfl (rI (me_19 (by omega) hpw (no_grp (by rw [← hgo]; exact gGo_none hg (by omega)))))
 refine zi ?_
 refine zr ?_
 refine zm rfl rfl ?_
 refine zp (p_gtr rfl rfl rfl) ?_
 refine zn ?_
 refine zd rfl (fun c54 => ?_) (fun c54 => ?_)
 refine xw_region (by kernel_rfl) ?_
 refine zm rfl rfl ?_
 refine zm rfl rfl ?_
 refine zp (p_add rfl rfl rfl (by omega) (by omega)) ?_
 refine zm rfl rfl ?_
 refine zp (p_add rfl rfl rfl (by omega) (by omega)) ?_
 refine za rfl rfl ?_
 refine za rfl rfl ?_
 refine zn ?_
 refine xw_region (by kernel_rfl) ?_
 refine zm rfl rfl ?_
 refine zp (p_add rfl rfl rfl (by omega) (by omega)) ?_
 refine za rfl rfl ?_
 refine zn ?_
 exact k_round ((p.1 + 1, p.2.1 + g, p.2.2 + 1)) (⟨by simp only; omega, by rw [← gGo_yes hg (by omega) c54]; exact hgo, by simp only; omega, by simp only; omega, by simp only; omega, by simp only; omega⟩) (by simp only; omega) (fz ⟨sr, sr, sr, sr, trivial⟩) (gz ⟨rfl, trivial⟩)
 refine zi ?_
 refine xw_region (by kernel_rfl) ?_
 refine zm rfl rfl ?_
 refine zp (p_add rfl rfl rfl (by omega) (by omega)) ?_
 refine za rfl rfl ?_
 refine zn ?_
 exfalso; omega
 refine zk 3 rfl ?_
 refine zq rfl rfl rfl ?_
 refine zq rfl rfl rfl ?_
 refine zn ?_
 refine xw_false (by kernel_rfl) rfl ?_
 refine zi ?_
 refine zr ?_
 refine zm rfl rfl ?_
 refine zp (p_gtr rfl rfl rfl) ?_
 refine zn ?_
 refine zd rfl (fun c54 => ?_) (fun c54 => ?_)
 refine xw_region (by kernel_rfl) ?_
 refine zm rfl rfl ?_
 refine zm rfl rfl ?_
 refine zp (p_add rfl rfl rfl (by omega) (by omega)) ?_
 refine zm rfl rfl ?_
 refine zp (p_add rfl rfl rfl (by omega) (by omega)) ?_
 refine za rfl rfl ?_
 refine za rfl rfl ?_
 refine zn ?_
 refine xw_region (by kernel_rfl) ?_
 refine zm rfl rfl ?_
 refine zp (p_add rfl rfl rfl (by omega) (by omega)) ?_
 refine za rfl rfl ?_
 refine zn ?_
 exfalso; omega
 refine zi ?_
 refine xw_region (by kernel_rfl) ?_
 refine zm rfl rfl ?_
 refine zp (p_add rfl rfl rfl (by omega) (by omega)) ?_
 refine za rfl rfl ?_
 refine zn ?_
 exact k_round ((p.1 + 1, p.2.1, p.2.2)) (⟨by simp only; omega, by rw [← gGo_no hg (by omega) c54]; exact hgo, by simp only; omega, by simp only; omega, by simp only; omega, by simp only; omega⟩) (by simp only; omega) (fz ⟨sr, sr, sr, sr, trivial⟩) (gz ⟨rfl, trivial⟩)
 have hke : p.1 = 6 := by omega
 have hend : gGo 0 0 0 m.gs = some (p.2.1, p.2.2) := by rw [← hgo, hke]; rfl
 have hgr := grp_ref hend hn0
 refine xw_exit ?_
 refine zs ?_
 refine zr ?_
 refine zm rfl rfl ?_
 refine zp (p_eql rfl rfl rfl) ?_
 refine zm rfl rfl ?_
 refine XL.dec 62 rfl (fun g62 => ?_) (fun g62 => ?_)
 refine zk 8 rfl ?_
 refine zq rfl rfl rfl ?_
 refine zn ?_
 refine xw_true (by kernel_rfl) rfl ?_
 refine zr ?_
 refine za rfl rfl ?_
 refine zn ?_
 refine zt ?_
 exact z1 rfl rfl (rI (me_19 (by omega) hpw (fun k => hgr.1 k (.inl g62))))
 refine zm rfl rfl ?_
 refine zp (p_gtr rfl rfl rfl) ?_
 refine zm rfl rfl ?_
 refine XL.dec 65 rfl (fun g65 => ?_) (fun g65 => ?_)
 refine zm rfl rfl ?_
 refine zp (p_fld_ptr rfl rfl fld_28_0) ?_
 refine zp (p_load_box rfl rfl sc_3 rfl rfl) ?_
 refine zp (p_neq rfl rfl rfl) ?_
 refine zq rfl rfl rfl ?_
 refine zq rfl rfl rfl ?_
 refine zn ?_
 refine zd rfl (fun c71 => ?_) (fun c71 => ?_)
 refine zr ?_
 refine za rfl rfl ?_
 refine zn ?_
 refine zt ?_
 exact z1 rfl rfl (rI (me_19 (by omega) hpw (fun k => hgr.1 k (by omega))))
 refine zi ?_
 refine zr ?_
 refine za rfl rfl ?_
 refine zn ?_
 refine zt ?_
 exact z1 rfl rfl (rI (me_00 (by omega) hpw (hgr.2 (by omega))))
 refine zk 4 rfl ?_
 refine zq rfl rfl rfl ?_
 refine zq rfl rfl rfl ?_
 refine zn ?_
 refine xw_false (by kernel_rfl) rfl ?_
 refine zi ?_
 refine zr ?_
 refine za rfl rfl ?_
 refine zn ?_
 refine zt ?_
 exact z1 rfl rfl (rI (me_00 (by omega) hpw (hgr.2 (by omega))))
def Pl.err (p : Pl) : Int := if p.m.err ≠ 0 then p.m.err else if p.bad then 2 else 0
theorem ple_1 {p : Pl} (h : p.m.err ≠ 0) : p.m.err = p.err := by rw [Pl.err, if_pos h]
theorem ple_2 {p : Pl} (h : ¬ p.m.err ≠ 0) (h2 : p.bad) : 2 = p.err := by rw [Pl.err, if_neg h, if_pos h2]
theorem ple_3 {p : Pl} (h : ¬ p.m.err ≠ 0) (h2 : ¬ p.bad) : 0 = p.err := by rw [Pl.err, if_neg h, if_neg h2]
theorem chk_e {p : Pl} {v : Vo} : p.chk v = if p.err ≠ 0 then p.err else ckE v p.len := by
 unfold Pl.chk Pl.err
 by_cases c : p.m.err ≠ 0
 ·rw [if_pos c, if_pos c, if_pos c]
 ·rw [if_neg c, if_neg c]
  by_cases c2 : p.bad
  ·rw [if_pos c2, if_pos c2]; rfl
  ·rw [if_neg c2, if_neg c2, if_neg (by decide)]
set_option maxRecDepth 20000 in
set_option maxHeartbeats 8000000 in
theorem rPlace_xc (p : Pl) : XC Tryz.prog 49 [.agg (Pl.c p)] (fun r => r = dI p.err) := by
 refine xc_body callable_49 Tryz.func49 rfl rfl (Nat.le_of_ble_eq_true rfl) ?_
 refine zr ?_
 refine XL.step rfl (st_boxN 1 (l := [.d (dI p.m.count), .d (dI p.m.unit), .d (dI p.m.g0), .d (dI p.m.g1), .d (dI p.m.g2), .d (dI p.m.g3), .d (dI p.m.g4), .d (dI p.m.g5), .d (dI p.off), .d (dI p.len)]) rfl rfl (by kernel_rfl)) ?_
 refine za rfl rfl ?_
 refine zn ?_
 refine zs ?_
 refine zr ?_
 refine zp (p_fld_ptr rfl rfl fld_39_0) ?_
 refine zp (pure_eq (s' := .d (.agg (Me.c p.m))) (norm_pure (p_load_boxs rfl rfl agg_28 rfl (Nat.le_of_ble_eq_true rfl))) (by kernel_rfl)) ?_
 refine XL.call1 rfl rfl (rCheck04_xc _) rfl ?_
 refine za rfl rfl ?_
 refine znr ?_
 refine zm rfl rfl ?_
 refine zp (p_neq rfl rfl rfl) ?_
 refine zn ?_
 refine zd rfl (fun c8 => ?_) (fun c8 => ?_)
 refine zr ?_
 refine zm rfl rfl ?_
 refine za rfl rfl ?_
 refine zn ?_
 refine zt ?_
 exact z1 rfl rfl (rI (ple_1 c8))
 refine zi ?_
 refine zs ?_
 refine zr ?_
 refine zp (p_fld_ptr rfl rfl fld_39_1) ?_
 refine zp (p_load_box rfl rfl sc_3 rfl rfl) ?_
 refine zp (p_lss rfl rfl rfl) ?_
 refine zm rfl rfl ?_
 refine XL.dec 13 rfl (fun g13 => ?_) (fun g13 => ?_)
 refine zk 3 rfl ?_
 refine zq rfl rfl rfl ?_
 refine zm rfl rfl ?_
 refine zk 3 rfl ?_
 refine zq rfl rfl rfl ?_
 refine zm rfl rfl ?_
 refine zk 3 rfl ?_
 refine zq rfl rfl rfl ?_
 refine zn ?_
 refine xw_true (by kernel_rfl) rfl ?_
 refine zr ?_
 refine za rfl rfl ?_
 refine zn ?_
 refine zt ?_
 exact z1 rfl rfl (rI (ple_2 c8 (by unfold Pl.bad; omega)))
 refine zp (p_fld_ptr rfl rfl fld_39_1) ?_
 refine zp (p_load_box rfl rfl sc_3 rfl rfl) ?_
 refine zp (p_gtr rfl rfl rfl) ?_
 refine zq rfl rfl rfl ?_
 refine zm rfl rfl ?_
 refine XL.dec 18 rfl (fun g18 => ?_) (fun g18 => ?_)
 refine zk 3 rfl ?_
 refine zq rfl rfl rfl ?_
 refine zm rfl rfl ?_
 refine zk 3 rfl ?_
 refine zq rfl rfl rfl ?_
 refine zn ?_
 refine xw_true (by kernel_rfl) rfl ?_
 refine zr ?_
 refine za rfl rfl ?_
 refine zn ?_
 refine zt ?_
 exact z1 rfl rfl (rI (ple_2 c8 (by unfold Pl.bad; omega)))
 refine zp (p_fld_ptr rfl rfl fld_39_2) ?_
 refine zp (p_load_box rfl rfl sc_3 rfl rfl) ?_
 refine zp (p_lss rfl rfl rfl) ?_
 refine zq rfl rfl rfl ?_
 refine zm rfl rfl ?_
 refine XL.dec 23 rfl (fun g23 => ?_) (fun g23 => ?_)
 refine zk 3 rfl ?_
 refine zq rfl rfl rfl ?_
 refine zn ?_
 refine xw_true (by kernel_rfl) rfl ?_
 refine zr ?_
 refine za rfl rfl ?_
 refine zn ?_
 refine zt ?_
 exact z1 rfl rfl (rI (ple_2 c8 (by unfold Pl.bad; omega)))
 refine zp (p_fld_ptr rfl rfl fld_39_2) ?_
 refine zp (p_load_box rfl rfl sc_3 rfl rfl) ?_
 refine zp (p_gtr rfl rfl rfl) ?_
 refine zq rfl rfl rfl ?_
 refine zn ?_
 refine zd rfl (fun c27 => ?_) (fun c27 => ?_)
 refine zr ?_
 refine za rfl rfl ?_
 refine zn ?_
 refine zt ?_
 exact z1 rfl rfl (rI (ple_2 c8 (by unfold Pl.bad; omega)))
 refine zi ?_
 refine zr ?_
 refine za rfl rfl ?_
 refine zn ?_
 refine zt ?_
 exact z1 rfl rfl (rI (ple_3 c8 (by unfold Pl.bad; omega)))
set_option maxRecDepth 20000 in
theorem first12_xc (v : Vo) (p : Pl) (hE : Evs v.evs) (ht : v.tups.length ≤ 1000) : XC Tryz.prog 16 [.agg (Vo.c v), .agg (Pl.c p)] (fun r => r = dI (p.chk v)) := by
 refine xc_body callable_16 Tryz.func16 rfl rfl (Nat.le_of_ble_eq_true rfl) ?_
 refine zr ?_
 refine XL.step rfl (st_boxN 2 (l := [.d (.sl 13 (v.evs.map Ev.c)), .d (.sl 4 (v.tups.map Tp.c))]) rfl rfl (by kernel_rfl)) ?_
 refine XL.step rfl (st_boxN 3 (l := [.d (dI p.m.count), .d (dI p.m.unit), .d (dI p.m.g0), .d (dI p.m.g1), .d (dI p.m.g2), .d (dI p.m.g3), .d (dI p.m.g4), .d (dI p.m.g5), .d (dI p.off), .d (dI p.len)]) rfl rfl (by kernel_rfl)) ?_
 refine za rfl rfl ?_
 refine zn ?_
 refine zs ?_
 refine zr ?_
 refine zp (pure_eq (s' := .d (.agg (Pl.c p))) (norm_pure (p_load_boxs rfl rfl agg_30 rfl (Nat.le_of_ble_eq_true rfl))) (by kernel_rfl)) ?_
 refine XL.call1 rfl rfl (rPlace_xc _) rfl ?_
 refine za rfl rfl ?_
 refine znr ?_
 refine zm rfl rfl ?_
 refine zp (p_neq rfl rfl rfl) ?_
 refine zn ?_
 refine zd rfl (fun c9 => ?_) (fun c9 => ?_)
 refine zr ?_
 refine zm rfl rfl ?_
 refine za rfl rfl ?_
 refine zn ?_
 refine zt ?_
 exact z1 rfl rfl (rI (by rw [chk_e, if_pos c9]))
 refine zi ?_
 refine zr ?_
 refine zp (pure_eq (s' := .d (.agg (Vo.c v))) (norm_pure (p_load_boxs rfl rfl agg_25 rfl (Nat.le_of_ble_eq_true rfl))) (by kernel_rfl)) ?_
 refine zp (p_fld_ptr rfl rfl fld_30_2) ?_
 refine zp (p_load_box rfl rfl sc_3 rfl rfl) ?_
 refine XL.call1 rfl rfl (rCheck12_xc _ _ (by assumption) (by omega)) rfl ?_
 refine za rfl rfl ?_
 refine zn ?_
 refine zt ?_
 exact z1 rfl rfl (rI (by rw [chk_e, if_neg c9]))
theorem DivS_ok {v : Vo} {p : Pl} {t : Int} (hc : p.chk v = 0) (h : (DivS v p t).2 = 0) : DivS v p t = divS v p t := by
 by_cases c : v.absent
 ·rw [Dv_2 (by omega) c] at h; exact absurd h (by decide)
 ·by_cases c2 : t < 0 ∨ p.len < t
  ·rw [Dv_3 (by omega) c c2] at h; exact absurd h (by decide)
  ·exact Dv_4 (by omega) c c2
theorem simGo_fit {p : Pl} : ∀ (f : Nat) {q : Vo × Nat}, p.chk q.1 = 0 → q.1.fit → (simGo p f q).fit
 | 0, q, _, hF => hF
 | f + 1, q, hc, hF => by
  rw [simGo]
  split
  ·rename_i hq
   obtain ⟨_, _, _, h4, h5, _⟩ := smN_le hc hq
   exact simGo_fit f h4 (h5 hF)
  ·exact hF
theorem sim_fit {v : Vo} {p : Pl} (hc : p.chk v = 0) (hF : v.fit) : (simV v p).fit := simGo_fit _ hc hF
set_option maxRecDepth 20000 in
set_option maxHeartbeats 8000000 in
theorem lsnd_xc (v : Vo) (p : Pl) (a b : Int) (hE : Evs v.evs) : XC Tryz.prog 6 [.agg (Vo.c v), .agg (Pl.c p), .agg [dI a, dI b]] (fun r => r = dB true) := by
 refine xc_body callable_6 Tryz.func6 rfl rfl (Nat.le_of_ble_eq_true rfl) ?_
 refine zr ?_
 refine XL.step rfl (st_boxN 3 (l := [.d (.sl 13 (v.evs.map Ev.c)), .d (.sl 4 (v.tups.map Tp.c))]) rfl rfl (by kernel_rfl)) ?_
 refine XL.step rfl (st_boxN 4 (l := [.d (dI p.m.count), .d (dI p.m.unit), .d (dI p.m.g0), .d (dI p.m.g1), .d (dI p.m.g2), .d (dI p.m.g3), .d (dI p.m.g4), .d (dI p.m.g5), .d (dI p.off), .d (dI p.len)]) rfl rfl (by kernel_rfl)) ?_
 refine XL.step rfl (st_boxN 5 (l := [_, _]) rfl rfl rfl) ?_
 refine za rfl rfl ?_
 refine zn ?_
 refine zs ?_
 refine zr ?_
 refine XL.call1 rfl rfl (known_xc) rfl ?_
 refine zp (p_not rfl rfl) ?_
 refine zm rfl rfl ?_
 refine XL.bool 14 rfl (fun g14 => ?_) (fun g14 => ?_)
 refine zk 3 rfl ?_
 refine zq rfl rfl rfl ?_
 refine zm rfl rfl ?_
 refine zk 4 rfl ?_
 refine zq rfl rfl rfl ?_
 refine zm rfl rfl ?_
 refine zk 3 rfl ?_
 refine zq rfl rfl rfl ?_
 refine zm rfl rfl ?_
 refine zk 5 rfl ?_
 refine zq rfl rfl rfl ?_
 refine zn ?_
 refine xw_true (by kernel_rfl) rfl ?_
 refine zr ?_
 refine XL.call1 rfl rfl (known_xc) rfl ?_
 refine za rfl rfl ?_
 refine zn ?_
 refine zt ?_
 exact z1 rfl rfl (rfl)
 refine zp (pure_eq (s' := .d (.agg (Vo.c v))) (norm_pure (p_load_boxs rfl rfl agg_25 rfl (Nat.le_of_ble_eq_true rfl))) (by kernel_rfl)) ?_
 refine XL.call1 rfl rfl (few_xc _) rfl ?_
 refine zp (p_notdec rfl rfl) ?_
 refine zq rfl rfl rfl ?_
 refine zm rfl rfl ?_
 refine XL.dec 19 rfl (fun g19 => ?_) (fun g19 => ?_)
 refine zk 4 rfl ?_
 refine zq rfl rfl rfl ?_
 refine zm rfl rfl ?_
 refine zk 3 rfl ?_
 refine zq rfl rfl rfl ?_
 refine zm rfl rfl ?_
 refine zk 5 rfl ?_
 refine zq rfl rfl rfl ?_
 refine zn ?_
 refine xw_true (by kernel_rfl) rfl ?_
 refine zr ?_
 refine XL.call1 rfl rfl (known_xc) rfl ?_
 refine za rfl rfl ?_
 refine zn ?_
 refine zt ?_
 exact z1 rfl rfl (rfl)
 have hfw := Decidable.not_not.1 g19
 have htl := hfw.2.2
 refine zp (pure_eq (s' := .d (.agg (Vo.c v))) (norm_pure (p_load_boxs rfl rfl agg_25 rfl (Nat.le_of_ble_eq_true rfl))) (by kernel_rfl)) ?_
 refine zp (pure_eq (s' := .d (.agg (Pl.c p))) (norm_pure (p_load_boxs rfl rfl agg_30 rfl (Nat.le_of_ble_eq_true rfl))) (by kernel_rfl)) ?_
 refine XL.call1 rfl rfl (first12_xc _ _ (by assumption) (by omega)) rfl ?_
 refine zp (p_neq rfl rfl rfl) ?_
 refine zq rfl rfl rfl ?_
 refine zm rfl rfl ?_
 refine XL.dec 25 rfl (fun g25 => ?_) (fun g25 => ?_)
 refine zk 3 rfl ?_
 refine zq rfl rfl rfl ?_
 refine zm rfl rfl ?_
 refine zk 5 rfl ?_
 refine zq rfl rfl rfl ?_
 refine zn ?_
 refine xw_true (by kernel_rfl) rfl ?_
 refine zr ?_
 refine XL.call1 rfl rfl (known_xc) rfl ?_
 refine za rfl rfl ?_
 refine zn ?_
 refine zt ?_
 exact z1 rfl rfl (rfl)
 refine zp (p_idx_arr (k := 1) rfl rfl rfl Tryz.underlying62 sz_3 (by omega)) ?_
 refine zp (p_load_box rfl rfl sc_3 rfl rfl) ?_
 refine zp (p_lss rfl rfl rfl) ?_
 refine zq rfl rfl rfl ?_
 refine zm rfl rfl ?_
 refine XL.dec 30 rfl (fun g30 => ?_) (fun g30 => ?_)
 refine zk 5 rfl ?_
 refine zq rfl rfl rfl ?_
 refine zn ?_
 refine xw_true (by kernel_rfl) rfl ?_
 refine zr ?_
 refine XL.call1 rfl rfl (known_xc) rfl ?_
 refine za rfl rfl ?_
 refine zn ?_
 refine zt ?_
 exact z1 rfl rfl (rfl)
 refine zp (p_idx_arr (k := 1) rfl rfl rfl Tryz.underlying62 sz_3 (by omega)) ?_
 refine zp (p_load_box rfl rfl sc_3 rfl rfl) ?_
 refine zp (p_fld_ptr rfl rfl fld_30_2) ?_
 refine zp (p_load_box rfl rfl sc_3 rfl rfl) ?_
 refine zp (p_geq rfl rfl rfl) ?_
 refine zq rfl rfl rfl ?_
 refine zn ?_
 refine zd rfl (fun c36 => ?_) (fun c36 => ?_)
 refine zr ?_
 refine XL.call1 rfl rfl (known_xc) rfl ?_
 refine za rfl rfl ?_
 refine zn ?_
 refine zt ?_
 exact z1 rfl rfl (rfl)
 refine zi ?_
 refine zs ?_
 have hF := hfw.fit
 have hc0 : p.chk v = 0 := by omega
 refine xw_region (by kernel_rfl) ?_
 refine zp (pure_eq (s' := .d (.agg (Vo.c v))) (norm_pure (p_load_boxs rfl rfl agg_25 rfl (Nat.le_of_ble_eq_true rfl))) (by kernel_rfl)) ?_
 refine zp (p_fld_ptr rfl rfl fld_30_2) ?_
 refine zp (p_load_box rfl rfl sc_3 rfl rfl) ?_
 refine zp (p_idx_arr (k := 1) rfl rfl rfl Tryz.underlying62 sz_3 (by omega)) ?_
 refine zp (p_load_box rfl rfl sc_3 rfl rfl) ?_
 refine XL.call1 rfl rfl (sound_xc _ _ _ (by assumption) (by assumption)) rfl ?_
 refine za rfl rfl ?_
 refine znr ?_
 refine zp (pure_eq (s' := .d (.agg (Vo.c v))) (norm_pure (p_load_boxs rfl rfl agg_25 rfl (Nat.le_of_ble_eq_true rfl))) (by kernel_rfl)) ?_
 refine zp (pure_eq (s' := .d (.agg (Pl.c p))) (norm_pure (p_load_boxs rfl rfl agg_30 rfl (Nat.le_of_ble_eq_true rfl))) (by kernel_rfl)) ?_
 refine zp (p_idx_arr (k := 0) rfl rfl rfl Tryz.underlying62 sz_3 (by omega)) ?_
 refine zp (p_load_box rfl rfl sc_3 rfl rfl) ?_
 refine XL.call1 rfl rfl (Divide_xc _ _ _ (by assumption) (by assumption)) rfl ?_
 refine zm rfl rfl ?_
 refine zp (p_ext rfl rfl rfl) ?_
 refine zp (p_ext rfl rfl rfl) ?_
 refine XL.step rfl (st_allocN 8 (l := [.d (.v (.slice none 0 0)), .d (.v (.slice none 0 0))]) rfl zero_25 (by kernel_rfl)) ?_
 refine XL.step rfl (st_storeN (l' := [_, _]) rfl rfl rfl rfl sz_25 rfl (Nat.le_of_ble_eq_true rfl) rfl) ?_
 refine za rfl rfl ?_
 refine zn ?_
 refine zs ?_
 refine zr ?_
 refine zm rfl rfl ?_
 refine zp (p_eql rfl rfl rfl) ?_
 refine zm rfl rfl ?_
 refine XL.dec 54 rfl (fun g54 => ?_) (fun g54 => ?_)
 have hdo := DivS_ok hc0 g54
 have hd2 : (divS v p a).2 = 0 := by rw [← hdo]; exact g54
 have hdc := divS_chk hc0 hd2
 have hdE : Evs (DivS v p a).1.evs := by rw [hdo]; exact chk_evs hdc
 have hdF : (DivS v p a).1.fit := by rw [hdo]; exact divS_fit hc0 hF hd2
 have hsd : pitsOf (soundS (DivS v p a).1 p.len b) = pitsOf (soundS v p.len b) := by rw [hdo]; exact div_sound hc0 hd2 b (by omega) (by omega)
 refine zp (pure_eq (s' := .d (.agg [_, _])) (norm_pure (p_load_boxs rfl rfl agg_25 rfl (Nat.le_of_ble_eq_true rfl))) rfl) ?_
 refine zp (p_fld_ptr rfl rfl fld_30_2) ?_
 refine zp (p_load_box rfl rfl sc_3 rfl rfl) ?_
 refine zp (p_idx_arr (k := 1) rfl rfl rfl Tryz.underlying62 sz_3 (by omega)) ?_
 refine zp (p_load_box rfl rfl sc_3 rfl rfl) ?_
 refine XL.call1 rfl rfl (sound_xc _ _ _ (by assumption) (by assumption)) rfl ?_
 refine zm rfl rfl ?_
 refine XL.call1 rfl rfl (xc_yes (lpit_xc _ _) hsd) rfl ?_
 refine zp (pure_eq (s' := .d (dB false)) (p_not rfl rfl) (rfl)) ?_
 refine zq rfl rfl rfl ?_
 refine zn ?_
 refine xw_false (by kernel_rfl) rfl ?_
 refine zi ?_
 refine zs ?_
 have hs2 := sm_2 (p := p) (v := v) (by omega)
 have hsE : Evs (simS v p).1.evs := by rw [hs2]; exact chk_evs (sim_chk hc0)
 have hsF : (simS v p).1.fit := by rw [hs2]; exact sim_fit hc0 hF
 have hss : pitsOf (soundS (simS v p).1 p.len b) = pitsOf (soundS v p.len b) := by rw [hs2]; exact sim_sound hc0 b (by omega) (by omega)
 refine xw_region (by kernel_rfl) ?_
 refine zp (pure_eq (s' := .d (.agg (Vo.c v))) (norm_pure (p_load_boxs rfl rfl agg_25 rfl (Nat.le_of_ble_eq_true rfl))) (by kernel_rfl)) ?_
 refine zp (pure_eq (s' := .d (.agg (Pl.c p))) (norm_pure (p_load_boxs rfl rfl agg_30 rfl (Nat.le_of_ble_eq_true rfl))) (by kernel_rfl)) ?_
 refine XL.call1 rfl rfl (simplify_xc _ _ (by assumption) (by assumption)) rfl ?_
 refine zm rfl rfl ?_
 refine zp (p_ext rfl rfl rfl) ?_
 refine zp (p_ext rfl rfl rfl) ?_
 refine XL.step rfl (st_allocN 10 (l := [.d (.v (.slice none 0 0)), .d (.v (.slice none 0 0))]) rfl zero_25 (by kernel_rfl)) ?_
 refine XL.step rfl (st_storeN (l' := [.d (.sl 13 (((simS v p).1).evs.map Ev.c)), .d (.sl 4 (((simS v p).1).tups.map Tp.c))]) rfl rfl rfl rfl sz_25 rfl (Nat.le_of_ble_eq_true rfl) (by kernel_rfl)) ?_
 refine za rfl rfl ?_
 refine znr ?_
 refine zm rfl rfl ?_
 refine zp (p_yes (p_eql rfl rfl rfl) (by rw [hs2])) ?_
 refine zm rfl rfl ?_
 refine zp (pure_eq (s' := .d (.agg (Vo.c (simS v p).1))) (norm_pure (p_load_boxs rfl rfl agg_25 rfl (Nat.le_of_ble_eq_true rfl))) (by kernel_rfl)) ?_
 refine zp (p_fld_ptr rfl rfl fld_30_2) ?_
 refine zp (p_load_box rfl rfl sc_3 rfl rfl) ?_
 refine zp (p_idx_arr (k := 1) rfl rfl rfl Tryz.underlying62 sz_3 (by omega)) ?_
 refine zp (p_load_box rfl rfl sc_3 rfl rfl) ?_
 refine XL.call1 rfl rfl (sound_xc _ _ _ (by assumption) (by assumption)) rfl ?_
 refine zm rfl rfl ?_
 refine XL.call1 rfl rfl (xc_yes (lpit_xc _ _) hss) rfl ?_
 refine zq rfl rfl rfl ?_
 refine zp (pure_eq (s' := .d (dB true)) (p_assign rfl (by conv => lhs; whnf)) (rfl)) ?_
 refine zn ?_
 refine zt ?_
 exact z1 rfl rfl (rfl)
 refine zk 9 rfl ?_
 refine zq rfl rfl rfl ?_
 refine zn ?_
 refine xw_false (by kernel_rfl) rfl ?_
 refine zi ?_
 refine zs ?_
 have hs2 := sm_2 (p := p) (v := v) (by omega)
 have hsE : Evs (simS v p).1.evs := by rw [hs2]; exact chk_evs (sim_chk hc0)
 have hsF : (simS v p).1.fit := by rw [hs2]; exact sim_fit hc0 hF
 have hss : pitsOf (soundS (simS v p).1 p.len b) = pitsOf (soundS v p.len b) := by rw [hs2]; exact sim_sound hc0 b (by omega) (by omega)
 refine xw_region (by kernel_rfl) ?_
 refine zp (pure_eq (s' := .d (.agg (Vo.c v))) (norm_pure (p_load_boxs rfl rfl agg_25 rfl (Nat.le_of_ble_eq_true rfl))) (by kernel_rfl)) ?_
 refine zp (pure_eq (s' := .d (.agg (Pl.c p))) (norm_pure (p_load_boxs rfl rfl agg_30 rfl (Nat.le_of_ble_eq_true rfl))) (by kernel_rfl)) ?_
 refine XL.call1 rfl rfl (simplify_xc _ _ (by assumption) (by assumption)) rfl ?_
 refine zm rfl rfl ?_
 refine zp (p_ext rfl rfl rfl) ?_
 refine zp (p_ext rfl rfl rfl) ?_
 refine XL.step rfl (st_allocN 10 (l := [.d (.v (.slice none 0 0)), .d (.v (.slice none 0 0))]) rfl zero_25 (by kernel_rfl)) ?_
 refine XL.step rfl (st_storeN (l' := [.d (.sl 13 (((simS v p).1).evs.map Ev.c)), .d (.sl 4 (((simS v p).1).tups.map Tp.c))]) rfl rfl rfl rfl sz_25 rfl (Nat.le_of_ble_eq_true rfl) (by kernel_rfl)) ?_
 refine za rfl rfl ?_
 refine znr ?_
 refine zm rfl rfl ?_
 refine zp (p_yes (p_eql rfl rfl rfl) (by rw [hs2])) ?_
 refine zm rfl rfl ?_
 refine zp (pure_eq (s' := .d (.agg (Vo.c (simS v p).1))) (norm_pure (p_load_boxs rfl rfl agg_25 rfl (Nat.le_of_ble_eq_true rfl))) (by kernel_rfl)) ?_
 refine zp (p_fld_ptr rfl rfl fld_30_2) ?_
 refine zp (p_load_box rfl rfl sc_3 rfl rfl) ?_
 refine zp (p_idx_arr (k := 1) rfl rfl rfl Tryz.underlying62 sz_3 (by omega)) ?_
 refine zp (p_load_box rfl rfl sc_3 rfl rfl) ?_
 refine XL.call1 rfl rfl (sound_xc _ _ _ (by assumption) (by assumption)) rfl ?_
 refine zm rfl rfl ?_
 refine XL.call1 rfl rfl (xc_yes (lpit_xc _ _) hss) rfl ?_
 refine zq rfl rfl rfl ?_
 refine zp (pure_eq (s' := .d (dB true)) (p_assign rfl (by conv => lhs; whnf)) (rfl)) ?_
 refine zn ?_
 refine zt ?_
 exact z1 rfl rfl (rfl)
end Go.Proofs.YtcihalbakenleaaGreat
namespace Go.Proofs.YtcihalbakenleaaGreat
open Go.RowKit
open Go.ChangeShapes Go.WideShapes Go.ChangeAt Go.RowKit
set_option maxRecDepth 100000 in
theorem voiceSounds_lifted (os : Os) (started : os.Started) (H : Type) (enc : TypeId × Value → H) :
  ReturnsInHanded {} Tryz.checked os 6 .any (Rows.voiceSoundsSpec.pre6 enc Tryz.prog Tryz.f6 Rows.voiceSoundsRow.domain false) (Rows.voiceSoundsSpec.post enc Tryz.prog Tryz.f6 false true false false) := by
 refine returnsInHanded_of_change (C := Tryz.checked) own_ started (by kernel_rfl) Tryz.func6
  (ChangeSpec.witness6 (enc := enc) (C := Tryz.checked) false ⟨#[], #[.agg #[.slice none 0 0, .slice none 0 0], .agg #[.int .i64 0, .int .i64 0, .int .i64 0, .int .i64 0, .int .i64 0, .int .i64 0, .int .i64 0, .int .i64 0, .int .i64 0, .int .i64 0], .agg #[.int .i64 0, .int .i64 0]], []⟩ 8 (by kernel_rfl) (by kernel_rfl) (by kernel_rfl) (by kernel_rfl)) ?_
 intro W base args ds gs before hval0 hW hcnd _
 have hval : ∀ (j : Nat) t v, Tryz.f6.params[j]? = some t → args[j]? = some v → Value.okWide Tryz.prog W .any base t v := hval0
 have hW' := hW
 obtain ⟨p, q, hA0, hV, rfl, hfz, hnd⟩ := hW
 have hA : DataW.TrodAll enc Tryz.prog W 0 (fun _ => true) true Tryz.f6.params.toList args.toList ds p := hA0
 rw [Tryz.params6] at hA hval
 obtain ⟨v0, vs0, d0, ds0, p0, q0, hargs, rfl, rfl, h0, r0⟩ := trodAll_cons hA
 obtain ⟨v1, vs1, d1, ds1, p1, q1, rfl, rfl, rfl, h1, r1⟩ := trodAll_cons r0
 obtain ⟨v2, vs2, d2, ds2, p2, q2, rfl, rfl, rfl, h2, r2⟩ := trodAll_cons r1
 obtain ⟨rfl, rfl, rfl⟩ := trodAll_nil r2
 obtain rfl : args = #[v0, v1, v2] := by cases args; simp_all
 obtain ⟨rfl, rfl⟩ := trodVars_none hV
 obtain ⟨c0, g0, k0⟩ := openD_st Tryz.underlying25 dq_Vo (hval 0 25 v0 rfl rfl) h0
 obtain ⟨x0, rfl, hE⟩ := QVo.inv _ k0
 obtain ⟨c1, g1, k1⟩ := openD_st Tryz.underlying30 dq_Pl (hval 1 30 v1 rfl rfl) h1
 obtain ⟨x1, rfl⟩ := QPl.inv _ k1
 obtain ⟨c2, g2, k2⟩ := openD_ar Tryz.underlying62 dq_A2 (hval 2 62 v2 rfl rfl) h2
 obtain ⟨a2, b2, rfl⟩ := QA2.inv _ k2
 refine (XC.law (w := W) (vs := #[v0, v1, v2]) (lsnd_xc x0 x1 a2 b2 hE) rfl (fun i x d hx hd => ?_)).mono fun e W' ⟨he, hb⟩ => ?_
 ·match i, hx, hd with
  | 0, hx, hd => cases hx; cases hd; exact g0
  | 1, hx, hd => cases hx; cases hd; exact g1
  | 2, hx, hd => cases hx; cases hd; exact g2
  | _ + 3, hx, hd => simp at hx
 ·subst he
  exact ⟨_, rfl, law_post laid_out (by rw [Tryz.params6]; intro t ht; simp only [List.mem_cons, List.not_mem_nil, or_false] at ht; rcases ht with rfl | rfl | rfl <;> exact ⟨by kernel_rfl, of_decide_eq_true (by kernel_rfl)⟩) rfl Tryz.underlying4 rfl rfl hW' hb⟩
/-- the statement -/
theorem voiceSounds_holds : Rows.VoiceSoundsSaid :=
 OpenClaim.holds_of_wide 6 Tryz.f6 rfl rfl rfl rfl rfl rfl rfl ⟨rfl, rfl, rfl, rfl, rfl⟩ rfl rfl rfl rfl rfl (by kernel_rfl) Tryz.func6 (by kernel_rfl)
  (of_decide_eq_true (by kernel_rfl)) (by unfold Func.isWrapper; first | (rw [if_pos (by decide +kernel)]; kernel_rfl) | (rw [if_neg (by decide +kernel)]; exact ⟨rfl, rfl⟩))
  (fun os started H enc _ => voiceSounds_lifted os started H enc)
end Go.Proofs.YtcihalbakenleaaGreat
