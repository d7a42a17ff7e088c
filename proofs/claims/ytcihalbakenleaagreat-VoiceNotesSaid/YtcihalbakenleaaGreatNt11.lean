/- Part 11 of what the statements need: lemmas and walks. -/
import Derived.Test.YtcihalbakenleaaGreatNt10
set_option linter.unusedVariables false
set_option maxRecDepth 20000
set_option maxHeartbeats 8000000
namespace Go.Proofs.YtcihalbakenleaaGreat
open Go.RowKit
theorem r12tied_xc (l : List Hd) (h : l.length ≤ 1000) : XC Tryz.prog 51 [.sl 5 (l.map Hd.c)] (fun r => r = .sl 5 ((l.map Hd.tie).map Hd.c)) := by
 refine xc_body callable_51 Tryz.func51 rfl rfl (Nat.le_of_ble_eq_true rfl) ?_
 refine zr ?_
 refine za rfl rfl ?_
 refine znr ?_
 refine za rfl rfl ?_
 refine zn ?_
 refine zs ?_
 refine zr ?_
 refine za rfl rfl ?_
 refine zn ?_
 refine xw_block ?_
 refine xw_ownnil 900 3 91 5 rfl ?_
 refine xw_loop (α := Nat) (fun k => k ≤ l.length) (fun k => mkF [(0, .d (.sl 5 (l.map Hd.c))), (2, .d (.v (.slice none 0 0))), (3, .own 900), (4, .d (dI k))]) (fun k => mkH [(900, .row 91 5 (((l.take k).map Hd.tie).map Hd.c))]) (fun k => l.length - k) (0) (Nat.zero_le _) ?_ ?_ ?_
 exact fz ⟨sr, sr, sr, sr, trivial⟩
 exact gz ⟨rfl, trivial⟩
 intro k hk0
 refine zs ?_
 refine zr ?_
 refine zm rfl rfl ?_
 refine zm rfl rfl ?_
 refine XL.len rfl rfl rfl Tryz.underlying48 (fun hl7 => ?_)
 refine zp (p_lss rfl rfl rfl) ?_
 refine zn ?_
 refine zd rfl (fun c8 => ?_) (fun c8 => ?_)
 have hk0a : k < l.length := by omega
 obtain ⟨x0, hx0⟩ := get_ex hk0a
 have htl : ((l.take k).map Hd.tie).length = k := by rw [List.length_map, List.length_take]; omega
 refine zi ?_
 refine zs ?_
 refine xw_block ?_
 refine xw_anyP 13 [] (by kernel_rfl) (by kernel_rfl) (by kernel_rfl) (by kernel_rfl) (by decide) ?_
 refine yp (p_move rfl (by conv => lhs; whnf)) ?_
 refine ym rfl rfl ?_
 refine ym rfl rfl ?_
 refine yp (p_idx_map rfl rfl rfl el_48 hx0) ?_
 refine yp (p_fld_pt rfl rfl fld_91_0) ?_
 refine yp (pure_eq (s' := .d (.agg (Pit.c x0.p))) (p_load_pts rfl rfl agg_89 (Nat.le_of_ble_eq_true rfl)) (by kernel_rfl)) ?_
 refine ym rfl rfl ?_
 refine ym rfl rfl ?_
 refine yp (p_idx_map rfl rfl rfl el_48 hx0) ?_
 refine yp (p_fld_pt rfl rfl fld_91_2) ?_
 refine yp (p_load_pt rfl rfl sc_3) ?_
 refine yp (pure_eq (s' := .d (.agg [dI x0.p.step, dI x0.p.alter, dI x0.p.oct, dB true, dI x0.sh])) (norm_pure (p_build rfl str_91 zero_91 rfl)) (by kernel_rfl)) ?_
 refine ChK.cons rfl (CStep.slice rfl Tryz.underlying48 sz_91 zero_91 rfl rfl (by omega) (by omega)) ?_
 refine ChK.nil ⟨by kernel_rfl, ?_⟩
 refine XL.step rfl (st_append rfl elt_48 (.own rfl) (Src.sl (by omega)) (by unfold maxLen; simp; omega) (by simp; omega)) ?_
 refine zp (p_assign rfl (by conv => lhs; whnf)) ?_
 refine zn ?_
 refine xw_region (by kernel_rfl) ?_
 refine zm rfl rfl ?_
 refine zp (p_add rfl rfl rfl (by omega) (by omega)) ?_
 refine za rfl rfl ?_
 refine zn ?_
 exact k_round (k + 1) (by omega) (by omega) (fz ⟨sr, sr, sr, sr, trivial⟩) (gz ⟨sApp (a := Hd.tie x0) rfl (by rw [take_snoc hx0, List.map_append]; rfl), trivial⟩)
 have hk0b : k = l.length := by omega
 have ht : l.take k = l := by rw [hk0b, List.take_length]
 refine xw_exit ?_
 refine zr ?_
 refine zp (p_move rfl (by conv => lhs; whnf)) ?_
 refine zp (p_assign rfl (by conv => lhs; whnf)) ?_
 refine zn ?_
 refine zt ?_
 refine ret_freeze (i := 900) rfl ?_
 exact z1 rfl rfl (rSl (by rw [ht]))
theorem r12plain_xc (l : List Hd) (h : l.length ≤ 1000) : XC Tryz.prog 96 [.sl 5 (l.map Hd.c)] (fun r => r = .sl 5 ((l.map Hd.plain).map Hd.c)) := by
 refine xc_body callable_96 Tryz.func96 rfl rfl (Nat.le_of_ble_eq_true rfl) ?_
 refine zr ?_
 refine za rfl rfl ?_
 refine znr ?_
 refine za rfl rfl ?_
 refine zn ?_
 refine zs ?_
 refine zr ?_
 refine za rfl rfl ?_
 refine zn ?_
 refine xw_block ?_
 refine xw_ownnil 900 3 91 5 rfl ?_
 refine xw_loop (α := Nat) (fun k => k ≤ l.length) (fun k => mkF [(0, .d (.sl 5 (l.map Hd.c))), (2, .d (.v (.slice none 0 0))), (3, .own 900), (4, .d (dI k))]) (fun k => mkH [(900, .row 91 5 (((l.take k).map Hd.plain).map Hd.c))]) (fun k => l.length - k) (0) (Nat.zero_le _) ?_ ?_ ?_
 exact fz ⟨sr, sr, sr, sr, trivial⟩
 exact gz ⟨rfl, trivial⟩
 intro k hk0
 refine zs ?_
 refine zr ?_
 refine zm rfl rfl ?_
 refine zm rfl rfl ?_
 refine XL.len rfl rfl rfl Tryz.underlying48 (fun hl7 => ?_)
 refine zp (p_lss rfl rfl rfl) ?_
 refine zn ?_
 refine zd rfl (fun c8 => ?_) (fun c8 => ?_)
 have hk0a : k < l.length := by omega
 obtain ⟨x0, hx0⟩ := get_ex hk0a
 have htl : ((l.take k).map Hd.plain).length = k := by rw [List.length_map, List.length_take]; omega
 refine zi ?_
 refine zs ?_
 refine xw_block ?_
 refine xw_anyP 13 [] (by kernel_rfl) (by kernel_rfl) (by kernel_rfl) (by kernel_rfl) (by decide) ?_
 refine yp (p_move rfl (by conv => lhs; whnf)) ?_
 refine ym rfl rfl ?_
 refine ym rfl rfl ?_
 refine yp (p_idx_map rfl rfl rfl el_48 hx0) ?_
 refine yp (p_fld_pt rfl rfl fld_91_0) ?_
 refine yp (pure_eq (s' := .d (.agg (Pit.c x0.p))) (p_load_pts rfl rfl agg_89 (Nat.le_of_ble_eq_true rfl)) (by kernel_rfl)) ?_
 refine ym rfl rfl ?_
 refine ym rfl rfl ?_
 refine yp (p_idx_map rfl rfl rfl el_48 hx0) ?_
 refine yp (p_fld_pt rfl rfl fld_91_1) ?_
 refine yp (p_load_pt rfl rfl sc_4) ?_
 refine yp (pure_eq (s' := .d (.agg [dI x0.p.step, dI x0.p.alter, dI x0.p.oct, dB x0.tied, dI 0])) (norm_pure (p_build rfl str_91 zero_91 rfl)) (by kernel_rfl)) ?_
 refine ChK.cons rfl (CStep.slice rfl Tryz.underlying48 sz_91 zero_91 rfl rfl (by omega) (by omega)) ?_
 refine ChK.nil ⟨by kernel_rfl, ?_⟩
 refine XL.step rfl (st_append rfl elt_48 (.own rfl) (Src.sl (by omega)) (by unfold maxLen; simp; omega) (by simp; omega)) ?_
 refine zp (p_assign rfl (by conv => lhs; whnf)) ?_
 refine zn ?_
 refine xw_region (by kernel_rfl) ?_
 refine zm rfl rfl ?_
 refine zp (p_add rfl rfl rfl (by omega) (by omega)) ?_
 refine za rfl rfl ?_
 refine zn ?_
 exact k_round (k + 1) (by omega) (by omega) (fz ⟨sr, sr, sr, sr, trivial⟩) (gz ⟨sApp (a := Hd.plain x0) rfl (by rw [take_snoc hx0, List.map_append]; rfl), trivial⟩)
 have hk0b : k = l.length := by omega
 have ht : l.take k = l := by rw [hk0b, List.take_length]
 refine xw_exit ?_
 refine zr ?_
 refine zp (p_move rfl (by conv => lhs; whnf)) ?_
 refine zp (p_assign rfl (by conv => lhs; whnf)) ?_
 refine zn ?_
 refine zt ?_
 refine ret_freeze (i := 900) rfl ?_
 exact z1 rfl rfl (rSl (by rw [ht]))
def Ev.furV (x : Ev) : Ev := ⟨0, 0, x.kind, x.v, x.heads.map Hd.plain, [], 0, 0, 0, [], x.stem, 0⟩
theorem r12fur_xc (x : Ev) (h : x.fit) : XC Tryz.prog 52 [.agg (Ev.c x)] (fun r => r = .agg (Ev.c x.furV)) := by
 have h1 := h.1
 refine xc_body callable_52 Tryz.func52 rfl rfl (Nat.le_of_ble_eq_true rfl) ?_
 refine zr ?_
 refine XL.step rfl (st_boxN 1 (l := [.d (dI x.site), .d (dI x.num), .d (dI x.kind), .d (dI x.v.log), .d (dI x.v.dots), .d (.sl 5 (x.heads.map Hd.c)), .d (.sl 5 (x.graces.map Gr.c)), .d (dI x.art), .d (dI x.orn), .d (dI x.dyn), .d (.sl 2 (x.lyr.map Sy.c)), .d (dI x.stem), .d (dI x.beam)]) rfl rfl (by kernel_rfl)) ?_
 refine XL.step rfl (st_allocN 2 (l := [.d (dI 0), .d (dI 0), .d (dI 0), .d (dI 0), .d (dI 0), .d (.v (.slice none 0 0)), .d (.v (.slice none 0 0)), .d (dI 0), .d (dI 0), .d (dI 0), .d (.v (.slice none 0 0)), .d (dI 0), .d (dI 0)]) rfl zero_60 (by kernel_rfl)) ?_
 refine zn ?_
 refine zs ?_
 refine xw_anyP 9 [] (by kernel_rfl) (by kernel_rfl) (by kernel_rfl) (by kernel_rfl) (by decide) ?_
 refine yp (p_fld_ptr rfl rfl fld_60_1) ?_
 refine yp (p_load_box rfl rfl sc_3 rfl rfl) ?_
 refine yp (p_fld_ptr rfl rfl fld_60_2) ?_
 refine yp (pure_eq (s' := .d (.agg (Val.c x.v))) (norm_pure (p_load_boxs rfl rfl agg_56 rfl (Nat.le_of_ble_eq_true rfl))) (by kernel_rfl)) ?_
 refine yp (p_fld_ptr rfl rfl fld_60_3) ?_
 refine yp (p_load_box rfl rfl sc_48 rfl rfl) ?_
 refine ChK.cons rfl (CStep.call rfl (r12plain_xc _ (by omega)) rfl) ?_
 refine yp (p_fld_ptr rfl rfl fld_60_9) ?_
 refine yp (p_load_box rfl rfl sc_3 rfl rfl) ?_
 refine ChK.nil ⟨by kernel_rfl, ?_⟩
 refine zp (pure_eq (s' := .d (.agg [dI 0, dI 0, dI x.kind, dI x.v.log, dI x.v.dots, .sl 5 ((x.heads.map Hd.plain).map Hd.c), .v (.slice none 0 0), dI 0, dI 0, dI 0, .v (.slice none 0 0), dI x.stem, dI 0])) (norm_pure (p_build rfl str_60 zero_60 rfl)) (by kernel_rfl)) ?_
 refine XL.step rfl (st_storeN (l' := [.d (dI 0), .d (dI 0), .d (dI x.kind), .d (dI x.v.log), .d (dI x.v.dots), .d (.sl 5 ((x.heads.map Hd.plain).map Hd.c)), .d (.v (.slice none 0 0)), .d (dI 0), .d (dI 0), .d (dI 0), .d (.v (.slice none 0 0)), .d (dI x.stem), .d (dI 0)]) rfl rfl rfl rfl sz_60 rfl (Nat.le_of_ble_eq_true rfl) (by kernel_rfl)) ?_
 refine zn ?_
 refine zt ?_
 exact ret1 rfl (RV.sub (RV.cells rfl rfl rfl agg_60 (Nat.le_of_ble_eq_true rfl) rfl) (.agg (.cons (.same rfl) (.cons (.same rfl) (.cons (.same rfl) (.cons (.same rfl) (.cons (.same rfl) (.cons (.same rfl) (.cons (.nil 5) (.cons (.same rfl) (.cons (.same rfl) (.cons (.same rfl) (.cons (.nil 2) (.cons (.same rfl) (.cons (.same rfl) (.nil)))))))))))))))) (rfl)
theorem rNotes_xc (x : Ev) (m : Me) (a b : Int) (h : x.fit) (hs : m.splitE a b = 0) : XC Tryz.prog 37 [.agg (Ev.c x), .agg (Me.c m), .v (.int .i64 a), .v (.int .i64 b)] (fun r => r = .sl 13 ((notesS x (m.split a b) false).map Ev.c)) := by
 have hf1 := h.1
 have hsl := split_len m a b
 refine xc_body callable_37 Tryz.func37 rfl rfl (Nat.le_of_ble_eq_true rfl) ?_
 refine zr ?_
 refine XL.step rfl (st_boxN 4 (l := [.d (dI x.site), .d (dI x.num), .d (dI x.kind), .d (dI x.v.log), .d (dI x.v.dots), .d (.sl 5 (x.heads.map Hd.c)), .d (.sl 5 (x.graces.map Gr.c)), .d (dI x.art), .d (dI x.orn), .d (dI x.dyn), .d (.sl 2 (x.lyr.map Sy.c)), .d (dI x.stem), .d (dI x.beam)]) rfl rfl (by kernel_rfl)) ?_
 refine XL.step rfl (st_boxN 5 (l := [.d (dI m.count), .d (dI m.unit), .d (dI m.g0), .d (dI m.g1), .d (dI m.g2), .d (dI m.g3), .d (dI m.g4), .d (dI m.g5)]) rfl rfl (by kernel_rfl)) ?_
 refine za rfl rfl ?_
 refine znr ?_
 refine zp (pure_eq (s' := .d (.agg (Me.c m))) (norm_pure (p_load_boxs rfl rfl agg_28 rfl (Nat.le_of_ble_eq_true rfl))) (by kernel_rfl)) ?_
 refine zm rfl rfl ?_
 refine zm rfl rfl ?_
 refine XL.callS rfl rfl ((r4split2_xs _ _ _ (by assumption)).lab 7001) rfl ?_
 refine zp (p_assign rfl (by conv => lhs; whnf)) ?_
 refine znr ?_
 refine XL.freeze (i := 7001) rfl ?_
 refine za rfl rfl ?_
 refine zn ?_
 refine zs ?_
 refine zr ?_
 refine za rfl rfl ?_
 refine zn ?_
 refine xw_block ?_
 refine xw_ownnil 900 10 60 13 rfl ?_
 refine xw_loop (α := Nat) (fun k => k ≤ (m.split a b).length) (fun k => mkF [(4, .ptr 4 0 0), (8, .d (.v (.slice none 0 0))), (9, .d (.sl 2 ((m.split a b).map Val.c))), (10, .own 900), (11, .d (dI k))]) (fun k => mkH [(4, .box ((Ev.c x).map S.d)), (900, .row 60 13 ((notesK x (m.split a b) false k).map Ev.c))]) (fun k => (m.split a b).length - k) (0) (Nat.zero_le _) ?_ ?_ ?_
 exact fz ⟨sr, sr, sr, sr, sr, trivial⟩
 exact gz ⟨rfl, rfl, trivial⟩
 intro k hk0
 refine zs ?_
 refine zr ?_
 refine zm rfl rfl ?_
 refine zm rfl rfl ?_
 refine XL.len rfl rfl rfl Tryz.underlying106 (fun hl19 => ?_)
 refine zp (p_lss rfl rfl rfl) ?_
 refine zn ?_
 refine zd rfl (fun c20 => ?_) (fun c20 => ?_)
 have hk0a : k < (m.split a b).length := by omega
 obtain ⟨x0, hx0⟩ := get_ex hk0a
 have hnl : (notesK x (m.split a b) false k).length = k := by rw [notesK, List.length_mapIdx, List.length_take]; omega
 have hpl : (x.heads.map Hd.plain).length ≤ 1000 := by rw [List.length_map]; exact hf1
 have hpl2 : x.furV.heads.length ≤ 1000 := hpl
 refine zi ?_
 refine zs ?_
 refine xw_block ?_
 refine zr ?_
 refine zp (pure_eq (s' := .d (.agg (Ev.c x))) (norm_pure (p_load_boxs rfl rfl agg_60 rfl (Nat.le_of_ble_eq_true rfl))) (by kernel_rfl)) ?_
 refine XL.step rfl (st_allocN 12 (l := [.d (dI 0), .d (dI 0), .d (dI 0), .d (dI 0), .d (dI 0), .d (.v (.slice none 0 0)), .d (.v (.slice none 0 0)), .d (dI 0), .d (dI 0), .d (dI 0), .d (.v (.slice none 0 0)), .d (dI 0), .d (dI 0)]) rfl zero_60 (by kernel_rfl)) ?_
 refine XL.step rfl (st_storeN (l' := [.d (dI x.site), .d (dI x.num), .d (dI x.kind), .d (dI x.v.log), .d (dI x.v.dots), .d (.sl 5 (x.heads.map Hd.c)), .d (.sl 5 (x.graces.map Gr.c)), .d (dI x.art), .d (dI x.orn), .d (dI x.dyn), .d (.sl 2 (x.lyr.map Sy.c)), .d (dI x.stem), .d (dI x.beam)]) rfl rfl rfl rfl sz_60 rfl (Nat.le_of_ble_eq_true rfl) (by kernel_rfl)) ?_
 refine zn ?_
 refine zs ?_
 refine zr ?_
 refine zm rfl rfl ?_
 refine zp (p_gtr rfl rfl rfl) ?_
 refine zn ?_
 refine zd rfl (fun c25 => ?_) (fun c25 => ?_)
 refine xw_region (by kernel_rfl) ?_
 refine zp (pure_eq (s' := .d (.agg (Ev.c x))) (norm_pure (p_load_boxs rfl rfl agg_60 rfl (Nat.le_of_ble_eq_true rfl))) (by kernel_rfl)) ?_
 refine XL.call1 rfl rfl (r12fur_xc _ (by assumption)) rfl ?_
 refine XL.step rfl (st_storeN (l' := [.d (dI x.furV.site), .d (dI x.furV.num), .d (dI x.furV.kind), .d (dI x.furV.v.log), .d (dI x.furV.v.dots), .d (.sl 5 (x.furV.heads.map Hd.c)), .d (.sl 5 (x.furV.graces.map Gr.c)), .d (dI x.furV.art), .d (dI x.furV.orn), .d (dI x.furV.dyn), .d (.sl 2 (x.furV.lyr.map Sy.c)), .d (dI x.furV.stem), .d (dI x.furV.beam)]) rfl rfl rfl rfl sz_60 rfl (Nat.le_of_ble_eq_true rfl) (by kernel_rfl)) ?_
 refine zn ?_
 refine zs ?_
 refine zr ?_
 refine zm rfl rfl ?_
 refine zp (p_add rfl rfl rfl (by omega) (by omega)) ?_
 refine zm rfl rfl ?_
 refine XL.len rfl rfl rfl Tryz.underlying106 (fun hl31 => ?_)
 refine zp (p_lss rfl rfl rfl) ?_
 refine zn ?_
 refine zd rfl (fun c32 => ?_) (fun c32 => ?_)
 refine xw_region (by kernel_rfl) ?_
 refine zp (p_fld_ptr rfl rfl fld_60_3) ?_
 refine zp (p_load_box rfl rfl sc_48 rfl rfl) ?_
 refine XL.call1 rfl rfl (r12tied_xc _ (by omega)) rfl ?_
 refine zp (p_fld_ptr rfl rfl fld_60_3) ?_
 refine XL.step rfl (st_storeN (l' := [.d (dI x.furV.site), .d (dI x.furV.num), .d (dI x.furV.kind), .d (dI x.furV.v.log), .d (dI x.furV.v.dots), .d (.sl 5 ((x.furV.heads.map Hd.tie).map Hd.c)), .d (.sl 5 (x.furV.graces.map Gr.c)), .d (dI x.furV.art), .d (dI x.furV.orn), .d (dI x.furV.dyn), .d (.sl 2 (x.furV.lyr.map Sy.c)), .d (dI x.furV.stem), .d (dI x.furV.beam)]) rfl rfl rfl rfl sz_48 rfl (Nat.le_of_ble_eq_true rfl) (by kernel_rfl)) ?_
 refine znr ?_
 refine zm rfl rfl ?_
 refine zm rfl rfl ?_
 refine zp (p_idx_map rfl rfl rfl el_106 hx0) ?_
 refine zp (pure_eq (s' := .d (.agg (Val.c x0))) (p_load_pts rfl rfl agg_56 (Nat.le_of_ble_eq_true rfl)) (by kernel_rfl)) ?_
 refine zp (p_fld_ptr rfl rfl fld_60_2) ?_
 refine XL.step rfl (st_storeN (l' := [.d (dI x.furV.site), .d (dI x.furV.num), .d (dI x.furV.kind), .d (dI x0.log), .d (dI x0.dots), .d (.sl 5 ((x.furV.heads.map Hd.tie).map Hd.c)), .d (.sl 5 (x.furV.graces.map Gr.c)), .d (dI x.furV.art), .d (dI x.furV.orn), .d (dI x.furV.dyn), .d (.sl 2 (x.furV.lyr.map Sy.c)), .d (dI x.furV.stem), .d (dI x.furV.beam)]) rfl rfl rfl rfl sz_56 rfl (Nat.le_of_ble_eq_true rfl) (by kernel_rfl)) ?_
 refine zng ?_
 refine zp (p_move rfl (by conv => lhs; whnf)) ?_
 refine zp (pure_eq (s' := .d (.agg [dI x.furV.site, dI x.furV.num, dI x.furV.kind, dI x0.log, dI x0.dots, .sl 5 ((x.furV.heads.map Hd.tie).map Hd.c), .sl 5 (x.furV.graces.map Gr.c), dI x.furV.art, dI x.furV.orn, dI x.furV.dyn, .sl 2 (x.furV.lyr.map Sy.c), dI x.furV.stem, dI x.furV.beam])) (norm_pure (p_load_boxs rfl rfl agg_60 rfl (Nat.le_of_ble_eq_true rfl))) (by kernel_rfl)) ?_
 refine XL.step rfl (st_slice 44 rfl Tryz.underlying22 sz_60 zero_60 rfl rfl (by omega) (by omega)) ?_
 refine XL.step rfl (st_append rfl elt_22 (.own rfl) (Src.own rfl) (by unfold maxLen; simp; omega) (by simp; omega)) ?_
 refine zp (p_assign rfl (by conv => lhs; whnf)) ?_
 refine zn ?_
 refine xw_region (by kernel_rfl) ?_
 refine zm rfl rfl ?_
 refine zp (p_add rfl rfl rfl (by omega) (by omega)) ?_
 refine za rfl rfl ?_
 refine zn ?_
 exact k_round (k + 1) (by omega) (by omega) (fz ⟨sr, sr, sr, sr, sr, trivial⟩) (gz ⟨rfl, sApp rfl (notesK_succ hx0 (note_1 (.inl c25) c32)), trivial⟩)
 refine zi ?_
 refine zr ?_
 refine zm rfl rfl ?_
 refine zm rfl rfl ?_
 refine zp (p_idx_map rfl rfl rfl el_106 hx0) ?_
 refine zp (pure_eq (s' := .d (.agg (Val.c x0))) (p_load_pts rfl rfl agg_56 (Nat.le_of_ble_eq_true rfl)) (by kernel_rfl)) ?_
 refine zp (p_fld_ptr rfl rfl fld_60_2) ?_
 refine XL.step rfl (st_storeN (l' := [.d (dI x.furV.site), .d (dI x.furV.num), .d (dI x.furV.kind), .d (dI x0.log), .d (dI x0.dots), .d (.sl 5 (x.furV.heads.map Hd.c)), .d (.sl 5 (x.furV.graces.map Gr.c)), .d (dI x.furV.art), .d (dI x.furV.orn), .d (dI x.furV.dyn), .d (.sl 2 (x.furV.lyr.map Sy.c)), .d (dI x.furV.stem), .d (dI x.furV.beam)]) rfl rfl rfl rfl sz_56 rfl (Nat.le_of_ble_eq_true rfl) (by kernel_rfl)) ?_
 refine zng ?_
 refine zp (p_move rfl (by conv => lhs; whnf)) ?_
 refine zp (pure_eq (s' := .d (.agg [dI x.furV.site, dI x.furV.num, dI x.furV.kind, dI x0.log, dI x0.dots, .sl 5 (x.furV.heads.map Hd.c), .sl 5 (x.furV.graces.map Gr.c), dI x.furV.art, dI x.furV.orn, dI x.furV.dyn, .sl 2 (x.furV.lyr.map Sy.c), dI x.furV.stem, dI x.furV.beam])) (norm_pure (p_load_boxs rfl rfl agg_60 rfl (Nat.le_of_ble_eq_true rfl))) (by kernel_rfl)) ?_
 refine XL.step rfl (st_slice 44 rfl Tryz.underlying22 sz_60 zero_60 rfl rfl (by omega) (by omega)) ?_
 refine XL.step rfl (st_append rfl elt_22 (.own rfl) (Src.own rfl) (by unfold maxLen; simp; omega) (by simp; omega)) ?_
 refine zp (p_assign rfl (by conv => lhs; whnf)) ?_
 refine zn ?_
 refine xw_region (by kernel_rfl) ?_
 refine zm rfl rfl ?_
 refine zp (p_add rfl rfl rfl (by omega) (by omega)) ?_
 refine za rfl rfl ?_
 refine zn ?_
 exact k_round (k + 1) (by omega) (by omega) (fz ⟨sr, sr, sr, sr, sr, trivial⟩) (gz ⟨rfl, sApp rfl (notesK_succ hx0 (note_2 (.inl c25) c32)), trivial⟩)
 refine zi ?_
 refine zs ?_
 refine zr ?_
 refine zm rfl rfl ?_
 refine zp (p_add rfl rfl rfl (by omega) (by omega)) ?_
 refine zm rfl rfl ?_
 refine XL.len rfl rfl rfl Tryz.underlying106 (fun hl31 => ?_)
 refine zp (p_lss rfl rfl rfl) ?_
 refine zn ?_
 refine zd rfl (fun c32 => ?_) (fun c32 => ?_)
 refine xw_region (by kernel_rfl) ?_
 refine zp (p_fld_ptr rfl rfl fld_60_3) ?_
 refine zp (p_load_box rfl rfl sc_48 rfl rfl) ?_
 refine XL.call1 rfl rfl (r12tied_xc _ (by omega)) rfl ?_
 refine zp (p_fld_ptr rfl rfl fld_60_3) ?_
 refine XL.step rfl (st_storeN (l' := [.d (dI x.site), .d (dI x.num), .d (dI x.kind), .d (dI x.v.log), .d (dI x.v.dots), .d (.sl 5 ((x.heads.map Hd.tie).map Hd.c)), .d (.sl 5 (x.graces.map Gr.c)), .d (dI x.art), .d (dI x.orn), .d (dI x.dyn), .d (.sl 2 (x.lyr.map Sy.c)), .d (dI x.stem), .d (dI x.beam)]) rfl rfl rfl rfl sz_48 rfl (Nat.le_of_ble_eq_true rfl) (by kernel_rfl)) ?_
 refine znr ?_
 refine zm rfl rfl ?_
 refine zm rfl rfl ?_
 refine zp (p_idx_map rfl rfl rfl el_106 hx0) ?_
 refine zp (pure_eq (s' := .d (.agg (Val.c x0))) (p_load_pts rfl rfl agg_56 (Nat.le_of_ble_eq_true rfl)) (by kernel_rfl)) ?_
 refine zp (p_fld_ptr rfl rfl fld_60_2) ?_
 refine XL.step rfl (st_storeN (l' := [.d (dI x.site), .d (dI x.num), .d (dI x.kind), .d (dI x0.log), .d (dI x0.dots), .d (.sl 5 ((x.heads.map Hd.tie).map Hd.c)), .d (.sl 5 (x.graces.map Gr.c)), .d (dI x.art), .d (dI x.orn), .d (dI x.dyn), .d (.sl 2 (x.lyr.map Sy.c)), .d (dI x.stem), .d (dI x.beam)]) rfl rfl rfl rfl sz_56 rfl (Nat.le_of_ble_eq_true rfl) (by kernel_rfl)) ?_
 refine zng ?_
 refine zp (p_move rfl (by conv => lhs; whnf)) ?_
 refine zp (pure_eq (s' := .d (.agg [dI x.site, dI x.num, dI x.kind, dI x0.log, dI x0.dots, .sl 5 ((x.heads.map Hd.tie).map Hd.c), .sl 5 (x.graces.map Gr.c), dI x.art, dI x.orn, dI x.dyn, .sl 2 (x.lyr.map Sy.c), dI x.stem, dI x.beam])) (norm_pure (p_load_boxs rfl rfl agg_60 rfl (Nat.le_of_ble_eq_true rfl))) (by kernel_rfl)) ?_
 refine XL.step rfl (st_slice 44 rfl Tryz.underlying22 sz_60 zero_60 rfl rfl (by omega) (by omega)) ?_
 refine XL.step rfl (st_append rfl elt_22 (.own rfl) (Src.own rfl) (by unfold maxLen; simp; omega) (by simp; omega)) ?_
 refine zp (p_assign rfl (by conv => lhs; whnf)) ?_
 refine zn ?_
 refine xw_region (by kernel_rfl) ?_
 refine zm rfl rfl ?_
 refine zp (p_add rfl rfl rfl (by omega) (by omega)) ?_
 refine za rfl rfl ?_
 refine zn ?_
 exact k_round (k + 1) (by omega) (by omega) (fz ⟨sr, sr, sr, sr, sr, trivial⟩) (gz ⟨rfl, sApp rfl (notesK_succ hx0 (note_3 c25 rfl c32)), trivial⟩)
 refine zi ?_
 refine zr ?_
 refine zm rfl rfl ?_
 refine zm rfl rfl ?_
 refine zp (p_idx_map rfl rfl rfl el_106 hx0) ?_
 refine zp (pure_eq (s' := .d (.agg (Val.c x0))) (p_load_pts rfl rfl agg_56 (Nat.le_of_ble_eq_true rfl)) (by kernel_rfl)) ?_
 refine zp (p_fld_ptr rfl rfl fld_60_2) ?_
 refine XL.step rfl (st_storeN (l' := [.d (dI x.site), .d (dI x.num), .d (dI x.kind), .d (dI x0.log), .d (dI x0.dots), .d (.sl 5 (x.heads.map Hd.c)), .d (.sl 5 (x.graces.map Gr.c)), .d (dI x.art), .d (dI x.orn), .d (dI x.dyn), .d (.sl 2 (x.lyr.map Sy.c)), .d (dI x.stem), .d (dI x.beam)]) rfl rfl rfl rfl sz_56 rfl (Nat.le_of_ble_eq_true rfl) (by kernel_rfl)) ?_
 refine zng ?_
 refine zp (p_move rfl (by conv => lhs; whnf)) ?_
 refine zp (pure_eq (s' := .d (.agg [dI x.site, dI x.num, dI x.kind, dI x0.log, dI x0.dots, .sl 5 (x.heads.map Hd.c), .sl 5 (x.graces.map Gr.c), dI x.art, dI x.orn, dI x.dyn, .sl 2 (x.lyr.map Sy.c), dI x.stem, dI x.beam])) (norm_pure (p_load_boxs rfl rfl agg_60 rfl (Nat.le_of_ble_eq_true rfl))) (by kernel_rfl)) ?_
 refine XL.step rfl (st_slice 44 rfl Tryz.underlying22 sz_60 zero_60 rfl rfl (by omega) (by omega)) ?_
 refine XL.step rfl (st_append rfl elt_22 (.own rfl) (Src.own rfl) (by unfold maxLen; simp; omega) (by simp; omega)) ?_
 refine zp (p_assign rfl (by conv => lhs; whnf)) ?_
 refine zn ?_
 refine xw_region (by kernel_rfl) ?_
 refine zm rfl rfl ?_
 refine zp (p_add rfl rfl rfl (by omega) (by omega)) ?_
 refine za rfl rfl ?_
 refine zn ?_
 exact k_round (k + 1) (by omega) (by omega) (fz ⟨sr, sr, sr, sr, sr, trivial⟩) (gz ⟨rfl, sApp rfl (notesK_succ hx0 (note_4 c25 rfl c32)), trivial⟩)
 have hk0b : k = (m.split a b).length := by omega
 have ht : notesK x (m.split a b) false k = notesS x (m.split a b) false := by rw [notesK, hk0b, List.take_length]; rfl
 refine xw_exit ?_
 refine zr ?_
 refine zp (p_move rfl (by conv => lhs; whnf)) ?_
 refine zp (p_assign rfl (by conv => lhs; whnf)) ?_
 refine zn ?_
 refine zt ?_
 refine ret_freeze (i := 900) rfl ?_
 exact z1 rfl rfl (rSl ht)
/-- a voice of some events -/
def evV (l : List Ev) : Vo := ⟨l, []⟩
theorem split_def (m : Me) (a b : Int) : (m.err ≠ 0 → m.splitE a b = m.err) ∧ (m.err = 0 → (a < 0 ∨ b < a ∨ 4398046511104 < b) → m.splitE a b = 2) ∧ (m.err = 0 → ¬ (a < 0 ∨ b < a ∨ 4398046511104 < b) → (a % 7560 ≠ 0 ∨ b % 7560 ≠ 0) → m.splitE a b = 16) ∧ (m.err = 0 → ¬ (a < 0 ∨ b < a ∨ 4398046511104 < b) → ¬ (a % 7560 ≠ 0 ∨ b % 7560 ≠ 0) → 15482880 < b - a → m.splitE a b = 5) ∧ (m.err = 0 → ¬ (a < 0 ∨ b < a ∨ 4398046511104 < b) → ¬ (a % 7560 ≠ 0 ∨ b % 7560 ≠ 0) → ¬ 15482880 < b - a → m.splitE a b = 0) :=
 ⟨fun h => (sp_1 h).1, fun h h2 => (sp_2 (fun k => k h) h2).1, fun h h2 h3 => (sp_3 (fun k => k h) h2 h3).1, fun h h2 h3 h4 => (sp_4 (fun k => k h) h2 h3 h4).1, fun h h2 h3 h4 => (sp_5 (fun k => k h) h2 h3 h4).1⟩
theorem rests_0 {m : Me} {a b : Int} (h : m.splitE a b ≠ 0) : (restsS m a b).length = 0 := by rw [← rests_no h]; rfl
theorem lnot_xc (x : Ev) (m : Me) (a b : Int) (hE : x.art ≤ 9223372036854775807) : XC Tryz.prog 8 [.agg (Ev.c x), .agg (Me.c m), .agg [dI a, dI b]] (fun r => r = dB true) := by
 refine xc_body callable_8 Tryz.func8 rfl rfl (Nat.le_of_ble_eq_true rfl) ?_
 refine zr ?_
 refine XL.step rfl (st_boxN 3 (l := [.d (dI x.site), .d (dI x.num), .d (dI x.kind), .d (dI x.v.log), .d (dI x.v.dots), .d (.sl 5 (x.heads.map Hd.c)), .d (.sl 5 (x.graces.map Gr.c)), .d (dI x.art), .d (dI x.orn), .d (dI x.dyn), .d (.sl 2 (x.lyr.map Sy.c)), .d (dI x.stem), .d (dI x.beam)]) rfl rfl (by kernel_rfl)) ?_
 refine XL.step rfl (st_boxN 4 (l := [.d (dI m.count), .d (dI m.unit), .d (dI m.g0), .d (dI m.g1), .d (dI m.g2), .d (dI m.g3), .d (dI m.g4), .d (dI m.g5)]) rfl rfl (by kernel_rfl)) ?_
 refine XL.step rfl (st_boxN 5 (l := [_, _]) rfl rfl rfl) ?_
 refine za rfl rfl ?_
 refine zn ?_
 refine zs ?_
 refine zr ?_
 refine XL.call1 rfl rfl (known_xc) rfl ?_
 refine zp (p_not rfl rfl) ?_
 refine zm rfl rfl ?_
 refine XL.bool 17 rfl (fun g17 => ?_) (fun g17 => ?_)
 refine zk 5 rfl ?_
 refine zq rfl rfl rfl ?_
 refine zn ?_
 refine xw_true (by kernel_rfl) rfl ?_
 refine zr ?_
 refine XL.call1 rfl rfl (known_xc) rfl ?_
 refine za rfl rfl ?_
 refine zn ?_
 refine zt ?_
 exact z1 rfl rfl (rfl)
 refine zp (pure_eq (s' := .d (.agg (Ev.c x))) (norm_pure (p_load_boxs rfl rfl agg_60 rfl (Nat.le_of_ble_eq_true rfl))) (by kernel_rfl)) ?_
 refine XL.step rfl (st_sliced (l := [x].map Ev.c) rfl Tryz.underlying22 sz_60 zero_60 (by kernel_rfl) rfl (by omega) (by omega)) ?_
 refine zp (pure_sub (.agg (Vo.c (evV ([x])))) (pure_eq (s' := .d (.agg [.sl 13 ([x].map Ev.c), .v (.slice none 0 0)])) (norm_pure (p_build rfl str_25 zero_25 rfl)) (by kernel_rfl)) (.agg (.cons (.same rfl) (.cons (.nil 4) (.nil))))) ?_
 refine XL.call1 rfl rfl (few_xc _) rfl ?_
 refine zp (p_notdec rfl rfl) ?_
 refine zq rfl rfl rfl ?_
 refine zn ?_
 refine zd rfl (fun c23 => ?_) (fun c23 => ?_)
 refine zr ?_
 refine XL.call1 rfl rfl (known_xc) rfl ?_
 refine za rfl rfl ?_
 refine zn ?_
 refine zt ?_
 exact z1 rfl rfl (rfl)
 refine zi ?_
 refine zs ?_
 have hfw := Decidable.not_not.1 c23
 have hxf : x.fit := hfw.fit.ev x (List.mem_singleton.2 rfl)
 obtain ⟨hS1, hS2, hS3, hS4, hS5⟩ := split_def m a b
 have hR0 := rests_0 (m := m) (a := a) (b := b)
 refine xw_any [] (by kernel_rfl) (by kernel_rfl) (by kernel_rfl) (by decide) ?_
 refine yp (p_idx_arr (k := 0) rfl rfl rfl Tryz.underlying62 sz_3 (by omega)) ?_
 refine yp (p_load_box rfl rfl sc_3 rfl rfl) ?_
 refine yp (p_idx_arr (k := 1) rfl rfl rfl Tryz.underlying62 sz_3 (by omega)) ?_
 refine yp (p_load_box rfl rfl sc_3 rfl rfl) ?_
 refine ya rfl rfl ?_
 refine ya rfl rfl ?_
 refine ChK.nil ⟨by kernel_rfl, ?_⟩
 refine zr ?_
 refine zp (pure_eq (s' := .d (.agg (Ev.c x))) (norm_pure (p_load_boxs rfl rfl agg_60 rfl (Nat.le_of_ble_eq_true rfl))) (by kernel_rfl)) ?_
 refine zp (pure_eq (s' := .d (.agg (Me.c m))) (norm_pure (p_load_boxs rfl rfl agg_28 rfl (Nat.le_of_ble_eq_true rfl))) (by kernel_rfl)) ?_
 refine zm rfl rfl ?_
 refine zm rfl rfl ?_
 refine XL.call1 rfl rfl (vnotes_xc _ _ _ _ (by assumption) (by assumption)) rfl ?_
 refine zm rfl rfl ?_
 refine zp (p_ext rfl rfl rfl) ?_
 refine zp (p_ext rfl rfl rfl) ?_
 refine za rfl rfl ?_
 refine za rfl rfl ?_
 refine znr ?_
 refine zp (pure_eq (s' := .d (.agg (Me.c m))) (norm_pure (p_load_boxs rfl rfl agg_28 rfl (Nat.le_of_ble_eq_true rfl))) (by kernel_rfl)) ?_
 refine zm rfl rfl ?_
 refine zm rfl rfl ?_
 refine XL.call1 rfl rfl (rests_xc _ _ _) rfl ?_
 refine zm rfl rfl ?_
 refine zp (p_ext rfl rfl rfl) ?_
 refine zp (p_ext rfl rfl rfl) ?_
 refine za rfl rfl ?_
 refine za rfl rfl ?_
 refine znr ?_
 refine zp (pure_eq (s' := .d (.agg (Me.c m))) (norm_pure (p_load_boxs rfl rfl agg_28 rfl (Nat.le_of_ble_eq_true rfl))) (by kernel_rfl)) ?_
 refine XL.call1 rfl rfl (rCheck04_xc _) rfl ?_
 refine za rfl rfl ?_
 refine zn ?_
 refine zs ?_
 refine zr ?_
 refine zm rfl rfl ?_
 refine zp (p_eql rfl rfl rfl) ?_
 refine zn ?_
 refine zd rfl (fun c47 => ?_) (fun c47 => ?_)
 refine xw_block ?_
 refine zr ?_
 refine zm rfl rfl ?_
 refine zp (p_lss rfl rfl rfl) ?_
 refine zm rfl rfl ?_
 refine XL.dec 51 rfl (fun g51 => ?_) (fun g51 => ?_)
 refine zk 3 rfl ?_
 refine zq rfl rfl rfl ?_
 refine zm rfl rfl ?_
 refine zk 2 rfl ?_
 refine zq rfl rfl rfl ?_
 refine za rfl rfl ?_
 refine zn ?_
 refine xw_true (by kernel_rfl) rfl ?_
 refine xw_region (by kernel_rfl) ?_
 refine za rfl rfl ?_
 refine zn ?_
 refine zs ?_
 refine zr ?_
 refine zm rfl rfl ?_
 refine zm rfl rfl ?_
 refine zp (p_no (p_neq rfl rfl rfl) (by omega)) ?_
 refine zm rfl rfl ?_
 refine zm rfl rfl ?_
 refine zp (p_yes (p_neq rfl rfl rfl) (by decide)) ?_
 refine zm rfl rfl ?_
 refine zm rfl rfl ?_
 refine XL.len rfl rfl rfl Tryz.underlying22 (fun hl82 => ?_)
 refine zp (p_no (p_gtr rfl rfl rfl) (by omega)) ?_
 refine zq rfl rfl rfl ?_
 refine zq rfl rfl rfl ?_
 refine zm rfl rfl ?_
 refine zm rfl rfl ?_
 refine zp (p_no (p_eql rfl rfl rfl) (by decide)) ?_
 refine zm rfl rfl ?_
 refine zk 10 rfl ?_
 refine zq rfl rfl rfl ?_
 refine zq rfl rfl rfl ?_
 refine zn ?_
 refine xw_false (by kernel_rfl) rfl ?_
 refine zi ?_
 refine zs ?_
 refine zr ?_
 refine zp (pure_eq (s' := .d (.agg (Ev.c x))) (norm_pure (p_load_boxs rfl rfl agg_60 rfl (Nat.le_of_ble_eq_true rfl))) (by kernel_rfl)) ?_
 refine XL.call1 rfl rfl (rcheck11_xc _ (by assumption)) rfl ?_
 refine za rfl rfl ?_
 refine znr ?_
 refine zm rfl rfl ?_
 refine zp (p_neq rfl rfl rfl) ?_
 refine zn ?_
 refine zd rfl (fun c105 => ?_) (fun c105 => ?_)
 refine zs ?_
 obtain ⟨hn1, hn2⟩ := nt_1 (m := m) (a := a) (b := b) c105
 refine xw_region (by kernel_rfl) ?_
 refine zm rfl rfl ?_
 refine XL.len rfl rfl rfl Tryz.underlying22 (fun hl107 => ?_)
 refine zp (p_yes (p_eql rfl rfl rfl) (by rw [← hn1]; rfl)) ?_
 refine zm rfl rfl ?_
 refine zm rfl rfl ?_
 refine zm rfl rfl ?_
 refine zp (p_yes (p_eql rfl rfl rfl) (hn2.symm)) ?_
 refine zq rfl rfl rfl ?_
 refine za rfl rfl ?_
 refine zn ?_
 refine zt ?_
 exact z1 rfl rfl (rfl)
 refine zi ?_
 refine zs ?_
 refine zr ?_
 refine zp (p_fld_ptr rfl rfl fld_60_1) ?_
 refine zp (p_load_box rfl rfl sc_3 rfl rfl) ?_
 refine zp (p_eql rfl rfl rfl) ?_
 refine zn ?_
 refine zd rfl (fun c116 => ?_) (fun c116 => ?_)
 refine zs ?_
 obtain ⟨hn1, hn2⟩ := nt_2 (m := m) (a := a) (b := b) c105 c116
 refine xw_region (by kernel_rfl) ?_
 refine zm rfl rfl ?_
 refine XL.len rfl rfl rfl Tryz.underlying22 (fun hl118 => ?_)
 refine zp (p_yes (p_eql rfl rfl rfl) (by rw [← hn1]; rfl)) ?_
 refine zm rfl rfl ?_
 refine zm rfl rfl ?_
 refine zp (p_yes (p_eql rfl rfl rfl) (hn2.symm)) ?_
 refine zq rfl rfl rfl ?_
 refine za rfl rfl ?_
 refine zn ?_
 refine zt ?_
 exact z1 rfl rfl (rfl)
 refine zi ?_
 refine zs ?_
 refine zr ?_
 refine zm rfl rfl ?_
 refine zp (p_yes (p_neq rfl rfl rfl) (by decide)) ?_
 refine zn ?_
 refine xw_true (by kernel_rfl) rfl ?_
 refine zs ?_
 have hs1 : m.splitE a b ≠ 0 := by omega
 obtain ⟨hn1, hn2⟩ := nt_3 c105 c116 hs1
 refine xw_region (by kernel_rfl) ?_
 refine zm rfl rfl ?_
 refine XL.len rfl rfl rfl Tryz.underlying22 (fun hl127 => ?_)
 refine zp (p_yes (p_eql rfl rfl rfl) (by rw [← hn1]; rfl)) ?_
 refine zm rfl rfl ?_
 refine zm rfl rfl ?_
 refine zm rfl rfl ?_
 refine zp (p_yes (p_eql rfl rfl rfl) (by omega)) ?_
 refine zq rfl rfl rfl ?_
 refine za rfl rfl ?_
 refine zn ?_
 refine zt ?_
 exact z1 rfl rfl (rfl)
 refine zm rfl rfl ?_
 refine zm rfl rfl ?_
 refine zp (p_lss rfl rfl rfl) ?_
 refine zq rfl rfl rfl ?_
 refine zm rfl rfl ?_
 refine XL.dec 56 rfl (fun g56 => ?_) (fun g56 => ?_)
 refine zk 2 rfl ?_
 refine zq rfl rfl rfl ?_
 refine za rfl rfl ?_
 refine zn ?_
 refine xw_true (by kernel_rfl) rfl ?_
 refine xw_region (by kernel_rfl) ?_
 refine za rfl rfl ?_
 refine zn ?_
 refine zs ?_
 refine zr ?_
 refine zm rfl rfl ?_
 refine zm rfl rfl ?_
 refine zp (p_no (p_neq rfl rfl rfl) (by omega)) ?_
 refine zm rfl rfl ?_
 refine zm rfl rfl ?_
 refine zp (p_yes (p_neq rfl rfl rfl) (by decide)) ?_
 refine zm rfl rfl ?_
 refine zm rfl rfl ?_
 refine XL.len rfl rfl rfl Tryz.underlying22 (fun hl82 => ?_)
 refine zp (p_no (p_gtr rfl rfl rfl) (by omega)) ?_
 refine zq rfl rfl rfl ?_
 refine zq rfl rfl rfl ?_
 refine zm rfl rfl ?_
 refine zm rfl rfl ?_
 refine zp (p_no (p_eql rfl rfl rfl) (by decide)) ?_
 refine zm rfl rfl ?_
 refine zk 10 rfl ?_
 refine zq rfl rfl rfl ?_
 refine zq rfl rfl rfl ?_
 refine zn ?_
 refine xw_false (by kernel_rfl) rfl ?_
 refine zi ?_
 refine zs ?_
 refine zr ?_
 refine zp (pure_eq (s' := .d (.agg (Ev.c x))) (norm_pure (p_load_boxs rfl rfl agg_60 rfl (Nat.le_of_ble_eq_true rfl))) (by kernel_rfl)) ?_
 refine XL.call1 rfl rfl (rcheck11_xc _ (by assumption)) rfl ?_
 refine za rfl rfl ?_
 refine znr ?_
 refine zm rfl rfl ?_
 refine zp (p_neq rfl rfl rfl) ?_
 refine zn ?_
 refine zd rfl (fun c105 => ?_) (fun c105 => ?_)
 refine zs ?_
 obtain ⟨hn1, hn2⟩ := nt_1 (m := m) (a := a) (b := b) c105
 refine xw_region (by kernel_rfl) ?_
 refine zm rfl rfl ?_
 refine XL.len rfl rfl rfl Tryz.underlying22 (fun hl107 => ?_)
 refine zp (p_yes (p_eql rfl rfl rfl) (by rw [← hn1]; rfl)) ?_
 refine zm rfl rfl ?_
 refine zm rfl rfl ?_
 refine zm rfl rfl ?_
 refine zp (p_yes (p_eql rfl rfl rfl) (hn2.symm)) ?_
 refine zq rfl rfl rfl ?_
 refine za rfl rfl ?_
 refine zn ?_
 refine zt ?_
 exact z1 rfl rfl (rfl)
 refine zi ?_
 refine zs ?_
 refine zr ?_
 refine zp (p_fld_ptr rfl rfl fld_60_1) ?_
 refine zp (p_load_box rfl rfl sc_3 rfl rfl) ?_
 refine zp (p_eql rfl rfl rfl) ?_
 refine zn ?_
 refine zd rfl (fun c116 => ?_) (fun c116 => ?_)
 refine zs ?_
 obtain ⟨hn1, hn2⟩ := nt_2 (m := m) (a := a) (b := b) c105 c116
 refine xw_region (by kernel_rfl) ?_
 refine zm rfl rfl ?_
 refine XL.len rfl rfl rfl Tryz.underlying22 (fun hl118 => ?_)
 refine zp (p_yes (p_eql rfl rfl rfl) (by rw [← hn1]; rfl)) ?_
 refine zm rfl rfl ?_
 refine zm rfl rfl ?_
 refine zp (p_yes (p_eql rfl rfl rfl) (hn2.symm)) ?_
 refine zq rfl rfl rfl ?_
 refine za rfl rfl ?_
 refine zn ?_
 refine zt ?_
 exact z1 rfl rfl (rfl)
 refine zi ?_
 refine zs ?_
 refine zr ?_
 refine zm rfl rfl ?_
 refine zp (p_yes (p_neq rfl rfl rfl) (by decide)) ?_
 refine zn ?_
 refine xw_true (by kernel_rfl) rfl ?_
 refine zs ?_
 have hs1 : m.splitE a b ≠ 0 := by omega
 obtain ⟨hn1, hn2⟩ := nt_3 c105 c116 hs1
 refine xw_region (by kernel_rfl) ?_
 refine zm rfl rfl ?_
 refine XL.len rfl rfl rfl Tryz.underlying22 (fun hl127 => ?_)
 refine zp (p_yes (p_eql rfl rfl rfl) (by rw [← hn1]; rfl)) ?_
 refine zm rfl rfl ?_
 refine zm rfl rfl ?_
 refine zm rfl rfl ?_
 refine zp (p_yes (p_eql rfl rfl rfl) (by omega)) ?_
 refine zq rfl rfl rfl ?_
 refine za rfl rfl ?_
 refine zn ?_
 refine zt ?_
 exact z1 rfl rfl (rfl)
 refine zm rfl rfl ?_
 refine zp (p_gtr rfl rfl rfl) ?_
 refine zq rfl rfl rfl ?_
 refine za rfl rfl ?_
 refine zn ?_
 refine zd rfl (fun c48 => ?_) (fun c48 => ?_)
 refine xw_region (by kernel_rfl) ?_
 refine za rfl rfl ?_
 refine zn ?_
 refine zs ?_
 refine zr ?_
 refine zm rfl rfl ?_
 refine zm rfl rfl ?_
 refine zp (p_no (p_neq rfl rfl rfl) (by omega)) ?_
 refine zm rfl rfl ?_
 refine zm rfl rfl ?_
 refine zp (p_yes (p_neq rfl rfl rfl) (by decide)) ?_
 refine zm rfl rfl ?_
 refine zm rfl rfl ?_
 refine XL.len rfl rfl rfl Tryz.underlying22 (fun hl82 => ?_)
 refine zp (p_no (p_gtr rfl rfl rfl) (by omega)) ?_
 refine zq rfl rfl rfl ?_
 refine zq rfl rfl rfl ?_
 refine zm rfl rfl ?_
 refine zm rfl rfl ?_
 refine zp (p_no (p_eql rfl rfl rfl) (by decide)) ?_
 refine zm rfl rfl ?_
 refine zk 10 rfl ?_
 refine zq rfl rfl rfl ?_
 refine zq rfl rfl rfl ?_
 refine zn ?_
 refine xw_false (by kernel_rfl) rfl ?_
 refine zi ?_
 refine zs ?_
 refine zr ?_
 refine zp (pure_eq (s' := .d (.agg (Ev.c x))) (norm_pure (p_load_boxs rfl rfl agg_60 rfl (Nat.le_of_ble_eq_true rfl))) (by kernel_rfl)) ?_
 refine XL.call1 rfl rfl (rcheck11_xc _ (by assumption)) rfl ?_
 refine za rfl rfl ?_
 refine znr ?_
 refine zm rfl rfl ?_
 refine zp (p_neq rfl rfl rfl) ?_
 refine zn ?_
 refine zd rfl (fun c105 => ?_) (fun c105 => ?_)
 refine zs ?_
 obtain ⟨hn1, hn2⟩ := nt_1 (m := m) (a := a) (b := b) c105
 refine xw_region (by kernel_rfl) ?_
 refine zm rfl rfl ?_
 refine XL.len rfl rfl rfl Tryz.underlying22 (fun hl107 => ?_)
 refine zp (p_yes (p_eql rfl rfl rfl) (by rw [← hn1]; rfl)) ?_
 refine zm rfl rfl ?_
 refine zm rfl rfl ?_
 refine zm rfl rfl ?_
 refine zp (p_yes (p_eql rfl rfl rfl) (hn2.symm)) ?_
 refine zq rfl rfl rfl ?_
 refine za rfl rfl ?_
 refine zn ?_
 refine zt ?_
 exact z1 rfl rfl (rfl)
 refine zi ?_
 refine zs ?_
 refine zr ?_
 refine zp (p_fld_ptr rfl rfl fld_60_1) ?_
 refine zp (p_load_box rfl rfl sc_3 rfl rfl) ?_
 refine zp (p_eql rfl rfl rfl) ?_
 refine zn ?_
 refine zd rfl (fun c116 => ?_) (fun c116 => ?_)
 refine zs ?_
 obtain ⟨hn1, hn2⟩ := nt_2 (m := m) (a := a) (b := b) c105 c116
 refine xw_region (by kernel_rfl) ?_
 refine zm rfl rfl ?_
 refine XL.len rfl rfl rfl Tryz.underlying22 (fun hl118 => ?_)
 refine zp (p_yes (p_eql rfl rfl rfl) (by rw [← hn1]; rfl)) ?_
 refine zm rfl rfl ?_
 refine zm rfl rfl ?_
 refine zp (p_yes (p_eql rfl rfl rfl) (hn2.symm)) ?_
 refine zq rfl rfl rfl ?_
 refine za rfl rfl ?_
 refine zn ?_
 refine zt ?_
 exact z1 rfl rfl (rfl)
 refine zi ?_
 refine zs ?_
 refine zr ?_
 refine zm rfl rfl ?_
 refine zp (p_yes (p_neq rfl rfl rfl) (by decide)) ?_
 refine zn ?_
 refine xw_true (by kernel_rfl) rfl ?_
 refine zs ?_
 have hs1 : m.splitE a b ≠ 0 := by omega
 obtain ⟨hn1, hn2⟩ := nt_3 c105 c116 hs1
 refine xw_region (by kernel_rfl) ?_
 refine zm rfl rfl ?_
 refine XL.len rfl rfl rfl Tryz.underlying22 (fun hl127 => ?_)
 refine zp (p_yes (p_eql rfl rfl rfl) (by rw [← hn1]; rfl)) ?_
 refine zm rfl rfl ?_
 refine zm rfl rfl ?_
 refine zm rfl rfl ?_
 refine zp (p_yes (p_eql rfl rfl rfl) (by omega)) ?_
 refine zq rfl rfl rfl ?_
 refine za rfl rfl ?_
 refine zn ?_
 refine zt ?_
 exact z1 rfl rfl (rfl)
 refine zr ?_
 refine zm rfl rfl ?_
 refine zp (p_rem rfl rfl rfl (by omega) (by omega)) ?_
 refine zp (p_neq rfl rfl rfl) ?_
 refine zm rfl rfl ?_
 refine XL.dec 64 rfl (fun g64 => ?_) (fun g64 => ?_)
 refine zk 3 rfl ?_
 refine zq rfl rfl rfl ?_
 refine za rfl rfl ?_
 refine zn ?_
 refine xw_true (by kernel_rfl) rfl ?_
 refine xw_region (by kernel_rfl) ?_
 refine za rfl rfl ?_
 refine zn ?_
 refine zs ?_
 refine zr ?_
 refine zm rfl rfl ?_
 refine zm rfl rfl ?_
 refine zp (p_no (p_neq rfl rfl rfl) (by omega)) ?_
 refine zm rfl rfl ?_
 refine zm rfl rfl ?_
 refine zp (p_yes (p_neq rfl rfl rfl) (by decide)) ?_
 refine zm rfl rfl ?_
 refine zm rfl rfl ?_
 refine XL.len rfl rfl rfl Tryz.underlying22 (fun hl82 => ?_)
 refine zp (p_no (p_gtr rfl rfl rfl) (by omega)) ?_
 refine zq rfl rfl rfl ?_
 refine zq rfl rfl rfl ?_
 refine zm rfl rfl ?_
 refine zm rfl rfl ?_
 refine zp (p_no (p_eql rfl rfl rfl) (by decide)) ?_
 refine zm rfl rfl ?_
 refine zk 10 rfl ?_
 refine zq rfl rfl rfl ?_
 refine zq rfl rfl rfl ?_
 refine zn ?_
 refine xw_false (by kernel_rfl) rfl ?_
 refine zi ?_
 refine zs ?_
 refine zr ?_
 refine zp (pure_eq (s' := .d (.agg (Ev.c x))) (norm_pure (p_load_boxs rfl rfl agg_60 rfl (Nat.le_of_ble_eq_true rfl))) (by kernel_rfl)) ?_
 refine XL.call1 rfl rfl (rcheck11_xc _ (by assumption)) rfl ?_
 refine za rfl rfl ?_
 refine znr ?_
 refine zm rfl rfl ?_
 refine zp (p_neq rfl rfl rfl) ?_
 refine zn ?_
 refine zd rfl (fun c105 => ?_) (fun c105 => ?_)
 refine zs ?_
 obtain ⟨hn1, hn2⟩ := nt_1 (m := m) (a := a) (b := b) c105
 refine xw_region (by kernel_rfl) ?_
 refine zm rfl rfl ?_
 refine XL.len rfl rfl rfl Tryz.underlying22 (fun hl107 => ?_)
 refine zp (p_yes (p_eql rfl rfl rfl) (by rw [← hn1]; rfl)) ?_
 refine zm rfl rfl ?_
 refine zm rfl rfl ?_
 refine zm rfl rfl ?_
 refine zp (p_yes (p_eql rfl rfl rfl) (hn2.symm)) ?_
 refine zq rfl rfl rfl ?_
 refine za rfl rfl ?_
 refine zn ?_
 refine zt ?_
 exact z1 rfl rfl (rfl)
 refine zi ?_
 refine zs ?_
 refine zr ?_
 refine zp (p_fld_ptr rfl rfl fld_60_1) ?_
 refine zp (p_load_box rfl rfl sc_3 rfl rfl) ?_
 refine zp (p_eql rfl rfl rfl) ?_
 refine zn ?_
 refine zd rfl (fun c116 => ?_) (fun c116 => ?_)
 refine zs ?_
 obtain ⟨hn1, hn2⟩ := nt_2 (m := m) (a := a) (b := b) c105 c116
 refine xw_region (by kernel_rfl) ?_
 refine zm rfl rfl ?_
 refine XL.len rfl rfl rfl Tryz.underlying22 (fun hl118 => ?_)
 refine zp (p_yes (p_eql rfl rfl rfl) (by rw [← hn1]; rfl)) ?_
 refine zm rfl rfl ?_
 refine zm rfl rfl ?_
 refine zp (p_yes (p_eql rfl rfl rfl) (hn2.symm)) ?_
 refine zq rfl rfl rfl ?_
 refine za rfl rfl ?_
 refine zn ?_
 refine zt ?_
 exact z1 rfl rfl (rfl)
 refine zi ?_
 refine zs ?_
 refine zr ?_
 refine zm rfl rfl ?_
 refine zp (p_yes (p_neq rfl rfl rfl) (by decide)) ?_
 refine zn ?_
 refine xw_true (by kernel_rfl) rfl ?_
 refine zs ?_
 have hs1 : m.splitE a b ≠ 0 := by omega
 obtain ⟨hn1, hn2⟩ := nt_3 c105 c116 hs1
 refine xw_region (by kernel_rfl) ?_
 refine zm rfl rfl ?_
 refine XL.len rfl rfl rfl Tryz.underlying22 (fun hl127 => ?_)
 refine zp (p_yes (p_eql rfl rfl rfl) (by rw [← hn1]; rfl)) ?_
 refine zm rfl rfl ?_
 refine zm rfl rfl ?_
 refine zm rfl rfl ?_
 refine zp (p_yes (p_eql rfl rfl rfl) (by omega)) ?_
 refine zq rfl rfl rfl ?_
 refine za rfl rfl ?_
 refine zn ?_
 refine zt ?_
 exact z1 rfl rfl (rfl)
 refine zm rfl rfl ?_
 refine zp (p_rem rfl rfl rfl (by omega) (by omega)) ?_
 refine zp (p_neq rfl rfl rfl) ?_
 refine zq rfl rfl rfl ?_
 refine za rfl rfl ?_
 refine zn ?_
 refine zd rfl (fun c60 => ?_) (fun c60 => ?_)
 refine xw_region (by kernel_rfl) ?_
 refine za rfl rfl ?_
 refine zn ?_
 refine zs ?_
 refine zr ?_
 refine zm rfl rfl ?_
 refine zm rfl rfl ?_
 refine zp (p_no (p_neq rfl rfl rfl) (by omega)) ?_
 refine zm rfl rfl ?_
 refine zm rfl rfl ?_
 refine zp (p_yes (p_neq rfl rfl rfl) (by decide)) ?_
 refine zm rfl rfl ?_
 refine zm rfl rfl ?_
 refine XL.len rfl rfl rfl Tryz.underlying22 (fun hl82 => ?_)
 refine zp (p_no (p_gtr rfl rfl rfl) (by omega)) ?_
 refine zq rfl rfl rfl ?_
 refine zq rfl rfl rfl ?_
 refine zm rfl rfl ?_
 refine zm rfl rfl ?_
 refine zp (p_no (p_eql rfl rfl rfl) (by decide)) ?_
 refine zm rfl rfl ?_
 refine zk 10 rfl ?_
 refine zq rfl rfl rfl ?_
 refine zq rfl rfl rfl ?_
 refine zn ?_
 refine xw_false (by kernel_rfl) rfl ?_
 refine zi ?_
 refine zs ?_
 refine zr ?_
 refine zp (pure_eq (s' := .d (.agg (Ev.c x))) (norm_pure (p_load_boxs rfl rfl agg_60 rfl (Nat.le_of_ble_eq_true rfl))) (by kernel_rfl)) ?_
 refine XL.call1 rfl rfl (rcheck11_xc _ (by assumption)) rfl ?_
 refine za rfl rfl ?_
 refine znr ?_
 refine zm rfl rfl ?_
 refine zp (p_neq rfl rfl rfl) ?_
 refine zn ?_
 refine zd rfl (fun c105 => ?_) (fun c105 => ?_)
 refine zs ?_
 obtain ⟨hn1, hn2⟩ := nt_1 (m := m) (a := a) (b := b) c105
 refine xw_region (by kernel_rfl) ?_
 refine zm rfl rfl ?_
 refine XL.len rfl rfl rfl Tryz.underlying22 (fun hl107 => ?_)
 refine zp (p_yes (p_eql rfl rfl rfl) (by rw [← hn1]; rfl)) ?_
 refine zm rfl rfl ?_
 refine zm rfl rfl ?_
 refine zm rfl rfl ?_
 refine zp (p_yes (p_eql rfl rfl rfl) (hn2.symm)) ?_
 refine zq rfl rfl rfl ?_
 refine za rfl rfl ?_
 refine zn ?_
 refine zt ?_
 exact z1 rfl rfl (rfl)
 refine zi ?_
 refine zs ?_
 refine zr ?_
 refine zp (p_fld_ptr rfl rfl fld_60_1) ?_
 refine zp (p_load_box rfl rfl sc_3 rfl rfl) ?_
 refine zp (p_eql rfl rfl rfl) ?_
 refine zn ?_
 refine zd rfl (fun c116 => ?_) (fun c116 => ?_)
 refine zs ?_
 obtain ⟨hn1, hn2⟩ := nt_2 (m := m) (a := a) (b := b) c105 c116
 refine xw_region (by kernel_rfl) ?_
 refine zm rfl rfl ?_
 refine XL.len rfl rfl rfl Tryz.underlying22 (fun hl118 => ?_)
 refine zp (p_yes (p_eql rfl rfl rfl) (by rw [← hn1]; rfl)) ?_
 refine zm rfl rfl ?_
 refine zm rfl rfl ?_
 refine zp (p_yes (p_eql rfl rfl rfl) (hn2.symm)) ?_
 refine zq rfl rfl rfl ?_
 refine za rfl rfl ?_
 refine zn ?_
 refine zt ?_
 exact z1 rfl rfl (rfl)
 refine zi ?_
 refine zs ?_
 refine zr ?_
 refine zm rfl rfl ?_
 refine zp (p_yes (p_neq rfl rfl rfl) (by decide)) ?_
 refine zn ?_
 refine xw_true (by kernel_rfl) rfl ?_
 refine zs ?_
 have hs1 : m.splitE a b ≠ 0 := by omega
 obtain ⟨hn1, hn2⟩ := nt_3 c105 c116 hs1
 refine xw_region (by kernel_rfl) ?_
 refine zm rfl rfl ?_
 refine XL.len rfl rfl rfl Tryz.underlying22 (fun hl127 => ?_)
 refine zp (p_yes (p_eql rfl rfl rfl) (by rw [← hn1]; rfl)) ?_
 refine zm rfl rfl ?_
 refine zm rfl rfl ?_
 refine zm rfl rfl ?_
 refine zp (p_yes (p_eql rfl rfl rfl) (by omega)) ?_
 refine zq rfl rfl rfl ?_
 refine za rfl rfl ?_
 refine zn ?_
 refine zt ?_
 exact z1 rfl rfl (rfl)
 refine zr ?_
 refine zm rfl rfl ?_
 refine zm rfl rfl ?_
 refine zp (p_sub rfl rfl rfl (by omega) (by omega)) ?_
 refine zp (p_gtr rfl rfl rfl) ?_
 refine za rfl rfl ?_
 refine zn ?_
 refine zd rfl (fun c69 => ?_) (fun c69 => ?_)
 refine xw_region (by kernel_rfl) ?_
 refine za rfl rfl ?_
 refine zn ?_
 refine zs ?_
 refine zr ?_
 refine zm rfl rfl ?_
 refine zm rfl rfl ?_
 refine zp (p_no (p_neq rfl rfl rfl) (by omega)) ?_
 refine zm rfl rfl ?_
 refine zm rfl rfl ?_
 refine zp (p_yes (p_neq rfl rfl rfl) (by decide)) ?_
 refine zm rfl rfl ?_
 refine zm rfl rfl ?_
 refine XL.len rfl rfl rfl Tryz.underlying22 (fun hl82 => ?_)
 refine zp (p_no (p_gtr rfl rfl rfl) (by omega)) ?_
 refine zq rfl rfl rfl ?_
 refine zq rfl rfl rfl ?_
 refine zm rfl rfl ?_
 refine zm rfl rfl ?_
 refine zp (p_no (p_eql rfl rfl rfl) (by decide)) ?_
 refine zm rfl rfl ?_
 refine zk 10 rfl ?_
 refine zq rfl rfl rfl ?_
 refine zq rfl rfl rfl ?_
 refine zn ?_
 refine xw_false (by kernel_rfl) rfl ?_
 refine zi ?_
 refine zs ?_
 refine zr ?_
 refine zp (pure_eq (s' := .d (.agg (Ev.c x))) (norm_pure (p_load_boxs rfl rfl agg_60 rfl (Nat.le_of_ble_eq_true rfl))) (by kernel_rfl)) ?_
 refine XL.call1 rfl rfl (rcheck11_xc _ (by assumption)) rfl ?_
 refine za rfl rfl ?_
 refine znr ?_
 refine zm rfl rfl ?_
 refine zp (p_neq rfl rfl rfl) ?_
 refine zn ?_
 refine zd rfl (fun c105 => ?_) (fun c105 => ?_)
 refine zs ?_
 obtain ⟨hn1, hn2⟩ := nt_1 (m := m) (a := a) (b := b) c105
 refine xw_region (by kernel_rfl) ?_
 refine zm rfl rfl ?_
 refine XL.len rfl rfl rfl Tryz.underlying22 (fun hl107 => ?_)
 refine zp (p_yes (p_eql rfl rfl rfl) (by rw [← hn1]; rfl)) ?_
 refine zm rfl rfl ?_
 refine zm rfl rfl ?_
 refine zm rfl rfl ?_
 refine zp (p_yes (p_eql rfl rfl rfl) (hn2.symm)) ?_
 refine zq rfl rfl rfl ?_
 refine za rfl rfl ?_
 refine zn ?_
 refine zt ?_
 exact z1 rfl rfl (rfl)
 refine zi ?_
 refine zs ?_
 refine zr ?_
 refine zp (p_fld_ptr rfl rfl fld_60_1) ?_
 refine zp (p_load_box rfl rfl sc_3 rfl rfl) ?_
 refine zp (p_eql rfl rfl rfl) ?_
 refine zn ?_
 refine zd rfl (fun c116 => ?_) (fun c116 => ?_)
 refine zs ?_
 obtain ⟨hn1, hn2⟩ := nt_2 (m := m) (a := a) (b := b) c105 c116
 refine xw_region (by kernel_rfl) ?_
 refine zm rfl rfl ?_
 refine XL.len rfl rfl rfl Tryz.underlying22 (fun hl118 => ?_)
 refine zp (p_yes (p_eql rfl rfl rfl) (by rw [← hn1]; rfl)) ?_
 refine zm rfl rfl ?_
 refine zm rfl rfl ?_
 refine zp (p_yes (p_eql rfl rfl rfl) (hn2.symm)) ?_
 refine zq rfl rfl rfl ?_
 refine za rfl rfl ?_
 refine zn ?_
 refine zt ?_
 exact z1 rfl rfl (rfl)
 refine zi ?_
 refine zs ?_
 refine zr ?_
 refine zm rfl rfl ?_
 refine zp (p_yes (p_neq rfl rfl rfl) (by decide)) ?_
 refine zn ?_
 refine xw_true (by kernel_rfl) rfl ?_
 refine zs ?_
 have hs1 : m.splitE a b ≠ 0 := by omega
 obtain ⟨hn1, hn2⟩ := nt_3 c105 c116 hs1
 refine xw_region (by kernel_rfl) ?_
 refine zm rfl rfl ?_
 refine XL.len rfl rfl rfl Tryz.underlying22 (fun hl127 => ?_)
 refine zp (p_yes (p_eql rfl rfl rfl) (by rw [← hn1]; rfl)) ?_
 refine zm rfl rfl ?_
 refine zm rfl rfl ?_
 refine zm rfl rfl ?_
 refine zp (p_yes (p_eql rfl rfl rfl) (by omega)) ?_
 refine zq rfl rfl rfl ?_
 refine za rfl rfl ?_
 refine zn ?_
 refine zt ?_
 exact z1 rfl rfl (rfl)
 have hs0 : m.splitE a b = 0 := by omega
 refine zi ?_
 refine zs ?_
 refine zr ?_
 refine zm rfl rfl ?_
 refine zm rfl rfl ?_
 refine zp (p_no (p_neq rfl rfl rfl) (by omega)) ?_
 refine zm rfl rfl ?_
 refine zm rfl rfl ?_
 refine zp (p_no (p_neq rfl rfl rfl) (by omega)) ?_
 refine zm rfl rfl ?_
 refine zk 3 rfl ?_
 refine zq rfl rfl rfl ?_
 refine zq rfl rfl rfl ?_
 refine zm rfl rfl ?_
 refine zm rfl rfl ?_
 refine zp (p_yes (p_eql rfl rfl rfl) (by omega)) ?_
 refine zm rfl rfl ?_
 refine zm rfl rfl ?_
 refine zp (pure_sub (.agg (Vo.c (evV (restsS m a b)))) (pure_eq (s' := .d (.agg [_, .v (.slice none 0 0)])) (norm_pure (p_build rfl str_25 zero_25 rfl)) (by kernel_rfl)) (.agg (.cons (.same rfl) (.cons (.nil 4) (.nil))))) ?_
 refine zp (pure_sub (.agg (Ev.c restE)) (pure_eq (s' := .d (.agg [dI 0, dI 0, dI 2, dI 0, dI 0, .v (.slice none 0 0), .v (.slice none 0 0), dI 0, dI 0, dI 0, .v (.slice none 0 0), dI 0, dI 0])) (norm_pure (p_build rfl str_60 zero_60 rfl)) (by kernel_rfl)) (.agg (.cons (.same rfl) (.cons (.same rfl) (.cons (.same rfl) (.cons (.same rfl) (.cons (.same rfl) (.cons (.nil 5) (.cons (.nil 5) (.cons (.same rfl) (.cons (.same rfl) (.cons (.same rfl) (.cons (.nil 2) (.cons (.same rfl) (.cons (.same rfl) (.nil)))))))))))))))) ?_
 refine zp (pure_eq (s' := .d (.agg (Me.c m))) (norm_pure (p_load_boxs rfl rfl agg_28 rfl (Nat.le_of_ble_eq_true rfl))) (by kernel_rfl)) ?_
 refine zm rfl rfl ?_
 refine zm rfl rfl ?_
 refine XL.call1 rfl rfl (rNotes_xc restE m a b restE_fit hs0) rfl ?_
 refine zp (pure_sub (.agg (Vo.c (evV (notesS restE (m.split a b) false)))) (pure_eq (s' := .d (.agg [.sl 13 ((notesS restE (m.split a b) false).map Ev.c), .v (.slice none 0 0)])) (norm_pure (p_build rfl str_25 zero_25 rfl)) (by kernel_rfl)) (.agg (.cons (.same rfl) (.cons (.nil 4) (.nil))))) ?_
 refine XL.call1 rfl rfl (xc_yes (lsame_xc _ _) rfl) rfl ?_
 refine zp (pure_eq (s' := .d (dB false)) (p_not rfl rfl) (rfl)) ?_
 refine zq rfl rfl rfl ?_
 refine zq rfl rfl rfl ?_
 refine zn ?_
 refine xw_false (by kernel_rfl) rfl ?_
 refine zi ?_
 refine zs ?_
 refine zr ?_
 refine zp (pure_eq (s' := .d (.agg (Ev.c x))) (norm_pure (p_load_boxs rfl rfl agg_60 rfl (Nat.le_of_ble_eq_true rfl))) (by kernel_rfl)) ?_
 refine XL.call1 rfl rfl (rcheck11_xc _ (by assumption)) rfl ?_
 refine za rfl rfl ?_
 refine znr ?_
 refine zm rfl rfl ?_
 refine zp (p_neq rfl rfl rfl) ?_
 refine zn ?_
 refine zd rfl (fun c105 => ?_) (fun c105 => ?_)
 refine zs ?_
 obtain ⟨hn1, hn2⟩ := nt_1 (m := m) (a := a) (b := b) c105
 refine xw_region (by kernel_rfl) ?_
 refine zm rfl rfl ?_
 refine XL.len rfl rfl rfl Tryz.underlying22 (fun hl107 => ?_)
 refine zp (p_yes (p_eql rfl rfl rfl) (by rw [← hn1]; rfl)) ?_
 refine zm rfl rfl ?_
 refine zm rfl rfl ?_
 refine zm rfl rfl ?_
 refine zp (p_yes (p_eql rfl rfl rfl) (hn2.symm)) ?_
 refine zq rfl rfl rfl ?_
 refine za rfl rfl ?_
 refine zn ?_
 refine zt ?_
 exact z1 rfl rfl (rfl)
 refine zi ?_
 refine zs ?_
 refine zr ?_
 refine zp (p_fld_ptr rfl rfl fld_60_1) ?_
 refine zp (p_load_box rfl rfl sc_3 rfl rfl) ?_
 refine zp (p_eql rfl rfl rfl) ?_
 refine zn ?_
 refine zd rfl (fun c116 => ?_) (fun c116 => ?_)
 refine zs ?_
 obtain ⟨hn1, hn2⟩ := nt_2 (m := m) (a := a) (b := b) c105 c116
 refine xw_region (by kernel_rfl) ?_
 refine zm rfl rfl ?_
 refine XL.len rfl rfl rfl Tryz.underlying22 (fun hl118 => ?_)
 refine zp (p_yes (p_eql rfl rfl rfl) (by rw [← hn1]; rfl)) ?_
 refine zm rfl rfl ?_
 refine zm rfl rfl ?_
 refine zp (p_yes (p_eql rfl rfl rfl) (hn2.symm)) ?_
 refine zq rfl rfl rfl ?_
 refine za rfl rfl ?_
 refine zn ?_
 refine zt ?_
 exact z1 rfl rfl (rfl)
 refine zi ?_
 refine zs ?_
 refine zr ?_
 refine zm rfl rfl ?_
 refine zp (p_no (p_neq rfl rfl rfl) (by omega)) ?_
 refine zn ?_
 refine xw_false (by kernel_rfl) rfl ?_
 refine zi ?_
 refine zs ?_
 have hs0 : m.splitE a b = 0 := by omega
 obtain ⟨hn1, hn2⟩ := nt_4 (m := m) (a := a) (b := b) c105 c116 (fun h => h hs0)
 refine xw_region (by kernel_rfl) ?_
 refine zm rfl rfl ?_
 refine zp (p_yes (p_eql rfl rfl rfl) (hn2.symm)) ?_
 refine zm rfl rfl ?_
 refine zm rfl rfl ?_
 refine zp (pure_sub (.agg (Vo.c (evV (notesL x m a b)))) (pure_eq (s' := .d (.agg [_, .v (.slice none 0 0)])) (norm_pure (p_build rfl str_25 zero_25 rfl)) (by kernel_rfl)) (.agg (.cons (.same rfl) (.cons (.nil 4) (.nil))))) ?_
 refine zp (pure_eq (s' := .d (.agg (Ev.c x))) (norm_pure (p_load_boxs rfl rfl agg_60 rfl (Nat.le_of_ble_eq_true rfl))) (by kernel_rfl)) ?_
 refine zp (pure_eq (s' := .d (.agg (Me.c m))) (norm_pure (p_load_boxs rfl rfl agg_28 rfl (Nat.le_of_ble_eq_true rfl))) (by kernel_rfl)) ?_
 refine zm rfl rfl ?_
 refine zm rfl rfl ?_
 refine XL.call1 rfl rfl (rNotes_xc x m a b hxf hs0) rfl ?_
 refine zp (pure_sub (.agg (Vo.c (evV (notesS x (m.split a b) false)))) (pure_eq (s' := .d (.agg [.sl 13 ((notesS x (m.split a b) false).map Ev.c), .v (.slice none 0 0)])) (norm_pure (p_build rfl str_25 zero_25 rfl)) (by kernel_rfl)) (.agg (.cons (.same rfl) (.cons (.nil 4) (.nil))))) ?_
 refine XL.call1 rfl rfl (xc_yes (lsame_xc _ _) (by rw [hn1])) rfl ?_
 refine zq rfl rfl rfl ?_
 refine zp (pure_eq (s' := .d (dB true)) (p_assign rfl (by conv => lhs; whnf)) (rfl)) ?_
 refine zn ?_
 refine zt ?_
 exact z1 rfl rfl (rfl)
 refine zi ?_
 refine zs ?_
 refine zr ?_
 refine zm rfl rfl ?_
 refine zm rfl rfl ?_
 refine zp (p_no (p_neq rfl rfl rfl) (by omega)) ?_
 refine zm rfl rfl ?_
 refine zm rfl rfl ?_
 refine zp (p_yes (p_neq rfl rfl rfl) (by omega)) ?_
 refine zm rfl rfl ?_
 refine zm rfl rfl ?_
 refine XL.len rfl rfl rfl Tryz.underlying22 (fun hl82 => ?_)
 refine zp (p_no (p_gtr rfl rfl rfl) (by omega)) ?_
 refine zq rfl rfl rfl ?_
 refine zq rfl rfl rfl ?_
 refine zm rfl rfl ?_
 refine zm rfl rfl ?_
 refine zp (p_no (p_eql rfl rfl rfl) (by omega)) ?_
 refine zm rfl rfl ?_
 refine zk 10 rfl ?_
 refine zq rfl rfl rfl ?_
 refine zq rfl rfl rfl ?_
 refine zn ?_
 refine xw_false (by kernel_rfl) rfl ?_
 refine zi ?_
 refine zs ?_
 refine zr ?_
 refine zp (pure_eq (s' := .d (.agg (Ev.c x))) (norm_pure (p_load_boxs rfl rfl agg_60 rfl (Nat.le_of_ble_eq_true rfl))) (by kernel_rfl)) ?_
 refine XL.call1 rfl rfl (rcheck11_xc _ (by assumption)) rfl ?_
 refine za rfl rfl ?_
 refine znr ?_
 refine zm rfl rfl ?_
 refine zp (p_neq rfl rfl rfl) ?_
 refine zn ?_
 refine zd rfl (fun c105 => ?_) (fun c105 => ?_)
 refine zs ?_
 obtain ⟨hn1, hn2⟩ := nt_1 (m := m) (a := a) (b := b) c105
 refine xw_region (by kernel_rfl) ?_
 refine zm rfl rfl ?_
 refine XL.len rfl rfl rfl Tryz.underlying22 (fun hl107 => ?_)
 refine zp (p_yes (p_eql rfl rfl rfl) (by rw [← hn1]; rfl)) ?_
 refine zm rfl rfl ?_
 refine zm rfl rfl ?_
 refine zm rfl rfl ?_
 refine zp (p_yes (p_eql rfl rfl rfl) (hn2.symm)) ?_
 refine zq rfl rfl rfl ?_
 refine za rfl rfl ?_
 refine zn ?_
 refine zt ?_
 exact z1 rfl rfl (rfl)
 refine zi ?_
 refine zs ?_
 refine zr ?_
 refine zp (p_fld_ptr rfl rfl fld_60_1) ?_
 refine zp (p_load_box rfl rfl sc_3 rfl rfl) ?_
 refine zp (p_eql rfl rfl rfl) ?_
 refine zn ?_
 refine zd rfl (fun c116 => ?_) (fun c116 => ?_)
 refine zs ?_
 obtain ⟨hn1, hn2⟩ := nt_2 (m := m) (a := a) (b := b) c105 c116
 refine xw_region (by kernel_rfl) ?_
 refine zm rfl rfl ?_
 refine XL.len rfl rfl rfl Tryz.underlying22 (fun hl118 => ?_)
 refine zp (p_yes (p_eql rfl rfl rfl) (by rw [← hn1]; rfl)) ?_
 refine zm rfl rfl ?_
 refine zm rfl rfl ?_
 refine zp (p_yes (p_eql rfl rfl rfl) (hn2.symm)) ?_
 refine zq rfl rfl rfl ?_
 refine za rfl rfl ?_
 refine zn ?_
 refine zt ?_
 exact z1 rfl rfl (rfl)
 refine zi ?_
 refine zs ?_
 refine zr ?_
 refine zm rfl rfl ?_
 refine zp (p_yes (p_neq rfl rfl rfl) (by omega)) ?_
 refine zn ?_
 refine xw_true (by kernel_rfl) rfl ?_
 refine zs ?_
 have hs1 : m.splitE a b ≠ 0 := by omega
 obtain ⟨hn1, hn2⟩ := nt_3 c105 c116 hs1
 refine xw_region (by kernel_rfl) ?_
 refine zm rfl rfl ?_
 refine XL.len rfl rfl rfl Tryz.underlying22 (fun hl127 => ?_)
 refine zp (p_yes (p_eql rfl rfl rfl) (by rw [← hn1]; rfl)) ?_
 refine zm rfl rfl ?_
 refine zm rfl rfl ?_
 refine zm rfl rfl ?_
 refine zp (p_yes (p_eql rfl rfl rfl) (by omega)) ?_
 refine zq rfl rfl rfl ?_
 refine za rfl rfl ?_
 refine zn ?_
 refine zt ?_
 exact z1 rfl rfl (rfl)
end Go.Proofs.YtcihalbakenleaaGreat
