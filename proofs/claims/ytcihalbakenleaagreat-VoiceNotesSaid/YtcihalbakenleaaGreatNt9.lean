/- Part 9 of what the statements need: lemmas and walks. -/
import Derived.Lib.AppendZeros
import Derived.Test.YtcihalbakenleaaGreatNt8
set_option linter.unusedVariables false
set_option maxRecDepth 20000
set_option maxHeartbeats 8000000
namespace Go.Proofs.YtcihalbakenleaaGreat
open Go.RowKit
section
variable {P : Program} {o : Oper} {e : Operand → S} {h : Xh}
theorem p_cap_nil {t el : TypeId} {x : Operand} (ho : o.op = .call { callee := .builtin .cap, args := #[x], argTypes := #[t] }) (hx : e x = .d (.v (.slice none 0 0))) (hu : P.underlying t = some (.slice el)) : Pure P o e h (.d (.v (.int .i64 0))) := fun E H β ρ w _ hop => by
  have g := hop x (by rw [ho]; simp [Op.operands, Call.operands])
  rw [hx] at g
  refine ⟨_, ?_, .d (.v (.int .i64 0))⟩
  unfold execOp
  simp only [ho, resolve, invoke, builtin, Sem.run_bind, Sem.run_pure, Result.andThen_ok, List.map_toArray, List.map_cons, List.map_nil, vs_v g]
  unfold Builtin.cap_
  simp only [List.getElem?_toArray, List.getElem?_cons_zero, Sem.run_bind, run_underlying hu, Result.andThen_ok, Sem.run_pure, goInt]
  rfl
/-- nil[:0] -/
theorem p_slice_nil {t sz : Nat} {x y : Operand} {k : IntKind} (ho : o.op = .slice t x none (some y) none) (hx : e x = .d (.v (.slice none 0 0))) (hy : e y = .d (.v (.int k 0))) (hf : elB P t sz = true) : Pure P o e h (.d (.v (.slice none 0 0))) := fun E H β ρ w _ hop => by
  have g := hop x (by rw [ho]; simp [Op.operands])
  have g2 := hop y (by rw [ho]; simp [Op.operands])
  rw [hx] at g
  rw [hy] at g2
  obtain ⟨el, hu, hpos, hsz⟩ := elB.parts hf
  have hb : (Instr.sliceBounds true 0 0 (none : Option Value) (some (ρ y)) none).run P w = .ok (0, 0, 0) w := by
    rw [vs_v g2]
    exact bounds_run none (some (.int k 0)) 0 0 0 0 (.inl ⟨rfl, rfl⟩) (.inr ⟨k, rfl⟩) (Nat.le_refl _) (Nat.le_refl _) w
  refine ⟨_, ?_, .d (.v _)⟩
  unfold execOp
  simp only [ho, vs_v g, Instr.sliceAt, Option.map_none, Option.map_some, Sem.run_bind, run_underlying hu, Result.andThen_ok, Instr.slice, hb, hsz, Sem.run_pure, Nat.sub_zero, if_true]
end
section
variable {P : Program} {n : Nat} {o : Oper} {f : Fr} {h : Xh}
/-- append(nil, make(..)...) -/
theorem st_appendz (i : Nat) {t tn ty : TypeId} {sz bytes : Nat} {x y : Operand} {z : Value} {zs : List D} {k : Nat} {kq kn : IntKind} (ho : o.op = .call { callee := .builtin .append, args := #[x, y], argTypes := #[t, tn] })
    (hx : ev f x = .d (.v (.slice none 0 0))) (hy : ev f y = .d (.v (.int kq k))) (hu : P.underlying t = some (.slice ty)) (hun : P.underlying tn = some (.int kn)) (hinf : (P.info? ty).map (fun i => (i.zero, i.size, i.bytes)) = some (some z, sz, bytes))
    (hzs : z.cells.toList.map D.v = zs) (hzl : z.cells.size = sz) (hz1 : ∀ u ∈ z.cells, u.oneCell' = true) (hpos : 0 < sz) (hk : 0 < k) (hcm : k ≤ maxLen) (hby : k * bytes ≤ 140737488355328) :
    Step P n o f h (.own i) (fkill f i) ((h.kill i).set i (.row ty sz (List.replicate k zs))) := by
  intro E H β a w hs hf hop
  have g1 := hop x (by rw [ho]; simp [Op.operands, Call.operands])
  have g2 := hop y (by rw [ho]; simp [Op.operands, Call.operands])
  rw [hx] at g1
  rw [hy] at g2
  obtain ⟨inf, hi, hi1, hi2, hi3⟩ := info_parts hinf
  have hcm' : k ≤ 9223372036854775807 := len63' hcm
  have hrun0 := Lib.run_append_nil_zeros (P := P) w t tn o.type ty inf z kq kn hu hun hi hi1 k hk (by omega) (by omega) (by rw [hi3]; omega)
  have hrun : (execOp a.eval o).run P w = .ok (.value (.slice (some ⟨w.heap.size, 0, none⟩) (List.replicate k zs).length (grownCap w k 0 ty))) (w.drew.alloc (.cells (Builtin.zeroCells z.cells k ++ Builtin.zeroCells z.cells (grownCap w k 0 ty - k)) ty)) := by
    unfold execOp
    simp only [ho, vs_v g1, vs_v g2, resolve, invoke, builtin, Sem.run_bind, Sem.run_pure, Result.andThen_ok, List.map_toArray, List.map_cons, List.map_nil, hrun0, List.length_replicate]
  unfold Oper.wp
  rw [hrun]
  have hge := grownCap_ge w k 0 ty
  have hle := grownCap_le_maxLen w k 0 ty hcm
  have hzsl : zs.length = sz := by rw [← hzs, List.length_map, Array.length_toList, hzl]
  have hzget : ∀ m q, q < m * sz → (Builtin.zeroCells z.cells m)[q]? = some (z.cells[q % z.cells.size]'(Nat.mod_lt _ (by omega))) := by
    intro m q hq
    unfold Builtin.zeroCells
    rw [Array.getElem?_map]
    have : (Array.range (m * z.cells.size))[q]? = some q := by rw [hzl]; simp [hq]
    rw [this, Option.map_some]
    congr 1
    exact getElem!_pos z.cells (q % z.cells.size) (Nat.mod_lt _ (by omega))
  have hzsz : ∀ m, (Builtin.zeroCells z.cells m).size = m * sz := fun m => by unfold Builtin.zeroCells; simp [hzl]
  have hzone : ∀ m, ∀ u ∈ Builtin.zeroCells z.cells m, u.oneCell' = true := fun m u hu => by
    obtain ⟨q, hq⟩ := Array.getElem?_of_mem hu
    have hql := (Array.getElem?_eq_some_iff.1 hq).1
    rw [hzget m q (by rw [← hzsz]; exact hql)] at hq
    cases hq
    exact hz1 _ (Array.getElem_mem _)
  have hsim := hs.drew.add_row i (ty := ty) (sz := sz) (cap := grownCap w k 0 ty) (l := List.replicate k zs) (Builtin.zeroCells z.cells k ++ Builtin.zeroCells z.cells (grownCap w k 0 ty - k)) (fun x hx => by rw [List.eq_of_mem_replicate hx]; exact hzsl) (by rw [List.length_replicate]; exact hge) hle (by
      rw [Array.size_append, hzsz, hzsz, ← Nat.add_mul]; congr 1; omega) (fun u hu => by
      rcases Array.mem_append.1 hu with h | h
      · exact hzone _ u h
      · exact hzone _ u h) (fun k' j x d hk' hj => by
      have hkl := (List.getElem?_eq_some_iff.1 hk').1
      rw [List.length_replicate] at hkl
      have hx := List.eq_of_mem_replicate (List.mem_of_getElem? hk')
      subst hx
      have hjl := (List.getElem?_eq_some_iff.1 hj).1
      rw [hzsl] at hjl
      have h1 : (k' + 1) * sz ≤ k * sz := Nat.mul_le_mul_right _ hkl
      rw [Nat.add_mul] at h1
      refine ⟨_, by rw [Array.getElem?_append_left (by rw [hzsz]; omega)]; exact hzget k (k' * sz + j) (by omega), ?_⟩
      have e2 : (k' * sz + j) % sz = j := by rw [Nat.mul_comm, Nat.mul_add_mod, Nat.mod_eq_of_lt hjl]
      rw [← hzs, List.getElem?_map, Array.getElem?_toList, Array.getElem?_eq_getElem (by omega)] at hj
      cases hj
      have e3 : z.cells[(k' * sz + j) % z.cells.size]'(Nat.mod_lt _ (by omega)) = z.cells[j]'(by omega) := by congr 1; rw [hzl, e2]
      rw [e3]
      exact .v _)
  exact ⟨H, _, _, rfl, hsim, hf.kill i _, own_vs H β i ⟨_, w.heap.size, sz⟩⟩
end
/-- data that may be taken for other data, one by one -/
inductive DSubs : List D → List D → Prop where
  | nil : DSubs [] []
  | cons {d d' : D} {l l' : List D} (h : DSub d d') (hl : DSubs l l') : DSubs (d :: l) (d' :: l')
theorem DSubs.len {l l' : List D} (h : DSubs l l') : l.length = l'.length := by
  induction h with
  | nil => rfl
  | cons _ _ ih => simp [ih]
theorem DSubs.get {l l' : List D} (h : DSubs l l') : ∀ {i : Nat} {d' : D}, l'[i]? = some d' → ∃ d, l[i]? = some d ∧ DSub d d' := by
  induction h with
  | nil => intro i d' e; simp at e
  | @cons d d' l l' h _ ih =>
    intro i e he
    cases i with
    | zero => simp at he; subst he; exact ⟨d, rfl, h⟩
    | succ i => simpa using ih (by simpa using he)
theorem XS.sub {P : Program} {F : FuncId} {ds ds0 : List D} {s : S} {os : List (Nat × XO)} (hx : XS P F ds s os) (hs : DSubs ds0 ds) : XS P F ds0 s os := by
  obtain ⟨h1, h2, h3⟩ := hx
  refine ⟨h1, h2, fun H w vs him hsz hvs => h3 H w vs him (by rw [hsz, hs.len]) fun i x d hx hd => ?_⟩
  obtain ⟨d0, e1, e2⟩ := hs.get hd
  exact e2.vd (hvs i x d0 hx e1)
mutual
theorem S.frz_kill (i : Nat) (x : D) : ∀ s : S, (s.kill i).frz i x = s.kill i
  | .any => by simp only [S.kill, S.frz]
  | .d y => by simp only [S.kill, S.frz]
  | .ptr j k off => by
    simp only [S.kill]
    by_cases e : i = j
    · subst e; rw [nbeq_same]; simp only [cond_true, S.frz]
    · rw [nbeq_ne e]; simp only [cond_false, S.frz]
  | .own j => by
    simp only [S.kill]
    by_cases e : i = j
    · subst e; rw [nbeq_same]; simp only [cond_true, S.frz]
    · rw [nbeq_ne e]; simp only [cond_false, S.frz, nbeq_ne e]
  | .sub j a b => by
    simp only [S.kill]
    by_cases e : i = j
    · subst e; rw [nbeq_same]; simp only [cond_true, S.frz]
    · rw [nbeq_ne e]; simp only [cond_false, S.frz, nbeq_ne e]
  | .agg l => by simp only [S.kill, S.frz, S.frzL_kill i x l]
  | .fn f a c => by simp only [S.kill, S.frz, S.frzL_kill i x a, S.frzL_kill i x c]
  | .tup l => by simp only [S.kill, S.frz, S.frzL_kill i x l]
theorem S.frzL_kill (i : Nat) (x : D) : ∀ l : List S, S.frzL i x (S.killL i l) = S.killL i l
  | [] => by simp only [S.killL, S.frzL]
  | s :: l => by simp only [S.killL, S.frzL, S.frz_kill i x s, S.frzL_kill i x l]
end
theorem S.frzG_kill (i : Nat) (x : D) : ∀ l : List (Nat × S), S.frzG i x (S.killG i l) = S.killG i l
  | [] => rfl
  | (t, s) :: l => by simp only [S.killG, S.frzG, S.frz_kill i x s, S.frzG_kill i x l]
theorem XO.frz_kill (i : Nat) (x : D) (o : XO) : (o.kill i).frz i x = o.kill i := by
  cases o with
  | box l => simp only [XO.kill, XO.frz, S.frzL_kill]
  | row e sz l => rfl
  | ghost u l => simp only [XO.kill, XO.frz, S.frzG_kill]
def mKill (i : Nat) : Nat → Option XO → Option XO := fun k y => bif Nat.beq i k then none else y.map (XO.kill i)
theorem mKill_own {i : Nat} (z z' : Option XO) : mKill i i z = mKill i i z' := by simp only [mKill, nbeq_same, cond_true]
section
variable {P : Program} {n : Nat} {o : Oper} {f : Fr} {h : Xh}
/-- an append whose result is shared from there on -/
theorem m_appendF {i : Nat} {t ty : TypeId} {sz bytes : Nat} {x y : Operand} {l l' l2 : List (List D)} (ho : o.op = .call { callee := .builtin .append, args := #[x, y], argTypes := #[t, t] }) (T : ElemTy P t ty sz bytes)
    (hx : Dest h (ev f x) i ty sz l) (hy : Src h (ev f y) sz l') (h63 : l.length + l'.length ≤ maxLen) (hby : (l.length + l'.length) * bytes ≤ 140737488355328) (hl2 : l ++ l' = l2) :
    ∀ hF, HLe h hF → MStep P n o f hF i (.d (.sl sz l2)) (S.kill i) (hF.by (mKill i)) := by
  intro hF hle f' he E H β a w hs hf hop
  refine wp_weak (m_append ho T hx hy h63 hby hl2 hF hle f' he E H β a w hs hf hop) ?_
  rintro a' w' ⟨H', β', u, rfl, k1, k2, k3, k4⟩
  obtain ⟨H2, g1, g2, g3⟩ := k1.freeze (i := i) (e := ty) (sz := sz) (l := l2) (by show mApp i _ i _ = _; simp only [mApp, nbeq_same, cond_true])
  obtain ⟨L, hL, hu⟩ := vs_own k4
  refine ⟨H2, β', u, rfl, g3.drop (fun k o e => ?_), k2.mono g1 (fun _ _ h => h), k3, .d (by rw [hu]; exact g2 L hL)⟩
  unfold Xh.by mKill at e
  unfold Xh.frz Xh.by mApp
  by_cases e' : i = k
  · subst e'; simp only [nbeq_same, cond_true] at e; cases e
  · simp only [nbeq_ne e', cond_false] at e ⊢
    cases hk : hF k with
    | none => rw [hk] at e; cases e
    | some o1 => rw [hk] at e; cases e; simp only [Option.map_some, XO.frz_kill]
end
section
variable {P : Program} {n : Nat} {c : Code} {K : Kont} {f : Fr} {h : Xh}
theorem xw_bool (t : Nat) {b : Bool} (ht : f t = .d (.v (.bool b))) (h1 : b = true → XW P n c K (fset f t (.d (.v (.bool true)))) h) (h2 : b = false → XW P n c K (fset f t (.d (.v (.bool false)))) h) : XW P n c K f h := by
  have e : ∀ b', b = b' → fset f t (.d (.v (.bool b'))) = f := fun b' hb => by
    funext j
    by_cases e : t = j
    · subst e; simp only [fset, nbeq_same, cond_true]; rw [ht, hb]
    · simp only [fset, nbeq_ne e, cond_false]
  cases hb : b with
  | true => have := h1 hb; rwa [e true hb] at this
  | false => have := h2 hb; rwa [e false hb] at this
theorem xw_split (t : Nat) {p : Prop} [Decidable p] (ht : f t = .d (.v (.bool (decide p)))) (h1 : p → XW P n c K (fset f t (.d (.v (.bool true)))) h) (h2 : ¬ p → XW P n c K (fset f t (.d (.v (.bool false)))) h) : XW P n c K f h :=
  xw_bool t ht (fun e => h1 (of_decide_eq_true e)) (fun e => h2 (of_decide_eq_false e))
end
end Go.Proofs.YtcihalbakenleaaGreat
namespace Go.Proofs.YtcihalbakenleaaGreat
open Go.RowKit
/-- a tuplet moved -/
def Tp.mv (by_ : Int) (t : Tp) : Tp := { t with first := t.first + by_ }
def movedS (p : Tp → Bool) (by_ : Int) (l : List Tp) : List Tp := (l.filter p).map (Tp.mv by_)
theorem moved_hit {p : Tp → Bool} {b : Int} {l : List Tp} {k : Nat} {t : Tp} (h : l[k]? = some t) (hp : p t = true) : movedS p b (l.take (k + 1)) = movedS p b (l.take k) ++ [t.mv b] := by
 rw [take_snoc h, movedS, List.filter_append, List.filter_cons_of_pos hp, List.filter_nil, List.map_append]; rfl
theorem moved_miss {p : Tp → Bool} {b : Int} {l : List Tp} {k : Nat} {t : Tp} (h : l[k]? = some t) (hp : ¬ p t = true) : movedS p b (l.take (k + 1)) = movedS p b (l.take k) := by
 rw [take_snoc h, movedS, List.filter_append, List.filter_cons_of_neg hp, List.filter_nil, List.append_nil]; rfl
theorem moved_len (p : Tp → Bool) (b : Int) (l : List Tp) : (movedS p b l).length ≤ l.length := by rw [movedS, List.length_map]; exact List.length_filter_le _ _
theorem bool_ff {b : Bool} (h : b = false) : ¬ b = true := by rw [h]; exact Bool.false_ne_true
theorem moved_xc (l : List Tp) (F : Nat) (cs : List D) (p : Tp → Bool) (b : Int) (hF : ∀ t ∈ l, XC Tryz.prog F (.agg (Tp.c t) :: cs) (fun r => r = dB (p t))) (hl : l.length ≤ 1000) (hb : ∀ t ∈ l, p t = true → -1000000 ≤ t.first + b ∧ t.first + b ≤ 1000000) : XC Tryz.prog 84 [.sl 4 (l.map Tp.c), .fn F [] cs, .v (.int .i64 b)] (fun r => r = .sl 4 ((movedS p b l).map Tp.c)) := by
 refine xc_body callable_84 Tryz.func84 rfl rfl (Nat.le_of_ble_eq_true rfl) ?_
 refine zr ?_
 refine za rfl rfl ?_
 refine znr ?_
 refine za rfl rfl ?_
 refine zn ?_
 refine zs ?_
 refine zr ?_
 refine zm rfl rfl ?_
 refine XL.len rfl rfl rfl Tryz.underlying23 (fun hl11 => ?_)
 refine zm rfl rfl ?_
 refine zn ?_
 refine xw_block ?_
 refine xw_ownnil 900 7 102 4 rfl ?_
 refine xw_loop (α := Nat) (fun k => k ≤ l.length) (fun k => mkF [(1, .d (.fn F [] cs)), (2, .d (dI b)), (6, .d (.v (.slice none 0 0))), (7, .own 900), (10, .d (.sl 4 (l.map Tp.c))), (11, .d (dI l.length)), (12, .d (dI k))]) (fun k => mkH [(900, .row 102 4 ((movedS p b (l.take k)).map Tp.c))]) (fun k => l.length - k) (0) (Nat.zero_le _) ?_ ?_ ?_
 exact fz ⟨sr, sr, sr, sr, sr, sr, sr, trivial⟩
 exact gz ⟨rfl, trivial⟩
 intro k hk0
 refine zr ?_
 refine zp (p_lss rfl rfl rfl) ?_
 refine zn ?_
 refine zs ?_
 refine zd rfl (fun c13 => ?_) (fun c13 => ?_)
 have hk0a : k < l.length := by omega
 obtain ⟨x0, hx0⟩ := get_ex hk0a
 have hml := moved_len p b (l.take k)
 have htl : (l.take k).length ≤ l.length := List.length_take_le' _ _
 refine zi ?_
 refine zs ?_
 refine xw_block ?_
 refine zr ?_
 refine zp (p_idx_map rfl rfl rfl el_23 hx0) ?_
 refine zp (pure_eq (s' := .d (.agg (Tp.c x0))) (p_load_pts rfl rfl agg_102 (Nat.le_of_ble_eq_true rfl)) (by kernel_rfl)) ?_
 refine XL.step rfl (st_allocN 9 (l := [.d (dI 0), .d (dI 0), .d (dI 0), .d (dI 0)]) rfl zero_102 (by kernel_rfl)) ?_
 refine XL.step rfl (st_storeN (l' := [.d (dI x0.first), .d (dI x0.count), .d (dI x0.actual), .d (dI x0.normal)]) rfl rfl rfl rfl sz_102 rfl (Nat.le_of_ble_eq_true rfl) (by kernel_rfl)) ?_
 refine znr ?_
 refine zm rfl rfl ?_
 refine zp (pure_eq (s' := .d (.agg (Tp.c x0))) (norm_pure (p_load_boxs rfl rfl agg_102 rfl (Nat.le_of_ble_eq_true rfl))) (by kernel_rfl)) ?_
 refine XL.callv1 (ds := [_]) rfl rfl rfl (hF x0 (List.mem_of_getElem? hx0)) rfl ?_
 refine zn ?_
 refine xw_cond (by kernel_rfl) rfl (fun c18 => ?_) (fun c18 => ?_)
 have hb0 := hb x0 (List.mem_of_getElem? hx0) c18
 refine zr ?_
 refine zp (p_fld_ptr rfl rfl fld_102_0) ?_
 refine zp (p_load_box rfl rfl sc_3 rfl rfl) ?_
 refine zm rfl rfl ?_
 refine zp (p_add rfl rfl rfl (by omega) (by omega)) ?_
 refine zp (p_fld_ptr rfl rfl fld_102_0) ?_
 refine XL.step rfl (st_storeN (l' := [.d (dI (x0.first + b)), .d (dI x0.count), .d (dI x0.actual), .d (dI x0.normal)]) rfl rfl rfl rfl sz_3 rfl (Nat.le_of_ble_eq_true rfl) (by kernel_rfl)) ?_
 refine zng ?_
 refine zp (p_move rfl (by conv => lhs; whnf)) ?_
 refine zp (pure_eq (s' := .d (.agg [dI (x0.first + b), dI x0.count, dI x0.actual, dI x0.normal])) (norm_pure (p_load_boxs rfl rfl agg_102 rfl (Nat.le_of_ble_eq_true rfl))) (by kernel_rfl)) ?_
 refine XL.step rfl (st_slice 26 rfl Tryz.underlying23 sz_102 zero_102 rfl rfl (by omega) (by omega)) ?_
 refine XL.step rfl (st_append rfl elt_23 (.own rfl) (Src.own rfl) (by unfold maxLen; simp; omega) (by simp; omega)) ?_
 refine zp (p_assign rfl (by conv => lhs; whnf)) ?_
 refine zn ?_
 refine xw_region (by kernel_rfl) ?_
 refine zp (p_add rfl rfl rfl (by omega) (by omega)) ?_
 refine zm rfl rfl ?_
 refine zn ?_
 exact k_round (k + 1) (by omega) (by omega) (fz ⟨sr, sr, sr, sr, sr, sr, sr, trivial⟩) (gz ⟨sApp rfl (moved_hit hx0 c18), trivial⟩)
 refine zi ?_
 refine xw_region (by kernel_rfl) ?_
 refine zp (p_add rfl rfl rfl (by omega) (by omega)) ?_
 refine zm rfl rfl ?_
 refine zn ?_
 exact k_round (k + 1) (by omega) (by omega) (fz ⟨sr, sr, sr, sr, sr, sr, sr, trivial⟩) (gz ⟨sRow (moved_miss hx0 (bool_ff c18)).symm, trivial⟩)
 have hk0b : k = l.length := by omega
 have ht : l.take k = l := by rw [hk0b, List.take_length]
 refine xw_exit ?_
 refine zr ?_
 refine zp (p_move rfl (by conv => lhs; whnf)) ?_
 refine zp (p_assign rfl (by conv => lhs; whnf)) ?_
 refine zn ?_
 refine zt ?_
 refine ret_freeze (i := 900) rfl ?_
 exact z1 rfl rfl (rSl (by rw [ht]))
theorem grow_xs (n : Nat) (h : n ≤ 100000) : XS Tryz.prog 145 [.v (.slice none 0 0), .v (.int .i64 (n : Nat))] (.own 7001) [(7001, .row 60 13 ((([] : List Ev)).map Ev.c))] := by
 refine xs_body callable_145 Tryz.func145 rfl rfl (Nat.le_of_ble_eq_true rfl) (by kernel_rfl) (by kernel_rfl) ?_
 refine zr ?_
 refine za rfl rfl ?_
 refine zn ?_
 refine zs ?_
 refine zr ?_
 refine zm rfl rfl ?_
 refine zp (p_lss rfl rfl rfl) ?_
 refine zn ?_
 refine zd rfl (fun c6 => ?_) (fun c6 => ?_)
 exfalso; omega
 refine zi ?_
 refine zs ?_
 refine zr ?_
 refine zm rfl rfl ?_
 refine zm rfl rfl ?_
 refine zp (p_cap_nil rfl rfl Tryz.underlying22) ?_
 refine zm rfl rfl ?_
 refine zp (p_len_nil rfl rfl Tryz.underlying22) ?_
 refine zp (p_sub rfl rfl rfl (by omega) (by omega)) ?_
 refine zp (pure_eq (s' := .d (dI (n : Nat))) (p_sub rfl rfl rfl (by omega) (by omega)) (sI (by omega))) ?_
 refine za rfl rfl ?_
 refine znr ?_
 refine zm rfl rfl ?_
 refine zp (p_gtr rfl rfl rfl) ?_
 refine zn ?_
 refine zd rfl (fun c16 => ?_) (fun c16 => ?_)
 refine xw_region (by kernel_rfl) ?_
 refine zm rfl rfl ?_
 refine zm rfl rfl ?_
 refine zp (p_cap_nil rfl rfl Tryz.underlying22) ?_
 refine zp (p_slice_nil rfl rfl rfl el_22) ?_
 refine zm rfl rfl ?_
 refine XL.step rfl (st_appendz 7001 (z := (.agg #[.int .i64 0, .int .i64 0, .int .i64 0, .int .i64 0, .int .i64 0, .slice none 0 0, .slice none 0 0, .int .i64 0, .int .i64 0, .int .i64 0, .slice none 0 0, .int .i64 0, .int .i64 0])) (zs := [dI 0, dI 0, dI 0, dI 0, dI 0, .v (.slice none 0 0), .v (.slice none 0 0), dI 0, dI 0, dI 0, .v (.slice none 0 0), dI 0, dI 0]) (sz := 13) (bytes := 152) rfl rfl rfl Tryz.underlying22 Tryz.underlying3 (by kernel_rfl) (by kernel_rfl) (by kernel_rfl) (by decide) (by decide) (by omega) (by unfold maxLen; omega) (by omega)) ?_
 refine zm rfl rfl ?_
 refine zp (p_len_nil rfl rfl Tryz.underlying22) ?_
 refine XL.step rfl (st_cut rfl rfl rfl el_22 (.at rfl) (Nat.zero_le _)) ?_
 refine zp (p_assign rfl (by conv => lhs; whnf)) ?_
 refine znr ?_
 refine zp (p_move rfl (by conv => lhs; whnf)) ?_
 refine zp (p_assign rfl (by conv => lhs; whnf)) ?_
 refine zn ?_
 refine zt ?_
 exact ⟨rsS1 rfl (RVS.tmp rfl rfl), HSub.cons (rfl) (HSub.nil)⟩
 refine zi ?_
 refine zr ?_
 refine zm rfl rfl ?_
 refine za rfl rfl ?_
 refine zn ?_
 refine xw_ownnil 7001 4 60 13 rfl ?_
 refine zt ?_
 exact ⟨rsS1 rfl (RVS.tmp rfl rfl), HSub.cons (rfl) (HSub.nil)⟩
def evsC (l : List Ev) : List D := [.sl 13 (l.map Ev.c)]
theorem cat_snoc {ls : List (List Ev)} {k : Nat} {x : List Ev} (h : ls[k]? = some x) : (ls.take (k + 1)).flatten = (ls.take k).flatten ++ x := by rw [take_snoc h, List.flatten_append, List.flatten_singleton]
theorem cat_le {ls : List (List Ev)} (k : Nat) : (ls.take k).flatten.length ≤ ls.flatten.length := by
 have : ls.flatten = (ls.take k).flatten ++ (ls.drop k).flatten := by rw [← List.flatten_append, List.take_append_drop]
 rw [this, List.length_append]; omega
theorem concat_xc (ls : List (List Ev)) (h : ls.flatten.length ≤ 100000) : XC Tryz.prog 106 [.sl 1 (ls.map evsC)] (fun r => r = .sl 13 (ls.flatten.map Ev.c)) := by
 refine xc_body callable_106 Tryz.func106 rfl rfl (Nat.le_of_ble_eq_true rfl) ?_
 refine zr ?_
 refine za rfl rfl ?_
 refine znr ?_
 refine za rfl rfl ?_
 refine zn ?_
 refine zs ?_
 refine zr ?_
 refine zm rfl rfl ?_
 refine XL.len rfl rfl rfl Tryz.underlying177 (fun hl10 => ?_)
 refine zm rfl rfl ?_
 refine zn ?_
 refine xw_block ?_
 refine xw_loop (α := Nat) (fun k => k ≤ ls.length) (fun k => mkF [(0, .d (.sl 1 (ls.map evsC))), (2, .d (.v (.slice none 0 0))), (3, .d (dI ((ls.take k).flatten.length : Nat))), (9, .d (.sl 1 (ls.map evsC))), (10, .d (dI ls.length)), (11, .d (dI k))]) (fun k => mkH []) (fun k => ls.length - k) (0) (Nat.zero_le _) ?_ ?_ ?_
 exact fz ⟨sr, sr, sr, sr, sr, sr, trivial⟩
 exact HSub.nil
 intro k hk0
 refine zr ?_
 refine zp (p_lss rfl rfl rfl) ?_
 refine zn ?_
 refine zs ?_
 refine zd rfl (fun c12 => ?_) (fun c12 => ?_)
 have hk0a : k < ls.length := by omega
 obtain ⟨x0, hx0⟩ := get_ex hk0a
 have h1 := cat_le (ls := ls) (k + 1)
 have h2 : (ls.take (k + 1)).flatten.length = (ls.take k).flatten.length + x0.length := by rw [cat_snoc hx0, List.length_append]
 refine zi ?_
 refine zs ?_
 refine xw_block ?_
 refine zr ?_
 refine zp (p_idx_map rfl rfl rfl el_177 hx0) ?_
 refine zp (p_load_pt rfl rfl sc_22) ?_
 refine za rfl rfl ?_
 refine znr ?_
 refine zm rfl rfl ?_
 refine zm rfl rfl ?_
 refine XL.len rfl rfl rfl Tryz.underlying22 (fun hl17 => ?_)
 refine zp (p_add rfl rfl rfl (by omega) (by omega)) ?_
 refine za rfl rfl ?_
 refine znr ?_
 refine zm rfl rfl ?_
 refine zp (p_lss rfl rfl rfl) ?_
 refine zn ?_
 refine zd rfl (fun c20 => ?_) (fun c20 => ?_)
 exfalso; omega
 refine zi ?_
 refine xw_region (by kernel_rfl) ?_
 refine zp (p_add rfl rfl rfl (by omega) (by omega)) ?_
 refine zm rfl rfl ?_
 refine zn ?_
 exact k_round (k + 1) (by omega) (by omega) (fz ⟨sr, sr, .same (sI (by rw [h2]; omega)), sr, sr, sr, trivial⟩) (HSub.nil)
 have hk0b : k = ls.length := by omega
 have h3 := cat_le (ls := ls) k
 refine xw_exit ?_
 refine zr ?_
 refine zm rfl rfl ?_
 refine XL.callS rfl rfl ((grow_xs _ (by omega)).lab 7001) rfl ?_
 refine zp (p_assign rfl (by conv => lhs; whnf)) ?_
 refine zn ?_
 refine zs ?_
 refine zr ?_
 refine zm rfl rfl ?_
 refine XL.len rfl rfl rfl Tryz.underlying177 (fun hl26 => ?_)
 refine zm rfl rfl ?_
 refine zn ?_
 refine xw_block ?_
 refine xw_loop (α := Nat) (fun j => j ≤ ls.length) (fun j => mkF [(2, .d (.v (.slice none 0 0))), (6, .own 7001), (25, .d (.sl 1 (ls.map evsC))), (26, .d (dI ls.length)), (27, .d (dI j))]) (fun j => mkH [(7001, .row 60 13 (((ls.take j).flatten).map Ev.c))]) (fun j => ls.length - j) (0) (Nat.zero_le _) ?_ ?_ ?_
 exact fz ⟨sr, sr, sr, sr, sr, trivial⟩
 exact gz ⟨rfl, trivial⟩
 intro j hk2
 refine zr ?_
 refine zp (p_lss rfl rfl rfl) ?_
 refine zn ?_
 refine zs ?_
 refine zd rfl (fun c28 => ?_) (fun c28 => ?_)
 have hk2a : j < ls.length := by omega
 obtain ⟨x2, hx2⟩ := get_ex hk2a
 have h4 := cat_le (ls := ls) (j + 1)
 have h5 : (ls.take (j + 1)).flatten.length = (ls.take j).flatten.length + x2.length := by rw [cat_snoc hx2, List.length_append]
 refine zi ?_
 refine zs ?_
 refine xw_block ?_
 refine zr ?_
 refine zp (p_idx_map rfl rfl rfl el_177 hx2) ?_
 refine zp (p_load_pt rfl rfl sc_22) ?_
 refine za rfl rfl ?_
 refine zng ?_
 refine zp (p_move rfl (by conv => lhs; whnf)) ?_
 refine zm rfl rfl ?_
 refine XL.step rfl (st_append rfl elt_22 (.own rfl) (Src.sl (by omega)) (by simp only [List.length_map]; unfold maxLen; omega) (by simp only [List.length_map]; omega)) ?_
 refine zp (p_assign rfl (by conv => lhs; whnf)) ?_
 refine zn ?_
 refine xw_region (by kernel_rfl) ?_
 refine zp (p_add rfl rfl rfl (by omega) (by omega)) ?_
 refine zm rfl rfl ?_
 refine zn ?_
 exact k_round (j + 1) (by omega) (by omega) (fz ⟨sr, sr, sr, sr, sr, trivial⟩) (gz ⟨sApps (cat_snoc hx2), trivial⟩)
 have hk2b : j = ls.length := by omega
 have ht : ls.take j = ls := by rw [hk2b, List.take_length]
 refine xw_exit ?_
 refine zr ?_
 refine zp (p_move rfl (by conv => lhs; whnf)) ?_
 refine zp (p_assign rfl (by conv => lhs; whnf)) ?_
 refine zn ?_
 refine zt ?_
 refine ret_freeze (i := 7001) rfl ?_
 exact z1 rfl rfl (rSl (by rw [ht]))
/-- a voice in which events are replaced -/
def replS (v : Vo) (a n : Nat) (x : Vo) : Vo :=
 ⟨v.evs.take a ++ x.evs ++ v.evs.drop (a + n), movedS (fun t => decide (t.first < a)) 0 v.tups ++ movedS (fun _ => true) a x.tups ++ movedS (fun t => decide ((a : Int) + n ≤ t.first)) (x.evs.length - n) v.tups⟩
structure Sml (v : Vo) : Prop where
 evs : v.evs.length ≤ 10000
 tups : v.tups.length ≤ 100
 bd : ∀ t ∈ v.tups, -10000 ≤ t.first ∧ t.first ≤ 10000
theorem repl_evs (v : Vo) (a n : Nat) (x : Vo) : [(v.evs.take a).drop 0, x.evs, (v.evs.take v.evs.length).drop (a + n)].flatten = (replS v a n x).evs := by
 simp [replS, List.flatten_cons]
theorem replace_xc (v : Vo) (a n : Nat) (x : Vo) (hv : Sml v) (hx : Sml x) (h : a + n ≤ v.evs.length) : XC Tryz.prog 65 [.agg (Vo.c v), .v (.int .i64 (a : Nat)), .v (.int .i64 (n : Nat)), .agg (Vo.c x)] (fun r => r = .agg (Vo.c (replS v a n x))) := by
 have hve := hv.evs
 have hxe := hx.evs
 have hvt := hv.tups
 have hxt := hx.tups
 have m1 := moved_len (fun t => decide (t.first < (a : Int))) 0 v.tups
 have m2 := moved_len (fun _ => true) a x.tups
 have m3 := moved_len (fun t => decide ((a : Int) + n ≤ t.first)) (x.evs.length - n) v.tups
 refine xc_body callable_65 Tryz.func65 rfl rfl (Nat.le_of_ble_eq_true rfl) ?_
 refine zr ?_
 refine XL.step rfl (st_boxN 4 (l := [.d (.sl 13 (v.evs.map Ev.c)), .d (.sl 4 (v.tups.map Tp.c))]) rfl rfl (by kernel_rfl)) ?_
 refine XL.step rfl (st_boxN 5 (l := [.d (dI (a : Nat))]) rfl rfl (by kernel_rfl)) ?_
 refine XL.step rfl (st_boxN 6 (l := [.d (dI (n : Nat))]) rfl rfl (by kernel_rfl)) ?_
 refine XL.step rfl (st_boxN 7 (l := [.d (.sl 13 (x.evs.map Ev.c)), .d (.sl 4 (x.tups.map Tp.c))]) rfl rfl (by kernel_rfl)) ?_
 refine XL.step rfl (st_allocN 8 (l := [.d (.v (.slice none 0 0)), .d (.v (.slice none 0 0))]) rfl zero_25 (by kernel_rfl)) ?_
 refine zn ?_
 refine zs ?_
 refine xw_anyP 16 [9] (by kernel_rfl) (by kernel_rfl) (by kernel_rfl) (by kernel_rfl) (by decide) ?_
 refine yp (p_fld_ptr rfl rfl fld_25_0) ?_
 refine yp (p_load_box rfl rfl sc_22 rfl rfl) ?_
 refine yp (p_load_box rfl rfl sc_3 rfl rfl) ?_
 refine yp (p_slice_map rfl rfl el_22 Bd.no (Bd.at rfl) (Nat.zero_le _) (by omega)) ?_
 refine yp (p_fld_ptr rfl rfl fld_25_0) ?_
 refine yp (p_load_box rfl rfl sc_22 rfl rfl) ?_
 refine yp (p_fld_ptr rfl rfl fld_25_0) ?_
 refine yp (p_load_box rfl rfl sc_22 rfl rfl) ?_
 refine yp (p_load_box rfl rfl sc_3 rfl rfl) ?_
 refine yp (p_load_box rfl rfl sc_3 rfl rfl) ?_
 refine yp (p_add rfl rfl rfl (by omega) (by omega)) ?_
 refine yp (p_slice_map rfl rfl el_22 (Bd.at rfl) Bd.no (by omega) (Nat.le_refl _)) ?_
 refine ChK.cons rfl (CStep.slice (l := [((v.evs.take (a : Nat)).drop 0), x.evs, ((v.evs.take v.evs.length).drop ((a : Nat) + (n : Nat)))].map evsC) rfl Tryz.underlying177 sz_22 zero_22 (by kernel_rfl) rfl (by omega) (by omega)) ?_
 refine ChK.cons rfl (CStep.call rfl (concat_xc _ (by simp only [List.flatten_cons, List.flatten_nil, List.length_append, List.length_nil, List.length_take, List.length_drop]; omega)) rfl) ?_
 refine yp (pure_eq (s' := .d (.agg [.sl 13 (([((v.evs.take (a : Nat)).drop 0), x.evs, ((v.evs.take v.evs.length).drop ((a : Nat) + (n : Nat)))]).flatten.map Ev.c), .v (.slice none 0 0)])) (norm_pure (p_build rfl str_25 zero_25 rfl)) (by kernel_rfl)) ?_
 refine ChK.cons rfl (CStep.allocN 9 (l := [.d (.v (.slice none 0 0)), .d (.v (.slice none 0 0))]) rfl zero_25 rfl rfl) ?_
 refine ChK.nil ⟨by kernel_rfl, ?_⟩
 refine XL.step rfl (st_storeN (l' := [.d (.sl 13 (([((v.evs.take (a : Nat)).drop 0), x.evs, ((v.evs.take v.evs.length).drop ((a : Nat) + (n : Nat)))]).flatten.map Ev.c)), .d (.v (.slice none 0 0))]) rfl rfl rfl rfl sz_25 rfl (Nat.le_of_ble_eq_true rfl) (by kernel_rfl)) ?_
 refine znr ?_
 refine XL.freezeP 5 (ds := [dI (a : Nat)]) rfl (by kernel_rfl) (by kernel_rfl) ?_
 refine zp (p_fnd (pd := []) (cd := [_]) rfl rfl rfl) ?_
 refine za rfl rfl ?_
 refine znr ?_
 refine XL.freezeP 6 (ds := [dI (n : Nat)]) rfl (by kernel_rfl) (by kernel_rfl) ?_
 refine zp (p_fnd (pd := []) (cd := [_, _]) rfl rfl rfl) ?_
 refine za rfl rfl ?_
 refine zn ?_
 refine zs ?_
 refine xw_anyP 6 [] (by kernel_rfl) (by kernel_rfl) (by kernel_rfl) (by kernel_rfl) (by decide) ?_
 refine yp (p_fld_ptr rfl rfl fld_25_1) ?_
 refine yp (p_load_box rfl rfl sc_23 rfl rfl) ?_
 refine yp (p_fld_ptr rfl rfl fld_25_1) ?_
 refine yp (p_load_box rfl rfl sc_23 rfl rfl) ?_
 refine ym rfl rfl ?_
 refine ChK.cons rfl (CStep.call rfl (moved_xc v.tups 107 [.pt [dI a]] (fun t => decide (t.first < (a : Int))) (0) (fun t _ => rep1_xc t a) (by omega) (fun t ht _ => by have := hv.bd t ht; omega)) rfl) ?_
 refine ChK.nil ⟨by kernel_rfl, ?_⟩
 refine XL.step rfl (st_append rfl elt_23 (.nil 35 _ _) (Src.sl (by omega)) (by simp only [List.length_map, List.length_nil]; unfold maxLen; omega) (by simp only [List.length_map, List.length_nil]; omega)) ?_
 refine zp (p_fld_ptr rfl rfl fld_25_1) ?_
 refine XL.step rfl (st_storeN (l' := [.d (.sl 13 (([((v.evs.take (a : Nat)).drop 0), x.evs, ((v.evs.take v.evs.length).drop ((a : Nat) + (n : Nat)))]).flatten.map Ev.c)), .own 35]) rfl rfl rfl rfl sz_23 rfl (Nat.le_of_ble_eq_true rfl) (by kernel_rfl)) ?_
 refine zn ?_
 refine zs ?_
 refine xw_anyP 6 [] (by kernel_rfl) (by kernel_rfl) (by kernel_rfl) (by kernel_rfl) (by decide) ?_
 refine yp (p_fld_ptr rfl rfl fld_25_1) ?_
 refine yp (p_load_box rfl rfl sc_23 rfl rfl) ?_
 refine yp (p_fld_ptr rfl rfl fld_25_1) ?_
 refine yp (p_load_box rfl rfl sc_23 rfl rfl) ?_
 refine yp (p_load_pt rfl rfl sc_3) ?_
 refine ChK.cons rfl (CStep.call rfl (moved_xc x.tups 109 [] (fun _ => true) (a) (fun t _ => rep3_xc t) (by omega) (fun t ht _ => by have := hx.bd t ht; omega)) rfl) ?_
 refine ChK.nil ⟨by kernel_rfl, ?_⟩
 refine XL.step rfl (st_append rfl elt_23 (.own rfl) (Src.sl (by omega)) (by simp only [List.length_append, List.length_map, List.length_nil]; unfold maxLen; omega) (by simp only [List.length_append, List.length_map, List.length_nil]; omega)) ?_
 refine zp (p_fld_ptr rfl rfl fld_25_1) ?_
 refine XL.step rfl (st_storeN (l' := [.d (.sl 13 (([((v.evs.take (a : Nat)).drop 0), x.evs, ((v.evs.take v.evs.length).drop ((a : Nat) + (n : Nat)))]).flatten.map Ev.c)), .own 35]) rfl rfl rfl rfl sz_23 rfl (Nat.le_of_ble_eq_true rfl) (by kernel_rfl)) ?_
 refine zn ?_
 refine zs ?_
 refine xw_anyP 11 [] (by kernel_rfl) (by kernel_rfl) (by kernel_rfl) (by kernel_rfl) (by decide) ?_
 refine yp (p_fld_ptr rfl rfl fld_25_1) ?_
 refine yp (p_load_box rfl rfl sc_23 rfl rfl) ?_
 refine yp (p_fld_ptr rfl rfl fld_25_1) ?_
 refine yp (p_load_box rfl rfl sc_23 rfl rfl) ?_
 refine ym rfl rfl ?_
 refine yp (p_fld_ptr rfl rfl fld_25_0) ?_
 refine yp (p_load_box rfl rfl sc_22 rfl rfl) ?_
 refine yp (p_lenm rfl rfl Tryz.underlying22) ?_
 refine yp (p_load_pt rfl rfl sc_3) ?_
 refine yp (p_sub rfl rfl rfl (by omega) (by omega)) ?_
 refine ChK.cons rfl (CStep.call rfl (moved_xc v.tups 108 [.pt [dI a], .pt [dI n]] (fun t => decide ((a : Int) + n ≤ t.first)) (x.evs.length - n) (fun t _ => rep2_xc t a n (by omega) (by omega)) (by omega) (fun t ht _ => by have := hv.bd t ht; omega)) rfl) ?_
 refine ChK.nil ⟨by kernel_rfl, ?_⟩
 refine XL.step rfl (st_append rfl elt_23 (.own rfl) (Src.sl (by omega)) (by simp only [List.length_append, List.length_map, List.length_nil]; unfold maxLen; omega) (by simp only [List.length_append, List.length_map, List.length_nil]; omega)) ?_
 refine zp (p_fld_ptr rfl rfl fld_25_1) ?_
 refine XL.step rfl (st_storeN (l' := [.d (.sl 13 (([((v.evs.take (a : Nat)).drop 0), x.evs, ((v.evs.take v.evs.length).drop ((a : Nat) + (n : Nat)))]).flatten.map Ev.c)), .own 35]) rfl rfl rfl rfl sz_23 rfl (Nat.le_of_ble_eq_true rfl) (by kernel_rfl)) ?_
 refine znr ?_
 refine zp (norm_pure (p_load_boxs rfl rfl agg_25 rfl (Nat.le_of_ble_eq_true rfl))) ?_
 refine XL.step rfl (st_storeN (l' := [.d (.sl 13 (([((v.evs.take (a : Nat)).drop 0), x.evs, ((v.evs.take v.evs.length).drop ((a : Nat) + (n : Nat)))]).flatten.map Ev.c)), .own 35]) rfl rfl rfl rfl sz_25 rfl (Nat.le_of_ble_eq_true rfl) (by kernel_rfl)) ?_
 refine zn ?_
 refine zt ?_
 refine ret_freeze (i := 35) rfl ?_
 exact ret1 rfl (RV.cells rfl rfl rfl agg_25 (Nat.le_of_ble_eq_true rfl) rfl) (by rw [repl_evs]; simp only [replS, Vo.c, List.map_append, List.nil_append])
end Go.Proofs.YtcihalbakenleaaGreat
namespace Go.Proofs.YtcihalbakenleaaGreat
/-- in order: a tuplet that need not come after another one -/
def Tp.bef (a b : Tp) : Prop := a.first < b.first ∨ (a.first = b.first ∧ b.count ≤ a.count)
instance (a b : Tp) : Decidable (a.bef b) := by unfold Tp.bef; exact inferInstance
theorem bef_iff (a b : Tp) : a.bef b ↔ ¬ 0 < ordS a b := by
 unfold Tp.bef ordS
 split
 ·split <;> omega
 ·split
  ·split <;> omega
  ·omega
theorem Tp.bef.trans {a b c : Tp} (h1 : a.bef b) (h2 : b.bef c) : a.bef c := by unfold Tp.bef at *; omega
theorem Tp.bef.first {a b : Tp} (h1 : a.bef b) : a.first ≤ b.first := by unfold Tp.bef at *; omega
/-- tuplets that pass the check -/
structure TV (l : List Tp) (n : Int) : Prop where
 inR : ∀ t ∈ l, t.inR n
 ord : l.Pairwise Tp.bef
 nest : l.Pairwise (fun a b => b.first < a.e → b.e ≤ a.e)
 dep : ∀ e, hits l e ≤ 3
theorem hits_app (A B : List Tp) (e : Int) : hits (A ++ B) e = hits A e + hits B e := by unfold hits; rw [List.filter_append, List.length_append]
theorem TV.nil (n : Int) : TV [] n := ⟨fun t h => (by cases h), List.Pairwise.nil, List.Pairwise.nil, fun e => Nat.zero_le _⟩
theorem TV.snoc {P : List Tp} {t : Tp} {n : Int} : TV (P ++ [t]) n ↔ TV P n ∧ t.inR n ∧ (∀ a ∈ P, a.bef t) ∧ (∀ a ∈ P, t.first < a.e → t.e ≤ a.e) ∧ ∀ e, t.has e → hits P e ≤ 2 := by
 constructor
 ·intro h
  have ho := List.pairwise_append.1 h.ord
  have hn := List.pairwise_append.1 h.nest
  refine ⟨⟨fun x hx => h.inR x (List.mem_append_left _ hx), ho.1, hn.1, fun e => ?_⟩, h.inR t (List.mem_append_right _ (List.mem_singleton.2 rfl)), fun a ha => ho.2.2 a ha t (List.mem_singleton.2 rfl), fun a ha => hn.2.2 a ha t (List.mem_singleton.2 rfl), fun e he => ?_⟩
  ·have := h.dep e; rw [hits_app] at this; omega
  ·have := h.dep e; rw [hits_snoc, if_pos he] at this; omega
 ·rintro ⟨h, h1, h2, h3, h4⟩
  refine ⟨fun x hx => ?_, List.pairwise_append.2 ⟨h.ord, List.pairwise_singleton _ _, fun a ha b hb => by rw [List.mem_singleton.1 hb]; exact h2 a ha⟩, List.pairwise_append.2 ⟨h.nest, List.pairwise_singleton _ _, fun a ha b hb => by rw [List.mem_singleton.1 hb]; exact h3 a ha⟩, fun e => ?_⟩
  ·rcases List.mem_append.1 hx with k | k
   ·exact h.inR x k
   ·rw [List.mem_singleton.1 k]; exact h1
  ·rw [hits_snoc]
   have := h.dep e
   split
   ·rename_i k; have := h4 e k; omega
   ·omega
/-- the tuplets that reach behind the begin of another one -/
def reach (x : Int) (P : List Tp) : List Tp := P.filter fun o => decide (x < o.e)
/-- a stack of the open tuplets of a list -/
structure Rep (P s : List Tp) : Prop where
 fil : ∀ x, (∀ q ∈ P, q.first ≤ x) → reach x s = (reach x P).reverse
 mono : s.Pairwise fun a b => a.e ≤ b.e
theorem popR_fil {t : Tp} : ∀ {s : List Tp}, (s.Pairwise fun a b => a.e ≤ b.e) → popR t s = reach t.first s
 | [], _ => rfl
 | o :: r, h => by
  have h2 := List.pairwise_cons.1 h
  rw [popR]
  split
  ·rename_i k
   rw [popR_fil h2.2, reach, reach, List.filter_cons_of_neg (by simp; omega)]
  ·rename_i k
   refine (List.filter_eq_self.2 fun a ha => ?_).symm
   rcases List.mem_cons.1 ha with e | e
   ·rw [e]; simp; omega
   ·have := h2.1 a e; simp; omega
theorem reach_mono {x : Int} {s : List Tp} (h : s.Pairwise fun a b => a.e ≤ b.e) : (reach x s).Pairwise fun a b => a.e ≤ b.e := h.sublist List.filter_sublist
theorem overR_iff {t : Tp} {s : List Tp} (h : s.Pairwise fun a b => a.e ≤ b.e) : overR t s ↔ s.length = 3 ∨ ∃ o ∈ s, o.e < t.e := by
 unfold overR
 cases s with
 | nil => simp
 | cons o r =>
  have h2 := List.pairwise_cons.1 h
  constructor
  ·rintro (k | k)
   ·exact .inl k
   ·exact .inr ⟨o, List.mem_cons_self, k⟩
  ·rintro (k | ⟨a, ha, k⟩)
   ·exact .inl k
   ·rcases List.mem_cons.1 ha with e | e
    ·exact .inr (e ▸ k)
    ·have := h2.1 a e; exact .inr (by show o.e < t.e; omega)
theorem Rep.pop {P s : List Tp} {t : Tp} (h : Rep P s) (hb : ∀ a ∈ P, a.first ≤ t.first) : popR t s = (reach t.first P).reverse := by rw [popR_fil h.mono, h.fil _ hb]
theorem reach_hits {x : Int} {P : List Tp} (hb : ∀ a ∈ P, a.first ≤ x) : (reach x P).length = hits P x := by
 unfold reach hits
 congr 1
 refine List.filter_congr fun o ho => ?_
 have := hb o ho
 rw [decide_eq_decide]
 unfold Tp.e Tp.has
 omega
theorem Rep.over {P s : List Tp} {t : Tp} {n : Int} (h : Rep P s) (hv : TV P n) (hb : ∀ a ∈ P, a.first ≤ t.first) : overR t (popR t s) ↔ (∃ o ∈ P, t.first < o.e ∧ o.e < t.e) ∨ 3 ≤ hits P t.first := by
 rw [overR_iff (by rw [popR_fil h.mono]; exact reach_mono h.mono), h.pop hb, List.length_reverse, reach_hits hb]
 have := hv.dep t.first
 constructor
 ·rintro (k | ⟨o, ho, k⟩)
  ·exact .inr (by omega)
  ·have := List.mem_filter.1 (List.mem_reverse.1 ho)
   exact .inl ⟨o, this.1, by simpa using this.2, k⟩
 ·rintro (⟨o, ho, k1, k2⟩ | k)
  ·exact .inr ⟨o, List.mem_reverse.2 (List.mem_filter.2 ⟨ho, by simpa using k1⟩), k2⟩
  ·exact .inl (by omega)
theorem Rep.nil : Rep [] [] := ⟨fun x _ => rfl, List.Pairwise.nil⟩
theorem Rep.snoc {P s : List Tp} {t : Tp} (h : Rep P s) (hb : ∀ a ∈ P, a.first ≤ t.first) (hno : ¬ overR t (popR t s)) : Rep (P ++ [t]) (t :: popR t s) := by
 have hm : (popR t s).Pairwise fun a b => a.e ≤ b.e := by rw [popR_fil h.mono]; exact reach_mono h.mono
 rw [overR_iff hm] at hno
 refine ⟨fun x hx => ?_, List.pairwise_cons.2 ⟨fun a ha => Int.not_lt.1 fun k => hno (.inr ⟨a, ha, k⟩), hm⟩⟩
 have hx1 : t.first ≤ x := hx t (List.mem_append_right _ (List.mem_singleton.2 rfl))
 have h1 : reach x (popR t s) = (reach x P).reverse := by
  rw [popR_fil h.mono, ← h.fil x (fun q hq => hx q (List.mem_append_left _ hq)), reach, reach, List.filter_filter]
  refine List.filter_congr fun o _ => ?_
  by_cases k : x < o.e
  ·simp [k]; omega
  ·simp [k]
 have h2 : reach x (P ++ [t]) = reach x P ++ reach x [t] := List.filter_append _ _
 rw [h2, List.reverse_append, ← h1]
 show List.filter _ (t :: popR t s) = _
 rw [List.filter_cons]
 by_cases k : x < t.e
 ·have h3 : reach x [t] = [t] := List.filter_cons_of_pos (by simpa using k)
  rw [if_pos (by simpa using k), h3]; rfl
 ·have h3 : reach x [t] = [] := List.filter_cons_of_neg (by simpa using k)
  rw [if_neg (by simpa using k), h3]; rfl
theorem TV.pre {A B : List Tp} {n : Int} (h : TV (A ++ B) n) : TV A n :=
 ⟨fun t ht => h.inR t (List.mem_append_left _ ht), (List.pairwise_append.1 h.ord).1, (List.pairwise_append.1 h.nest).1, fun e => by have := h.dep e; rw [hits_app] at this; omega⟩
theorem after_last {P : List Tp} {t : Tp} (ho : P.Pairwise Tp.bef) : afterO P.getLast? t ↔ ¬ ∀ a ∈ P, a.bef t := by
 rcases List.eq_nil_or_concat P with e | ⟨Q, q, e⟩
 ·subst e; simp [afterO]
 ·rw [List.concat_eq_append] at e; subst e
  rw [List.getLast?_concat]
  show 0 < ordS q t ↔ _
  rw [← Decidable.not_not (p := 0 < ordS q t), ← bef_iff]
  refine not_congr ⟨fun k a ha => ?_, fun k => k q (List.mem_append_right _ (List.mem_singleton.2 rfl))⟩
  rcases List.mem_append.1 ha with j | j
  ·exact ((List.pairwise_append.1 ho).2.2 a j q (List.mem_singleton.2 rfl)).trans k
  ·rw [List.mem_singleton.1 j]; exact k
/-- a tuplet may be put behind others -/
theorem TV.step {P : List Tp} {t : Tp} {n : Int} (h : TV P n) (hi : t.inR n) (hb : ∀ a ∈ P, a.bef t) : TV (P ++ [t]) n ↔ ¬ ((∃ o ∈ P, t.first < o.e ∧ o.e < t.e) ∨ 3 ≤ hits P t.first) := by
 rw [TV.snoc]
 constructor
 ·rintro ⟨_, _, _, h3, h4⟩ (⟨o, ho, k1, k2⟩ | k)
  ·have := h3 o ho k1; omega
  ·have := h4 t.first (by unfold Tp.inR at hi; unfold Tp.has; omega); omega
 ·intro k
  refine ⟨h, hi, hb, fun a ha k1 => Int.not_lt.1 fun k2 => k (.inl ⟨a, ha, k1, k2⟩), fun e he => ?_⟩
  have h5 : ¬ 3 ≤ hits P t.first := fun j => k (.inr j)
  have h6 : hits P e ≤ hits P t.first := by
   unfold hits
   rw [← List.countP_eq_length_filter, ← List.countP_eq_length_filter]
   refine List.countP_mono_left fun o ho hh => ?_
   have h7 := (hb o ho).first
   simp only [decide_eq_true_eq] at hh ⊢
   unfold Tp.has at hh he ⊢
   omega
  omega
theorem tupGo_iff (n : Int) (l : List Tp) : ∀ (P s : List Tp), TV P n → Rep P s → (tupGo n P.getLast? s l = 0 ↔ TV (P ++ l) n) := by
 induction l with
 | nil => intro P s h _; rw [List.append_nil]; exact ⟨fun _ => h, fun _ => rfl⟩
 | cons t l ih =>
  intro P s h hr
  have ha : P ++ t :: l = (P ++ [t]) ++ l := by simp
  rw [tupGo]
  split
  ·rename_i k
   exact ⟨fun e => by omega, fun e => absurd (e.inR t (by simp)) k⟩
  ·rename_i hi
   have hi := Decidable.not_not.1 hi
   split
   ·rename_i k
    refine ⟨fun e => by omega, fun e => absurd ?_ ((after_last h.ord).1 k)⟩
    rw [ha] at e
    exact (TV.snoc.1 e.pre).2.2.1
   ·rename_i k
    have hb : ∀ a ∈ P, a.bef t := Decidable.not_not.1 fun j => k ((after_last h.ord).2 j)
    have hb1 : ∀ a ∈ P, a.first ≤ t.first := fun a ha => (hb a ha).first
    split
    ·rename_i k2
     refine ⟨fun e => by omega, fun e => ?_⟩
     rw [ha] at e
     exact absurd ((hr.over h hb1).1 k2) ((h.step hi hb).1 e.pre)
    ·rename_i k2
     have h2 : TV (P ++ [t]) n := (h.step hi hb).2 fun j => k2 ((hr.over h hb1).2 j)
     have := ih (P ++ [t]) (t :: popR t s) h2 (hr.snoc hb1 k2)
     rw [List.getLast?_concat] at this
     rw [ha]; exact this
theorem tupErr_iff {l : List Tp} {n : Int} : tupErr l n = 0 ↔ 0 ≤ n ∧ n ≤ 128 ∧ l.length ≤ 16 ∧ TV l n := by
 have := tupGo_iff n l [] [] (TV.nil n) Rep.nil
 rw [List.nil_append] at this
 rw [← this]
 unfold tupErr
 split
 ·omega
 ·split
  ·omega
  ·show tupGo n none [] l = 0 ↔ _ ∧ _ ∧ _ ∧ tupGo n none [] l = 0
   omega
/- lengths -/
theorem scGo_zero {T : List Tp} : ∀ {ws : List Int} {i : Nat}, scGo T i ws = 0 ↔ ∀ j w, ws[j]? = some w → scaleE T ((i + j : Nat) : Int) w = 0
 | [], i => ⟨fun _ j w h => by simp at h, fun _ => rfl⟩
 | w :: r, i => by
  rw [scGo]
  split
  ·rename_i k
   exact ⟨fun h => absurd h k, fun h => absurd (h 0 w rfl) k⟩
  ·rename_i k
   rw [scGo_zero]
   constructor
   ·intro h j x hj
    cases j with
    | zero => cases hj; exact Decidable.not_not.1 k
    | succ j => have := h j x hj; rwa [show i + 1 + j = i + (j + 1) by omega] at this
   ·intro h j x hj
    have := h (j + 1) x hj; rwa [show i + (j + 1) = i + 1 + j by omega] at this
/-- tuplets, written lengths and lengths that fit -/
structure TL (T : List Tp) (ws ls : List Int) : Prop where
 wl : ws.length ≤ 128
 tl : T.length ≤ 16
 tv : TV T ws.length
 sc : ∀ (i : Nat) w, ws[i]? = some w → scaleE T i w = 0
 un : ∀ (k : Nat) t, T[k]? = some t → (unitT (T.drop (k + 1)) t ws).isSome = true
 ls : ls = lensGo T 0 ws
theorem tailT_eq (l : List Tp) (i : Nat) : tailT l i = l.drop (i + 1) := by unfold tailT; rw [List.take_length]
theorem unitAll_iff {T : List Tp} {ws : List Int} : unitAll T ws ↔ ∀ (k : Nat) t, T[k]? = some t → (unitT (T.drop (k + 1)) t ws).isSome = true := by
 constructor
 ·intro h k t ht
  have := h k (List.getElem?_eq_some_iff.1 ht).1
  rwa [unitV_at ht, tailT_eq] at this
 ·intro h k hk
  have ht : T[k]? = some T[k] := List.getElem?_eq_getElem hk
  rw [unitV_at ht, tailT_eq]
  exact h k _ ht
theorem TL_iff {T : List Tp} {ws ls : List Int} : TL T ws ls ↔ tlenE T ws = 0 ∧ tunitE T ws = 0 ∧ ls = tlens T ws := by
 have hsc : scGo T 0 ws = 0 ↔ ∀ (i : Nat) w, ws[i]? = some w → scaleE T i w = 0 := by
  rw [scGo_zero]
  exact ⟨fun h i w hw => by have := h i w hw; rwa [Nat.zero_add] at this, fun h i w hw => by rw [Nat.zero_add]; exact h i w hw⟩
 constructor
 ·intro h
  have h1 : tupErr T ws.length = 0 := tupErr_iff.2 ⟨by omega, by have := h.wl; omega, h.tl, h.tv⟩
  have h2 : tlenE T ws = 0 := by rw [tlenE, if_neg (by omega)]; exact hsc.2 h.sc
  refine ⟨h2, ?_, ?_⟩
  ·rw [tunitE, if_neg (by omega), if_pos (unitAll_iff.2 h.un)]
  ·rw [tlens, if_pos h2]; exact h.ls
 ·rintro ⟨h1, h2, h3⟩
  have h4 : tupErr T ws.length = 0 ∧ scGo T 0 ws = 0 := by
   rw [tlenE] at h1
   split at h1
   ·rename_i k; exact absurd h1 k
   ·rename_i k; exact ⟨by omega, h1⟩
  obtain ⟨_, h5, h6, h7⟩ := tupErr_iff.1 h4.1
  refine ⟨by omega, h6, h7, hsc.1 h4.2, ?_, ?_⟩
  ·rw [tunitE, if_neg (by omega)] at h2
   split at h2
   ·rename_i k; exact unitAll_iff.1 k
   ·omega
  ·rw [h3, tlens, if_pos h1]
/- one behind the other -/
theorem foldl_none {i : Int} : ∀ {B : List Tp} (p : Int × Int), (∀ t ∈ B, ¬ t.has i) → B.foldl (prodStep i) p = p
 | [], p, _ => rfl
 | t :: B, p, h => by
  rw [List.foldl_cons, prodStep, if_neg (h t List.mem_cons_self)]
  exact foldl_none p fun x hx => h x (List.mem_cons_of_mem _ hx)
theorem prodF_left {A B : List Tp} {i : Int} (h : ∀ t ∈ B, ¬ t.has i) : prodF (A ++ B) i = prodF A i := by
 unfold prodF; rw [List.foldl_append, foldl_none _ h]
theorem prodF_right {A B : List Tp} {i : Int} (h : ∀ t ∈ A, ¬ t.has i) : prodF (A ++ B) i = prodF B i := by
 unfold prodF; rw [List.foldl_append, foldl_none _ h]
theorem mv_has (t : Tp) (d i : Int) : (t.mv d).has (i + d) ↔ t.has i := by unfold Tp.has Tp.mv; simp only; omega
theorem prodF_mv (B : List Tp) (d i : Int) : prodF (B.map (Tp.mv d)) (i + d) = prodF B i := by
 unfold prodF
 rw [List.foldl_map]
 congr 1
 funext p t
 unfold prodStep
 by_cases h : t.has i
 ·rw [if_pos h, if_pos ((mv_has t d i).2 h)]; rfl
 ·rw [if_neg h, if_neg (fun k => h ((mv_has t d i).1 k))]
theorem scaleE_congr {A B : List Tp} {i j w : Int} (h : prodF A i = prodF B j) : scaleE A i w = scaleE B j w := by unfold scaleE; rw [h]
theorem scaleN_congr {A B : List Tp} {i j w : Int} (h : prodF A i = prodF B j) : scaleN A i w = scaleN B j w := by unfold scaleN; rw [h]
theorem unitS_congr {A B : List Tp} : ∀ {seg : List Int} {i i' : Nat} {acc : Int}, (∀ j, j < seg.length → prodF A ((i + j : Nat) : Int) = prodF B ((i' + j : Nat) : Int)) → unitS A i seg acc = unitS B i' seg acc
 | [], i, i', acc, h => rfl
 | w :: r, i, i', acc, h => by
  have h0 := h 0 (by simp)
  rw [Nat.add_zero, Nat.add_zero] at h0
  rw [unitS, unitS, scaleE_congr h0, scaleN_congr h0]
  split
  ·rfl
  ·refine unitS_congr fun j hj => ?_
   have := h (j + 1) (by simp; omega)
   rwa [show i + (j + 1) = i + 1 + j by omega, show i' + (j + 1) = i' + 1 + j by omega] at this
theorem lensGo_congr {A B : List Tp} : ∀ {ws : List Int} {i i' : Nat}, (∀ j, j < ws.length → prodF A ((i + j : Nat) : Int) = prodF B ((i' + j : Nat) : Int)) → lensGo A i ws = lensGo B i' ws
 | [], i, i', h => rfl
 | w :: r, i, i', h => by
  have h0 := h 0 (by simp)
  rw [Nat.add_zero, Nat.add_zero] at h0
  rw [lensGo, lensGo, scaleN_congr h0, lensGo_congr (i' := i' + 1)]
  intro j hj
  have := h (j + 1) (by simp; omega)
  rwa [show i + (j + 1) = i + 1 + j by omega, show i' + (j + 1) = i' + 1 + j by omega] at this
theorem lensGo_apps (T : List Tp) (b : List Int) : ∀ (a : List Int) (i : Nat), lensGo T i (a ++ b) = lensGo T i a ++ lensGo T (i + a.length) b
 | [], i => rfl
 | w :: a, i => by rw [List.cons_append, lensGo, lensGo, lensGo_apps T b a (i + 1), List.cons_append, List.length_cons, show i + 1 + a.length = i + (a.length + 1) by omega]
theorem hits_mv (B : List Tp) (d e : Int) : hits (B.map (Tp.mv d)) (e + d) = hits B e := by
 unfold hits
 rw [List.filter_map, List.length_map]
 congr 1
 refine List.filter_congr fun t _ => ?_
 show decide ((t.mv d).has (e + d)) = decide (t.has e)
 rw [decide_eq_decide]; exact mv_has t d e
theorem hits_zero {B : List Tp} {e : Int} (h : ∀ t ∈ B, ¬ t.has e) : hits B e = 0 := by
 unfold hits
 rw [List.filter_eq_nil_iff.2 fun t ht => by simpa using h t ht]; rfl
theorem mv_e (t : Tp) (d : Int) : (t.mv d).e = t.e + d := by unfold Tp.mv Tp.e; simp only; omega
theorem mv_first (t : Tp) (d : Int) : (t.mv d).first = t.first + d := rfl
theorem mv_bef {a b : Tp} {d : Int} : (a.mv d).bef (b.mv d) ↔ a.bef b := by unfold Tp.bef Tp.mv; simp only; omega
theorem mv_mv (t : Tp) (a b : Int) : (t.mv a).mv b = t.mv (a + b) := by unfold Tp.mv; simp only [Int.add_assoc]
theorem mv_zero (t : Tp) : t.mv 0 = t := by unfold Tp.mv; simp
theorem nhas_left {A : List Tp} {n i : Int} (h : ∀ t ∈ A, t.e ≤ n) (hi : n ≤ i) : ∀ t ∈ A, ¬ t.has i := fun t ht k => by have := h t ht; unfold Tp.e at this; unfold Tp.has at k; omega
theorem nhas_right {B : List Tp} {n i : Int} (h : ∀ t ∈ B, 0 ≤ t.first) (hi : i < n) : ∀ t ∈ B.map (Tp.mv n), ¬ t.has i := fun t ht k => by
 obtain ⟨b, hb, rfl⟩ := List.mem_map.1 ht
 have := h b hb; unfold Tp.has Tp.mv at k; simp only at k; omega
theorem TV_app {A B : List Tp} {n1 n2 : Int} (h1 : 0 ≤ n1) (h2 : 0 ≤ n2) (hA : ∀ t ∈ A, t.e ≤ n1) (hB : ∀ t ∈ B, 0 ≤ t.first) : TV (A ++ B.map (Tp.mv n1)) (n1 + n2) ↔ TV A n1 ∧ TV B n2 := by
 constructor
 ·intro h
  have ho := List.pairwise_append.1 h.ord
  have hn := List.pairwise_append.1 h.nest
  refine ⟨⟨fun t ht => ?_, ho.1, hn.1, fun e => by have := h.dep e; rw [hits_app] at this; omega⟩, ⟨fun t ht => ?_, ?_, ?_, fun e => ?_⟩⟩
  ·have k1 := h.inR t (List.mem_append_left _ ht); have k2 := hA t ht; unfold Tp.inR at *; unfold Tp.e at k2; omega
  ·have k1 := h.inR (t.mv n1) (List.mem_append_right _ (List.mem_map.2 ⟨t, ht, rfl⟩)); have k2 := hB t ht; unfold Tp.inR Tp.mv at k1; unfold Tp.inR; simp only at k1; omega
  ·exact (List.pairwise_map.1 ho.2.1).imp fun k => mv_bef.1 k
  ·refine (List.pairwise_map.1 hn.2.1).imp fun {a b} k k2 => ?_
   rw [mv_e, mv_e, mv_first] at k; omega
  ·have := h.dep (e + n1); rw [hits_app, hits_mv] at this; omega
 ·rintro ⟨a, b⟩
  refine ⟨fun t ht => ?_, List.pairwise_append.2 ⟨a.ord, List.pairwise_map.2 (b.ord.imp fun k => mv_bef.2 k), fun x hx y hy => ?_⟩, List.pairwise_append.2 ⟨a.nest, List.pairwise_map.2 (b.nest.imp fun {x y} k => ?_), fun x hx y hy k => ?_⟩, fun e => ?_⟩
  ·rcases List.mem_append.1 ht with k | k
   ·have k1 := a.inR t k; unfold Tp.inR at *; omega
   ·obtain ⟨s, hs, rfl⟩ := List.mem_map.1 k
    have k1 := b.inR s hs; unfold Tp.inR at k1; unfold Tp.inR Tp.mv; simp only; omega
  ·obtain ⟨s, hs, rfl⟩ := List.mem_map.1 hy
   have k1 := a.inR x hx; have k2 := hA x hx; have k3 := hB s hs
   left; unfold Tp.inR at k1; unfold Tp.e at k2; rw [mv_first]; omega
  ·rw [mv_e, mv_e, mv_first]; omega
  ·obtain ⟨s, hs, rfl⟩ := List.mem_map.1 hy
   have k2 := hA x hx; have k3 := hB s hs
   rw [mv_first] at k; omega
  ·rw [hits_app]
   by_cases k : e < n1
   ·rw [hits_zero (nhas_right hB k)]; exact a.dep e
   ·rw [hits_zero (nhas_left hA (by omega)), Nat.zero_add]
    have := b.dep (e - n1)
    have k2 := hits_mv B n1 (e - n1)
    rw [Int.sub_add_cancel] at k2
    omega
theorem pro_l {A B : List Tp} {n1 : Nat} (hB : ∀ t ∈ B, 0 ≤ t.first) {i : Nat} (hi : i < n1) : prodF (A ++ B.map (Tp.mv n1)) i = prodF A i := prodF_left (nhas_right hB (by omega))
theorem pro_r {A B : List Tp} {n1 : Nat} (hA : ∀ t ∈ A, t.e ≤ n1) (i : Nat) : prodF (A ++ B.map (Tp.mv n1)) ((n1 + i : Nat) : Int) = prodF B i := by
 rw [prodF_right (nhas_left hA (by omega))]
 have := prodF_mv B n1 i
 rwa [show (i : Int) + (n1 : Int) = ((n1 + i : Nat) : Int) by omega] at this
theorem lens_app {A B : List Tp} {w1 w2 : List Int} (hA : ∀ t ∈ A, t.e ≤ w1.length) (hB : ∀ t ∈ B, 0 ≤ t.first) : lensGo (A ++ B.map (Tp.mv w1.length)) 0 (w1 ++ w2) = lensGo A 0 w1 ++ lensGo B 0 w2 := by
 rw [lensGo_apps]
 congr 1
 ·exact lensGo_congr fun j hj => by rw [Nat.zero_add]; exact pro_l hB hj
 ·refine lensGo_congr fun j hj => ?_
  rw [Nat.zero_add, Nat.zero_add]; exact pro_r hA j
theorem seg_left {t : Tp} {w1 w2 : List Int} (h0 : 0 ≤ t.first) (h : t.e ≤ w1.length) (hc : 1 ≤ t.count) : segT t (w1 ++ w2) = segT t w1 := by
 unfold segT
 unfold Tp.e at h
 rw [List.drop_append_of_le_length (by omega), List.take_append_of_le_length (by rw [List.length_drop]; omega)]
theorem seg_right {t : Tp} {w1 w2 : List Int} (h0 : 0 ≤ t.first) : segT (t.mv w1.length) (w1 ++ w2) = segT t w2 := by
 unfold segT
 rw [mv_first, show (t.first + (w1.length : Int)).toNat = w1.length + t.first.toNat by omega, ← List.drop_drop, List.drop_left]
 rfl
theorem unit_left {A B : List Tp} {t : Tp} {w1 w2 : List Int} (h0 : 0 ≤ t.first) (h : t.e ≤ w1.length) (hc : 1 ≤ t.count) (hB : ∀ t ∈ B, 0 ≤ t.first) : unitT (A ++ B.map (Tp.mv w1.length)) t (w1 ++ w2) = unitT A t w1 := by
 unfold unitT
 rw [seg_left h0 h hc, unitS_congr (B := A) (i' := t.first.toNat)]
 intro j hj
 have : (segT t w1).length ≤ t.count.toNat := by unfold segT; rw [List.length_take]; omega
 unfold Tp.e at h
 exact pro_l hB (by omega)
theorem unit_right {B : List Tp} {t : Tp} {w1 w2 : List Int} (h0 : 0 ≤ t.first) : unitT (B.map (Tp.mv w1.length)) (t.mv w1.length) (w1 ++ w2) = unitT B t w2 := by
 unfold unitT
 rw [seg_right h0, unitS_congr (B := B) (i' := t.first.toNat)]
 ·rfl
 ·intro j hj
  have := prodF_mv B w1.length ((t.first.toNat + j : Nat) : Int)
  rw [← this]
  congr 1
  rw [mv_first]
  omega
theorem TL.app {A B : List Tp} {w1 w2 l1 l2 : List Int} (h1 : TL A w1 l1) (h2 : TL B w2 l2) (hw : w1.length + w2.length ≤ 128) (ht : A.length + B.length ≤ 16) : TL (A ++ B.map (Tp.mv w1.length)) (w1 ++ w2) (l1 ++ l2) := by
 have hA : ∀ t ∈ A, t.e ≤ w1.length := fun t ht => by have := h1.tv.inR t ht; unfold Tp.inR at this; unfold Tp.e; omega
 have hB : ∀ t ∈ B, 0 ≤ t.first := fun t ht => by have := h2.tv.inR t ht; unfold Tp.inR at this; omega
 refine ⟨by rw [List.length_append]; exact hw, by rw [List.length_append, List.length_map]; exact ht, ?_, fun i w hi => ?_, fun k t hk => ?_, ?_⟩
 ·rw [List.length_append, Int.natCast_add]; exact (TV_app (by omega) (by omega) hA hB).2 ⟨h1.tv, h2.tv⟩
 ·by_cases c : i < w1.length
  ·rw [List.getElem?_append_left c] at hi
   rw [scaleE_congr (pro_l hB c)]; exact h1.sc i w hi
  ·rw [List.getElem?_append_right (by omega)] at hi
   have := pro_r (B := B) hA (i - w1.length)
   rw [show w1.length + (i - w1.length) = i by omega] at this
   rw [scaleE_congr this]; exact h2.sc _ w hi
 ·by_cases c : k < A.length
  ·rw [List.getElem?_append_left c] at hk
   have hm := List.mem_of_getElem? hk
   have := h1.tv.inR t hm
   rw [List.drop_append_of_le_length (by omega), unit_left (by unfold Tp.inR at this; omega) (hA t hm) (by unfold Tp.inR at this; omega) hB]
   exact h1.un k t hk
  ·rw [List.getElem?_append_right (by omega), List.getElem?_map] at hk
   cases hb : B[k - A.length]? with
   | none => rw [hb] at hk; cases hk
   | some s =>
    rw [hb] at hk; cases hk
    have hd : (A ++ B.map (Tp.mv w1.length)).drop (k + 1) = (B.drop (k - A.length + 1)).map (Tp.mv w1.length) := by
     rw [List.drop_append, List.drop_eq_nil_of_le (by omega), List.nil_append, List.map_drop, show k + 1 - A.length = k - A.length + 1 by omega]
    rw [hd, unit_right (hB s (List.mem_of_getElem? hb))]
    exact h2.un _ s hb
 ·rw [lens_app hA hB, h1.ls, h2.ls]
theorem TL.split {A B : List Tp} {w1 w2 ls : List Int} (h : TL (A ++ B.map (Tp.mv w1.length)) (w1 ++ w2) ls) (hA : ∀ t ∈ A, t.e ≤ w1.length) (hB : ∀ t ∈ B, 0 ≤ t.first) : TL A w1 (ls.take w1.length) ∧ TL B w2 (ls.drop w1.length) := by
 have hl := h.wl
 have ht := h.tl
 rw [List.length_append] at hl ht
 rw [List.length_map] at ht
 have hv : TV A w1.length ∧ TV B w2.length := by
  have := h.tv
  rw [List.length_append, Int.natCast_add] at this
  exact (TV_app (by omega) (by omega) hA hB).1 this
 have hls := h.ls
 rw [lens_app hA hB] at hls
 have hlg := lensGo_len A w1 0
 refine ⟨⟨by omega, by omega, hv.1, fun i w hi => ?_, fun k t hk => ?_, ?_⟩, ⟨by omega, by omega, hv.2, fun i w hi => ?_, fun k t hk => ?_, ?_⟩⟩
 ·have c := (List.getElem?_eq_some_iff.1 hi).1
  have := h.sc i w (by rw [List.getElem?_append_left c]; exact hi)
  rwa [scaleE_congr (pro_l hB c)] at this
 ·have c := (List.getElem?_eq_some_iff.1 hk).1
  have hm := List.mem_of_getElem? hk
  have hr := hv.1.inR t hm
  have := h.un k t (by rw [List.getElem?_append_left c]; exact hk)
  rwa [List.drop_append_of_le_length (by omega), unit_left (by unfold Tp.inR at hr; omega) (hA t hm) (by unfold Tp.inR at hr; omega) hB] at this
 ·rw [hls, List.take_left' hlg]
 ·have := h.sc (w1.length + i) w (by rw [List.getElem?_append_right (by omega), Nat.add_sub_cancel_left]; exact hi)
  rwa [scaleE_congr (pro_r hA i)] at this
 ·have := h.un (A.length + k) (t.mv w1.length) (by rw [List.getElem?_append_right (by omega), Nat.add_sub_cancel_left, List.getElem?_map, hk]; rfl)
  have hd : (A ++ B.map (Tp.mv w1.length)).drop (A.length + k + 1) = (B.drop (k + 1)).map (Tp.mv w1.length) := by
   rw [List.drop_append, List.drop_eq_nil_of_le (by omega), List.nil_append, List.map_drop, show A.length + k + 1 - A.length = k + 1 by omega]
  rwa [hd, unit_right (hB t (List.mem_of_getElem? hk))] at this
 ·rw [hls, List.drop_left' hlg]
/-- lengths without tuplets -/
theorem lensGo_nil : ∀ (ws : List Int) (i : Nat), (∀ w ∈ ws, 0 ≤ w ∧ w ≤ 7741440) → lensGo [] i ws = ws
 | [], i, _ => rfl
 | w :: r, i, h => by
  have := h w List.mem_cons_self
  rw [lensGo, lensGo_nil r (i + 1) fun x hx => h x (List.mem_cons_of_mem _ hx), scaleN, if_neg (by omega)]
  simp [prodF]
theorem TL.nil {ws : List Int} (hl : ws.length ≤ 128) (h : ∀ w ∈ ws, 0 ≤ w ∧ w ≤ 7741440) : TL [] ws ws :=
 ⟨hl, Nat.zero_le _, TV.nil _, fun i w hi => by have := h w (List.mem_of_getElem? hi); rw [scaleE, if_neg (by omega)]; simp [prodF], fun k t hk => by simp at hk, (lensGo_nil ws 0 h).symm⟩
/-- tuplets at both sides of a place -/
theorem sorted_split {l : List Tp} (h : l.Pairwise Tp.bef) (a : Int) : l = l.filter (fun t => decide (t.first < a)) ++ l.filter (fun t => decide (a ≤ t.first)) := by
 induction l with
 | nil => rfl
 | cons t l ih =>
  have h2 := List.pairwise_cons.1 h
  have ih := ih h2.2
  by_cases c : t.first < a
  ·rw [List.filter_cons_of_pos (by simpa using c), List.filter_cons_of_neg (by simp; omega), List.cons_append, ← ih]
  ·have : l.filter (fun t => decide (t.first < a)) = [] := List.filter_eq_nil_iff.2 fun x hx => by have := (h2.1 x hx).first; simp; omega
   rw [this, List.nil_append] at ih
   rw [List.filter_cons_of_neg (by simpa using c), List.filter_cons_of_pos (by simp; omega), this, List.nil_append, ← ih]
/-- no tuplet lies across a place -/
def Free (l : List Tp) (a : Int) : Prop := ∀ t ∈ l, t.e ≤ a ∨ a ≤ t.first
theorem TL.cut {T : List Tp} {ws ls : List Int} (h : TL T ws ls) {a : Nat} (ha : a ≤ ws.length) (hf : Free T a) :
  TL (T.filter fun t => decide (t.first < (a : Int))) (ws.take a) (ls.take a) ∧ TL ((T.filter fun t => decide ((a : Int) ≤ t.first)).map (Tp.mv (-a))) (ws.drop a) (ls.drop a) := by
 have hl : (ws.take a).length = a := by rw [List.length_take]; omega
 have e1 : T = (T.filter fun t => decide (t.first < (a : Int))) ++ (((T.filter fun t => decide ((a : Int) ≤ t.first)).map (Tp.mv (-a))).map (Tp.mv (ws.take a).length)) := by
  rw [List.map_map, hl]
  have : (Tp.mv (a : Int)) ∘ (Tp.mv (-(a : Int))) = id := by funext t; show (t.mv _).mv _ = t; rw [mv_mv, Int.add_left_neg, mv_zero]
  rw [this, List.map_id]; exact sorted_split h.tv.ord a
 have h' : TL ((T.filter fun t => decide (t.first < (a : Int))) ++ (((T.filter fun t => decide ((a : Int) ≤ t.first)).map (Tp.mv (-a))).map (Tp.mv (ws.take a).length))) (ws.take a ++ ws.drop a) ls := by
  rw [← e1, List.take_append_drop]; exact h
 have := h'.split (fun t ht => ?_) (fun t ht => ?_)
 ·rw [hl] at this; exact this
 ·have k := List.mem_filter.1 ht
  have k2 := k.2
  simp only [decide_eq_true_eq] at k2
  rcases hf t k.1 with j | j
  ·rw [hl]; exact j
  ·omega
 ·obtain ⟨s, hs, rfl⟩ := List.mem_map.1 ht
  have k := (List.mem_filter.1 hs).2
  simp only [decide_eq_true_eq] at k
  rw [mv_first]; omega
end Go.Proofs.YtcihalbakenleaaGreat
namespace Go.Proofs.YtcihalbakenleaaGreat
open Go.RowKit
def restE : Ev := ⟨0, 0, 2, ⟨0, 0⟩, [], [], 0, 0, 0, [], 0, 0⟩
theorem restE_fit : restE.fit := ⟨Nat.zero_le _, Nat.zero_le _, Nat.zero_le _⟩
theorem split_len (m : Me) (a b : Int) : (m.split a b).length ≤ 2049 := by
 unfold Me.split
 split
 ·rename_i h
  unfold Me.splitE at h
  split at h
  ·rename_i h1; exact absurd h h1
  ·split at h
   ·cases h
   ·split at h
    ·cases h
    ·split at h
     ·cases h
     ·have := splitF_len (m := m) (strN a b + 1) a b ⟨by omega, by omega, by omega, by omega, Nat.le_refl _⟩
      unfold strN at *
      omega
 ·exact Nat.zero_le _
theorem split_none {m : Me} {a b : Int} (h : m.splitE a b ≠ 0) : m.split a b = [] := by rw [Me.split, if_neg h]
def restsS (m : Me) (a b : Int) : List Ev := notesS restE (m.split a b) false
def notesE (x : Ev) (m : Me) (a b : Int) : Int := if x.err ≠ 0 then x.err else if x.kind = 3 then 11 else m.splitE a b
def notesL (x : Ev) (m : Me) (a b : Int) : List Ev := if notesE x m a b = 0 then notesS x (m.split a b) false else []
theorem r2e {l l' : List Ev} {a b : Int} (h : l = l') (h2 : a = b) : D.tup [.sl 13 (l.map Ev.c), dI a] = .tup [.sl 13 (l'.map Ev.c), dI b] := by rw [h, h2]
theorem rests_no {m : Me} {a b : Int} (h : m.splitE a b ≠ 0) : ([] : List Ev) = restsS m a b := by rw [restsS, split_none h]; rfl
theorem nt_1 {x : Ev} {m : Me} {a b : Int} (h : x.err ≠ 0) : ([] : List Ev) = notesL x m a b ∧ x.err = notesE x m a b := by
 have : notesE x m a b = x.err := by rw [notesE, if_pos h]
 exact ⟨by rw [notesL, if_neg (by rw [this]; exact h)], this.symm⟩
theorem nt_2 {x : Ev} {m : Me} {a b : Int} (h : ¬ x.err ≠ 0) (h2 : x.kind = 3) : ([] : List Ev) = notesL x m a b ∧ 11 = notesE x m a b := by
 have : notesE x m a b = 11 := by rw [notesE, if_neg h, if_pos h2]
 exact ⟨by rw [notesL, if_neg (by rw [this]; decide)], this.symm⟩
theorem nt_3 {x : Ev} {m : Me} {a b : Int} (h : ¬ x.err ≠ 0) (h2 : ¬ x.kind = 3) (h3 : m.splitE a b ≠ 0) : ([] : List Ev) = notesL x m a b ∧ m.splitE a b = notesE x m a b := by
 have : notesE x m a b = m.splitE a b := by rw [notesE, if_neg h, if_neg h2]
 exact ⟨by rw [notesL, if_neg (by rw [this]; exact h3)], this.symm⟩
theorem nt_4 {x : Ev} {m : Me} {a b : Int} (h : ¬ x.err ≠ 0) (h2 : ¬ x.kind = 3) (h3 : ¬ m.splitE a b ≠ 0) : notesS x (m.split a b) false = notesL x m a b ∧ 0 = notesE x m a b := by
 have : notesE x m a b = 0 := by rw [notesE, if_neg h, if_neg h2]; omega
 exact ⟨by rw [notesL, if_pos this], this.symm⟩
theorem rests_xc (m : Me) (a b : Int) : XC Tryz.prog 35 [.agg (Me.c m), .v (.int .i64 a), .v (.int .i64 b)] (fun r => r = .tup [.sl 13 ((restsS m a b).map Ev.c), dI (m.splitE a b)]) := by
 have hsl := split_len m a b
 refine xc_body callable_35 Tryz.func35 rfl rfl (Nat.le_of_ble_eq_true rfl) ?_
 refine zr ?_
 refine XL.step rfl (st_boxN 3 (l := [.d (dI m.count), .d (dI m.unit), .d (dI m.g0), .d (dI m.g1), .d (dI m.g2), .d (dI m.g3), .d (dI m.g4), .d (dI m.g5)]) rfl rfl (by kernel_rfl)) ?_
 refine za rfl rfl ?_
 refine za rfl rfl ?_
 refine znr ?_
 refine zp (pure_eq (s' := .d (.agg (Me.c m))) (norm_pure (p_load_boxs rfl rfl agg_28 rfl (Nat.le_of_ble_eq_true rfl))) (by kernel_rfl)) ?_
 refine zm rfl rfl ?_
 refine zm rfl rfl ?_
 refine XL.call1 rfl rfl (mSplit_xc _ _ _) rfl ?_
 refine zm rfl rfl ?_
 refine zp (p_ext rfl rfl rfl) ?_
 refine zp (p_ext rfl rfl rfl) ?_
 refine za rfl rfl ?_
 refine za rfl rfl ?_
 refine zn ?_
 refine zs ?_
 refine zr ?_
 refine zm rfl rfl ?_
 refine zp (p_neq rfl rfl rfl) ?_
 refine zn ?_
 refine zd rfl (fun c18 => ?_) (fun c18 => ?_)
 refine zr ?_
 refine zm rfl rfl ?_
 refine za rfl rfl ?_
 refine za rfl rfl ?_
 refine zn ?_
 refine zt ?_
 exact ret2 rfl (RV.nil (sz := 13) rfl rfl) (RV.tmp rfl rfl) (r2e (rests_no c18) rfl)
 refine zi ?_
 refine zr ?_
 refine zp (pure_eq (s' := .d (.agg [dI 0, dI 0, dI 2, dI 0, dI 0, .v (.slice none 0 0), .v (.slice none 0 0), dI 0, dI 0, dI 0, .v (.slice none 0 0), dI 0, dI 0])) (norm_pure (p_build rfl str_60 zero_60 rfl)) (by kernel_rfl)) ?_
 refine zm rfl rfl ?_
 refine XL.callS rfl rfl (((notes_xs restE _ false restE_fit (by omega)).sub (.cons (.agg (.cons (.same rfl) (.cons (.same rfl) (.cons (.same rfl) (.cons (.same rfl) (.cons (.same rfl) (.cons (.nil 5) (.cons (.nil 5) (.cons (.same rfl) (.cons (.same rfl) (.cons (.same rfl) (.cons (.nil 2) (.cons (.same rfl) (.cons (.same rfl) (.nil))))))))))))))) (.cons (.same rfl) (.cons (.same rfl) (.nil))))).lab 7001) rfl ?_
 refine zp (p_assign rfl (by conv => lhs; whnf)) ?_
 refine za rfl rfl ?_
 refine zn ?_
 refine zt ?_
 refine ret_freeze (i := 7001) rfl ?_
 exact ret2 rfl (RV.tmp rfl rfl) (RV.tmp rfl rfl) (r2e rfl (by omega))
theorem vnotes_xc (x : Ev) (m : Me) (a b : Int) (h : x.fit) (ha : x.art ≤ 9223372036854775807) : XC Tryz.prog 34 [.agg (Ev.c x), .agg (Me.c m), .v (.int .i64 a), .v (.int .i64 b)] (fun r => r = .tup [.sl 13 ((notesL x m a b).map Ev.c), dI (notesE x m a b)]) := by
 have hsl := split_len m a b
 refine xc_body callable_34 Tryz.func34 rfl rfl (Nat.le_of_ble_eq_true rfl) ?_
 refine zr ?_
 refine XL.step rfl (st_boxN 4 (l := [.d (dI x.site), .d (dI x.num), .d (dI x.kind), .d (dI x.v.log), .d (dI x.v.dots), .d (.sl 5 (x.heads.map Hd.c)), .d (.sl 5 (x.graces.map Gr.c)), .d (dI x.art), .d (dI x.orn), .d (dI x.dyn), .d (.sl 2 (x.lyr.map Sy.c)), .d (dI x.stem), .d (dI x.beam)]) rfl rfl (by kernel_rfl)) ?_
 refine XL.step rfl (st_boxN 5 (l := [.d (dI m.count), .d (dI m.unit), .d (dI m.g0), .d (dI m.g1), .d (dI m.g2), .d (dI m.g3), .d (dI m.g4), .d (dI m.g5)]) rfl rfl (by kernel_rfl)) ?_
 refine za rfl rfl ?_
 refine za rfl rfl ?_
 refine zn ?_
 refine zs ?_
 refine zr ?_
 refine zp (pure_eq (s' := .d (.agg (Ev.c x))) (norm_pure (p_load_boxs rfl rfl agg_60 rfl (Nat.le_of_ble_eq_true rfl))) (by kernel_rfl)) ?_
 refine XL.call1 rfl rfl (echeck_xc _ (by assumption)) rfl ?_
 refine za rfl rfl ?_
 refine znr ?_
 refine zm rfl rfl ?_
 refine zp (p_neq rfl rfl rfl) ?_
 refine zn ?_
 refine zd rfl (fun c16 => ?_) (fun c16 => ?_)
 refine zr ?_
 refine zm rfl rfl ?_
 refine za rfl rfl ?_
 refine za rfl rfl ?_
 refine zn ?_
 refine zt ?_
 exact ret2 rfl (RV.nil (sz := 13) rfl rfl) (RV.tmp rfl rfl) (r2e (nt_1 c16).1 (nt_1 c16).2)
 refine zi ?_
 refine zs ?_
 refine zr ?_
 refine zp (p_fld_ptr rfl rfl fld_60_1) ?_
 refine zp (p_load_box rfl rfl sc_3 rfl rfl) ?_
 refine zp (p_eql rfl rfl rfl) ?_
 refine zn ?_
 refine zd rfl (fun c20 => ?_) (fun c20 => ?_)
 refine zr ?_
 refine za rfl rfl ?_
 refine za rfl rfl ?_
 refine zn ?_
 refine zt ?_
 exact ret2 rfl (RV.nil (sz := 13) rfl rfl) (RV.tmp rfl rfl) (r2e (nt_2 c16 c20).1 (nt_2 c16 c20).2)
 refine zi ?_
 refine zr ?_
 refine zp (pure_eq (s' := .d (.agg (Me.c m))) (norm_pure (p_load_boxs rfl rfl agg_28 rfl (Nat.le_of_ble_eq_true rfl))) (by kernel_rfl)) ?_
 refine zm rfl rfl ?_
 refine zm rfl rfl ?_
 refine XL.call1 rfl rfl (mSplit_xc _ _ _) rfl ?_
 refine zm rfl rfl ?_
 refine zp (p_ext rfl rfl rfl) ?_
 refine zp (p_ext rfl rfl rfl) ?_
 refine za rfl rfl ?_
 refine za rfl rfl ?_
 refine zn ?_
 refine zs ?_
 refine zr ?_
 refine zm rfl rfl ?_
 refine zp (p_neq rfl rfl rfl) ?_
 refine zn ?_
 refine zd rfl (fun c29 => ?_) (fun c29 => ?_)
 refine zr ?_
 refine zm rfl rfl ?_
 refine za rfl rfl ?_
 refine za rfl rfl ?_
 refine zn ?_
 refine zt ?_
 exact ret2 rfl (RV.nil (sz := 13) rfl rfl) (RV.tmp rfl rfl) (r2e (nt_3 c16 c20 c29).1 (nt_3 c16 c20 c29).2)
 refine zi ?_
 refine zr ?_
 refine zp (pure_eq (s' := .d (.agg (Ev.c x))) (norm_pure (p_load_boxs rfl rfl agg_60 rfl (Nat.le_of_ble_eq_true rfl))) (by kernel_rfl)) ?_
 refine zm rfl rfl ?_
 refine XL.callS rfl rfl ((notes_xs _ _ _ (by assumption) (by omega)).lab 7001) rfl ?_
 refine zp (p_assign rfl (by conv => lhs; whnf)) ?_
 refine za rfl rfl ?_
 refine zn ?_
 refine zt ?_
 refine ret_freeze (i := 7001) rfl ?_
 exact ret2 rfl (RV.tmp rfl rfl) (RV.tmp rfl rfl) (r2e (nt_4 c16 c20 c29).1 (nt_4 c16 c20 c29).2)
end Go.Proofs.YtcihalbakenleaaGreat
namespace Go.Proofs.YtcihalbakenleaaGreat
open Go.RowKit
theorem ck_len {v : Vo} {L : Int} (h : ckE v L = 0) : lenE v L = 0 ∧ ckL v L = lenL v L := by
 have h1 : lenE v L = 0 := by
  unfold ckE at h
  split at h
  ·cases h
  ·exact h
 exact ⟨h1, by rw [ckL, h, if_neg (by decide)]⟩
theorem inn_len {v : Vo} (h : innE v = 0) : (innL v).length = v.evs.length ∧ tlenE v.tups (wrS v.evs) = 0 := by
 have h1 : tlenE v.tups (wrS v.evs) = 0 := by
  unfold innE at h
  split at h
  ·rename_i k; exact absurd h k
  ·split at h
   ·rename_i k; exact absurd h k
   ·rename_i k; exact Decidable.not_not.1 k
 refine ⟨?_, h1⟩
 rw [innL, if_pos h, tlens, if_pos h1, lensGo_len, wrS, List.length_map]
theorem len_len {v : Vo} {L : Int} (h : lenE v L = 0) : (lenL v L).length = v.evs.length := by
 rw [lenL, if_neg (by rw [h]; decide)]
 split
 ·rename_i k; rw [k.2]; rfl
 ·rename_i k
  have : innE v = 0 := by
   by_cases c1 : L < 1 ∨ 15482880 < L
   ·rw [lenE, if_pos c1] at h; cases h
   ·by_cases c2 : 128 < v.evs.length
    ·rw [lenE, if_neg c1, if_pos c2] at h; cases h
    ·rw [lenE, if_neg c1, if_neg c2, if_neg k] at h; exact h
  exact (inn_len this).1
theorem ckL_len {v : Vo} {L : Int} (h : ckE v L = 0) : (ckL v L).length = v.evs.length := by
 obtain ⟨h1, h2⟩ := ck_len h
 rw [h2]; exact len_len h1
theorem atS_nat (l : List Int) (t : Int) : ∀ n, ∃ k : Nat, atS l t n = ((k : Int), tot (l.take k)) ∧ (k < n ∨ k = 0)
 | 0 => ⟨0, rfl, .inr rfl⟩
 | n + 1 => by
  obtain ⟨k, h1, h2⟩ := atS_nat l t n
  cases hl : l[n]? with
  | none => exact ⟨k, by simp only [atS, hl]; exact h1, by omega⟩
  | some x =>
   by_cases c : tot (l.take n) ≤ t ∧ 0 < x
   ·exact ⟨n, at_hit hl c.1 c.2, by omega⟩
   ·exact ⟨k, by rw [at_miss hl c]; exact h1, by omega⟩
theorem atV_nat (v : Vo) (L t : Int) : ∃ (k : Nat) (a : Int), atV v L t = ((k : Int), a) ∧ 0 ≤ a ∧ a ≤ 32469952757760 ∧ (atE v L t = 0 → k < (ckL v L).length ∧ a = tot ((ckL v L).take k)) := by
 have hN := nums_ckL v L
 by_cases h : atE v L t ≠ 0
 ·exact ⟨0, 0, by rw [atV, if_pos h]; rfl, by omega, by omega, fun k => absurd k h⟩
 ·obtain ⟨k, h1, h2⟩ := atS_nat (ckL v L) t (ckL v L).length
  have hb := (hN.take k).tot
  refine ⟨k, _, by rw [atV, if_neg h]; exact h1, hb.1, hb.2, fun h0 => ⟨?_, rfl⟩⟩
  have : (ckL v L).length ≠ 0 := fun e => by
   by_cases c : ckE v L ≠ 0
   ·rw [at_1 c] at h0; exact c h0
   ·rw [at_2 c (by omega)] at h0; cases h0
  omega
theorem at_range {v : Vo} {L t : Int} (h : atE v L t = 0) : ckE v L = 0 ∧ 0 ≤ t ∧ t < L := by
 unfold atE at h
 split at h
 ·rename_i c; exact absurd h c
 ·rename_i c
  split at h
  ·cases h
  ·split at h
   ·cases h
   ·omega
theorem at_as {v : Vo} {L t a : Int} {k : Nat} (hE : Evs v.evs) (h : atV v L t = ((k : Int), a)) : XC Tryz.prog 22 [.agg (Vo.c v), dI L, dI t] (fun r => r = .tup [dI k, dI a, dI (atE v L t)]) := by
 have := At_xc v L t hE
 rw [h] at this
 exact this
theorem chk_ok {p : Pl} {v : Vo} (h : p.chk v = 0) : p.m.err = 0 ∧ ¬ p.bad ∧ ckE v p.len = 0 := by
 unfold Pl.chk at h
 split at h
 ·rename_i c; exact absurd h c
 ·rename_i c
  split at h
  ·cases h
  ·exact ⟨Decidable.not_not.1 c, by assumption, h⟩
theorem len_ok {v : Vo} {L : Int} (h : lenE v L = 0) : v.evs.length ≤ 128 ∧ (v.tups.length = 0 ∨ tlenE v.tups (wrS v.evs) = 0) ∧ 1 ≤ L ∧ L ≤ 15482880 := by
 by_cases c1 : L < 1 ∨ 15482880 < L
 ·rw [lenE, if_pos c1] at h; cases h
 ·by_cases c2 : 128 < v.evs.length
  ·rw [lenE, if_neg c1, if_pos c2] at h; cases h
  ·refine ⟨by omega, ?_, by omega, by omega⟩
   by_cases k : v.whole ∧ v.evs.length = 1
   ·left
    obtain ⟨e, he⟩ : ∃ e, v.evs[0]? = some e := get_ex (by omega)
    have := len_c (L := L) (by omega) (by omega) (by omega) k.1 (by omega) he
    rw [h] at this
    by_cases c3 : e.err ≠ 0
    ·rw [if_pos c3] at this; exact absurd this.symm c3
    ·rw [if_neg c3] at this
     by_cases c4 : 0 < v.tups.length
     ·rw [if_pos c4] at this; cases this
     ·omega
   ·rw [lenE, if_neg c1, if_neg c2, if_neg k] at h
    exact .inr (inn_len h).2
theorem ck_sml {v : Vo} {L : Int} (h : ckE v L = 0) : Sml v ∧ v.evs.length ≤ 128 := by
 obtain ⟨h1, _⟩ := ck_len h
 obtain ⟨h2, h3, _⟩ := len_ok h1
 refine ⟨⟨by omega, ?_, ?_⟩, h2⟩
 ·rcases h3 with h3 | h3
  ·omega
  ·have := (tlen_tups (fun k => k h3)).len; omega
 ·rcases h3 with h3 | h3
  ·have : v.tups = [] := List.eq_nil_of_length_eq_zero h3
   rw [this]; exact fun t ht => by cases ht
  ·intro t ht
   have := (tlen_tups (fun k => k h3)).ok t ht
   unfold Tp.ok at this
   omega
theorem notesS_len (x : Ev) (vs : List Val) (f : Bool) : (notesS x vs f).length = vs.length := by rw [notesS, List.length_mapIdx]
def Ev.asRest (x : Ev) : Ev := ⟨x.site, x.num, 2, x.v, x.heads, x.graces, x.art, x.orn, x.dyn, x.lyr, x.stem, x.beam⟩
def Ev.unrest (x : Ev) : Ev := if x.kind = 3 then x.asRest else x
def Ev.tiedE (x : Ev) : Ev := ⟨x.site, x.num, x.kind, x.v, x.heads.map Hd.tie, x.graces, x.art, x.orn, x.dyn, x.lyr, x.stem, x.beam⟩
theorem Ev.fit.rest {x : Ev} (h : x.fit) : x.asRest.fit := h
theorem Ev.fit.tied {x : Ev} (h : x.fit) : x.tiedE.fit := ⟨by show (x.heads.map Hd.tie).length ≤ 1000; rw [List.length_map]; exact h.1, h.2⟩
theorem Ev.fit.put {x : Ev} (h : x.fit) (v : Val) (t : Bool) : (x.put v t).fit := ⟨by cases t <;> simp only [Ev.put, if_true, Bool.false_eq_true, if_false, List.length_map] <;> exact h.1, h.2⟩
theorem Ev.fit.further {x : Ev} (h : x.fit) : x.further.fit := ⟨by show (x.heads.map Hd.plain).length ≤ 1000; rw [List.length_map]; exact h.1, Nat.zero_le _, Nat.zero_le _⟩
theorem notesS_fit {x : Ev} (h : x.fit) (vs : List Val) (f : Bool) : ∀ e ∈ notesS x vs f, e.fit := by
 intro e he
 obtain ⟨i, hi⟩ := List.getElem?_of_mem he
 rw [notesS, List.getElem?_mapIdx] at hi
 cases hv : vs[i]? with
 | none => rw [hv] at hi; cases hi
 | some v =>
  rw [hv] at hi; cases hi
  unfold noteAt
  split
  ·exact h.further.put _ _
  ·exact h.put _ _
theorem sml_evs {l : List Ev} (h : l.length ≤ 10000) : Sml ⟨l, []⟩ := ⟨h, Nat.zero_le _, fun t ht => by cases ht⟩
/-- dividing, where the event and its length are known -/
def divN (p : Pl) (t : Int) (a w : Int) (x : Ev) : List Ev := notesS x.unrest.tiedE (p.m.split (p.off + a) (p.off + t)) false ++ notesS x.unrest (p.m.split (p.off + t) (p.off + (a + w))) true
def divT (v : Vo) (p : Pl) (t : Int) (k : Nat) (a w : Int) (x : Ev) : Vo × Int :=
 if 0 < depthS v.tups k then (⟨[], []⟩, 27) else if p.m.splitE (p.off + a) (p.off + t) ≠ 0 then (⟨[], []⟩, p.m.splitE (p.off + a) (p.off + t)) else if p.m.splitE (p.off + t) (p.off + (a + w)) ≠ 0 then (⟨[], []⟩, p.m.splitE (p.off + t) (p.off + (a + w))) else
 if 128 < (replS v k 1 ⟨divN p t a w x, []⟩).evs.length then (⟨[], []⟩, 9) else (replS v k 1 ⟨divN p t a w x, []⟩, 0)
/-- what divide returns -/
def divS (v : Vo) (p : Pl) (t : Int) : Vo × Int :=
 if atE v p.len t ≠ 0 ∨ (atV v p.len t).2 = t then (v, 0) else
 match v.evs[(atV v p.len t).1.toNat]?, (ckL v p.len)[(atV v p.len t).1.toNat]? with
 | some x, some w => divT v p t (atV v p.len t).1.toNat (atV v p.len t).2 w x
 | _, _ => (⟨[], []⟩, 0)
theorem divS_same {v : Vo} {p : Pl} {t a : Int} {k : Nat} (hat : atV v p.len t = ((k : Int), a)) (h : atE v p.len t ≠ 0 ∨ a = t) : divS v p t = (v, 0) := by rw [divS, hat, if_pos h]
theorem divS_at {v : Vo} {p : Pl} {t a w : Int} {k : Nat} {x : Ev} (hat : atV v p.len t = ((k : Int), a)) (h : ¬ (atE v p.len t ≠ 0 ∨ a = t)) (hx : v.evs[k]? = some x) (hw : (ckL v p.len)[k]? = some w) : divS v p t = divT v p t k a w x := by
 rw [divS, hat, if_neg h]
 simp only [Int.toNat_natCast, hx, hw]
theorem dv_1 {v : Vo} {p : Pl} {t a w : Int} {k : Nat} {x : Ev} (h : 0 < depthS v.tups k) : divT v p t k a w x = (⟨[], []⟩, 27) := by rw [divT, if_pos h]
theorem dv_2 {v : Vo} {p : Pl} {t a w : Int} {k : Nat} {x : Ev} (h : ¬ 0 < depthS v.tups k) (h2 : p.m.splitE (p.off + a) (p.off + t) ≠ 0) : divT v p t k a w x = (⟨[], []⟩, p.m.splitE (p.off + a) (p.off + t)) := by rw [divT, if_neg h, if_pos h2]
theorem dv_3 {v : Vo} {p : Pl} {t a w : Int} {k : Nat} {x : Ev} (h : ¬ 0 < depthS v.tups k) (h2 : ¬ p.m.splitE (p.off + a) (p.off + t) ≠ 0) (h3 : p.m.splitE (p.off + t) (p.off + (a + w)) ≠ 0) : divT v p t k a w x = (⟨[], []⟩, p.m.splitE (p.off + t) (p.off + (a + w))) := by rw [divT, if_neg h, if_neg h2, if_pos h3]
theorem dv_4 {v : Vo} {p : Pl} {t a w : Int} {k : Nat} {x : Ev} {l : List Ev} (h : ¬ 0 < depthS v.tups k) (h2 : ¬ p.m.splitE (p.off + a) (p.off + t) ≠ 0) (h3 : ¬ p.m.splitE (p.off + t) (p.off + (a + w)) ≠ 0) (hl : l = divN p t a w x) (h4 : 128 < ((replS v k 1 ⟨l, []⟩).evs.length : Int)) : divT v p t k a w x = (⟨[], []⟩, 9) := by
 subst hl; rw [divT, if_neg h, if_neg h2, if_neg h3, if_pos (by omega)]
theorem dv_5 {v : Vo} {p : Pl} {t a w : Int} {k : Nat} {x : Ev} {l : List Ev} (h : ¬ 0 < depthS v.tups k) (h2 : ¬ p.m.splitE (p.off + a) (p.off + t) ≠ 0) (h3 : ¬ p.m.splitE (p.off + t) (p.off + (a + w)) ≠ 0) (hl : l = divN p t a w x) (h4 : ¬ 128 < ((replS v k 1 ⟨l, []⟩).evs.length : Int)) : divT v p t k a w x = (replS v k 1 ⟨l, []⟩, 0) := by
 subst hl; rw [divT, if_neg h, if_neg h2, if_neg h3, if_neg (by omega)]
theorem dn_r {p : Pl} {t a w : Int} {x : Ev} (h : x.kind = 3) : notesS x.asRest.tiedE (p.m.split (p.off + a) (p.off + t)) false ++ notesS x.asRest (p.m.split (p.off + t) (p.off + (a + w))) true = divN p t a w x := by rw [divN, Ev.unrest, if_pos h]
theorem dn_n {p : Pl} {t a w : Int} {x : Ev} (h : ¬ x.kind = 3) : notesS x.tiedE (p.m.split (p.off + a) (p.off + t)) false ++ notesS x (p.m.split (p.off + t) (p.off + (a + w))) true = divN p t a w x := by rw [divN, Ev.unrest, if_neg h]
theorem unrest_fit {x : Ev} (h : x.fit) : x.unrest.fit := by unfold Ev.unrest; split <;> exact h
theorem repl_fit {v : Vo} {k : Nat} {l : List Ev} (hv : v.fit) (hl : ∀ e ∈ l, e.fit) (hs : Sml v) (h : ¬ 128 < ((replS v k 1 ⟨l, []⟩).evs.length : Int)) : (replS v k 1 ⟨l, []⟩).fit := by
 refine ⟨by omega, ?_, fun e he => ?_⟩
 ·have h1 := moved_len (fun t => decide (t.first < (k : Int))) 0 v.tups
  have h2 := moved_len (fun t => decide ((k : Int) + (1 : Nat) ≤ t.first)) ((l.length : Int) - (1 : Nat)) v.tups
  have h3 := hs.tups
  simp only [replS, List.length_append]
  have h4 : (movedS (fun _ => true) (k : Int) []).length = 0 := rfl
  omega
 ·simp only [replS] at he
  rcases List.mem_append.1 he with he | he
  ·rcases List.mem_append.1 he with he | he
   ·exact hv.ev e (List.mem_of_mem_take he)
   ·exact hl e he
  ·exact hv.ev e (List.mem_of_mem_drop he)
theorem divN_fit {p : Pl} {t a w : Int} {x : Ev} (h : x.fit) : ∀ e ∈ divN p t a w x, e.fit := by
 intro e he
 rcases List.mem_append.1 he with he | he
 ·exact notesS_fit (unrest_fit h).tied _ _ e he
 ·exact notesS_fit (unrest_fit h) _ _ e he
theorem r2v {v : Vo} {a : Int} {q : Vo × Int} (h : q = (v, a)) : D.tup [.agg (Vo.c v), dI a] = .tup [.agg (Vo.c q.1), dI q.2] := by rw [h]
theorem divide_xc (v : Vo) (p : Pl) (t : Int) (hE : Evs v.evs) (hF : v.fit) (hc : p.chk v = 0) : XC Tryz.prog 48 [.agg (Vo.c v), .agg (Pl.c p), .v (.int .i64 t)] (fun r => r = .tup [.agg (Vo.c (divS v p t).1), dI (divS v p t).2]) := by
 obtain ⟨k, a, hat, ha0, ha1, hak⟩ := atV_nat v p.len t
 obtain ⟨hme, hpb, hck⟩ := chk_ok hc
 obtain ⟨hsv, hev⟩ := ck_sml hck
 have hcl := ckL_len hck
 have hN := nums_ckL v p.len
 unfold Pl.bad at hpb
 refine xc_body callable_48 Tryz.func48 rfl rfl (Nat.le_of_ble_eq_true rfl) ?_
 refine zr ?_
 refine XL.step rfl (st_boxN 3 (l := [.d (.sl 13 (v.evs.map Ev.c)), .d (.sl 4 (v.tups.map Tp.c))]) rfl rfl (by kernel_rfl)) ?_
 refine XL.step rfl (st_boxN 4 (l := [.d (dI p.m.count), .d (dI p.m.unit), .d (dI p.m.g0), .d (dI p.m.g1), .d (dI p.m.g2), .d (dI p.m.g3), .d (dI p.m.g4), .d (dI p.m.g5), .d (dI p.off), .d (dI p.len)]) rfl rfl (by kernel_rfl)) ?_
 refine XL.step rfl (st_allocN 6 (l := [.d (.v (.slice none 0 0)), .d (.v (.slice none 0 0))]) rfl zero_25 (by kernel_rfl)) ?_
 refine za rfl rfl ?_
 refine znr ?_
 refine zp (pure_eq (s' := .d (.agg (Vo.c v))) (norm_pure (p_load_boxs rfl rfl agg_25 rfl (Nat.le_of_ble_eq_true rfl))) (by kernel_rfl)) ?_
 refine zp (p_fld_ptr rfl rfl fld_30_2) ?_
 refine zp (p_load_box rfl rfl sc_3 rfl rfl) ?_
 refine XL.call1 rfl rfl (checked_xc _ _ (by assumption)) rfl ?_
 refine zm rfl rfl ?_
 refine zp (p_ext rfl rfl rfl) ?_
 refine zp (p_ext rfl rfl rfl) ?_
 refine za rfl rfl ?_
 refine za rfl rfl ?_
 refine znr ?_
 refine zp (pure_eq (s' := .d (.agg (Vo.c v))) (norm_pure (p_load_boxs rfl rfl agg_25 rfl (Nat.le_of_ble_eq_true rfl))) (by kernel_rfl)) ?_
 refine zp (p_fld_ptr rfl rfl fld_30_2) ?_
 refine zp (p_load_box rfl rfl sc_3 rfl rfl) ?_
 refine zm rfl rfl ?_
 refine XL.call1 rfl rfl (at_as hE hat) rfl ?_
 refine zm rfl rfl ?_
 refine zp (p_ext rfl rfl rfl) ?_
 refine zp (p_ext rfl rfl rfl) ?_
 refine zp (p_ext rfl rfl rfl) ?_
 refine za rfl rfl ?_
 refine za rfl rfl ?_
 refine za rfl rfl ?_
 refine zn ?_
 refine zs ?_
 refine zr ?_
 refine zm rfl rfl ?_
 refine zp (p_neq rfl rfl rfl) ?_
 refine zm rfl rfl ?_
 refine XL.dec 37 rfl (fun g37 => ?_) (fun g37 => ?_)
 refine zk 3 rfl ?_
 refine zq rfl rfl rfl ?_
 refine zn ?_
 refine xw_true (by kernel_rfl) rfl ?_
 refine zr ?_
 refine zp (pure_eq (s' := .d (.agg (Vo.c v))) (norm_pure (p_load_boxs rfl rfl agg_25 rfl (Nat.le_of_ble_eq_true rfl))) (by kernel_rfl)) ?_
 refine XL.call1 rfl rfl (vclone_xc _ (by assumption)) rfl ?_
 refine XL.step rfl (st_storeN (l' := [.d (.sl 13 (v.evs.map Ev.c)), .d (.sl 4 (v.tups.map Tp.c))]) rfl rfl rfl rfl sz_25 rfl (Nat.le_of_ble_eq_true rfl) (by kernel_rfl)) ?_
 refine za rfl rfl ?_
 refine zn ?_
 refine zt ?_
 exact ret2 rfl (RV.cells rfl rfl rfl agg_25 (Nat.le_of_ble_eq_true rfl) rfl) (RV.tmp rfl rfl) (r2v (divS_same hat (by omega)))
 refine zm rfl rfl ?_
 refine zm rfl rfl ?_
 refine zp (p_eql rfl rfl rfl) ?_
 refine zq rfl rfl rfl ?_
 refine zn ?_
 refine zd rfl (fun c41 => ?_) (fun c41 => ?_)
 refine zr ?_
 refine zp (pure_eq (s' := .d (.agg (Vo.c v))) (norm_pure (p_load_boxs rfl rfl agg_25 rfl (Nat.le_of_ble_eq_true rfl))) (by kernel_rfl)) ?_
 refine XL.call1 rfl rfl (vclone_xc _ (by assumption)) rfl ?_
 refine XL.step rfl (st_storeN (l' := [.d (.sl 13 (v.evs.map Ev.c)), .d (.sl 4 (v.tups.map Tp.c))]) rfl rfl rfl rfl sz_25 rfl (Nat.le_of_ble_eq_true rfl) (by kernel_rfl)) ?_
 refine za rfl rfl ?_
 refine zn ?_
 refine zt ?_
 exact ret2 rfl (RV.cells rfl rfl rfl agg_25 (Nat.le_of_ble_eq_true rfl) rfl) (RV.tmp rfl rfl) (r2v (divS_same hat (by omega)))
 refine zi ?_
 refine zs ?_
 have hne : ¬ (atE v p.len t ≠ 0 ∨ a = t) := by omega
 have he0 : atE v p.len t = 0 := by omega
 obtain ⟨hk, hak2⟩ := hak he0
 obtain ⟨w, hw⟩ : ∃ w, (ckL v p.len)[k]? = some w := get_ex hk
 obtain ⟨x, hx⟩ : ∃ x, v.evs[k]? = some x := get_ex (by omega)
 have hwb := hN.bd w (List.mem_of_getElem? hw)
 obtain ⟨_, ht0, ht1⟩ := at_range he0
 have hxf : x.fit := hF.ev x (List.mem_of_getElem? hx)
 have hs1 := split_len p.m (p.off + a) (p.off + t)
 have hs2 := split_len p.m (p.off + t) (p.off + (a + w))
 have hxh := hxf.1
 refine xw_region (by kernel_rfl) ?_
 refine zm rfl rfl ?_
 refine zm rfl rfl ?_
 refine zm rfl rfl ?_
 refine zp (p_idx_map rfl rfl rfl el_64 (hw)) ?_
 refine zp (p_load_pt rfl rfl sc_3) ?_
 refine zp (p_add rfl rfl rfl (by omega) (by omega)) ?_
 refine za rfl rfl ?_
 refine zn ?_
 refine zs ?_
 refine zr ?_
 refine zp (p_fld_ptr rfl rfl fld_25_1) ?_
 refine zp (p_load_box rfl rfl sc_23 rfl rfl) ?_
 refine zm rfl rfl ?_
 refine XL.call1 rfl rfl (depth_xc _ _ (by omega) (by omega)) rfl ?_
 refine zp (p_gtr rfl rfl rfl) ?_
 refine zn ?_
 refine zd rfl (fun c54 => ?_) (fun c54 => ?_)
 refine zr ?_
 refine zp (pure_eq (s' := .d (.agg [.v (.slice none 0 0), .v (.slice none 0 0)])) (norm_pure (p_build rfl str_25 zero_25 rfl)) (by kernel_rfl)) ?_
 refine XL.step rfl (st_storeN (l' := [.d (.v (.slice none 0 0)), .d (.v (.slice none 0 0))]) rfl rfl rfl rfl sz_25 rfl (Nat.le_of_ble_eq_true rfl) (by kernel_rfl)) ?_
 refine za rfl rfl ?_
 refine zn ?_
 refine zt ?_
 exact ret2 rfl (RV.sub (RV.cells rfl rfl rfl agg_25 (Nat.le_of_ble_eq_true rfl) rfl) (.agg (.cons (.nil 13) (.cons (.nil 4) (.nil))))) (RV.tmp rfl rfl) (r2v ((divS_at hat hne hx hw).trans (dv_1 c54)))
 refine zi ?_
 refine zr ?_
 refine zp (p_fld_ptr rfl rfl fld_30_0) ?_
 refine zp (pure_eq (s' := .d (.agg (Me.c p.m))) (norm_pure (p_load_boxs rfl rfl agg_28 rfl (Nat.le_of_ble_eq_true rfl))) (by kernel_rfl)) ?_
 refine zp (p_fld_ptr rfl rfl fld_30_1) ?_
 refine zp (p_load_box rfl rfl sc_3 rfl rfl) ?_
 refine zm rfl rfl ?_
 refine zp (p_add rfl rfl rfl (by omega) (by omega)) ?_
 refine zp (p_fld_ptr rfl rfl fld_30_1) ?_
 refine zp (p_load_box rfl rfl sc_3 rfl rfl) ?_
 refine zm rfl rfl ?_
 refine zp (p_add rfl rfl rfl (by omega) (by omega)) ?_
 refine XL.call1 rfl rfl (mSplit_xc _ _ _) rfl ?_
 refine zm rfl rfl ?_
 refine zp (p_ext rfl rfl rfl) ?_
 refine zp (p_ext rfl rfl rfl) ?_
 refine za rfl rfl ?_
 refine za rfl rfl ?_
 refine zn ?_
 refine zs ?_
 refine zr ?_
 refine zm rfl rfl ?_
 refine zp (p_neq rfl rfl rfl) ?_
 refine zn ?_
 refine zd rfl (fun c71 => ?_) (fun c71 => ?_)
 refine zr ?_
 refine zp (pure_eq (s' := .d (.agg [.v (.slice none 0 0), .v (.slice none 0 0)])) (norm_pure (p_build rfl str_25 zero_25 rfl)) (by kernel_rfl)) ?_
 refine zm rfl rfl ?_
 refine XL.step rfl (st_storeN (l' := [.d (.v (.slice none 0 0)), .d (.v (.slice none 0 0))]) rfl rfl rfl rfl sz_25 rfl (Nat.le_of_ble_eq_true rfl) (by kernel_rfl)) ?_
 refine za rfl rfl ?_
 refine zn ?_
 refine zt ?_
 exact ret2 rfl (RV.sub (RV.cells rfl rfl rfl agg_25 (Nat.le_of_ble_eq_true rfl) rfl) (.agg (.cons (.nil 13) (.cons (.nil 4) (.nil))))) (RV.tmp rfl rfl) (r2v ((divS_at hat hne hx hw).trans (dv_2 c54 c71)))
 refine zi ?_
 refine zr ?_
 refine zp (p_fld_ptr rfl rfl fld_30_0) ?_
 refine zp (pure_eq (s' := .d (.agg (Me.c p.m))) (norm_pure (p_load_boxs rfl rfl agg_28 rfl (Nat.le_of_ble_eq_true rfl))) (by kernel_rfl)) ?_
 refine zp (p_fld_ptr rfl rfl fld_30_1) ?_
 refine zp (p_load_box rfl rfl sc_3 rfl rfl) ?_
 refine zm rfl rfl ?_
 refine zp (p_add rfl rfl rfl (by omega) (by omega)) ?_
 refine zp (p_fld_ptr rfl rfl fld_30_1) ?_
 refine zp (p_load_box rfl rfl sc_3 rfl rfl) ?_
 refine zm rfl rfl ?_
 refine zp (p_add rfl rfl rfl (by omega) (by omega)) ?_
 refine XL.call1 rfl rfl (mSplit_xc _ _ _) rfl ?_
 refine zm rfl rfl ?_
 refine zp (p_ext rfl rfl rfl) ?_
 refine zp (p_ext rfl rfl rfl) ?_
 refine za rfl rfl ?_
 refine za rfl rfl ?_
 refine zn ?_
 refine zs ?_
 refine zr ?_
 refine zm rfl rfl ?_
 refine zp (p_neq rfl rfl rfl) ?_
 refine zn ?_
 refine zd rfl (fun c89 => ?_) (fun c89 => ?_)
 refine zr ?_
 refine zp (pure_eq (s' := .d (.agg [.v (.slice none 0 0), .v (.slice none 0 0)])) (norm_pure (p_build rfl str_25 zero_25 rfl)) (by kernel_rfl)) ?_
 refine zm rfl rfl ?_
 refine XL.step rfl (st_storeN (l' := [.d (.v (.slice none 0 0)), .d (.v (.slice none 0 0))]) rfl rfl rfl rfl sz_25 rfl (Nat.le_of_ble_eq_true rfl) (by kernel_rfl)) ?_
 refine za rfl rfl ?_
 refine zn ?_
 refine zt ?_
 exact ret2 rfl (RV.sub (RV.cells rfl rfl rfl agg_25 (Nat.le_of_ble_eq_true rfl) rfl) (.agg (.cons (.nil 13) (.cons (.nil 4) (.nil))))) (RV.tmp rfl rfl) (r2v ((divS_at hat hne hx hw).trans (dv_3 c54 c71 c89)))
 refine zi ?_
 refine zr ?_
 refine zp (p_fld_ptr rfl rfl fld_25_0) ?_
 refine zp (p_load_box rfl rfl sc_22 rfl rfl) ?_
 refine zm rfl rfl ?_
 refine zp (p_idx_map rfl rfl rfl el_22 (hx)) ?_
 refine zp (pure_eq (s' := .d (.agg (Ev.c x))) (p_load_pts rfl rfl agg_60 (Nat.le_of_ble_eq_true rfl)) (by kernel_rfl)) ?_
 refine XL.step rfl (st_allocN 16 (l := [.d (dI 0), .d (dI 0), .d (dI 0), .d (dI 0), .d (dI 0), .d (.v (.slice none 0 0)), .d (.v (.slice none 0 0)), .d (dI 0), .d (dI 0), .d (dI 0), .d (.v (.slice none 0 0)), .d (dI 0), .d (dI 0)]) rfl zero_60 (by kernel_rfl)) ?_
 refine XL.step rfl (st_storeN (l' := [.d (dI x.site), .d (dI x.num), .d (dI x.kind), .d (dI x.v.log), .d (dI x.v.dots), .d (.sl 5 (x.heads.map Hd.c)), .d (.sl 5 (x.graces.map Gr.c)), .d (dI x.art), .d (dI x.orn), .d (dI x.dyn), .d (.sl 2 (x.lyr.map Sy.c)), .d (dI x.stem), .d (dI x.beam)]) rfl rfl rfl rfl sz_60 rfl (Nat.le_of_ble_eq_true rfl) (by kernel_rfl)) ?_
 refine zn ?_
 refine zs ?_
 refine zr ?_
 refine zp (p_fld_ptr rfl rfl fld_60_1) ?_
 refine zp (p_load_box rfl rfl sc_3 rfl rfl) ?_
 refine zp (p_eql rfl rfl rfl) ?_
 refine zn ?_
 refine zd rfl (fun c99 => ?_) (fun c99 => ?_)
 refine xw_region (by kernel_rfl) ?_
 refine zp (p_fld_ptr rfl rfl fld_60_1) ?_
 refine XL.step rfl (st_storeN (l' := [.d (dI x.site), .d (dI x.num), .d (dI 2), .d (dI x.v.log), .d (dI x.v.dots), .d (.sl 5 (x.heads.map Hd.c)), .d (.sl 5 (x.graces.map Gr.c)), .d (dI x.art), .d (dI x.orn), .d (dI x.dyn), .d (.sl 2 (x.lyr.map Sy.c)), .d (dI x.stem), .d (dI x.beam)]) rfl rfl rfl rfl sz_3 rfl (Nat.le_of_ble_eq_true rfl) (by kernel_rfl)) ?_
 refine znr ?_
 refine zp (pure_eq (s' := .d (.agg [dI x.site, dI x.num, dI 2, dI x.v.log, dI x.v.dots, .sl 5 (x.heads.map Hd.c), .sl 5 (x.graces.map Gr.c), dI x.art, dI x.orn, dI x.dyn, .sl 2 (x.lyr.map Sy.c), dI x.stem, dI x.beam])) (norm_pure (p_load_boxs rfl rfl agg_60 rfl (Nat.le_of_ble_eq_true rfl))) (by kernel_rfl)) ?_
 refine XL.step rfl (st_allocN 17 (l := [.d (dI 0), .d (dI 0), .d (dI 0), .d (dI 0), .d (dI 0), .d (.v (.slice none 0 0)), .d (.v (.slice none 0 0)), .d (dI 0), .d (dI 0), .d (dI 0), .d (.v (.slice none 0 0)), .d (dI 0), .d (dI 0)]) rfl zero_60 (by kernel_rfl)) ?_
 refine XL.step rfl (st_storeN (l' := [.d (dI x.site), .d (dI x.num), .d (dI 2), .d (dI x.v.log), .d (dI x.v.dots), .d (.sl 5 (x.heads.map Hd.c)), .d (.sl 5 (x.graces.map Gr.c)), .d (dI x.art), .d (dI x.orn), .d (dI x.dyn), .d (.sl 2 (x.lyr.map Sy.c)), .d (dI x.stem), .d (dI x.beam)]) rfl rfl rfl rfl sz_60 rfl (Nat.le_of_ble_eq_true rfl) (by kernel_rfl)) ?_
 refine znr ?_
 refine zp (p_fld_ptr rfl rfl fld_60_3) ?_
 refine zp (p_load_box rfl rfl sc_48 rfl rfl) ?_
 refine XL.call1 rfl rfl (tie_xc _ (hxf.1)) rfl ?_
 refine zp (p_fld_ptr rfl rfl fld_60_3) ?_
 refine XL.step rfl (st_storeN (l' := [.d (dI x.site), .d (dI x.num), .d (dI 2), .d (dI x.v.log), .d (dI x.v.dots), .d (.sl 5 ((x.heads.map Hd.tie).map Hd.c)), .d (.sl 5 (x.graces.map Gr.c)), .d (dI x.art), .d (dI x.orn), .d (dI x.dyn), .d (.sl 2 (x.lyr.map Sy.c)), .d (dI x.stem), .d (dI x.beam)]) rfl rfl rfl rfl sz_48 rfl (Nat.le_of_ble_eq_true rfl) (by kernel_rfl)) ?_
 refine zn ?_
 refine zs ?_
 refine xw_anyMP 8 12 [7001, 7002, 18] (S.kill 7001) 7001 (mKill 7001) (by kernel_rfl) (by kernel_rfl) (by kernel_rfl) (by kernel_rfl) (by decide) ?_
 refine ChMK.fr rfl rfl (CStep.pure (pure_eq (s' := .d (.agg (Vo.c v))) (norm_pure (p_load_boxs rfl rfl agg_25 rfl (Nat.le_of_ble_eq_true rfl))) (by kernel_rfl))) (CStep.pure (pure_eq (s' := .d (.agg (Vo.c v))) (norm_pure (p_load_boxs rfl rfl agg_25 rfl (Nat.le_of_ble_eq_true rfl))) (by kernel_rfl))) (by exact rfl) ?_
 refine ChMK.fr rfl rfl (CStep.pure (p_move rfl (by conv => lhs; whnf))) (CStep.pure (p_move rfl (by conv => lhs; whnf))) (by exact rfl) ?_
 refine ChMK.bf rfl (CStep.pure (pure_eq (s' := .d (.agg [dI x.site, dI x.num, dI 2, dI x.v.log, dI x.v.dots, .sl 5 ((x.heads.map Hd.tie).map Hd.c), .sl 5 (x.graces.map Gr.c), dI x.art, dI x.orn, dI x.dyn, .sl 2 (x.lyr.map Sy.c), dI x.stem, dI x.beam])) (norm_pure (p_load_boxs rfl rfl agg_60 rfl (Nat.le_of_ble_eq_true rfl))) (by kernel_rfl))) (by conv => lhs; whnf) ?_
 refine ChMK.bf rfl (CStep.pure (p_move rfl (by conv => lhs; whnf))) (by conv => lhs; whnf) ?_
 refine ChMK.bfO rfl (CStep.callS rfl ((notes_xs (x.asRest.tiedE) _ false hxf.rest.tied (by omega)).lab 7001) rfl (hn_one (by kernel_rfl))) (by conv => lhs; whnf) (fun _ _ => mKill_own _ _) ?_
 refine ChMK.bf rfl (CStep.pure (pure_eq (s' := .d (.agg [dI x.site, dI x.num, dI 2, dI x.v.log, dI x.v.dots, .sl 5 (x.heads.map Hd.c), .sl 5 (x.graces.map Gr.c), dI x.art, dI x.orn, dI x.dyn, .sl 2 (x.lyr.map Sy.c), dI x.stem, dI x.beam])) (norm_pure (p_load_boxs rfl rfl agg_60 rfl (Nat.le_of_ble_eq_true rfl))) (by kernel_rfl))) (by conv => lhs; whnf) ?_
 refine ChMK.bf rfl (CStep.pure (p_move rfl (by conv => lhs; whnf))) (by conv => lhs; whnf) ?_
 refine ChMK.bfN rfl (CStep.callS rfl ((notes_xs (x.asRest) _ true hxf.rest (by omega)).lab 7002) rfl (hn_one (by kernel_rfl))) (by conv => lhs; whnf) rfl rfl ?_
 refine ChMK.mu rfl (m_appendF (l2 := ((notesS x.asRest.tiedE ((p.m.split (p.off + a) (p.off + t))) false) ++ (notesS x.asRest ((p.m.split (p.off + t) (p.off + (a + w)))) true)).map Ev.c) rfl elt_22 (.own rfl) (Src.own rfl) (by simp only [List.length_map, notesS_len]; unfold maxLen; omega) (by simp only [List.length_map, notesS_len]; omega) (map_app)) ?_
 refine ChMK.af rfl (CStep.pure (pure_eq (s' := .d (.agg [.sl 13 (((notesS x.asRest.tiedE ((p.m.split (p.off + a) (p.off + t))) false) ++ (notesS x.asRest ((p.m.split (p.off + t) (p.off + (a + w)))) true)).map Ev.c), .v (.slice none 0 0)])) (norm_pure (p_build rfl str_25 zero_25 rfl)) (by kernel_rfl))) ?_
 refine ChMK.af rfl (CStep.calls rfl (replace_xc v k 1 ⟨((notesS x.asRest.tiedE ((p.m.split (p.off + a) (p.off + t))) false) ++ (notesS x.asRest ((p.m.split (p.off + t) (p.off + (a + w)))) true)), []⟩ hsv (sml_evs (by simp only [List.length_append, notesS_len]; omega)) (by omega)) (.cons rfl (.same rfl) (.cons rfl (.same rfl) (.cons rfl (.same rfl) (.cons rfl (.agg (.cons (.same rfl) (.cons (.nil 4) (.nil)))) (.nil)))))) ?_
 refine ChMK.frN rfl rfl (CStep.allocN 18 (l := [.d (.v (.slice none 0 0)), .d (.v (.slice none 0 0))]) rfl zero_25 rfl rfl) (CStep.allocN 18 (l := [.d (.v (.slice none 0 0)), .d (.v (.slice none 0 0))]) rfl zero_25 rfl rfl) (by exact rfl) (by exact rfl) rfl ?_
 refine ChMK.nil ⟨⟨by kernel_rfl, by kernel_rfl, by kernel_rfl⟩, ?_⟩
 refine XL.step rfl (st_storeN (l' := [.d (.sl 13 ((replS v k 1 ⟨((notesS x.asRest.tiedE ((p.m.split (p.off + a) (p.off + t))) false) ++ (notesS x.asRest ((p.m.split (p.off + t) (p.off + (a + w)))) true)), []⟩).evs.map Ev.c)), .d (.sl 4 ((replS v k 1 ⟨((notesS x.asRest.tiedE ((p.m.split (p.off + a) (p.off + t))) false) ++ (notesS x.asRest ((p.m.split (p.off + t) (p.off + (a + w)))) true)), []⟩).tups.map Tp.c))]) rfl rfl rfl rfl sz_25 rfl (Nat.le_of_ble_eq_true rfl) (by kernel_rfl)) ?_
 refine zn ?_
 refine zs ?_
 refine zr ?_
 refine zp (p_fld_ptr rfl rfl fld_25_0) ?_
 refine zp (p_load_box rfl rfl sc_22 rfl rfl) ?_
 refine XL.len rfl rfl rfl Tryz.underlying22 (fun hl119 => ?_)
 refine zp (p_gtr rfl rfl rfl) ?_
 refine zn ?_
 refine zd rfl (fun c120 => ?_) (fun c120 => ?_)
 refine zr ?_
 refine zp (pure_eq (s' := .d (.agg [.v (.slice none 0 0), .v (.slice none 0 0)])) (norm_pure (p_build rfl str_25 zero_25 rfl)) (by kernel_rfl)) ?_
 refine XL.step rfl (st_storeN (l' := [.d (.v (.slice none 0 0)), .d (.v (.slice none 0 0))]) rfl rfl rfl rfl sz_25 rfl (Nat.le_of_ble_eq_true rfl) (by kernel_rfl)) ?_
 refine za rfl rfl ?_
 refine zn ?_
 refine zt ?_
 exact ret2 rfl (RV.sub (RV.cells rfl rfl rfl agg_25 (Nat.le_of_ble_eq_true rfl) rfl) (.agg (.cons (.nil 13) (.cons (.nil 4) (.nil))))) (RV.tmp rfl rfl) (r2v ((divS_at hat hne hx hw).trans (dv_4 c54 c71 c89 (by first | exact dn_r c99 | exact dn_n c99) c120)))
 have hof := repl_fit (k := k) (l := _) hF (divN_fit (p := p) (t := t) (a := a) (w := w) hxf) hsv (by first | (rw [← dn_r c99]; exact c120) | (rw [← dn_n c99]; exact c120))
 first | rw [← dn_r c99] at hof | rw [← dn_n c99] at hof
 refine zi ?_
 refine zr ?_
 refine zp (pure_eq (s' := .d (.agg (Vo.c (replS v k 1 ⟨((notesS x.asRest.tiedE ((p.m.split (p.off + a) (p.off + t))) false) ++ (notesS x.asRest ((p.m.split (p.off + t) (p.off + (a + w)))) true)), []⟩)))) (norm_pure (p_load_boxs rfl rfl agg_25 rfl (Nat.le_of_ble_eq_true rfl))) (by kernel_rfl)) ?_
 refine XL.call1 rfl rfl (vclone_xc _ (by assumption)) rfl ?_
 refine XL.step rfl (st_storeN (l' := [.d (.sl 13 ((replS v k 1 ⟨((notesS x.asRest.tiedE ((p.m.split (p.off + a) (p.off + t))) false) ++ (notesS x.asRest ((p.m.split (p.off + t) (p.off + (a + w)))) true)), []⟩).evs.map Ev.c)), .d (.sl 4 ((replS v k 1 ⟨((notesS x.asRest.tiedE ((p.m.split (p.off + a) (p.off + t))) false) ++ (notesS x.asRest ((p.m.split (p.off + t) (p.off + (a + w)))) true)), []⟩).tups.map Tp.c))]) rfl rfl rfl rfl sz_25 rfl (Nat.le_of_ble_eq_true rfl) (by kernel_rfl)) ?_
 refine za rfl rfl ?_
 refine zn ?_
 refine zt ?_
 exact ret2 rfl (RV.cells rfl rfl rfl agg_25 (Nat.le_of_ble_eq_true rfl) rfl) (RV.tmp rfl rfl) (r2v ((divS_at hat hne hx hw).trans (dv_5 c54 c71 c89 (by first | exact dn_r c99 | exact dn_n c99) c120)))
 refine zi ?_
 refine zr ?_
 refine zp (pure_eq (s' := .d (.agg (Ev.c x))) (norm_pure (p_load_boxs rfl rfl agg_60 rfl (Nat.le_of_ble_eq_true rfl))) (by kernel_rfl)) ?_
 refine XL.step rfl (st_allocN 17 (l := [.d (dI 0), .d (dI 0), .d (dI 0), .d (dI 0), .d (dI 0), .d (.v (.slice none 0 0)), .d (.v (.slice none 0 0)), .d (dI 0), .d (dI 0), .d (dI 0), .d (.v (.slice none 0 0)), .d (dI 0), .d (dI 0)]) rfl zero_60 (by kernel_rfl)) ?_
 refine XL.step rfl (st_storeN (l' := [.d (dI x.site), .d (dI x.num), .d (dI x.kind), .d (dI x.v.log), .d (dI x.v.dots), .d (.sl 5 (x.heads.map Hd.c)), .d (.sl 5 (x.graces.map Gr.c)), .d (dI x.art), .d (dI x.orn), .d (dI x.dyn), .d (.sl 2 (x.lyr.map Sy.c)), .d (dI x.stem), .d (dI x.beam)]) rfl rfl rfl rfl sz_60 rfl (Nat.le_of_ble_eq_true rfl) (by kernel_rfl)) ?_
 refine znr ?_
 refine zp (p_fld_ptr rfl rfl fld_60_3) ?_
 refine zp (p_load_box rfl rfl sc_48 rfl rfl) ?_
 refine XL.call1 rfl rfl (tie_xc _ (hxf.1)) rfl ?_
 refine zp (p_fld_ptr rfl rfl fld_60_3) ?_
 refine XL.step rfl (st_storeN (l' := [.d (dI x.site), .d (dI x.num), .d (dI x.kind), .d (dI x.v.log), .d (dI x.v.dots), .d (.sl 5 ((x.heads.map Hd.tie).map Hd.c)), .d (.sl 5 (x.graces.map Gr.c)), .d (dI x.art), .d (dI x.orn), .d (dI x.dyn), .d (.sl 2 (x.lyr.map Sy.c)), .d (dI x.stem), .d (dI x.beam)]) rfl rfl rfl rfl sz_48 rfl (Nat.le_of_ble_eq_true rfl) (by kernel_rfl)) ?_
 refine zn ?_
 refine zs ?_
 refine xw_anyMP 8 12 [7001, 7002, 18] (S.kill 7001) 7001 (mKill 7001) (by kernel_rfl) (by kernel_rfl) (by kernel_rfl) (by kernel_rfl) (by decide) ?_
 refine ChMK.fr rfl rfl (CStep.pure (pure_eq (s' := .d (.agg (Vo.c v))) (norm_pure (p_load_boxs rfl rfl agg_25 rfl (Nat.le_of_ble_eq_true rfl))) (by kernel_rfl))) (CStep.pure (pure_eq (s' := .d (.agg (Vo.c v))) (norm_pure (p_load_boxs rfl rfl agg_25 rfl (Nat.le_of_ble_eq_true rfl))) (by kernel_rfl))) (by exact rfl) ?_
 refine ChMK.fr rfl rfl (CStep.pure (p_move rfl (by conv => lhs; whnf))) (CStep.pure (p_move rfl (by conv => lhs; whnf))) (by exact rfl) ?_
 refine ChMK.bf rfl (CStep.pure (pure_eq (s' := .d (.agg [dI x.site, dI x.num, dI x.kind, dI x.v.log, dI x.v.dots, .sl 5 ((x.heads.map Hd.tie).map Hd.c), .sl 5 (x.graces.map Gr.c), dI x.art, dI x.orn, dI x.dyn, .sl 2 (x.lyr.map Sy.c), dI x.stem, dI x.beam])) (norm_pure (p_load_boxs rfl rfl agg_60 rfl (Nat.le_of_ble_eq_true rfl))) (by kernel_rfl))) (by conv => lhs; whnf) ?_
 refine ChMK.bf rfl (CStep.pure (p_move rfl (by conv => lhs; whnf))) (by conv => lhs; whnf) ?_
 refine ChMK.bfO rfl (CStep.callS rfl ((notes_xs (x.tiedE) _ false hxf.tied (by omega)).lab 7001) rfl (hn_one (by kernel_rfl))) (by conv => lhs; whnf) (fun _ _ => mKill_own _ _) ?_
 refine ChMK.bf rfl (CStep.pure (pure_eq (s' := .d (.agg (Ev.c x))) (norm_pure (p_load_boxs rfl rfl agg_60 rfl (Nat.le_of_ble_eq_true rfl))) (by kernel_rfl))) (by conv => lhs; whnf) ?_
 refine ChMK.bf rfl (CStep.pure (p_move rfl (by conv => lhs; whnf))) (by conv => lhs; whnf) ?_
 refine ChMK.bfN rfl (CStep.callS rfl ((notes_xs (x) _ true hxf (by omega)).lab 7002) rfl (hn_one (by kernel_rfl))) (by conv => lhs; whnf) rfl rfl ?_
 refine ChMK.mu rfl (m_appendF (l2 := ((notesS x.tiedE ((p.m.split (p.off + a) (p.off + t))) false) ++ (notesS x ((p.m.split (p.off + t) (p.off + (a + w)))) true)).map Ev.c) rfl elt_22 (.own rfl) (Src.own rfl) (by simp only [List.length_map, notesS_len]; unfold maxLen; omega) (by simp only [List.length_map, notesS_len]; omega) (map_app)) ?_
 refine ChMK.af rfl (CStep.pure (pure_eq (s' := .d (.agg [.sl 13 (((notesS x.tiedE ((p.m.split (p.off + a) (p.off + t))) false) ++ (notesS x ((p.m.split (p.off + t) (p.off + (a + w)))) true)).map Ev.c), .v (.slice none 0 0)])) (norm_pure (p_build rfl str_25 zero_25 rfl)) (by kernel_rfl))) ?_
 refine ChMK.af rfl (CStep.calls rfl (replace_xc v k 1 ⟨((notesS x.tiedE ((p.m.split (p.off + a) (p.off + t))) false) ++ (notesS x ((p.m.split (p.off + t) (p.off + (a + w)))) true)), []⟩ hsv (sml_evs (by simp only [List.length_append, notesS_len]; omega)) (by omega)) (.cons rfl (.same rfl) (.cons rfl (.same rfl) (.cons rfl (.same rfl) (.cons rfl (.agg (.cons (.same rfl) (.cons (.nil 4) (.nil)))) (.nil)))))) ?_
 refine ChMK.frN rfl rfl (CStep.allocN 18 (l := [.d (.v (.slice none 0 0)), .d (.v (.slice none 0 0))]) rfl zero_25 rfl rfl) (CStep.allocN 18 (l := [.d (.v (.slice none 0 0)), .d (.v (.slice none 0 0))]) rfl zero_25 rfl rfl) (by exact rfl) (by exact rfl) rfl ?_
 refine ChMK.nil ⟨⟨by kernel_rfl, by kernel_rfl, by kernel_rfl⟩, ?_⟩
 refine XL.step rfl (st_storeN (l' := [.d (.sl 13 ((replS v k 1 ⟨((notesS x.tiedE ((p.m.split (p.off + a) (p.off + t))) false) ++ (notesS x ((p.m.split (p.off + t) (p.off + (a + w)))) true)), []⟩).evs.map Ev.c)), .d (.sl 4 ((replS v k 1 ⟨((notesS x.tiedE ((p.m.split (p.off + a) (p.off + t))) false) ++ (notesS x ((p.m.split (p.off + t) (p.off + (a + w)))) true)), []⟩).tups.map Tp.c))]) rfl rfl rfl rfl sz_25 rfl (Nat.le_of_ble_eq_true rfl) (by kernel_rfl)) ?_
 refine zn ?_
 refine zs ?_
 refine zr ?_
 refine zp (p_fld_ptr rfl rfl fld_25_0) ?_
 refine zp (p_load_box rfl rfl sc_22 rfl rfl) ?_
 refine XL.len rfl rfl rfl Tryz.underlying22 (fun hl119 => ?_)
 refine zp (p_gtr rfl rfl rfl) ?_
 refine zn ?_
 refine zd rfl (fun c120 => ?_) (fun c120 => ?_)
 refine zr ?_
 refine zp (pure_eq (s' := .d (.agg [.v (.slice none 0 0), .v (.slice none 0 0)])) (norm_pure (p_build rfl str_25 zero_25 rfl)) (by kernel_rfl)) ?_
 refine XL.step rfl (st_storeN (l' := [.d (.v (.slice none 0 0)), .d (.v (.slice none 0 0))]) rfl rfl rfl rfl sz_25 rfl (Nat.le_of_ble_eq_true rfl) (by kernel_rfl)) ?_
 refine za rfl rfl ?_
 refine zn ?_
 refine zt ?_
 exact ret2 rfl (RV.sub (RV.cells rfl rfl rfl agg_25 (Nat.le_of_ble_eq_true rfl) rfl) (.agg (.cons (.nil 13) (.cons (.nil 4) (.nil))))) (RV.tmp rfl rfl) (r2v ((divS_at hat hne hx hw).trans (dv_4 c54 c71 c89 (by first | exact dn_r c99 | exact dn_n c99) c120)))
 have hof := repl_fit (k := k) (l := _) hF (divN_fit (p := p) (t := t) (a := a) (w := w) hxf) hsv (by first | (rw [← dn_r c99]; exact c120) | (rw [← dn_n c99]; exact c120))
 first | rw [← dn_r c99] at hof | rw [← dn_n c99] at hof
 refine zi ?_
 refine zr ?_
 refine zp (pure_eq (s' := .d (.agg (Vo.c (replS v k 1 ⟨((notesS x.tiedE ((p.m.split (p.off + a) (p.off + t))) false) ++ (notesS x ((p.m.split (p.off + t) (p.off + (a + w)))) true)), []⟩)))) (norm_pure (p_load_boxs rfl rfl agg_25 rfl (Nat.le_of_ble_eq_true rfl))) (by kernel_rfl)) ?_
 refine XL.call1 rfl rfl (vclone_xc _ (by assumption)) rfl ?_
 refine XL.step rfl (st_storeN (l' := [.d (.sl 13 ((replS v k 1 ⟨((notesS x.tiedE ((p.m.split (p.off + a) (p.off + t))) false) ++ (notesS x ((p.m.split (p.off + t) (p.off + (a + w)))) true)), []⟩).evs.map Ev.c)), .d (.sl 4 ((replS v k 1 ⟨((notesS x.tiedE ((p.m.split (p.off + a) (p.off + t))) false) ++ (notesS x ((p.m.split (p.off + t) (p.off + (a + w)))) true)), []⟩).tups.map Tp.c))]) rfl rfl rfl rfl sz_25 rfl (Nat.le_of_ble_eq_true rfl) (by kernel_rfl)) ?_
 refine za rfl rfl ?_
 refine zn ?_
 refine zt ?_
 exact ret2 rfl (RV.cells rfl rfl rfl agg_25 (Nat.le_of_ble_eq_true rfl) rfl) (RV.tmp rfl rfl) (r2v ((divS_at hat hne hx hw).trans (dv_5 c54 c71 c89 (by first | exact dn_r c99 | exact dn_n c99) c120)))
def DivS (v : Vo) (p : Pl) (t : Int) : Vo × Int := if p.chk v ≠ 0 then (⟨[], []⟩, p.chk v) else if v.absent then (⟨[], []⟩, 10) else if t < 0 ∨ p.len < t then (⟨[], []⟩, 2) else divS v p t
theorem Dv_1 {v : Vo} {p : Pl} {t : Int} (h : p.chk v ≠ 0) : DivS v p t = (⟨[], []⟩, p.chk v) := by rw [DivS, if_pos h]
theorem Dv_2 {v : Vo} {p : Pl} {t : Int} (h : ¬ p.chk v ≠ 0) (h2 : v.absent) : DivS v p t = (⟨[], []⟩, 10) := by rw [DivS, if_neg h, if_pos h2]
theorem Dv_3 {v : Vo} {p : Pl} {t : Int} (h : ¬ p.chk v ≠ 0) (h2 : ¬ v.absent) (h3 : t < 0 ∨ p.len < t) : DivS v p t = (⟨[], []⟩, 2) := by rw [DivS, if_neg h, if_neg h2, if_pos h3]
theorem Dv_4 {v : Vo} {p : Pl} {t : Int} (h : ¬ p.chk v ≠ 0) (h2 : ¬ v.absent) (h3 : ¬ (t < 0 ∨ p.len < t)) : DivS v p t = divS v p t := by rw [DivS, if_neg h, if_neg h2, if_neg h3]
theorem Divide_xc (v : Vo) (p : Pl) (t : Int) (hE : Evs v.evs) (hF : v.fit) : XC Tryz.prog 15 [.agg (Vo.c v), .agg (Pl.c p), .v (.int .i64 t)] (fun r => r = .tup [.agg (Vo.c (DivS v p t).1), dI (DivS v p t).2]) := by
 refine xc_body callable_15 Tryz.func15 rfl rfl (Nat.le_of_ble_eq_true rfl) ?_
 refine zr ?_
 refine XL.step rfl (st_boxN 3 (l := [.d (.sl 13 (v.evs.map Ev.c)), .d (.sl 4 (v.tups.map Tp.c))]) rfl rfl (by kernel_rfl)) ?_
 refine XL.step rfl (st_boxN 4 (l := [.d (dI p.m.count), .d (dI p.m.unit), .d (dI p.m.g0), .d (dI p.m.g1), .d (dI p.m.g2), .d (dI p.m.g3), .d (dI p.m.g4), .d (dI p.m.g5), .d (dI p.off), .d (dI p.len)]) rfl rfl (by kernel_rfl)) ?_
 refine XL.step rfl (st_allocN 6 (l := [.d (.v (.slice none 0 0)), .d (.v (.slice none 0 0))]) rfl zero_25 (by kernel_rfl)) ?_
 refine za rfl rfl ?_
 refine zn ?_
 refine zs ?_
 refine zr ?_
 refine zp (pure_eq (s' := .d (.agg (Pl.c p))) (norm_pure (p_load_boxs rfl rfl agg_30 rfl (Nat.le_of_ble_eq_true rfl))) (by kernel_rfl)) ?_
 refine zp (pure_eq (s' := .d (.agg (Vo.c v))) (norm_pure (p_load_boxs rfl rfl agg_25 rfl (Nat.le_of_ble_eq_true rfl))) (by kernel_rfl)) ?_
 refine XL.call1 rfl rfl (pcheck2_xc _ _ (by assumption)) rfl ?_
 refine za rfl rfl ?_
 refine znr ?_
 refine zm rfl rfl ?_
 refine zp (p_neq rfl rfl rfl) ?_
 refine zn ?_
 refine zd rfl (fun c13 => ?_) (fun c13 => ?_)
 refine zr ?_
 refine zp (pure_eq (s' := .d (.agg [.v (.slice none 0 0), .v (.slice none 0 0)])) (norm_pure (p_build rfl str_25 zero_25 rfl)) (by kernel_rfl)) ?_
 refine zm rfl rfl ?_
 refine XL.step rfl (st_storeN (l' := [.d (.v (.slice none 0 0)), .d (.v (.slice none 0 0))]) rfl rfl rfl rfl sz_25 rfl (Nat.le_of_ble_eq_true rfl) (by kernel_rfl)) ?_
 refine za rfl rfl ?_
 refine zn ?_
 refine zt ?_
 exact ret2 rfl (RV.sub (RV.cells rfl rfl rfl agg_25 (Nat.le_of_ble_eq_true rfl) rfl) (.agg (.cons (.nil 13) (.cons (.nil 4) (.nil))))) (RV.tmp rfl rfl) (r2v (Dv_1 c13))
 refine zi ?_
 refine zs ?_
 refine xw_block ?_
 refine zr ?_
 refine zp (pure_eq (s' := .d (.agg (Vo.c v))) (norm_pure (p_load_boxs rfl rfl agg_25 rfl (Nat.le_of_ble_eq_true rfl))) (by kernel_rfl)) ?_
 refine XL.call1 rfl rfl (vabsent_xc _) rfl ?_
 refine za rfl rfl ?_
 refine zn ?_
 refine zd rfl (fun c16 => ?_) (fun c16 => ?_)
 refine zr ?_
 refine zp (pure_eq (s' := .d (.agg [.v (.slice none 0 0), .v (.slice none 0 0)])) (norm_pure (p_build rfl str_25 zero_25 rfl)) (by kernel_rfl)) ?_
 refine XL.step rfl (st_storeN (l' := [.d (.v (.slice none 0 0)), .d (.v (.slice none 0 0))]) rfl rfl rfl rfl sz_25 rfl (Nat.le_of_ble_eq_true rfl) (by kernel_rfl)) ?_
 refine za rfl rfl ?_
 refine zn ?_
 refine zt ?_
 exact ret2 rfl (RV.sub (RV.cells rfl rfl rfl agg_25 (Nat.le_of_ble_eq_true rfl) rfl) (.agg (.cons (.nil 13) (.cons (.nil 4) (.nil))))) (RV.tmp rfl rfl) (r2v (Dv_2 c13 c16))
 refine zr ?_
 refine zm rfl rfl ?_
 refine zp (p_lss rfl rfl rfl) ?_
 refine zm rfl rfl ?_
 refine XL.dec 23 rfl (fun g23 => ?_) (fun g23 => ?_)
 refine zk 4 rfl ?_
 refine zq rfl rfl rfl ?_
 refine za rfl rfl ?_
 refine zn ?_
 refine xw_true (by kernel_rfl) rfl ?_
 refine zr ?_
 refine zp (pure_eq (s' := .d (.agg [.v (.slice none 0 0), .v (.slice none 0 0)])) (norm_pure (p_build rfl str_25 zero_25 rfl)) (by kernel_rfl)) ?_
 refine XL.step rfl (st_storeN (l' := [.d (.v (.slice none 0 0)), .d (.v (.slice none 0 0))]) rfl rfl rfl rfl sz_25 rfl (Nat.le_of_ble_eq_true rfl) (by kernel_rfl)) ?_
 refine za rfl rfl ?_
 refine zn ?_
 refine zt ?_
 exact ret2 rfl (RV.sub (RV.cells rfl rfl rfl agg_25 (Nat.le_of_ble_eq_true rfl) rfl) (.agg (.cons (.nil 13) (.cons (.nil 4) (.nil))))) (RV.tmp rfl rfl) (r2v (Dv_3 c13 c16 (by omega)))
 refine zm rfl rfl ?_
 refine zp (p_fld_ptr rfl rfl fld_30_2) ?_
 refine zp (p_load_box rfl rfl sc_3 rfl rfl) ?_
 refine zp (p_gtr rfl rfl rfl) ?_
 refine zq rfl rfl rfl ?_
 refine za rfl rfl ?_
 refine zn ?_
 refine zd rfl (fun c20 => ?_) (fun c20 => ?_)
 refine zr ?_
 refine zp (pure_eq (s' := .d (.agg [.v (.slice none 0 0), .v (.slice none 0 0)])) (norm_pure (p_build rfl str_25 zero_25 rfl)) (by kernel_rfl)) ?_
 refine XL.step rfl (st_storeN (l' := [.d (.v (.slice none 0 0)), .d (.v (.slice none 0 0))]) rfl rfl rfl rfl sz_25 rfl (Nat.le_of_ble_eq_true rfl) (by kernel_rfl)) ?_
 refine za rfl rfl ?_
 refine zn ?_
 refine zt ?_
 exact ret2 rfl (RV.sub (RV.cells rfl rfl rfl agg_25 (Nat.le_of_ble_eq_true rfl) rfl) (.agg (.cons (.nil 13) (.cons (.nil 4) (.nil))))) (RV.tmp rfl rfl) (r2v (Dv_3 c13 c16 (by omega)))
 refine zi ?_
 refine zs ?_
 have hc0 : p.chk v = 0 := by omega
 refine xw_region (by kernel_rfl) ?_
 refine zp (pure_eq (s' := .d (.agg (Vo.c v))) (norm_pure (p_load_boxs rfl rfl agg_25 rfl (Nat.le_of_ble_eq_true rfl))) (by kernel_rfl)) ?_
 refine zp (pure_eq (s' := .d (.agg (Pl.c p))) (norm_pure (p_load_boxs rfl rfl agg_30 rfl (Nat.le_of_ble_eq_true rfl))) (by kernel_rfl)) ?_
 refine zm rfl rfl ?_
 refine XL.call1 rfl rfl (divide_xc _ _ _ (by assumption) (by assumption) (by assumption)) rfl ?_
 refine zp (p_ext rfl rfl rfl) ?_
 refine zp (p_ext rfl rfl rfl) ?_
 refine XL.step rfl (st_storeN (l' := [.d (.sl 13 (((divS v p t).1).evs.map Ev.c)), .d (.sl 4 (((divS v p t).1).tups.map Tp.c))]) rfl rfl rfl rfl sz_25 rfl (Nat.le_of_ble_eq_true rfl) (by kernel_rfl)) ?_
 refine za rfl rfl ?_
 refine zn ?_
 refine zt ?_
 exact ret2 rfl (RV.cells rfl rfl rfl agg_25 (Nat.le_of_ble_eq_true rfl) rfl) (RV.tmp rfl rfl) (by rw [← Dv_4 c13 c16 (by omega)]; rfl)
end Go.Proofs.YtcihalbakenleaaGreat
namespace Go.Proofs.YtcihalbakenleaaGreat
theorem tot_cons (x : Int) (l : List Int) : tot (x :: l) = x + tot l := by
 have h : ∀ (l : List Int) (a : Int), l.foldl (· + ·) a = a + tot l := by
  intro l
  induction l with
  | nil => intro a; show a = a + 0; omega
  | cons y l ih =>
   intro a
   rw [List.foldl_cons, ih]
   show a + y + tot l = a + List.foldl (· + ·) 0 (y :: l)
   rw [List.foldl_cons, ih]; omega
 unfold tot
 rw [List.foldl_cons, h]
 show 0 + x + tot l = x + tot l
 omega
theorem tot_nil : tot [] = 0 := rfl
theorem tot_app (a b : List Int) : tot (a ++ b) = tot a + tot b := by
 induction a with
 | nil => rw [List.nil_append, tot_nil]; omega
 | cons x a ih => rw [List.cons_append, tot_cons, tot_cons, ih]; omega
theorem wrS_app (a b : List Ev) : wrS (a ++ b) = wrS a ++ wrS b := List.map_append
theorem wrS_len (a : List Ev) : (wrS a).length = a.length := List.length_map _
theorem wrS_take (a : List Ev) (k : Nat) : wrS (a.take k) = (wrS a).take k := List.map_take
theorem wrS_drop (a : List Ev) (k : Nat) : wrS (a.drop k) = (wrS a).drop k := List.map_drop
/-- a voice without measure rest, and its lengths -/
structure VL (v : Vo) (ls : List Int) : Prop where
 tl : TL v.tups (wrS v.evs) ls
 ev : ∀ e ∈ v.evs, e.err = 0 ∧ e.kind ≠ 3
/-- is a voice a measure rest? -/
def Vo.rest (v : Vo) : Prop := v.whole ∧ v.evs.length = 1
instance (v : Vo) : Decidable v.rest := by unfold Vo.rest; exact inferInstance
theorem inGo_zero {n : Nat} : ∀ {l : List Ev} {k : Nat}, inGo n k l = 0 ↔ ∀ j e, l[j]? = some e → e.err = 0 ∧ ¬ (e.kind = 3 ∧ (0 < k + j ∨ 1 < n))
 | [], k => ⟨fun _ j e h => by simp at h, fun _ => rfl⟩
 | e :: r, k => by
  rw [inGo]
  split
  ·rename_i c
   exact ⟨fun h => absurd h c, fun h => absurd (h 0 e rfl).1 c⟩
  ·rename_i c
   split
   ·rename_i c2
    exact ⟨fun h => by omega, fun h => absurd c2 (h 0 e rfl).2⟩
   ·rename_i c2
    rw [inGo_zero]
    constructor
    ·intro h j x hj
     cases j with
     | zero => cases hj; exact ⟨Decidable.not_not.1 c, c2⟩
     | succ j => have := h j x hj; exact ⟨this.1, fun k => this.2 ⟨k.1, by omega⟩⟩
    ·intro h j x hj
     have := h (j + 1) x hj; exact ⟨this.1, fun k => this.2 ⟨k.1, by omega⟩⟩
theorem innE_zero {v : Vo} : innE v = 0 ↔ inGo v.evs.length 0 v.evs = 0 ∧ tlenE v.tups (wrS v.evs) = 0 ∧ tunitE v.tups (wrS v.evs) = 0 := by
 unfold innE
 split
 ·omega
 ·split
  ·omega
  ·split <;> omega
theorem inn_iff {v : Vo} {ls : List Int} (h : ¬ v.rest) : (innE v = 0 ∧ ls = innL v) ↔ VL v ls := by
 rw [innE_zero]
 constructor
 ·rintro ⟨⟨h1, h2, h3⟩, h4⟩
  have h0 : innE v = 0 := innE_zero.2 ⟨h1, h2, h3⟩
  rw [innL, if_pos h0] at h4
  refine ⟨TL_iff.2 ⟨h2, h3, h4⟩, fun e he => ?_⟩
  obtain ⟨j, hj⟩ := List.getElem?_of_mem he
  have h5 := inGo_zero.1 h1 j e hj
  refine ⟨h5.1, fun k => ?_⟩
  have h6 := fun q => h5.2 ⟨k, q⟩
  have hl := (List.getElem?_eq_some_iff.1 hj).1
  have : j = 0 ∧ v.evs.length = 1 := by omega
  rw [this.1] at hj
  exact h ⟨(whole_at hj).2 k, this.2⟩
 ·intro hv
  obtain ⟨h2, h3, h4⟩ := TL_iff.1 hv.tl
  have h1 : inGo v.evs.length 0 v.evs = 0 := inGo_zero.2 fun j e hj => by
   have := hv.ev e (List.mem_of_getElem? hj)
   exact ⟨this.1, fun k => this.2 k.1⟩
  refine ⟨⟨h1, h2, h3⟩, ?_⟩
  rw [innL, if_pos (innE_zero.2 ⟨h1, h2, h3⟩)]; exact h4
theorem VL.norest {v : Vo} {ls : List Int} (h : VL v ls) : ¬ v.rest := fun k => by
 obtain ⟨e, he⟩ : ∃ e, v.evs[0]? = some e := get_ex (by rw [k.2]; omega)
 exact (h.ev e (List.mem_of_getElem? he)).2 ((whole_at he).1 k.1)
theorem VL.len {v : Vo} {ls : List Int} (h : VL v ls) : ls.length = v.evs.length := by rw [h.tl.ls, lensGo_len, wrS_len]
theorem VL.evs {v : Vo} {ls : List Int} (h : VL v ls) : v.evs.length ≤ 128 := by have := h.tl.wl; rwa [wrS_len] at this
theorem VL.inn {v : Vo} {ls : List Int} (h : VL v ls) : innE v = 0 ∧ innL v = ls := by have := (inn_iff h.norest).2 h; exact ⟨this.1, this.2.symm⟩
theorem ck_vl {v : Vo} {L : Int} {ls : List Int} (h : ¬ v.rest) : (ckE v L = 0 ∧ ls = ckL v L) ↔ 1 ≤ L ∧ L ≤ 15482880 ∧ VL v ls ∧ (v.evs ≠ [] → tot ls = L) := by
 have hz : ∀ l : List Ev, l = [] ↔ l.length = 0 := fun l => by cases l <;> simp
 constructor
 ·rintro ⟨h1, h2⟩
  obtain ⟨h3, h4⟩ := ck_len h1
  obtain ⟨h5, _, h6, h7⟩ := len_ok h3
  have h8 : lenE v L = innE v := by rw [lenE, if_neg (by omega), if_neg (by omega), if_neg (show ¬ (v.whole ∧ v.evs.length = 1) from h)]
  have h9 : lenL v L = innL v := by rw [lenL, if_neg (by omega), if_neg (show ¬ (v.whole ∧ v.evs.length = 1) from h)]
  have hv : VL v ls := (inn_iff h).1 ⟨by omega, by rw [h2, h4, h9]⟩
  refine ⟨h6, h7, hv, fun hne => ?_⟩
  rw [h2, h4]
  unfold ckE at h1
  split at h1
  ·omega
  ·rename_i c
   refine Decidable.not_not.1 fun k => c ⟨h3, ?_, k⟩
   rw [h9, hv.inn.2, hv.len]
   have := (not_congr (hz v.evs)).1 hne; omega
 ·rintro ⟨h6, h7, hv, ht⟩
  obtain ⟨h1, h2⟩ := hv.inn
  have h5 := hv.evs
  have h8 : lenE v L = 0 := by rw [lenE, if_neg (by omega), if_neg (by omega), if_neg (show ¬ (v.whole ∧ v.evs.length = 1) from h)]; exact h1
  have h9 : lenL v L = ls := by rw [lenL, if_neg (by omega), if_neg (show ¬ (v.whole ∧ v.evs.length = 1) from h)]; exact h2
  have h10 : ckE v L = 0 := by
   rw [ckE, if_neg]
   ·exact h8
   ·rintro ⟨_, k1, k2⟩
    rw [h9] at k1 k2
    rw [hv.len] at k1
    exact k2 (ht fun e => by rw [hz] at e; omega)
  exact ⟨h10, by rw [ckL, if_neg (by omega), h9]⟩
theorem ck_rest {v : Vo} {L : Int} (h : v.rest) (h1 : ckE v L = 0) : v.tups = [] ∧ ckL v L = [L] ∧ ∃ e, v.evs = [e] ∧ e.err = 0 ∧ e.kind = 3 := by
 obtain ⟨h3, h4⟩ := ck_len h1
 obtain ⟨h5, h2, h6, h7⟩ := len_ok h3
 have h' := h
 obtain ⟨hw, hl⟩ := h
 cases hv : v.evs with
 | nil => rw [hv] at hl; cases hl
 | cons e l =>
  have hl2 : l = [] := by rw [hv] at hl; exact List.eq_nil_of_length_eq_zero (by simpa using hl)
  subst hl2
  have he : v.evs[0]? = some e := by rw [hv]; rfl
  have := len_c (L := L) (by omega) (by omega) (by omega) hw (by omega) he
  rw [h3] at this
  refine ⟨?_, by rw [h4, lenL, if_neg (by omega), if_pos (show v.whole ∧ v.evs.length = 1 from h')], e, rfl, ?_, (whole_at he).1 hw⟩
  ·by_cases c : e.err ≠ 0
   ·rw [if_pos c] at this; exact absurd this.symm c
   ·rw [if_neg c] at this
    by_cases c2 : 0 < v.tups.length
    ·rw [if_pos c2] at this; omega
    ·exact List.eq_nil_of_length_eq_zero (by omega)
  ·by_cases c : e.err ≠ 0
   ·rw [if_pos c] at this; exact absurd this.symm c
   ·exact Decidable.not_not.1 c
/-- a part of a voice between two places that no tuplet lies across -/
def partV (v : Vo) (a n : Nat) : Vo := ⟨(v.evs.drop a).take n, (v.tups.filter fun t => decide ((a : Int) ≤ t.first ∧ t.first < (a : Int) + n)).map (Tp.mv (-a))⟩
theorem VL.repl {v x : Vo} {ls lx : List Int} {a n : Nat} (h : VL v ls) (ha : a + n ≤ v.evs.length) (h1 : Free v.tups a) (h2 : Free v.tups ((a : Int) + n)) (hx : VL x lx) (hc : v.evs.length - n + x.evs.length ≤ 128)
  (ht : (replS v a n x).tups.length ≤ 16) : VL (replS v a n x) (ls.take a ++ lx ++ ls.drop (a + n)) := by
 have hwl := wrS_len v.evs
 obtain ⟨hA, _⟩ := h.tl.cut (a := a) (by rw [hwl]; omega) h1
 obtain ⟨_, hC⟩ := h.tl.cut (a := a + n) (by rw [hwl]; exact ha) (by rw [Int.natCast_add]; exact h2)
 have hXC := TL.app hx.tl hC (by rw [List.length_drop, hwl, wrS_len]; omega)
 have e0 : movedS (fun t => decide (t.first < (a : Int))) 0 v.tups = v.tups.filter fun t => decide (t.first < (a : Int)) := by
  unfold movedS
  rw [show Tp.mv 0 = id from funext mv_zero, List.map_id]
 have e1 : (movedS (fun t => decide ((a : Int) + n ≤ t.first)) (x.evs.length - n) v.tups) = ((((v.tups.filter fun t => decide (((a + n : Nat) : Int) ≤ t.first)).map (Tp.mv (-((a + n : Nat) : Int)))).map (Tp.mv (wrS x.evs).length)).map (Tp.mv ((wrS v.evs).take a).length)) := by
  unfold movedS
  rw [List.map_map, List.map_map, show (((wrS v.evs).take a).length) = a from by rw [List.length_take, hwl]; omega, wrS_len]
  have : (Tp.mv (a : Int)) ∘ ((Tp.mv (x.evs.length : Int)) ∘ Tp.mv (-((a + n : Nat) : Int))) = Tp.mv (x.evs.length - n) := by
   funext t
   show ((t.mv _).mv _).mv _ = _
   rw [mv_mv, mv_mv]; congr 1; omega
  rw [show ((Tp.mv (a : Int)) ∘ (Tp.mv (x.evs.length : Int))) ∘ Tp.mv (-((a + n : Nat) : Int)) = Tp.mv (x.evs.length - n) from this, Int.natCast_add]
 have e2 : movedS (fun _ => true) a x.tups = x.tups.map (Tp.mv ((wrS v.evs).take a).length) := by
  unfold movedS
  rw [List.filter_eq_self.2 (fun _ _ => rfl), show (((wrS v.evs).take a).length) = a from by rw [List.length_take, hwl]; omega]
 have et : (replS v a n x).tups = (v.tups.filter fun t => decide (t.first < (a : Int))) ++ (x.tups ++ ((v.tups.filter fun t => decide (((a + n : Nat) : Int) ≤ t.first)).map (Tp.mv (-((a + n : Nat) : Int)))).map (Tp.mv (wrS x.evs).length)).map (Tp.mv ((wrS v.evs).take a).length) := by
  show movedS _ 0 v.tups ++ movedS _ a x.tups ++ movedS _ _ v.tups = _
  rw [e0, e1, e2, List.map_append, List.append_assoc]
 have ht2 := ht
 rw [et, List.length_append, List.length_map] at ht2
 have hXC := hXC (by rw [List.length_append, List.length_map] at ht2; omega)
 have hall := TL.app hA hXC (by rw [List.length_take, List.length_append, List.length_drop, hwl, wrS_len]; omega) ht2
 refine ⟨?_, fun e he => ?_⟩
 ·rw [et]
  have : wrS (replS v a n x).evs = (wrS v.evs).take a ++ (wrS x.evs ++ (wrS v.evs).drop (a + n)) := by
   show wrS (v.evs.take a ++ x.evs ++ v.evs.drop (a + n)) = _
   rw [wrS_app, wrS_app, wrS_take, wrS_drop, List.append_assoc]
  rw [this, List.append_assoc]; exact hall
 ·rcases List.mem_append.1 he with k | k
  ·rcases List.mem_append.1 k with k | k
   ·exact h.ev e (List.mem_of_mem_take k)
   ·exact hx.ev e k
  ·exact h.ev e (List.mem_of_mem_drop k)
/- values -/
theorem findV_ok {d : Int} (h : findE d = 0) : valErr (findV d) = 0 ∧ valTicks (findV d) = d := by
 unfold findE at h
 split at h
 ·omega
 ·rename_i c
  cases hf : findO d allV with
  | none => exact absurd hf c
  | some v =>
   have e : findV d = v := by rw [findV, hf]; rfl
   rw [e]
   have h1 := List.mem_of_find?_eq_some hf
   have h2 := List.find?_some hf
   obtain ⟨q, _, rfl⟩ := List.mem_map.1 h1
   exact ⟨(valErr_ok (valAt_ok q.2)).symm, by simpa using h2⟩
theorem find_7560 : findE 7560 = 0 := by decide +kernel
theorem strK_some {m : Me} {a : Int} : ∀ k, 0 < k → (strK m a k).2.2 = true
 | k + 1, _ => by
  by_cases c : (strK m a k).2.2 = false ∨ m.level (a + 7560 * (k + 1)) < (strK m a k).2.1
  ·rw [strK_yes c]
  ·rw [strK, if_neg c]
   cases e : (strK m a k).2.2 with
   | true => rfl
   | false => exact absurd (.inl e) c
theorem strong_none {m : Me} {a b : Int} (h : (m.strong a b).2.2 = false) : strN a b = 0 := by
 by_cases c : strN a b = 0
 ·exact c
 ·have := strK_some (m := m) (a := a) (strN a b) (by omega)
  rw [show strK m a (strN a b) = m.strong a b from rfl, h] at this
  cases this
theorem splitF_sum {m : Me} : ∀ (f : Nat) (a b : Int), SpP f a b → a % 7560 = 0 → b % 7560 = 0 → tot ((splitF m f a b).map valTicks) = b - a ∧ ∀ v ∈ splitF m f a b, valErr v = 0
 | 0, a, b, h, _, _ => by have := h.2.2.2.2; omega
 | f + 1, a, b, h, ha, hb => by
  by_cases c : a = b
  ·rw [splitF_nil c]; exact ⟨by show (0 : Int) = b - a; omega, fun v hv => by cases hv⟩
  ·by_cases c2 : m.simp a b ∨ (m.strong a b).2.2 = false
   ·rw [splitF_one c c2]
    have h0 : findE (b - a) = 0 := by
     rcases c2 with k | k
     ·exact k.1
     ·have k2 := strong_none k
      have := h.2.1
      unfold strN at k2
      have : b - a = 7560 := by omega
      rw [this]; exact find_7560
    obtain ⟨h1, h2⟩ := findV_ok h0
    refine ⟨?_, fun v hv => by rw [List.mem_singleton.1 hv]; exact h1⟩
    rw [List.map_singleton, h2, tot_cons, tot_nil]; omega
   ·have hs : ¬ m.simp a b := fun k => c2 (.inl k)
    have hw : (m.strong a b).2.2 = true := by
     cases e : (m.strong a b).2.2 with
     | true => rfl
     | false => exact absurd (.inr e) c2
    obtain ⟨h1, h2, _⟩ := spp_parts h hw
    obtain ⟨j, _, hj⟩ := strong_bd hw
    obtain ⟨q1, q2⟩ := splitF_sum f _ _ h1 ha (by rw [hj]; omega)
    obtain ⟨q3, q4⟩ := splitF_sum f _ _ h2 (by rw [hj]; omega) hb
    rw [splitF_cut c hs hw, List.map_append, tot_app]
    refine ⟨by rw [q1, q3]; omega, fun v hv => ?_⟩
    rcases List.mem_append.1 hv with k | k
    ·exact q2 v k
    ·exact q4 v k
theorem splitE_ok {m : Me} {a b : Int} (h : m.splitE a b = 0) : m.err = 0 ∧ 0 ≤ a ∧ a ≤ b ∧ b ≤ 4398046511104 ∧ a % 7560 = 0 ∧ b % 7560 = 0 ∧ b - a ≤ 15482880 ∧ m.split a b = splitF m (strN a b + 1) a b := by
 have hs : m.split a b = splitF m (strN a b + 1) a b := by rw [Me.split, if_pos h]
 unfold Me.splitE at h
 split at h
 ·omega
 ·split at h
  ·omega
  ·split at h
   ·omega
   ·split at h
    ·omega
    ·exact ⟨by omega, by omega, by omega, by omega, by omega, by omega, by omega, hs⟩
theorem split_sum {m : Me} {a b : Int} (h : m.splitE a b = 0) : tot ((m.split a b).map valTicks) = b - a ∧ ∀ v ∈ m.split a b, valErr v = 0 := by
 obtain ⟨_, h1, h2, h3, h4, h5, h6, h7⟩ := splitE_ok h
 rw [h7]
 exact splitF_sum _ a b ⟨h1, h2, h3, h6, Nat.le_refl _⟩ h4 h5
/- events -/
theorem err_iff {e : Ev} : e.err = 0 ↔ e.e1 = 0 ∧ (1 ≤ e.kind ∧ e.kind ≤ 4) ∧ e.same e.strip ∧ (e.kind ≠ 3 → valErr e.v = 0) ∧ (e.kind = 1 → e.e2 = 0) ∧ e.e3 = 0 := by
 unfold Ev.err
 split
 ·rename_i c; exact ⟨fun h => absurd h c, fun h => absurd h.1 c⟩
 ·rename_i c
  split
  ·rename_i c2; exact ⟨fun h => by omega, fun h => absurd h.2.1 c2⟩
  ·rename_i c2
   split
   ·rename_i c3; exact ⟨fun h => by omega, fun h => absurd h.2.2.1 c3⟩
   ·rename_i c3
    split
    ·rename_i c4; exact ⟨fun h => by omega, fun h => absurd (h.2.2.2.1 c4.1) c4.2⟩
    ·rename_i c4
     split
     ·rename_i c5; exact ⟨fun h => absurd h c5.2, fun h => absurd (h.2.2.2.2.1 c5.1) c5.2⟩
     ·rename_i c5
      refine ⟨fun h => ⟨Decidable.not_not.1 c, Decidable.not_not.1 c2, Decidable.not_not.1 c3, fun k => Decidable.not_not.1 fun j => c4 ⟨k, j⟩, fun k => Decidable.not_not.1 fun j => c5 ⟨k, j⟩, h⟩, fun h => h.2.2.2.2.2⟩
theorem first_zero {l : List Int} : firstS l = 0 ↔ ∀ x ∈ l, x = 0 := by
 induction l with
 | nil => simp [firstS]
 | cons x l ih =>
  rw [firstS]
  by_cases h : x = 0
  ·rw [if_neg (by omega), ih]; simp [h]
  ·rw [if_pos h]; simp [h]
theorem within_zero {n m : Int} : withinS n m = 0 ↔ 0 ≤ n ∧ n ≤ m := by
 unfold withinS
 split <;> omega
theorem headsGo_map {f : Hd → Hd} (hp : ∀ h, (f h).p = h.p) : ∀ {l : List Hd} {n : Int}, (∀ h ∈ l, withinS h.sh 2 = 0 → withinS (f h).sh 2 = 0) → headsGo n l = 0 → headsGo n (l.map f) = 0
 | [], n, _, _ => rfl
 | h :: t, n, hf, h0 => by
  rw [headsGo] at h0
  rw [List.map_cons, headsGo, hp]
  split at h0
  ·rename_i c; exact absurd h0 c
  ·rename_i c
   split at h0
   ·omega
   ·rename_i c2
    have hw : wellS h = 0 := Decidable.not_not.1 c
    have hw2 : wellS (f h) = 0 := by
     unfold wellS at hw ⊢
     rw [first_zero] at hw ⊢
     intro x hx
     have h1 := hw h.p.err (by simp)
     have h2 := hf h List.mem_cons_self (hw _ (by simp))
     rw [hp] at hx
     simp only [List.mem_cons, List.not_mem_nil, or_false] at hx
     rcases hx with e | e
     ·rw [e]; exact h1
     ·rw [e]; exact h2
    rw [if_neg (by omega), if_neg c2]
    exact headsGo_map hp (fun x hx => hf x (List.mem_cons_of_mem _ hx)) h0
theorem headsErr_map {f : Hd → Hd} (hp : ∀ h, (f h).p = h.p) {l : List Hd} (hf : ∀ h ∈ l, withinS h.sh 2 = 0 → withinS (f h).sh 2 = 0) (h : headsErr l = 0) : headsErr (l.map f) = 0 := by
 unfold headsErr at h ⊢
 rw [List.length_map]
 split at h
 ·omega
 ·split at h
  ·omega
  ·rename_i c1 c2
   rw [if_neg c1, if_neg c2]; exact headsGo_map hp hf h
/-- an event that has another value, and other heads of the same pitches -/
theorem Ev.err_put {x : Ev} (h : x.err = 0) (hk : x.kind ≠ 3) {v : Val} (hv : valErr v = 0) (t : Bool) : (x.put v t).err = 0 := by
 rw [err_iff] at h ⊢
 obtain ⟨h1, h2, h3, h4, h5, h6⟩ := h
 refine ⟨h1, h2, ?_, fun _ => hv, fun k => ?_, h6⟩
 ·by_cases c : x.kind = 1
  ·have : (x.put v t).strip = x.put v t := (strip_1 (e := x.put v t) c).symm
   rw [this]; exact ⟨rfl, rfl, rfl, rfl, rfl, rfl, rfl, rfl, rfl, rfl⟩
  ·have hs : x.strip = ⟨x.site, x.num, x.kind, x.v, [], [], if x.kind ≠ 4 then fermS x.art else 0, 0, x.dyn, [], 0, 0⟩ := by rw [Ev.strip, if_neg (by omega), if_pos hk]
   have hs2 : (x.put v t).strip = ⟨x.site, x.num, x.kind, v, [], [], if x.kind ≠ 4 then fermS x.art else 0, 0, x.dyn, [], 0, 0⟩ := by
    have : ¬ ((x.put v t).kind = 1 ∨ ¬ (1 ≤ (x.put v t).kind ∧ (x.put v t).kind ≤ 4)) := by show ¬ (x.kind = 1 ∨ ¬ (1 ≤ x.kind ∧ x.kind ≤ 4)); omega
    rw [Ev.strip, if_neg this, if_pos (show (x.put v t).kind ≠ 3 from hk)]; rfl
   rw [hs] at h3
   rw [hs2]
   obtain ⟨k1, k2, k3, k4, k5, k6, k7, k8, k9, k10⟩ := h3
   refine ⟨k1, rfl, k3, k4, k5, k6, k7, ?_, k9, k10⟩
   show (if t then x.heads.map Hd.tie else x.heads) = []
   rw [show x.heads = [] from k8]; cases t <;> rfl
 ·have := h5 k
  unfold Ev.e2 at this ⊢
  rw [first_zero] at this ⊢
  intro y hy
  simp only [List.mem_cons, List.not_mem_nil, or_false] at hy
  rcases hy with e | e | e
  ·rw [e]
   have h7 := this (headsErr x.heads) (by simp)
   show headsErr (if t then x.heads.map Hd.tie else x.heads) = 0
   cases t with
   | false => exact h7
   | true => exact headsErr_map (f := Hd.tie) (fun _ => rfl) (fun _ _ j => j) h7
  ·rw [e]; exact this _ (by simp [Ev.put])
  ·rw [e]; exact this _ (by simp [Ev.put])
theorem Ev.err_further {x : Ev} (h : x.err = 0) (hk : x.kind ≠ 3) : x.further.err = 0 := by
 rw [err_iff] at h ⊢
 obtain ⟨h1, h2, h3, h4, h5, h6⟩ := h
 have h6' := first_zero.1 h6
 refine ⟨by rfl, h2, ?_, fun _ => by rfl, fun k => ?_, ?_⟩
 ·by_cases c : x.kind = 1
  ·have : x.further.strip = x.further := (strip_1 (e := x.further) c).symm
   rw [this]; exact ⟨rfl, rfl, rfl, rfl, rfl, rfl, rfl, rfl, rfl, rfl⟩
  ·have hs : x.strip = ⟨x.site, x.num, x.kind, x.v, [], [], if x.kind ≠ 4 then fermS x.art else 0, 0, x.dyn, [], 0, 0⟩ := by rw [Ev.strip, if_neg (by omega), if_pos hk]
   have hs2 : x.further.strip = ⟨0, 0, x.kind, ⟨0, 0⟩, [], [], if x.kind ≠ 4 then fermS 0 else 0, 0, 0, [], 0, 0⟩ := by
    have : ¬ (x.further.kind = 1 ∨ ¬ (1 ≤ x.further.kind ∧ x.further.kind ≤ 4)) := by show ¬ (x.kind = 1 ∨ ¬ (1 ≤ x.kind ∧ x.kind ≤ 4)); omega
    rw [Ev.strip, if_neg this, if_pos (show x.further.kind ≠ 3 from hk)]; rfl
   rw [hs] at h3
   rw [hs2]
   obtain ⟨k1, k2, k3, k4, k5, k6, k7, k8, k9, k10⟩ := h3
   refine ⟨rfl, rfl, ?_, rfl, rfl, k6, rfl, ?_, rfl, rfl⟩
   ·show (0 : Int) = if x.kind ≠ 4 then fermS 0 else 0
    split <;> rfl
   ·show x.heads.map Hd.plain = []
    rw [show x.heads = [] from k8]; rfl
 ·have := h5 k
  unfold Ev.e2 at this ⊢
  rw [first_zero] at this ⊢
  intro y hy
  simp only [List.mem_cons, List.not_mem_nil, or_false] at hy
  rcases hy with e | e | e
  ·rw [e]
   exact headsErr_map (f := Hd.plain) (fun _ => rfl) (fun _ _ _ => rfl) (this (headsErr x.heads) (by simp))
  ·rw [e]; rfl
  ·rw [e]; rfl
 ·refine first_zero.2 fun y hy => ?_
  simp only [List.mem_cons, List.not_mem_nil, or_false] at hy
  rcases hy with e | e | e | e | e
  ·rw [e]; rfl
  ·rw [e]; rfl
  ·rw [e]; rfl
  ·rw [e]; exact h6' _ (by simp [Ev.further])
  ·rw [e]; rfl
theorem Ev.len_ok {x : Ev} (h : x.err = 0) (hk : x.kind ≠ 3) : x.len = valTicks x.v := by
 rw [Ev.len, if_neg (by omega), valT, if_pos ((err_iff.1 h).2.2.2.1 hk)]
theorem noteAt_ok {x : Ev} (h : x.err = 0) (hk : x.kind ≠ 3) {v : Val} (hv : valErr v = 0) (n i : Nat) (fu : Bool) : (noteAt x n fu i v).err = 0 ∧ (noteAt x n fu i v).kind ≠ 3 ∧ (noteAt x n fu i v).v = v := by
 unfold noteAt
 split
 ·exact ⟨Ev.err_put (Ev.err_further h hk) hk hv _, hk, rfl⟩
 ·exact ⟨Ev.err_put h hk hv _, hk, rfl⟩
theorem notesS_ok {x : Ev} (h : x.err = 0) (hk : x.kind ≠ 3) {vs : List Val} (hv : ∀ v ∈ vs, valErr v = 0) (fu : Bool) : (∀ e ∈ notesS x vs fu, e.err = 0 ∧ e.kind ≠ 3) ∧ wrS (notesS x vs fu) = vs.map valTicks := by
 constructor
 ·intro e he
  obtain ⟨i, hi⟩ := List.getElem?_of_mem he
  rw [notesS, List.getElem?_mapIdx] at hi
  cases hv2 : vs[i]? with
  | none => rw [hv2] at hi; cases hi
  | some v =>
   rw [hv2] at hi; cases hi
   have := noteAt_ok h hk (hv v (List.mem_of_getElem? hv2)) vs.length i fu
   exact ⟨this.1, this.2.1⟩
 ·unfold wrS
  refine List.ext_getElem? fun i => ?_
  rw [List.getElem?_map, notesS, List.getElem?_mapIdx, List.getElem?_map]
  cases hv2 : vs[i]? with
  | none => rfl
  | some v =>
   have := noteAt_ok h hk (hv v (List.mem_of_getElem? hv2)) vs.length i fu
   simp only [Option.map_some]
   rw [Ev.len_ok this.1 this.2.1, this.2.2]
theorem dotted_sum {p : Int} (h0 : 0 ≤ p) (n : Nat) : (dotted p n).1 + (dotted p n).2 ≤ 2 * p := by
 induction n with
 | zero => simp [dotted]; omega
 | succ n ih => have := (dotted_bd h0 n).1; simp only [dotted]; omega
theorem val_le {v : Val} (h : valErr v = 0) : 0 ≤ valTicks v ∧ valTicks v ≤ 7741440 := by
 have h1 := valPlain_bd v
 have h2 := dotted_sum h1.1 v.dots.toNat
 have h3 := dotted_bd h1.1 v.dots.toNat
 unfold valTicks
 omega
theorem wr_bd {l : List Ev} (h : ∀ e ∈ l, e.err = 0 ∧ e.kind ≠ 3) : ∀ w ∈ wrS l, 0 ≤ w ∧ w ≤ 7741440 := by
 intro w hw
 obtain ⟨e, he, rfl⟩ := List.mem_map.1 hw
 have := h e he
 rw [Ev.len_ok this.1 this.2]
 exact val_le ((err_iff.1 this.1).2.2.2.1 this.2)
/-- events without tuplets -/
theorem VL.nil {l : List Ev} (h : ∀ e ∈ l, e.err = 0 ∧ e.kind ≠ 3) (hl : l.length ≤ 128) : VL ⟨l, []⟩ (wrS l) := ⟨TL.nil (by rw [wrS_len]; exact hl) (wr_bd h), h⟩
end Go.Proofs.YtcihalbakenleaaGreat
namespace Go.Proofs.YtcihalbakenleaaGreat
theorem TV.mono {l : List Tp} {n m : Int} (h : TV l n) (hm : n ≤ m) : TV l m := ⟨fun t ht => by have := h.inR t ht; unfold Tp.inR at *; omega, h.ord, h.nest, h.dep⟩
theorem TL.err128 {T : List Tp} {ws ls : List Int} (h : TL T ws ls) : tupErr T 128 = 0 := tupErr_iff.2 ⟨by omega, by omega, h.tl, h.tv.mono (by have := h.wl; omega)⟩
theorem depth_hits {T : List Tp} {ws ls : List Int} (h : TL T ws ls) (k : Int) : depthS T k = (hits T k : Int) := by rw [depthS, if_neg (by have := h.err128; omega)]
theorem hits_none {T : List Tp} {k : Int} (h : hits T k = 0) : ∀ t ∈ T, ¬ t.has k := by
 intro t ht hh
 unfold hits at h
 have := List.eq_nil_of_length_eq_zero h
 rw [List.filter_eq_nil_iff] at this
 exact this t ht (by simpa using hh)
theorem free_at {T : List Tp} {k : Int} (h : ∀ t ∈ T, ¬ t.has k) : Free T k ∧ Free T (k + 1) := by
 refine ⟨fun t ht => ?_, fun t ht => ?_⟩ <;> (have := h t ht; unfold Tp.has at this; unfold Tp.e; omega)
theorem evs_of {l : List Ev} (h : ∀ e ∈ l, e.err = 0) : Evs l := fun e he => by
 have := first_zero.1 (err_iff.1 (h e he)).2.2.2.2.2 (withinS e.art 31) (by simp)
 rw [within_zero] at this
 omega
theorem ck_fits {v : Vo} {L : Int} (h : ckE v L = 0) : (∀ e ∈ v.evs, e.err = 0) ∧ Evs v.evs := by
 have h1 : ∀ e ∈ v.evs, e.err = 0 := by
  by_cases c : v.rest
  ·obtain ⟨_, _, e, he, h2, _⟩ := ck_rest c h
   intro x hx
   rw [he] at hx
   rw [List.mem_singleton.1 hx]; exact h2
  ·obtain ⟨_, _, hv, _⟩ := (ck_vl c).1 ⟨h, rfl⟩
   exact fun e he => (hv.ev e he).1
 exact ⟨h1, evs_of h1⟩
/-- events put in the place of others in a valid voice -/
theorem ck_repl {v x : Vo} {L : Int} {a n : Nat} {lx : List Int} (h : ckE v L = 0) (hr : ¬ v.rest) (ha : a + n ≤ v.evs.length) (h1 : Free v.tups a) (h2 : Free v.tups ((a : Int) + n)) (hx : VL x lx)
  (hc : v.evs.length - n + x.evs.length ≤ 128) (ht : (replS v a n x).tups.length ≤ 16) (ht2 : v.evs ≠ [] → tot lx = tot (((ckL v L).drop a).take n)) (hn : (replS v a n x).evs ≠ [] → v.evs ≠ []) :
  ckE (replS v a n x) L = 0 ∧ ckL (replS v a n x) L = (ckL v L).take a ++ lx ++ (ckL v L).drop (a + n) ∧ ¬ (replS v a n x).rest := by
 obtain ⟨h3, h4, hv, h5⟩ := (ck_vl hr).1 ⟨h, rfl⟩
 have hl := hv.len
 have hR := hv.repl ha h1 h2 hx hc ht
 have := (ck_vl hR.norest).2 ⟨h3, h4, hR, fun hne => ?_⟩
 ·exact ⟨this.1, this.2.symm, hR.norest⟩
 ·have hne := hn hne
  rw [tot_app, tot_app, ht2 hne]
  have e : ckL v L = (ckL v L).take a ++ ((ckL v L).drop a).take n ++ (ckL v L).drop (a + n) := by
   rw [List.append_assoc, ← List.drop_drop, List.take_append_drop, List.take_append_drop]
  have := h5 hne
  rw [e, tot_app, tot_app] at this
  exact this
theorem moved_nil (p : Tp → Bool) (b : Int) : movedS p b [] = [] := rfl
theorem repl_tups {v : Vo} {a n : Nat} {l : List Ev} : (replS v a n ⟨l, []⟩).tups.length ≤ v.tups.length := by
 show (movedS _ 0 v.tups ++ movedS _ a [] ++ movedS _ _ v.tups).length ≤ _
 rw [moved_nil, List.append_nil, List.length_append]
 unfold movedS
 rw [List.length_map, List.length_map, ← List.countP_eq_length_filter, ← List.countP_eq_length_filter]
 have : ∀ l : List Tp, l.countP (fun t => decide (t.first < (a : Int))) + l.countP (fun t => decide ((a : Int) + n ≤ t.first)) ≤ l.length := by
  intro l
  induction l with
  | nil => simp
  | cons t l ih =>
   rw [List.countP_cons, List.countP_cons, List.length_cons]
   by_cases c : t.first < (a : Int)
   ·have c2 : ¬ (a : Int) + n ≤ t.first := by omega
    simp [c, c2]; omega
   ·simp [c]; split <;> omega
 exact this _
/-- what dividing does to a valid voice -/
inductive DivR (v : Vo) (p : Pl) (t : Int) : Prop
 | same (h : divS v p t = (v, 0))
 | err (h : (divS v p t).2 ≠ 0) (h1 : (divS v p t).1 = ⟨[], []⟩)
 | div (k : Nat) (a w : Int) (x : Ev) (hk : v.evs[k]? = some x) (hw : (ckL v p.len)[k]? = some w) (ha : a = tot ((ckL v p.len).take k)) (hat : atV v p.len t = ((k : Int), a)) (hat2 : atE v p.len t = 0) (hne : a ≠ t) (hd : ∀ s ∈ v.tups, ¬ s.has k)
   (h1 : p.m.splitE (p.off + a) (p.off + t) = 0) (h2 : p.m.splitE (p.off + t) (p.off + (a + w)) = 0) (hl : (replS v k 1 ⟨divN p t a w x, []⟩).evs.length ≤ 128) (h : divS v p t = (replS v k 1 ⟨divN p t a w x, []⟩, 0))
theorem ck_tl {v : Vo} {L : Int} (h : ckE v L = 0) : ∃ ws ls, TL v.tups ws ls := by
 by_cases c : v.rest
 ·obtain ⟨e, _⟩ := ck_rest c h
  rw [e]; exact ⟨[], [], TL.nil (Nat.zero_le _) fun w hw => by cases hw⟩
 ·exact ⟨_, _, ((ck_vl c).1 ⟨h, rfl⟩).2.2.1.tl⟩
end Go.Proofs.YtcihalbakenleaaGreat
namespace Go.Proofs.YtcihalbakenleaaGreat
open Go.RowKit
def freeP (v : Vo) (k : Int) : Prop := k < v.evs.length ∧ depthS v.tups k = 0
instance (v : Vo) (k : Int) : Decidable (freeP v k) := by unfold freeP; exact inferInstance
theorem tiedTo_iff {a b : List Hd} : tiedTo a b ↔ ∀ p ∈ a.zip b, p.1.tied = true ∧ p.1.p = p.2.p := by
 constructor
 ·intro h p hp
  obtain ⟨j, hj⟩ := List.getElem?_of_mem hp
  rw [List.getElem?_zip_eq_some] at hj
  exact h j p.1 p.2 hj.1 hj.2
 ·intro h j x y hx hy
  exact h (x, y) (List.mem_of_getElem? (List.getElem?_zip_eq_some.2 ⟨hx, hy⟩))
instance (a b : List Hd) : Decidable (tiedTo a b) := decidable_of_iff _ tiedTo_iff.symm
instance (x y : Ev) (s : Int) : Decidable (x.conts y s) := by unfold Ev.conts; exact inferInstance
theorem conts_t {x y : Ev} {s : Int} (h : x.contB y s = true) : x.conts y s := by unfold Ev.contB at h; exact @of_decide_eq_true _ (Classical.propDecidable _) h
theorem conts_f {x y : Ev} {s : Int} (h : x.contB y s = false) : ¬ x.conts y s := by unfold Ev.contB at h; exact @of_decide_eq_false _ (Classical.propDecidable _) h
/-- may an event be joined to the one before it? -/
def joins (x y : Ev) (s : Int) : Prop := ((x.silent ∧ y.silent) ∧ x.kind = y.kind) ∨ x.conts y s
instance (x y : Ev) (s : Int) : Decidable (joins x y s) := by unfold joins; exact inferInstance
def joinAt (v : Vo) (i k : Nat) : Prop := match v.evs[k - 1]?, v.evs[k]?, v.evs[i]? with
 | some x, some y, some z => joins x y z.stem
 | _, _, _ => False
instance (v : Vo) (i k : Nat) : Decidable (joinAt v i k) := by unfold joinAt; split <;> exact inferInstance
theorem joinAt_iff {v : Vo} {i k : Nat} {x y z : Ev} (hx : v.evs[k - 1]? = some x) (hy : v.evs[k]? = some y) (hz : v.evs[i]? = some z) : joinAt v i k ↔ joins x y z.stem := by unfold joinAt; rw [hx, hy, hz]
/-- the end of the run -/
def runG (v : Vo) (i : Nat) : Nat → Nat → Nat
 | 0, k => k
 | f + 1, k => if (freeP v i ∧ freeP v k) ∧ joinAt v i k then runG v i f (k + 1) else k
def runS (v : Vo) (i : Nat) : Nat := runG v i v.evs.length (i + 1)
theorem run_next {v : Vo} {i k : Nat} (h1 : freeP v i) (h2 : freeP v k) (h3 : joinAt v i k) : runG v i (v.evs.length + (i + 1) - k) k = runG v i (v.evs.length + (i + 1) - (k + 1)) (k + 1) := by
 have h4 := h2.1
 obtain ⟨f, hf⟩ : ∃ f, v.evs.length + (i + 1) - k = f + 1 := ⟨v.evs.length + (i + 1) - k - 1, by omega⟩
 have hf2 : v.evs.length + (i + 1) - (k + 1) = f := by omega
 rw [hf, hf2, runG, if_pos ⟨⟨h1, h2⟩, h3⟩]
theorem run_stop {v : Vo} {i k : Nat} (h : ¬ ((freeP v i ∧ freeP v k) ∧ joinAt v i k)) : runG v i (v.evs.length + (i + 1) - k) k = k := by
 cases v.evs.length + (i + 1) - k with
 | zero => rfl
 | succ f => rw [runG, if_neg h]
theorem run1_xc (v : Vo) (k : Int) (h0 : 0 ≤ k) (hl : v.evs.length ≤ 128) : XC Tryz.prog 99 [.v (.int .i64 k), .pt (Vo.c v)] (fun r => r = dB (decide (freeP v k))) := by
 refine xc_body callable_99 Tryz.func99 rfl rfl (Nat.le_of_ble_eq_true rfl) ?_
 refine zr ?_
 refine za rfl rfl ?_
 refine znr ?_
 refine zm rfl rfl ?_
 refine zp (p_fld_pt rfl rfl fld_25_0) ?_
 refine zp (p_load_pt rfl rfl sc_22) ?_
 refine XL.len rfl rfl rfl Tryz.underlying22 (fun hl7 => ?_)
 refine zp (p_lss rfl rfl rfl) ?_
 refine zm rfl rfl ?_
 refine XL.dec 9 rfl (fun g9 => ?_) (fun g9 => ?_)
 refine zp (p_fld_pt rfl rfl fld_25_1) ?_
 refine zp (p_load_pt rfl rfl sc_23) ?_
 refine zm rfl rfl ?_
 refine XL.call1 rfl rfl (depth_xc _ _ (by omega) (by omega)) rfl ?_
 refine zp (p_eql rfl rfl rfl) ?_
 refine zq rfl rfl rfl ?_
 refine za rfl rfl ?_
 refine zn ?_
 refine zt ?_
 exact z1 rfl rfl (rB (by rw [decide_eq_decide]; exact ⟨fun h => ⟨g9, h⟩, fun h => h.2⟩))
 refine zk 5 rfl ?_
 refine zq rfl rfl rfl ?_
 refine za rfl rfl ?_
 refine zn ?_
 refine zt ?_
 exact z1 rfl rfl (rB (by rw [eq_comm, decide_eq_false_iff_not]; exact fun h => g9 h.1))
theorem run_xc (v : Vo) (i : Nat) (hv : v.fit) (hl : v.evs.length ≤ 128) (hi : i < v.evs.length) : XC Tryz.prog 60 [.agg (Vo.c v), .v (.int .i64 (i : Nat))] (fun r => r = dI (runS v i : Nat)) := by
 refine xc_body callable_60 Tryz.func60 rfl rfl (Nat.le_of_ble_eq_true rfl) ?_
 refine zr ?_
 refine XL.step rfl (st_boxN 2 (l := [.d (.sl 13 (v.evs.map Ev.c)), .d (.sl 4 (v.tups.map Tp.c))]) rfl rfl (by kernel_rfl)) ?_
 refine za rfl rfl ?_
 refine znr ?_
 refine XL.freezeP 2 (ds := Vo.c v) rfl (by kernel_rfl) (by kernel_rfl) ?_
 refine zp (p_fnd (pd := []) (cd := [_]) rfl rfl rfl) ?_
 refine za rfl rfl ?_
 refine znr ?_
 refine zm rfl rfl ?_
 refine zp (p_add rfl rfl rfl (by omega) (by omega)) ?_
 refine za rfl rfl ?_
 refine zn ?_
 refine zs ?_
 refine xw_block ?_
 refine xw_loop (α := Nat) (fun k => runG v i (v.evs.length + (i + 1) - k) k = runS v i ∧ i + 1 ≤ k ∧ (k = i + 1 ∨ k ≤ v.evs.length)) (fun k => mkF [(1, .d (dI (i : Nat))), (2, .d (.pt (Vo.c v))), (4, .d (dI 0)), (5, .d (.fn 99 [] [.pt (Vo.c v)])), (6, .d (dI (k : Nat)))]) (fun k => mkH []) (fun k => v.evs.length - k) (i + 1) (⟨by rw [Nat.add_sub_cancel]; rfl, Nat.le_refl _, .inl rfl⟩) ?_ ?_ ?_
 exact fz ⟨sr, sr, sr, sr, .same (sI (by omega)), trivial⟩
 exact HSub.nil
 intro k hk0
 obtain ⟨hgo, hk1, hk2⟩ := hk0
 refine zs ?_
 refine zr ?_
 refine zm rfl rfl ?_
 refine zm rfl rfl ?_
 refine XL.callv1 (ds := [_]) rfl rfl rfl (run1_xc v i (by omega) hl) rfl ?_
 refine zm rfl rfl ?_
 refine XL.dec 16 rfl (fun g16 => ?_) (fun g16 => ?_)
 refine zm rfl rfl ?_
 refine zm rfl rfl ?_
 refine XL.callv1 (ds := [_]) rfl rfl rfl (run1_xc v k (by omega) hl) rfl ?_
 refine zq rfl rfl rfl ?_
 refine zn ?_
 refine zd rfl (fun c20 => ?_) (fun c20 => ?_)
 refine zi ?_
 refine xw_block ?_
 refine zs ?_
 have hkl := c20.1
 obtain ⟨x, hx⟩ : ∃ x, v.evs[k - 1]? = some x := get_ex (by omega)
 obtain ⟨y, hy⟩ : ∃ y, v.evs[k]? = some y := get_ex (by omega)
 obtain ⟨z, hz⟩ : ∃ z, v.evs[i]? = some z := get_ex hi
 have hyf := hv.ev y (List.mem_of_getElem? hy)
 refine xw_anyMP 13 14 [7, 8] id 7 (mSet 7 (.box [.d (dI x.site), .d (dI x.num), .d (dI x.kind), .d (dI x.v.log), .d (dI x.v.dots), .d (.sl 5 (x.heads.map Hd.c)), .d (.sl 5 (x.graces.map Gr.c)), .d (dI x.art), .d (dI x.orn), .d (dI x.dyn), .d (.sl 2 (x.lyr.map Sy.c)), .d (dI x.stem), .d (dI x.beam)])) (by kernel_rfl) (by kernel_rfl) (by kernel_rfl) (by kernel_rfl) (by decide) ?_
 refine ChMK.bf rfl (CStep.pure (p_fld_pt rfl rfl fld_25_0)) (by conv => lhs; whnf) ?_
 refine ChMK.bf rfl (CStep.pure (p_load_pt rfl rfl sc_22)) (by conv => lhs; whnf) ?_
 refine ChMK.bf rfl (CStep.pure (p_move rfl (by conv => lhs; whnf))) (by conv => lhs; whnf) ?_
 refine ChMK.bf rfl (CStep.pure (p_sub rfl rfl rfl (by omega) (by omega))) (by conv => lhs; whnf) ?_
 refine ChMK.bf rfl (CStep.pure (p_idx_mapi rfl rfl rfl (by omega) el_22 (hx))) (by conv => lhs; whnf) ?_
 refine ChMK.bf rfl (CStep.pure (pure_eq (s' := .d (.agg (Ev.c x))) (p_load_pts rfl rfl agg_60 (Nat.le_of_ble_eq_true rfl)) (by kernel_rfl))) (by conv => lhs; whnf) ?_
 refine ChMK.fr rfl rfl (CStep.pure (p_fld_pt rfl rfl fld_25_0)) (CStep.pure (p_fld_pt rfl rfl fld_25_0)) (by exact rfl) ?_
 refine ChMK.fr rfl rfl (CStep.pure (p_load_pt rfl rfl sc_22)) (CStep.pure (p_load_pt rfl rfl sc_22)) (by exact rfl) ?_
 refine ChMK.fr rfl rfl (CStep.pure (p_move rfl (by conv => lhs; whnf))) (CStep.pure (p_move rfl (by conv => lhs; whnf))) (by exact rfl) ?_
 refine ChMK.fr rfl rfl (CStep.pure (p_idx_map rfl rfl rfl el_22 (hy))) (CStep.pure (p_idx_map rfl rfl rfl el_22 (hy))) (by exact rfl) ?_
 refine ChMK.fr rfl rfl (CStep.pure (pure_eq (s' := .d (.agg (Ev.c y))) (p_load_pts rfl rfl agg_60 (Nat.le_of_ble_eq_true rfl)) (by kernel_rfl))) (CStep.pure (pure_eq (s' := .d (.agg (Ev.c y))) (p_load_pts rfl rfl agg_60 (Nat.le_of_ble_eq_true rfl)) (by kernel_rfl))) (by exact rfl) ?_
 refine ChMK.bfO rfl (CStep.allocN 7 (l := [.d (dI 0), .d (dI 0), .d (dI 0), .d (dI 0), .d (dI 0), .d (.v (.slice none 0 0)), .d (.v (.slice none 0 0)), .d (dI 0), .d (dI 0), .d (dI 0), .d (.v (.slice none 0 0)), .d (dI 0), .d (dI 0)]) rfl zero_60 rfl rfl) (by conv => lhs; whnf) (fun _ _ => mSet_own _ _) ?_
 refine ChMK.bfN rfl (CStep.allocN 8 (l := [.d (dI 0), .d (dI 0), .d (dI 0), .d (dI 0), .d (dI 0), .d (.v (.slice none 0 0)), .d (.v (.slice none 0 0)), .d (dI 0), .d (dI 0), .d (dI 0), .d (.v (.slice none 0 0)), .d (dI 0), .d (dI 0)]) rfl zero_60 rfl rfl) (by conv => lhs; whnf) rfl rfl ?_
 refine ChMK.mu rfl (m_store (l2 := [.d (dI x.site), .d (dI x.num), .d (dI x.kind), .d (dI x.v.log), .d (dI x.v.dots), .d (.sl 5 (x.heads.map Hd.c)), .d (.sl 5 (x.graces.map Gr.c)), .d (dI x.art), .d (dI x.orn), .d (dI x.dyn), .d (.sl 2 (x.lyr.map Sy.c)), .d (dI x.stem), .d (dI x.beam)]) rfl rfl rfl rfl sz_60 rfl (Nat.le_of_ble_eq_true rfl) (by kernel_rfl)) ?_
 refine ChMK.nil ⟨⟨by kernel_rfl, by kernel_rfl, by kernel_rfl⟩, ?_⟩
 refine XL.step rfl (st_storeN (l' := [.d (dI y.site), .d (dI y.num), .d (dI y.kind), .d (dI y.v.log), .d (dI y.v.dots), .d (.sl 5 (y.heads.map Hd.c)), .d (.sl 5 (y.graces.map Gr.c)), .d (dI y.art), .d (dI y.orn), .d (dI y.dyn), .d (.sl 2 (y.lyr.map Sy.c)), .d (dI y.stem), .d (dI y.beam)]) rfl rfl rfl rfl sz_60 rfl (Nat.le_of_ble_eq_true rfl) (by kernel_rfl)) ?_
 refine znr ?_
 refine zp (pure_eq (s' := .d (.agg (Ev.c x))) (norm_pure (p_load_boxs rfl rfl agg_60 rfl (Nat.le_of_ble_eq_true rfl))) (by kernel_rfl)) ?_
 refine XL.call1 rfl rfl (silent_xc _) rfl ?_
 refine zm rfl rfl ?_
 refine XL.dec 34 rfl (fun g34 => ?_) (fun g34 => ?_)
 refine zp (pure_eq (s' := .d (.agg (Ev.c y))) (norm_pure (p_load_boxs rfl rfl agg_60 rfl (Nat.le_of_ble_eq_true rfl))) (by kernel_rfl)) ?_
 refine XL.call1 rfl rfl (silent_xc _) rfl ?_
 refine zq rfl rfl rfl ?_
 refine zm rfl rfl ?_
 refine XL.dec 38 rfl (fun g38 => ?_) (fun g38 => ?_)
 refine zp (p_fld_ptr rfl rfl fld_60_1) ?_
 refine zp (p_load_box rfl rfl sc_3 rfl rfl) ?_
 refine zp (p_fld_ptr rfl rfl fld_60_1) ?_
 refine zp (p_load_box rfl rfl sc_3 rfl rfl) ?_
 refine zp (p_eql rfl rfl rfl) ?_
 refine zq rfl rfl rfl ?_
 refine za rfl rfl ?_
 refine zn ?_
 refine zs ?_
 refine zs ?_
 refine xw_split 9 rfl (fun o9 => ?_) (fun o9 => ?_)
 refine xw_any [] (by kernel_rfl) (by kernel_rfl) (by kernel_rfl) (by decide) ?_
 refine ym rfl rfl ?_
 refine yp (p_not rfl rfl) ?_
 refine ym rfl rfl ?_
 refine ChK.skip rfl ?_
 refine ChK.skip rfl ?_
 refine ChK.skip rfl ?_
 refine ChK.skip rfl ?_
 refine ChK.skip rfl ?_
 refine ChK.skip rfl ?_
 refine ChK.skip rfl ?_
 refine ChK.skip rfl ?_
 refine ChK.skip rfl ?_
 refine ChK.skip rfl ?_
 refine yp (p_pick_any rfl rfl (by conv => lhs; whnf)) ?_
 refine ChK.nil ⟨by kernel_rfl, ?_⟩
 refine xw_false (by kernel_rfl) rfl ?_
 refine zi ?_
 refine xw_region (by kernel_rfl) ?_
 refine zm rfl rfl ?_
 refine zp (p_add rfl rfl rfl (by omega) (by omega)) ?_
 refine za rfl rfl ?_
 refine zn ?_
 refine k_blk ?_
 exact k_round (k + 1) (⟨by rw [← run_next g16 c20 ((joinAt_iff hx hy hz).2 (by first | exact .inl ⟨⟨g34, g38⟩, o9⟩ | exact .inr (conts_t (bnot_f c58))))]; exact hgo, by omega, by have := c20.1; omega⟩) (by have := c20.1; omega) (fz ⟨sr, sr, sr, sr, .same (sI (by omega)), trivial⟩) (HSub.nil)
 refine xw_any [] (by kernel_rfl) (by kernel_rfl) (by kernel_rfl) (by decide) ?_
 refine ym rfl rfl ?_
 refine yp (p_not rfl rfl) ?_
 refine ym rfl rfl ?_
 refine yp (pure_eq (s' := .d (.agg (Ev.c x))) (norm_pure (p_load_boxs rfl rfl agg_60 rfl (Nat.le_of_ble_eq_true rfl))) (by kernel_rfl)) ?_
 refine yp (pure_eq (s' := .d (.agg (Ev.c y))) (norm_pure (p_load_boxs rfl rfl agg_60 rfl (Nat.le_of_ble_eq_true rfl))) (by kernel_rfl)) ?_
 refine yp (p_fld_pt rfl rfl fld_25_0) ?_
 refine yp (p_load_pt rfl rfl sc_22) ?_
 refine ym rfl rfl ?_
 refine yp (p_idx_map rfl rfl rfl el_22 (hz)) ?_
 refine yp (p_fld_pt rfl rfl fld_60_9) ?_
 refine yp (p_load_pt rfl rfl sc_3) ?_
 refine ChK.cons rfl (CStep.call rfl (conts_xc _ _ _ (hyf.1)) rfl) ?_
 refine yp (p_not rfl rfl) ?_
 refine yp (p_pick_any rfl rfl (by conv => lhs; whnf)) ?_
 refine ChK.nil ⟨by kernel_rfl, ?_⟩
 refine xw_cond (by kernel_rfl) rfl (fun c58 => ?_) (fun c58 => ?_)
 refine xw_exit ?_
 refine zr ?_
 refine zm rfl rfl ?_
 refine za rfl rfl ?_
 refine zn ?_
 refine zt ?_
 exact z1 rfl rfl (rI (by rw [← hgo, run_stop (by first | exact fun h => g16 h.1.1 | exact fun h => c20 h.1.2 | exact fun h => (fun hj => hj.elim (fun k => by first | exact o9 k.2 | exact g38 k.1.2 | exact g34 k.1.1) (fun k => conts_f (bnot_t c58) k)) ((joinAt_iff hx hy hz).1 h.2))]))
 refine zi ?_
 refine xw_region (by kernel_rfl) ?_
 refine zm rfl rfl ?_
 refine zp (p_add rfl rfl rfl (by omega) (by omega)) ?_
 refine za rfl rfl ?_
 refine zn ?_
 refine k_blk ?_
 exact k_round (k + 1) (⟨by rw [← run_next g16 c20 ((joinAt_iff hx hy hz).2 (by first | exact .inl ⟨⟨g34, g38⟩, o9⟩ | exact .inr (conts_t (bnot_f c58))))]; exact hgo, by omega, by have := c20.1; omega⟩) (by have := c20.1; omega) (fz ⟨sr, sr, sr, sr, .same (sI (by omega)), trivial⟩) (HSub.nil)
 refine zk 5 rfl ?_
 refine zq rfl rfl rfl ?_
 refine za rfl rfl ?_
 refine zn ?_
 refine zs ?_
 refine zs ?_
 refine xw_any [] (by kernel_rfl) (by kernel_rfl) (by kernel_rfl) (by decide) ?_
 refine ym rfl rfl ?_
 refine yp (p_not rfl rfl) ?_
 refine ym rfl rfl ?_
 refine yp (pure_eq (s' := .d (.agg (Ev.c x))) (norm_pure (p_load_boxs rfl rfl agg_60 rfl (Nat.le_of_ble_eq_true rfl))) (by kernel_rfl)) ?_
 refine yp (pure_eq (s' := .d (.agg (Ev.c y))) (norm_pure (p_load_boxs rfl rfl agg_60 rfl (Nat.le_of_ble_eq_true rfl))) (by kernel_rfl)) ?_
 refine yp (p_fld_pt rfl rfl fld_25_0) ?_
 refine yp (p_load_pt rfl rfl sc_22) ?_
 refine ym rfl rfl ?_
 refine yp (p_idx_map rfl rfl rfl el_22 (hz)) ?_
 refine yp (p_fld_pt rfl rfl fld_60_9) ?_
 refine yp (p_load_pt rfl rfl sc_3) ?_
 refine ChK.cons rfl (CStep.call rfl (conts_xc _ _ _ (hyf.1)) rfl) ?_
 refine yp (p_not rfl rfl) ?_
 refine yp (p_pick_any rfl rfl (by conv => lhs; whnf)) ?_
 refine ChK.nil ⟨by kernel_rfl, ?_⟩
 refine xw_cond (by kernel_rfl) rfl (fun c58 => ?_) (fun c58 => ?_)
 refine xw_exit ?_
 refine zr ?_
 refine zm rfl rfl ?_
 refine za rfl rfl ?_
 refine zn ?_
 refine zt ?_
 exact z1 rfl rfl (rI (by rw [← hgo, run_stop (by first | exact fun h => g16 h.1.1 | exact fun h => c20 h.1.2 | exact fun h => (fun hj => hj.elim (fun k => by first | exact o9 k.2 | exact g38 k.1.2 | exact g34 k.1.1) (fun k => conts_f (bnot_t c58) k)) ((joinAt_iff hx hy hz).1 h.2))]))
 refine zi ?_
 refine xw_region (by kernel_rfl) ?_
 refine zm rfl rfl ?_
 refine zp (p_add rfl rfl rfl (by omega) (by omega)) ?_
 refine za rfl rfl ?_
 refine zn ?_
 refine k_blk ?_
 exact k_round (k + 1) (⟨by rw [← run_next g16 c20 ((joinAt_iff hx hy hz).2 (by first | exact .inl ⟨⟨g34, g38⟩, o9⟩ | exact .inr (conts_t (bnot_f c58))))]; exact hgo, by omega, by have := c20.1; omega⟩) (by have := c20.1; omega) (fz ⟨sr, sr, sr, sr, .same (sI (by omega)), trivial⟩) (HSub.nil)
 refine zk 2 rfl ?_
 refine zq rfl rfl rfl ?_
 refine zm rfl rfl ?_
 refine zk 5 rfl ?_
 refine zq rfl rfl rfl ?_
 refine za rfl rfl ?_
 refine zn ?_
 refine zs ?_
 refine zs ?_
 refine xw_any [] (by kernel_rfl) (by kernel_rfl) (by kernel_rfl) (by decide) ?_
 refine ym rfl rfl ?_
 refine yp (p_not rfl rfl) ?_
 refine ym rfl rfl ?_
 refine yp (pure_eq (s' := .d (.agg (Ev.c x))) (norm_pure (p_load_boxs rfl rfl agg_60 rfl (Nat.le_of_ble_eq_true rfl))) (by kernel_rfl)) ?_
 refine yp (pure_eq (s' := .d (.agg (Ev.c y))) (norm_pure (p_load_boxs rfl rfl agg_60 rfl (Nat.le_of_ble_eq_true rfl))) (by kernel_rfl)) ?_
 refine yp (p_fld_pt rfl rfl fld_25_0) ?_
 refine yp (p_load_pt rfl rfl sc_22) ?_
 refine ym rfl rfl ?_
 refine yp (p_idx_map rfl rfl rfl el_22 (hz)) ?_
 refine yp (p_fld_pt rfl rfl fld_60_9) ?_
 refine yp (p_load_pt rfl rfl sc_3) ?_
 refine ChK.cons rfl (CStep.call rfl (conts_xc _ _ _ (hyf.1)) rfl) ?_
 refine yp (p_not rfl rfl) ?_
 refine yp (p_pick_any rfl rfl (by conv => lhs; whnf)) ?_
 refine ChK.nil ⟨by kernel_rfl, ?_⟩
 refine xw_cond (by kernel_rfl) rfl (fun c58 => ?_) (fun c58 => ?_)
 refine xw_exit ?_
 refine zr ?_
 refine zm rfl rfl ?_
 refine za rfl rfl ?_
 refine zn ?_
 refine zt ?_
 exact z1 rfl rfl (rI (by rw [← hgo, run_stop (by first | exact fun h => g16 h.1.1 | exact fun h => c20 h.1.2 | exact fun h => (fun hj => hj.elim (fun k => by first | exact o9 k.2 | exact g38 k.1.2 | exact g34 k.1.1) (fun k => conts_f (bnot_t c58) k)) ((joinAt_iff hx hy hz).1 h.2))]))
 refine zi ?_
 refine xw_region (by kernel_rfl) ?_
 refine zm rfl rfl ?_
 refine zp (p_add rfl rfl rfl (by omega) (by omega)) ?_
 refine za rfl rfl ?_
 refine zn ?_
 refine k_blk ?_
 exact k_round (k + 1) (⟨by rw [← run_next g16 c20 ((joinAt_iff hx hy hz).2 (by first | exact .inl ⟨⟨g34, g38⟩, o9⟩ | exact .inr (conts_t (bnot_f c58))))]; exact hgo, by omega, by have := c20.1; omega⟩) (by have := c20.1; omega) (fz ⟨sr, sr, sr, sr, .same (sI (by omega)), trivial⟩) (HSub.nil)
 refine xw_exit ?_
 refine zr ?_
 refine zm rfl rfl ?_
 refine za rfl rfl ?_
 refine zn ?_
 refine zt ?_
 exact z1 rfl rfl (rI (by rw [← hgo, run_stop (by first | exact fun h => g16 h.1.1 | exact fun h => c20 h.1.2 | exact fun h => (fun hj => hj.elim (fun k => by first | exact o9 k.2 | exact g38 k.1.2 | exact g34 k.1.1) (fun k => conts_f (bnot_t c58) k)) ((joinAt_iff hx hy hz).1 h.2))]))
 refine zk 3 rfl ?_
 refine zq rfl rfl rfl ?_
 refine zn ?_
 refine xw_false (by kernel_rfl) rfl ?_
 refine xw_exit ?_
 refine zr ?_
 refine zm rfl rfl ?_
 refine za rfl rfl ?_
 refine zn ?_
 refine zt ?_
 exact z1 rfl rfl (rI (by rw [← hgo, run_stop (by first | exact fun h => g16 h.1.1 | exact fun h => c20 h.1.2 | exact fun h => (fun hj => hj.elim (fun k => by first | exact o9 k.2 | exact g38 k.1.2 | exact g34 k.1.1) (fun k => conts_f (bnot_t c58) k)) ((joinAt_iff hx hy hz).1 h.2))]))
end Go.Proofs.YtcihalbakenleaaGreat
namespace Go.Proofs.YtcihalbakenleaaGreat
/-- a list of which the elements below k are turned -/
def upTo {α : Type} (f : Nat → α → α) (l : List α) (k : Nat) : List α := l.mapIdx fun i a => if i < k then f i a else a
theorem upTo_len {α : Type} (f : Nat → α → α) (l : List α) (k : Nat) : (upTo f l k).length = l.length := by rw [upTo, List.length_mapIdx]
theorem upTo_zero {α : Type} (f : Nat → α → α) (l : List α) : upTo f l 0 = l := by
 refine List.ext_getElem? fun i => ?_
 rw [upTo, List.getElem?_mapIdx]
 cases l[i]? <;> simp
theorem upTo_end {α : Type} {f : Nat → α → α} {l : List α} {k : Nat} (h : l.length ≤ k) : upTo f l k = l.mapIdx f := by
 refine List.ext_getElem? fun i => ?_
 rw [upTo, List.getElem?_mapIdx, List.getElem?_mapIdx]
 cases hi : l[i]? with
 | none => rfl
 | some a => have := (List.getElem?_eq_some_iff.1 hi).1; simp only [Option.map_some]; rw [if_pos (by omega)]
theorem upTo_get {α : Type} {f : Nat → α → α} {l : List α} {k : Nat} {x : α} (h : l[k]? = some x) : (upTo f l k)[k]? = some x := by
 rw [upTo, List.getElem?_mapIdx, h]; simp
theorem upTo_set {α : Type} {f : Nat → α → α} {l : List α} {k : Nat} {x : α} (h : l[k]? = some x) : upTo f l (k + 1) = (upTo f l k).set k (f k x) := by
 refine List.ext_getElem? fun i => ?_
 have hk := (List.getElem?_eq_some_iff.1 h).1
 rw [List.getElem?_set, upTo, List.getElem?_mapIdx]
 by_cases e : k = i
 ·subst e
  rw [if_pos rfl, if_pos (by rw [upTo_len]; exact hk), h]
  simp
 ·rw [if_neg e, upTo, List.getElem?_mapIdx]
  cases l[i]? with
  | none => rfl
  | some a => simp only [Option.map_some]; by_cases c : i < k <;> simp [c] <;> omega
/-- an event with other heads; one with the id of another one -/
def Ev.reh (x : Ev) (hs : List Hd) : Ev := ⟨x.site, x.num, x.kind, x.v, hs, x.graces, x.art, x.orn, x.dyn, x.lyr, x.stem, x.beam⟩
def Ev.reid (x o : Ev) : Ev := ⟨o.site, o.num, x.kind, x.v, x.heads, x.graces, x.art, x.orn, x.dyn, x.lyr, x.stem, x.beam⟩
theorem Ev.err_reh {x : Ev} (h : x.err = 0) (hk : x.kind ≠ 3) {hs : List Hd} (h1 : x.heads = [] → hs = []) (h2 : headsErr x.heads = 0 → headsErr hs = 0) : (x.reh hs).err = 0 := by
 rw [err_iff] at h ⊢
 obtain ⟨q1, q2, q3, q4, q5, q6⟩ := h
 refine ⟨q1, q2, ?_, q4, fun k => ?_, q6⟩
 ·by_cases c : x.kind = 1
  ·have : (x.reh hs).strip = x.reh hs := (strip_1 (e := x.reh hs) c).symm
   rw [this]; exact ⟨rfl, rfl, rfl, rfl, rfl, rfl, rfl, rfl, rfl, rfl⟩
  ·have hs1 : x.strip = ⟨x.site, x.num, x.kind, x.v, [], [], if x.kind ≠ 4 then fermS x.art else 0, 0, x.dyn, [], 0, 0⟩ := by rw [Ev.strip, if_neg (by omega), if_pos hk]
   have hs2 : (x.reh hs).strip = ⟨x.site, x.num, x.kind, x.v, [], [], if x.kind ≠ 4 then fermS x.art else 0, 0, x.dyn, [], 0, 0⟩ := by
    have : ¬ ((x.reh hs).kind = 1 ∨ ¬ (1 ≤ (x.reh hs).kind ∧ (x.reh hs).kind ≤ 4)) := by show ¬ (x.kind = 1 ∨ ¬ (1 ≤ x.kind ∧ x.kind ≤ 4)); omega
    rw [Ev.strip, if_neg this, if_pos (show (x.reh hs).kind ≠ 3 from hk)]; rfl
   rw [hs1] at q3
   rw [hs2]
   obtain ⟨k1, k2, k3, k4, k5, k6, k7, k8, k9, k10⟩ := q3
   exact ⟨k1, k2, k3, k4, k5, k6, k7, h1 k8, k9, k10⟩
 ·have := q5 k
  unfold Ev.e2 at this ⊢
  rw [first_zero] at this ⊢
  intro y hy
  simp only [List.mem_cons, List.not_mem_nil, or_false] at hy
  rcases hy with e | e | e
  ·rw [e]; exact h2 (this (headsErr x.heads) (by simp))
  ·rw [e]; exact this _ (by simp [Ev.reh])
  ·rw [e]; exact this _ (by simp [Ev.reh])
theorem Ev.err_reid {x o : Ev} (h : x.err = 0) (ho : o.err = 0) : (x.reid o).err = 0 := by
 rw [err_iff] at h ho ⊢
 refine ⟨ho.1, h.2.1, ?_, h.2.2.2.1, h.2.2.2.2.1, h.2.2.2.2.2⟩
 have h3 := h.2.2.1
 by_cases c : x.kind = 1 ∨ ¬ (1 ≤ x.kind ∧ x.kind ≤ 4)
 ·rw [Ev.strip, if_pos (show (x.reid o).kind = 1 ∨ ¬ (1 ≤ (x.reid o).kind ∧ (x.reid o).kind ≤ 4) from c)]
  exact ⟨rfl, rfl, rfl, rfl, rfl, rfl, rfl, rfl, rfl, rfl⟩
 ·rw [Ev.strip, if_neg c] at h3
  rw [Ev.strip, if_neg (show ¬ ((x.reid o).kind = 1 ∨ ¬ (1 ≤ (x.reid o).kind ∧ (x.reid o).kind ≤ 4)) from c)]
  exact h3
theorem Ev.no_heads {x : Ev} (h : x.err = 0) (hk : x.kind ≠ 1) : x.heads = [] := by
 rw [err_iff] at h
 obtain ⟨q1, q2, q3, q4, q5, q6⟩ := h
 rw [Ev.strip, if_neg (by omega)] at q3
 exact q3.2.2.2.2.2.2.2.1
theorem headsGo_like : ∀ {l l' : List Hd} {n : Int}, l.length = l'.length → (∀ (j : Nat) a b, l[j]? = some a → l'[j]? = some b → a.p = b.p ∧ a.sh = b.sh) → headsGo n l' = headsGo n l
 | [], [], n, _, _ => rfl
 | a :: l, b :: l', n, hl, h => by
  obtain ⟨h1, h2⟩ := h 0 a b rfl rfl
  have h3 : headsGo a.p.num l' = headsGo a.p.num l := headsGo_like (by simpa using hl) fun j x y hx hy => h (j + 1) x y hx hy
  rw [headsGo, headsGo, ← h1, h3, show wellS b = wellS a by rw [wellS, wellS, h1, h2]]
theorem headsErr_like {l l' : List Hd} (hl : l.length = l'.length) (h : ∀ (j : Nat) a b, l[j]? = some a → l'[j]? = some b → a.p = b.p ∧ a.sh = b.sh) : headsErr l' = headsErr l := by
 unfold headsErr
 rw [hl, headsGo_like hl h]
/-- heads tied as others are -/
def tieAt (b : List Hd) (j : Nat) (h : Hd) : Hd := match b[j]? with | some g => ⟨h.p, g.tied, h.sh⟩ | none => h
def tieAs (a b : List Hd) : List Hd := a.mapIdx (tieAt b)
theorem tieAt_at {b : List Hd} {j : Nat} {h g : Hd} (hg : b[j]? = some g) : tieAt b j h = ⟨h.p, g.tied, h.sh⟩ := by rw [tieAt, hg]
theorem tieAt_p (b : List Hd) (j : Nat) (h : Hd) : (tieAt b j h).p = h.p ∧ (tieAt b j h).sh = h.sh := by unfold tieAt; split <;> exact ⟨rfl, rfl⟩
theorem tieAs_len (a b : List Hd) : (tieAs a b).length = a.length := by rw [tieAs, List.length_mapIdx]
theorem tieAs_err (a b : List Hd) : headsErr (tieAs a b) = headsErr a := by
 refine headsErr_like (tieAs_len a b).symm fun j x y hx hy => ?_
 rw [tieAs, List.getElem?_mapIdx, hx] at hy
 cases hy
 have := tieAt_p b j x
 exact ⟨this.1.symm, this.2.symm⟩
/-- events with the ids of others -/
def idAt (os : List Ev) (j : Nat) (e : Ev) : Ev := match os[j]? with | some o => e.reid o | none => e
def idsS (js os : List Ev) : List Ev := js.mapIdx (idAt os)
theorem idAt_at {os : List Ev} {j : Nat} {e o : Ev} (h : os[j]? = some o) : idAt os j e = e.reid o := by rw [idAt, h]
theorem idsS_len (js os : List Ev) : (idsS js os).length = js.length := by rw [idsS, List.length_mapIdx]
theorem idAt_ok {os : List Ev} {j : Nat} {e : Ev} (h : e.err = 0 ∧ e.kind ≠ 3) (ho : ∀ o ∈ os, o.err = 0) : (idAt os j e).err = 0 ∧ (idAt os j e).kind ≠ 3 ∧ (idAt os j e).len = e.len := by
 unfold idAt
 split
 ·rename_i o hj
  have h1 := Ev.err_reid h.1 (ho o (List.mem_of_getElem? hj))
  exact ⟨h1, h.2, by rw [Ev.len_ok h1 h.2, Ev.len_ok h.1 h.2]; rfl⟩
 ·exact ⟨h.1, h.2, rfl⟩
theorem idsS_ok {js os : List Ev} (h : ∀ e ∈ js, e.err = 0 ∧ e.kind ≠ 3) (ho : ∀ o ∈ os, o.err = 0) : (∀ e ∈ idsS js os, e.err = 0 ∧ e.kind ≠ 3) ∧ wrS (idsS js os) = wrS js := by
 constructor
 ·intro e he
  obtain ⟨j, hj⟩ := List.getElem?_of_mem he
  rw [idsS, List.getElem?_mapIdx] at hj
  cases hv : js[j]? with
  | none => rw [hv] at hj; cases hj
  | some x =>
   rw [hv] at hj; cases hj
   have := idAt_ok (os := os) (j := j) (h x (List.mem_of_getElem? hv)) ho
   exact ⟨this.1, this.2.1⟩
 ·unfold wrS
  refine List.ext_getElem? fun j => ?_
  rw [List.getElem?_map, List.getElem?_map, idsS, List.getElem?_mapIdx]
  cases hv : js[j]? with
  | none => rfl
  | some x => simp only [Option.map_some]; rw [(idAt_ok (os := os) (j := j) (h x (List.mem_of_getElem? hv)) ho).2.2]
theorem idsS_fit {js os : List Ev} (h : ∀ e ∈ js, e.fit) : ∀ e ∈ idsS js os, e.fit := by
 intro e he
 obtain ⟨j, hj⟩ := List.getElem?_of_mem he
 rw [idsS, List.getElem?_mapIdx] at hj
 cases hv : js[j]? with
 | none => rw [hv] at hj; cases hj
 | some x =>
  rw [hv] at hj; cases hj
  have := h x (List.mem_of_getElem? hv)
  unfold idAt
  split
  ·exact this
  ·exact this
theorem reh_fit {x : Ev} (h : x.fit) (b : List Hd) : (x.reh (tieAs x.heads b)).fit := ⟨by show (tieAs x.heads b).length ≤ 1000; rw [tieAs_len]; exact h.1, h.2⟩
/- runs -/
theorem runG_le (v : Vo) (i : Nat) : ∀ f k, k ≤ runG v i f k
 | 0, k => Nat.le_refl _
 | f + 1, k => by
  rw [runG]; split
  ·have := runG_le v i f (k + 1); omega
  ·exact Nat.le_refl _
theorem runG_all {v : Vo} {i : Nat} : ∀ f k j, k ≤ j → j < runG v i f k → (freeP v i ∧ freeP v j) ∧ joinAt v i j
 | 0, k, j, h1, h2 => by rw [runG] at h2; omega
 | f + 1, k, j, h1, h2 => by
  rw [runG] at h2
  split at h2
  ·rename_i c
   by_cases e : k = j
   ·rw [← e]; exact c
   ·exact runG_all f (k + 1) j (by omega) h2
  ·omega
theorem run_bd {v : Vo} {i : Nat} (hi : i < v.evs.length) : i + 1 ≤ runS v i ∧ runS v i ≤ v.evs.length := by
 have h1 : i + 1 ≤ runS v i := runG_le v i _ _
 refine ⟨h1, ?_⟩
 by_cases c : runS v i = i + 1
 ·omega
 ·have := (runG_all (v := v) (i := i) _ (i + 1) (runS v i - 1) (by omega) (by show _ < runS v i; omega)).1.2.1
  omega
theorem run_free {v : Vo} {i : Nat} (h : 1 < runS v i - i) {j : Nat} (h1 : i ≤ j) (h2 : j < runS v i) : depthS v.tups j = 0 := by
 by_cases c : j = i
 ·rw [c]; exact (runG_all (v := v) (i := i) _ (i + 1) (i + 1) (by omega) (by show _ < runS v i; omega)).1.1.2
 ·exact (runG_all (v := v) (i := i) _ (i + 1) j (by omega) h2).1.2.2
theorem joins_len {x y : Ev} {s : Int} (hx : x.err = 0) (hy : y.err = 0) (h : joins x y s) : x.heads.length = y.heads.length ∧ x.kind ≠ 3 := by
 rcases h with ⟨⟨h1, h2⟩, h3⟩ | h
 ·unfold Ev.silent at h1 h2
  rw [Ev.no_heads hx (by omega), Ev.no_heads hy (by omega)]
  exact ⟨rfl, by omega⟩
 ·exact ⟨h.2.1, by have := h.1; omega⟩
theorem run_join {v : Vo} {i j : Nat} (h1 : i < j) (h2 : j < runS v i) : joinAt v i j := (runG_all (v := v) (i := i) _ (i + 1) j (by omega) h2).2
theorem joinAt_ex {v : Vo} {i j : Nat} (h : joinAt v i j) : ∃ x y z, v.evs[j - 1]? = some x ∧ v.evs[j]? = some y ∧ v.evs[i]? = some z ∧ joins x y z.stem := by
 unfold joinAt at h
 split at h
 ·rename_i x y z hx hy hz; exact ⟨x, y, z, hx, hy, hz, h⟩
 ·exact h.elim
theorem run_heads {v : Vo} (hE : ∀ e ∈ v.evs, e.err = 0) {i : Nat} {x : Ev} (hx : v.evs[i]? = some x) : ∀ (n : Nat) {y : Ev}, i + n < runS v i → v.evs[i + n]? = some y → x.heads.length = y.heads.length
 | 0, y, _, hy => by rw [Nat.add_zero, hx] at hy; cases hy; rfl
 | n + 1, y, h, hy => by
  obtain ⟨a, b, z, ha, hb, hz, hj⟩ := joinAt_ex (run_join (v := v) (i := i) (j := i + (n + 1)) (by omega) h)
  rw [hy] at hb; cases hb
  rw [show i + (n + 1) - 1 = i + n by omega] at ha
  have := run_heads hE hx n (by omega) ha
  rw [this]
  exact (joins_len (hE a (List.mem_of_getElem? ha)) (hE _ (List.mem_of_getElem? hy)) hj).1
theorem run_kind {v : Vo} (hE : ∀ e ∈ v.evs, e.err = 0) {i : Nat} {x : Ev} (hx : v.evs[i]? = some x) (h : 1 < runS v i - i) : x.kind ≠ 3 := by
 obtain ⟨a, b, z, ha, hb, hz, hj⟩ := joinAt_ex (run_join (v := v) (i := i) (j := i + 1) (by omega) (by omega))
 rw [show i + 1 - 1 = i by omega, hx] at ha
 cases ha
 exact (joins_len (hE _ (List.mem_of_getElem? hx)) (hE _ (List.mem_of_getElem? hb)) hj).2
/- simplifying -/
/-- is a run of n events between two ticks written with fewer? -/
def smJ (p : Pl) (a b : Int) (n : Nat) : Prop := ((1 < n ∧ (p.off + a) % 7560 = 0) ∧ (p.off + b) % 7560 = 0) ∧ p.m.splitE (p.off + a) (p.off + b) = 0 ∧ (p.m.split (p.off + a) (p.off + b)).length < n
instance (p : Pl) (a b : Int) (n : Nat) : Decidable (smJ p a b n) := by unfold smJ; exact inferInstance
/-- the ticks where the run from an event begins and ends -/
def smA (v : Vo) (p : Pl) (i : Nat) : Int := tot ((ckL v p.len).take i)
def joinV (v : Vo) (p : Pl) (i : Nat) (x y : Ev) : List Ev := idsS (notesS (x.reh (tieAs x.heads y.heads)) (p.m.split (p.off + smA v p i) (p.off + smA v p (runS v i))) false) (v.evs.drop i)
def joinedS (v : Vo) (p : Pl) (i : Nat) : List Ev := match v.evs[i]?, v.evs[runS v i - 1]? with
 | some x, some y => joinV v p i x y
 | _, _ => []
def smN (v : Vo) (p : Pl) (i : Nat) : Vo × Nat :=
 if smJ p (smA v p i) (smA v p (runS v i)) (runS v i - i) then (replS v i (runS v i - i) ⟨joinedS v p i, []⟩, i + (joinedS v p i).length) else (v, runS v i)
def simGo (p : Pl) : Nat → Vo × Nat → Vo
 | 0, q => q.1
 | f + 1, q => if q.2 < q.1.evs.length then simGo p f (smN q.1 p q.2) else q.1
/-- a voice simplified, the error -/
def simV (v : Vo) (p : Pl) : Vo := simGo p v.evs.length (v, 0)
def simS (v : Vo) (p : Pl) : Vo × Int := if p.chk v ≠ 0 then (⟨[], []⟩, p.chk v) else (simV v p, 0)
theorem smN_no {v : Vo} {p : Pl} {i : Nat} (h : ¬ smJ p (smA v p i) (smA v p (runS v i)) (runS v i - i)) : smN v p i = (v, runS v i) := by rw [smN, if_neg h]
theorem smN_yes {v : Vo} {p : Pl} {i : Nat} {x y : Ev} (hx : v.evs[i]? = some x) (hy : v.evs[runS v i - 1]? = some y) (h : smJ p (smA v p i) (smA v p (runS v i)) (runS v i - i)) : smN v p i = (replS v i (runS v i - i) ⟨joinV v p i x y, []⟩, i + (joinV v p i x y).length) := by
 rw [smN, if_pos h, joinedS, hx, hy]
theorem repl_fitN {v : Vo} {k n : Nat} {l : List Ev} (hv : v.fit) (hl : ∀ e ∈ l, e.fit) (hs : Sml v) (h : (replS v k n ⟨l, []⟩).evs.length ≤ 1000) : (replS v k n ⟨l, []⟩).fit := by
 refine ⟨h, ?_, fun e he => ?_⟩
 ·have h1 := repl_tups (v := v) (a := k) (n := n) (l := l)
  have h2 := hs.tups
  omega
 ·simp only [replS] at he
  rcases List.mem_append.1 he with he | he
  ·rcases List.mem_append.1 he with he | he
   ·exact hv.ev e (List.mem_of_mem_take he)
   ·exact hl e he
  ·exact hv.ev e (List.mem_of_mem_drop he)
theorem repl_len {v : Vo} {a n : Nat} {l : List Ev} (h : a + n ≤ v.evs.length) : (replS v a n ⟨l, []⟩).evs.length = v.evs.length - n + l.length := by
 show (v.evs.take a ++ l ++ v.evs.drop (a + n)).length = _
 rw [List.length_append, List.length_append, List.length_take, List.length_drop]; omega
theorem tot_cut (l : List Int) (i k : Nat) (h : i ≤ k) : tot (l.take k) = tot (l.take i) + tot ((l.take k).drop i) := by
 have h1 : tot (l.take k) = tot ((l.take k).take i ++ (l.take k).drop i) := by rw [List.take_append_drop]
 rw [h1, tot_app, List.take_take, Nat.min_eq_left h]
/-- joining a run keeps a voice valid -/
structure JoinR (v : Vo) (p : Pl) (i : Nat) (js : List Ev) : Prop where
 chk : p.chk (replS v i (runS v i - i) ⟨js, []⟩) = 0
 ck : ckE (replS v i (runS v i - i) ⟨js, []⟩) p.len = 0
 lens : ckL (replS v i (runS v i - i) ⟨js, []⟩) p.len = (ckL v p.len).take i ++ wrS js ++ (ckL v p.len).drop (runS v i)
 sum : tot (wrS js) = smA v p (runS v i) - smA v p i
 len : js.length = (p.m.split (p.off + smA v p i) (p.off + smA v p (runS v i))).length
 ok : ∀ e ∈ js, e.err = 0 ∧ e.kind ≠ 3
theorem join_ok {v : Vo} {p : Pl} {i : Nat} {x y : Ev} (hc : p.chk v = 0) (hx : v.evs[i]? = some x) (hJ : smJ p (smA v p i) (smA v p (runS v i)) (runS v i - i)) : JoinR v p i (joinV v p i x y) := by
 obtain ⟨hme, hpb, hck⟩ := chk_ok hc
 have hi := (List.getElem?_eq_some_iff.1 hx).1
 obtain ⟨hk1, hk2⟩ := run_bd hi
 obtain ⟨⟨⟨j1, j2⟩, j3⟩, j4, j5⟩ := hJ
 have hE := (ck_fits hck).1
 have hr : ¬ v.rest := fun k => by have := k.2; omega
 have hxe := hE x (List.mem_of_getElem? hx)
 have hxk := run_kind hE hx (by omega)
 obtain ⟨q1, q2⟩ := split_sum j4
 have hxe2 := Ev.err_reh (hs := tieAs x.heads y.heads) hxe hxk (fun e => by rw [e]; rfl) (fun e => by rw [tieAs_err]; exact e)
 obtain ⟨n1, n2⟩ := notesS_ok (x := x.reh (tieAs x.heads y.heads)) hxe2 hxk q2 false
 obtain ⟨n3, n4⟩ := idsS_ok (os := v.evs.drop i) n1 fun o ho => hE o (List.mem_of_mem_drop ho)
 have hlen : (joinV v p i x y).length = (p.m.split (p.off + smA v p i) (p.off + smA v p (runS v i))).length := by rw [joinV, idsS_len, notesS_len]
 obtain ⟨hvl1, hvl2, hv, _⟩ := (ck_vl hr).1 ⟨hck, rfl⟩
 have hev := hv.evs
 have hX : VL ⟨joinV v p i x y, []⟩ (wrS (joinV v p i x y)) := VL.nil n3 (by omega)
 have hs : tot (wrS (joinV v p i x y)) = smA v p (runS v i) - smA v p i := by rw [joinV, n4, n2, q1]; omega
 obtain ⟨ws, ls, hT⟩ := ck_tl hck
 have f1 := (free_at (T := v.tups) (k := (i : Int)) (hits_none (by have := depth_hits hT i; have := run_free j1 (Nat.le_refl i) (by omega); omega))).1
 have f2 := (free_at (T := v.tups) (k := ((runS v i - 1 : Nat) : Int)) (hits_none (by have := depth_hits hT ((runS v i - 1 : Nat) : Int); have := run_free (j := runS v i - 1) j1 (by omega) (by omega); omega))).2
 have hrl := repl_len (v := v) (a := i) (n := runS v i - i) (l := joinV v p i x y) (by omega)
 have hcut := tot_cut (ckL v p.len) i (runS v i) (by omega)
 have hR := ck_repl (x := ⟨joinV v p i x y, []⟩) hck hr (a := i) (n := runS v i - i) (by omega) f1 (by rw [show ((i : Int) + (runS v i - i : Nat)) = ((runS v i - 1 : Nat) : Int) + 1 by omega]; exact f2) hX
  (by show v.evs.length - (runS v i - i) + (joinV v p i x y).length ≤ 128; omega) (Nat.le_trans repl_tups hv.tl.tl)
  (fun _ => by rw [hs, ← List.drop_take]; unfold smA; omega) (fun _ h => by rw [h] at hi; simp at hi)
 rw [show i + (runS v i - i) = runS v i by omega] at hR
 exact ⟨by rw [Pl.chk, if_neg (by omega), if_neg hpb]; exact hR.1, hR.1, hR.2.1, hs, hlen, n3⟩
/-- the loop's invariant -/
structure SmI (v : Vo) (p : Pl) (q : Vo × Nat) : Prop where
 chk : p.chk q.1 = 0
 fit : q.1.fit
 le : q.2 ≤ q.1.evs.length
 go : ∃ f, q.1.evs.length - q.2 ≤ f ∧ simGo p f q = simV v p
theorem SmI.zero {v : Vo} {p : Pl} (hc : p.chk v = 0) (hF : v.fit) : SmI v p (v, 0) := ⟨hc, hF, Nat.zero_le _, v.evs.length, Nat.sub_le _ _, rfl⟩
theorem SmI.done {v : Vo} {p : Pl} {q : Vo × Nat} (h : SmI v p q) (hq : ¬ q.2 < q.1.evs.length) : q.1 = simV v p := by
 obtain ⟨f, hf, hg⟩ := h.go
 rw [← hg]
 cases f with
 | zero => rfl
 | succ f => rw [simGo, if_neg hq]
theorem smN_le {v : Vo} {p : Pl} {i : Nat} (hc : p.chk v = 0) (hi : i < v.evs.length) : (smN v p i).2 ≤ (smN v p i).1.evs.length ∧ (smN v p i).1.evs.length - (smN v p i).2 < v.evs.length - i ∧ (smN v p i).1.evs.length ≤ v.evs.length ∧ p.chk (smN v p i).1 = 0 ∧ (v.fit → (smN v p i).1.fit)
  ∧ smA (smN v p i).1 p (smN v p i).2 = smA v p (runS v i) := by
 obtain ⟨hk1, hk2⟩ := run_bd hi
 obtain ⟨x, hx⟩ : ∃ x, v.evs[i]? = some x := get_ex hi
 obtain ⟨y, hy⟩ : ∃ y, v.evs[runS v i - 1]? = some y := get_ex (by omega)
 by_cases c : smJ p (smA v p i) (smA v p (runS v i)) (runS v i - i)
 ·have hj := join_ok (y := y) hc hx c
  have hl := repl_len (v := v) (a := i) (n := runS v i - i) (l := joinV v p i x y) (by omega)
  have hc4 := c.2.2
  have hjl := hj.len
  rw [smN_yes hx hy c]
  refine ⟨?_, ?_, ?_, hj.chk, fun hF => ?_, ?_⟩
  ·show i + (joinV v p i x y).length ≤ (replS v i (runS v i - i) ⟨joinV v p i x y, []⟩).evs.length; omega
  ·show (replS v i (runS v i - i) ⟨joinV v p i x y, []⟩).evs.length - (i + (joinV v p i x y).length) < _; omega
  ·show (replS v i (runS v i - i) ⟨joinV v p i x y, []⟩).evs.length ≤ _; omega
  ·have hsm := ck_sml (chk_ok hc).2.2
   exact repl_fitN hF (idsS_fit (notesS_fit (reh_fit (hF.ev x (List.mem_of_getElem? hx)) _) _ _)) hsm.1 (by have := hsm.2; omega)
  ·show tot ((ckL (replS v i (runS v i - i) ⟨joinV v p i x y, []⟩) p.len).take (i + (joinV v p i x y).length)) = _
   have hcl := ckL_len (chk_ok hc).2.2
   have h1 : ((ckL v p.len).take i ++ wrS (joinV v p i x y)).length = i + (joinV v p i x y).length := by rw [List.length_append, List.length_take, wrS_len]; omega
   rw [hj.lens, ← h1, List.take_left, tot_app, hj.sum]; unfold smA; omega
 ·rw [smN_no c]
  exact ⟨hk2, by show v.evs.length - runS v i < _; omega, Nat.le_refl _, hc, fun h => h, rfl⟩
theorem SmI.next {v : Vo} {p : Pl} {q : Vo × Nat} (h : SmI v p q) (hq : q.2 < q.1.evs.length) : SmI v p (smN q.1 p q.2) ∧ (smN q.1 p q.2).1.evs.length - (smN q.1 p q.2).2 < q.1.evs.length - q.2 := by
 obtain ⟨h1, h2, h3, h4, h5, _⟩ := smN_le h.chk hq
 refine ⟨⟨h4, h5 h.fit, h1, ?_⟩, h2⟩
 obtain ⟨f, hf, hg⟩ := h.go
 cases f with
 | zero => omega
 | succ f => exact ⟨f, by omega, by rw [← hg, simGo, if_pos hq]⟩
theorem SmI.nextJ {v : Vo} {p : Pl} {q : Vo × Nat} {r : Vo × Nat} (h : SmI v p q) (hq : q.2 < q.1.evs.length) (hr : smN q.1 p q.2 = r) : SmI v p r ∧ r.1.evs.length - r.2 < q.1.evs.length - q.2 ∧ smA r.1 p r.2 = smA q.1 p (runS q.1 q.2) := by
 subst hr
 obtain ⟨h1, h2⟩ := h.next hq
 exact ⟨h1, h2, (smN_le h.chk hq).2.2.2.2.2⟩
theorem nums_drop {l : List Int} (h : Nums l) (k : Nat) : Nums (l.drop k) := ⟨by rw [List.length_drop]; have := h.len; omega, fun x hx => h.bd x (List.mem_of_mem_drop hx)⟩
theorem smA_bd (v : Vo) (p : Pl) (i : Nat) : 0 ≤ smA v p i ∧ smA v p i ≤ 32469952757760 := ((nums_ckL v p.len).take i).tot
theorem sm_1 {v : Vo} {p : Pl} (h : p.chk v ≠ 0) : simS v p = (⟨[], []⟩, p.chk v) := by rw [simS, if_pos h]
theorem sm_2 {v : Vo} {p : Pl} (h : ¬ p.chk v ≠ 0) : simS v p = (simV v p, 0) := by rw [simS, if_neg h]
end Go.Proofs.YtcihalbakenleaaGreat
namespace Go.Proofs.YtcihalbakenleaaGreat
open Go.RowKit
/-- one result variable that is an object's cells, as a slot -/
theorem RVS.cells {P : Program} {n : Nat} {f : Fr} {h : Xh} {a t m i : Nat} {l : List S} (ha : Nat.blt a n = true) (hf : f a = .ptr i 0 0) (hi : h i = some (.box l)) (hs : aggB P t m = true) (hm : m ≤ l.length) : RVS P n f h (.cell a t) (.agg ((l.drop 0).take m)) := fun E H β act w hsim hfv => by
 have g := hfv.slot a (blt_lt ha)
 rw [hf] at g
 obtain ⟨L, h1, h2⟩ := vs_ptr g
 rw [Nat.zero_mul, Nat.zero_add] at h2
 have hp : Pure P ⟨none, .load t (.tmp 0), t, "", #[], none⟩ (fun _ => .ptr i 0 0) h (.agg ((l.drop 0).take m)) := p_load_boxs rfl rfl hs hi (by omega)
 obtain ⟨u, r1, r2⟩ := hp E H β (fun _ => act.tmps.getD a undef) w hsim (fun x _ => by rw [h2]; have := VS.ptr (H := H) 0 0 h1; rw [Nat.zero_mul, Nat.zero_add] at this; exact this)
 rw [load_run rfl h2] at r1
 refine ⟨u, ?_, r2⟩
 unfold rvRun
 simp only [Sem.run_bind, h2, asAddr, Sem.run_pure, Result.andThen_ok]
 generalize (loadVar t ⟨L.b, 0, none⟩).run P w = r at r1
 cases r with
 | ok v w' => simp only [Result.andThen_ok, Result.ok.injEq, Next.value.injEq] at r1; obtain ⟨rfl, rfl⟩ := r1; rfl
 | halt x w' => simp [Result.andThen] at r1
end Go.Proofs.YtcihalbakenleaaGreat
namespace Go.Proofs.YtcihalbakenleaaGreat
open Go.RowKit
def idxS (p : Int → Bool) (l : List Int) : Int := match l.findIdx? p with | some k => k | none => -1
/-- where the events between two ticks begin and end -/
def firstN (on : List Int) (a : Int) : Nat := on.findIdx fun x => decide (a ≤ x)
def lastN (on : List Int) (a b : Int) : Nat := firstN on a + ((on.drop (firstN on a)).takeWhile fun x => decide (a ≤ x ∧ x < b)).length
def strad (t : Tp) (f l : Int) : Prop := max t.first f < min (t.first + t.count) l ∧ (max t.first f ≠ t.first ∨ min (t.first + t.count) l ≠ t.first + t.count)
instance (t : Tp) (f l : Int) : Decidable (strad t f l) := by unfold strad; exact inferInstance
def regT (d : Vo) (p : Pl) (a b : Int) : Vo × Int × Int × Int :=
 if ∃ t ∈ d.tups, strad t (firstN (onsS (ckL d p.len)) a) (lastN (onsS (ckL d p.len)) a b) then (⟨[], []⟩, 0, 0, 27) else (d, (firstN (onsS (ckL d p.len)) a : Int), (lastN (onsS (ckL d p.len)) a b : Int), 0)
def regD (v : Vo) (p : Pl) (a b : Int) : Vo × Int × Int × Int :=
 if (divS v p a).2 ≠ 0 then (⟨[], []⟩, 0, 0, (divS v p a).2) else if (divS (divS v p a).1 p b).2 ≠ 0 then (⟨[], []⟩, 0, 0, (divS (divS v p a).1 p b).2) else regT (divS (divS v p a).1 p b).1 p a b
/-- a voice divided at two ticks, the events between them, the error -/
def regS (v : Vo) (p : Pl) (a b : Int) : Vo × Int × Int × Int :=
 if p.chk v ≠ 0 then (⟨[], []⟩, 0, 0, p.chk v) else if v.absent then (⟨[], []⟩, 0, 0, 10) else if a < 0 ∨ b < a ∨ p.len < b then (⟨[], []⟩, 0, 0, 2) else regD v p a b
end Go.Proofs.YtcihalbakenleaaGreat
namespace Go.Proofs.YtcihalbakenleaaGreat
open Go.RowKit
theorem simplify_xc (v : Vo) (p : Pl) (hE : Evs v.evs) (hF : v.fit) : XC Tryz.prog 20 [.agg (Vo.c v), .agg (Pl.c p)] (fun r => r = .tup [.agg (Vo.c (simS v p).1), dI (simS v p).2]) := by
 refine xc_body callable_20 Tryz.func20 rfl rfl (Nat.le_of_ble_eq_true rfl) ?_
 refine zr ?_
 refine XL.step rfl (st_boxN 2 (l := [.d (.sl 13 (v.evs.map Ev.c)), .d (.sl 4 (v.tups.map Tp.c))]) rfl rfl (by kernel_rfl)) ?_
 refine XL.step rfl (st_boxN 3 (l := [.d (dI p.m.count), .d (dI p.m.unit), .d (dI p.m.g0), .d (dI p.m.g1), .d (dI p.m.g2), .d (dI p.m.g3), .d (dI p.m.g4), .d (dI p.m.g5), .d (dI p.off), .d (dI p.len)]) rfl rfl (by kernel_rfl)) ?_
 refine XL.step rfl (st_allocN 4 (l := [.d (.v (.slice none 0 0)), .d (.v (.slice none 0 0))]) rfl zero_25 (by kernel_rfl)) ?_
 refine za rfl rfl ?_
 refine zn ?_
 refine zs ?_
 refine zr ?_
 refine zp (pure_eq (s' := .d (.agg (Pl.c p))) (norm_pure (p_load_boxs rfl rfl agg_30 rfl (Nat.le_of_ble_eq_true rfl))) (by kernel_rfl)) ?_
 refine zp (pure_eq (s' := .d (.agg (Vo.c v))) (norm_pure (p_load_boxs rfl rfl agg_25 rfl (Nat.le_of_ble_eq_true rfl))) (by kernel_rfl)) ?_
 refine XL.call1 rfl rfl (pcheck2_xc _ _ (by assumption)) rfl ?_
 refine za rfl rfl ?_
 refine znr ?_
 refine zm rfl rfl ?_
 refine zp (p_neq rfl rfl rfl) ?_
 refine zn ?_
 refine zd rfl (fun c24 => ?_) (fun c24 => ?_)
 refine zr ?_
 refine zp (pure_eq (s' := .d (.agg [.v (.slice none 0 0), .v (.slice none 0 0)])) (norm_pure (p_build rfl str_25 zero_25 rfl)) (by kernel_rfl)) ?_
 refine zm rfl rfl ?_
 refine XL.step rfl (st_storeN (l' := [.d (.v (.slice none 0 0)), .d (.v (.slice none 0 0))]) rfl rfl rfl rfl sz_25 rfl (Nat.le_of_ble_eq_true rfl) (by kernel_rfl)) ?_
 refine za rfl rfl ?_
 refine zn ?_
 refine zt ?_
 exact ret2 rfl (RV.sub (RV.cells rfl rfl rfl agg_25 (Nat.le_of_ble_eq_true rfl) rfl) (.agg (.cons (.nil 13) (.cons (.nil 4) (.nil))))) (RV.tmp rfl rfl) (r2v (sm_1 c24))
 refine zi ?_
 refine zs ?_
 have hc0 : p.chk v = 0 := by omega
 refine xw_region (by kernel_rfl) ?_
 refine zp (pure_eq (s' := .d (.agg (Vo.c v))) (norm_pure (p_load_boxs rfl rfl agg_25 rfl (Nat.le_of_ble_eq_true rfl))) (by kernel_rfl)) ?_
 refine XL.call1 rfl rfl (vclone_xc _ (by assumption)) rfl ?_
 refine XL.step rfl (st_allocN 7 (l := [.d (.v (.slice none 0 0)), .d (.v (.slice none 0 0))]) rfl zero_25 (by kernel_rfl)) ?_
 refine XL.step rfl (st_storeN (l' := [.d (.sl 13 (v.evs.map Ev.c)), .d (.sl 4 (v.tups.map Tp.c))]) rfl rfl rfl rfl sz_25 rfl (Nat.le_of_ble_eq_true rfl) (by kernel_rfl)) ?_
 refine znr ?_
 refine za rfl rfl ?_
 refine zn ?_
 refine zs ?_
 refine zr ?_
 refine za rfl rfl ?_
 refine zn ?_
 refine xw_block ?_
 refine xw_loop (α := Vo × Nat) (fun q => SmI v p q) (fun q => mkF [(3, .ptr 3 0 0), (4, .ptr 4 0 0), (5, .d (dI 0)), (7, .ptr 7 0 0), (8, .d (dI (smA q.1 p q.2))), (9, .d (dI (q.2 : Nat)))]) (fun q => mkH [(3, .box ((Pl.c p).map S.d)), (4, .box [.d (.v (.slice none 0 0)), .d (.v (.slice none 0 0))]), (7, .box ((Vo.c q.1).map S.d))]) (fun q => q.1.evs.length - q.2) ((v, 0)) (SmI.zero hc0 hF) ?_ ?_ ?_
 exact fz ⟨sr, sr, sr, sr, sr, sr, trivial⟩
 exact gz ⟨rfl, rfl, rfl, trivial⟩
 intro q hk0
 have hS := hk0
 have hcq := hS.chk
 have hFq := hS.fit
 obtain ⟨hme, hpb, hck⟩ := chk_ok hcq
 obtain ⟨hsv, hev⟩ := ck_sml hck
 have hEq := (ck_fits hck).2
 have hN := nums_ckL q.1 p.len
 have hcl := ckL_len hck
 have hb1 := smA_bd q.1 p q.2
 have hb2 := smA_bd q.1 p (runS q.1 q.2)
 unfold Pl.bad at hpb
 refine zs ?_
 refine zr ?_
 refine zm rfl rfl ?_
 refine zp (p_fld_ptr rfl rfl fld_25_0) ?_
 refine zp (p_load_box rfl rfl sc_22 rfl rfl) ?_
 refine XL.len rfl rfl rfl Tryz.underlying22 (fun hl32 => ?_)
 refine zp (p_lss rfl rfl rfl) ?_
 refine zn ?_
 refine zd rfl (fun c33 => ?_) (fun c33 => ?_)
 have hq2 : q.2 < q.1.evs.length := by omega
 obtain ⟨hrn1, hrn2⟩ := run_bd hq2
 have hNs := nums_drop (hN.take (runS q.1 q.2)) q.2
 have hNb := hNs.tot
 have hcut : smA q.1 p (runS q.1 q.2) = smA q.1 p q.2 + tot (((ckL q.1 p.len).take (runS q.1 q.2)).drop q.2) := tot_cut (ckL q.1 p.len) q.2 (runS q.1 q.2) (by omega)
 refine zi ?_
 refine xw_block ?_
 refine zr ?_
 refine zp (pure_eq (s' := .d (.agg (Vo.c q.1))) (norm_pure (p_load_boxs rfl rfl agg_25 rfl (Nat.le_of_ble_eq_true rfl))) (by kernel_rfl)) ?_
 refine zp (p_fld_ptr rfl rfl fld_30_2) ?_
 refine zp (p_load_box rfl rfl sc_3 rfl rfl) ?_
 refine XL.call1 rfl rfl (Lengths_xc _ _ (by assumption)) rfl ?_
 refine zm rfl rfl ?_
 refine zp (p_ext rfl rfl rfl) ?_
 refine zp (p_ext rfl rfl rfl) ?_
 refine za rfl rfl ?_
 refine za rfl rfl ?_
 refine znr ?_
 refine zp (pure_eq (s' := .d (.agg (Vo.c q.1))) (norm_pure (p_load_boxs rfl rfl agg_25 rfl (Nat.le_of_ble_eq_true rfl))) (by kernel_rfl)) ?_
 refine zm rfl rfl ?_
 refine XL.call1 rfl rfl (run_xc q.1 q.2 hFq (by omega) hq2) rfl ?_
 refine za rfl rfl ?_
 refine znr ?_
 refine zm rfl rfl ?_
 refine zm rfl rfl ?_
 refine zm rfl rfl ?_
 refine zm rfl rfl ?_
 refine zp (p_slice_map rfl rfl el_64 (Bd.at rfl) (Bd.at rfl) (by omega) (by omega)) ?_
 refine XL.call1 rfl rfl (total_xc _ hNs) rfl ?_
 refine zp (pure_eq (s' := .d (dI (smA q.1 p (runS q.1 q.2)))) (p_add rfl rfl rfl (by omega) (by omega)) (sI ((tot_cut (ckL q.1 p.len) q.2 (runS q.1 q.2) (by omega)).symm))) ?_
 refine za rfl rfl ?_
 refine zn ?_
 refine zs ?_
 refine zr ?_
 refine zm rfl rfl ?_
 refine zm rfl rfl ?_
 refine zp (p_sub rfl rfl rfl (by omega) (by omega)) ?_
 refine zp (p_gtr rfl rfl rfl) ?_
 refine zm rfl rfl ?_
 refine XL.dec 55 rfl (fun g55 => ?_) (fun g55 => ?_)
 refine zp (p_fld_ptr rfl rfl fld_30_1) ?_
 refine zp (p_load_box rfl rfl sc_3 rfl rfl) ?_
 refine zm rfl rfl ?_
 refine zp (p_add rfl rfl rfl (by omega) (by omega)) ?_
 refine zp (p_rem rfl rfl rfl (by omega) (by omega)) ?_
 refine zp (p_eql rfl rfl rfl) ?_
 refine zq rfl rfl rfl ?_
 refine zm rfl rfl ?_
 refine XL.dec 63 rfl (fun g63 => ?_) (fun g63 => ?_)
 refine zp (p_fld_ptr rfl rfl fld_30_1) ?_
 refine zp (p_load_box rfl rfl sc_3 rfl rfl) ?_
 refine zm rfl rfl ?_
 refine zp (p_add rfl rfl rfl (by omega) (by omega)) ?_
 refine zp (p_rem rfl rfl rfl (by omega) (by omega)) ?_
 refine zp (p_eql rfl rfl rfl) ?_
 refine zq rfl rfl rfl ?_
 refine zn ?_
 refine zd rfl (fun c70 => ?_) (fun c70 => ?_)
 refine zs ?_
 obtain ⟨x, hx⟩ : ∃ x, q.1.evs[q.2]? = some x := get_ex hq2
 obtain ⟨y, hy⟩ : ∃ y, q.1.evs[runS q.1 q.2 - 1]? = some y := get_ex (by omega)
 have hsl := split_len p.m (p.off + smA q.1 p q.2) (p.off + smA q.1 p (runS q.1 q.2))
 refine xw_region (by kernel_rfl) ?_
 refine zp (p_fld_ptr rfl rfl fld_30_0) ?_
 refine zp (pure_eq (s' := .d (.agg (Me.c p.m))) (norm_pure (p_load_boxs rfl rfl agg_28 rfl (Nat.le_of_ble_eq_true rfl))) (by kernel_rfl)) ?_
 refine zp (p_fld_ptr rfl rfl fld_30_1) ?_
 refine zp (p_load_box rfl rfl sc_3 rfl rfl) ?_
 refine zm rfl rfl ?_
 refine zp (p_add rfl rfl rfl (by omega) (by omega)) ?_
 refine zp (p_fld_ptr rfl rfl fld_30_1) ?_
 refine zp (p_load_box rfl rfl sc_3 rfl rfl) ?_
 refine zm rfl rfl ?_
 refine zp (p_add rfl rfl rfl (by omega) (by omega)) ?_
 refine XL.call1 rfl rfl (mSplit_xc _ _ _) rfl ?_
 refine zm rfl rfl ?_
 refine zp (p_ext rfl rfl rfl) ?_
 refine zp (p_ext rfl rfl rfl) ?_
 refine za rfl rfl ?_
 refine za rfl rfl ?_
 refine znr ?_
 refine zm rfl rfl ?_
 refine zp (p_eql rfl rfl rfl) ?_
 refine zm rfl rfl ?_
 refine XL.dec 87 rfl (fun g87 => ?_) (fun g87 => ?_)
 refine zm rfl rfl ?_
 refine XL.len rfl rfl rfl Tryz.underlying106 (fun hl89 => ?_)
 refine zm rfl rfl ?_
 refine zm rfl rfl ?_
 refine zp (p_sub rfl rfl rfl (by omega) (by omega)) ?_
 refine zp (p_lss rfl rfl rfl) ?_
 refine zq rfl rfl rfl ?_
 refine zn ?_
 refine zd rfl (fun c94 => ?_) (fun c94 => ?_)
 refine zs ?_
 have hJ : smJ p (smA q.1 p q.2) (smA q.1 p (runS q.1 q.2)) (runS q.1 q.2 - q.2) := ⟨⟨⟨by omega, by omega⟩, by omega⟩, by omega, by omega⟩
 have hxf := hFq.ev x (List.mem_of_getElem? hx)
 have hxh := hxf.1
 have hxg := hxf.2.1
 have hxl := hxf.2.2
 have hrf := reh_fit hxf y.heads
 have hxy : x.heads.length = y.heads.length := run_heads (ck_fits hck).1 hx (runS q.1 q.2 - 1 - q.2) (by omega) (by rw [show q.2 + (runS q.1 q.2 - 1 - q.2) = runS q.1 q.2 - 1 by omega]; exact hy)
 refine xw_region (by kernel_rfl) ?_
 refine zp (p_fld_ptr rfl rfl fld_25_0) ?_
 refine zp (p_load_box rfl rfl sc_22 rfl rfl) ?_
 refine zm rfl rfl ?_
 refine zp (p_idx_map rfl rfl rfl el_22 (hx)) ?_
 refine zp (pure_eq (s' := .d (.agg (Ev.c x))) (p_load_pts rfl rfl agg_60 (Nat.le_of_ble_eq_true rfl)) (by kernel_rfl)) ?_
 refine XL.inl 900001 [(3, .ptr 3 0 0), (4, .ptr 4 0 0), (5, .d (dI 0)), (7, .ptr 7 0 0), (8, .d (dI (smA q.1 p q.2))), (9, .d (dI (q.2 : Nat))), (10, .d (.sl 1 (ints (ckL q.1 p.len)))), (11, .d (dI (ckE q.1 p.len))), (12, .d (dI (runS q.1 q.2 : Nat))), (13, .d (dI (smA q.1 p (runS q.1 q.2)))), (14, .d (.sl 2 ((p.m.split (p.off + (smA q.1 p q.2)) (p.off + (smA q.1 p (runS q.1 q.2)))).map Val.c))), (15, .d (dI (p.m.splitE (p.off + (smA q.1 p q.2)) (p.off + (smA q.1 p (runS q.1 q.2)))))), (29, .d (dI (q.2 : Nat))), (30, .ptr 7 0 0), (31, .d (.sl 13 (q.1.evs.map Ev.c))), (32, .d (dI q.1.evs.length)), (35, .d (.agg (Vo.c q.1))), (36, .ptr 3 0 9), (37, .d (dI p.len)), (39, .d (.sl 1 (ints (ckL q.1 p.len)))), (40, .d (dI (ckE q.1 p.len))), (41, .d (.agg (Vo.c q.1))), (42, .d (dI (q.2 : Nat))), (43, .d (dI (runS q.1 q.2 : Nat))), (44, .d (dI (smA q.1 p q.2))), (45, .d (.sl 1 (ints (ckL q.1 p.len)))), (46, .d (dI (q.2 : Nat))), (47, .d (dI (runS q.1 q.2 : Nat))), (48, .d (.sl 1 ((((ckL q.1 p.len).take (runS q.1 q.2 : Nat)).drop (q.2 : Nat)).map iv))), (49, .d (dI (tot (((ckL q.1 p.len).take (runS q.1 q.2)).drop q.2)))), (50, .d (dI (smA q.1 p (runS q.1 q.2)))), (51, .d (dI (runS q.1 q.2 : Nat))), (52, .d (dI (q.2 : Nat))), (53, .d (dI ((runS q.1 q.2 : Nat) - (q.2 : Nat)))), (56, .ptr 3 0 8), (57, .d (dI p.off)), (58, .d (dI (smA q.1 p q.2))), (59, .d (dI (p.off + (smA q.1 p q.2)))), (60, .d (dI ((p.off + (smA q.1 p q.2)) % 7560))), (64, .ptr 3 0 8), (65, .d (dI p.off)), (66, .d (dI (smA q.1 p (runS q.1 q.2)))), (67, .d (dI (p.off + (smA q.1 p (runS q.1 q.2))))), (68, .d (dI ((p.off + (smA q.1 p (runS q.1 q.2))) % 7560))), (72, .ptr 3 0 0), (73, .d (.agg (Me.c p.m))), (74, .ptr 3 0 8), (75, .d (dI p.off)), (76, .d (dI (smA q.1 p q.2))), (77, .d (dI (p.off + (smA q.1 p q.2)))), (78, .ptr 3 0 8), (79, .d (dI p.off)), (80, .d (dI (smA q.1 p (runS q.1 q.2)))), (81, .d (dI (p.off + (smA q.1 p (runS q.1 q.2))))), (83, .d (.sl 2 ((p.m.split (p.off + (smA q.1 p q.2)) (p.off + (smA q.1 p (runS q.1 q.2)))).map Val.c))), (84, .d (dI (p.m.splitE (p.off + (smA q.1 p q.2)) (p.off + (smA q.1 p (runS q.1 q.2)))))), (85, .d (dI (p.m.splitE (p.off + (smA q.1 p q.2)) (p.off + (smA q.1 p (runS q.1 q.2)))))), (88, .d (.sl 2 ((p.m.split (p.off + (smA q.1 p q.2)) (p.off + (smA q.1 p (runS q.1 q.2)))).map Val.c))), (89, .d (dI (p.m.split (p.off + (smA q.1 p q.2)) (p.off + (smA q.1 p (runS q.1 q.2)))).length)), (90, .d (dI (runS q.1 q.2 : Nat))), (91, .d (dI (q.2 : Nat))), (92, .d (dI ((runS q.1 q.2 : Nat) - (q.2 : Nat)))), (95, .ptr 7 0 0), (96, .d (.sl 13 (q.1.evs.map Ev.c))), (97, .d (dI (q.2 : Nat))), (98, .d (.pt (Ev.c x))), (99, .d (.agg (Ev.c x)))] rfl rfl .d callable_63 Tryz.func63 rfl rfl (Nat.le_of_ble_eq_true rfl) (by simp only [List.forall_mem_cons]; exact ⟨⟨Nat.le_of_ble_eq_true rfl, rfl⟩, ⟨⟨Nat.le_of_ble_eq_true rfl, rfl⟩, ⟨⟨Nat.le_of_ble_eq_true rfl, rfl⟩, ⟨⟨Nat.le_of_ble_eq_true rfl, rfl⟩, ⟨⟨Nat.le_of_ble_eq_true rfl, rfl⟩, ⟨⟨Nat.le_of_ble_eq_true rfl, rfl⟩, ⟨⟨Nat.le_of_ble_eq_true rfl, rfl⟩, ⟨⟨Nat.le_of_ble_eq_true rfl, rfl⟩, ⟨⟨Nat.le_of_ble_eq_true rfl, rfl⟩, ⟨⟨Nat.le_of_ble_eq_true rfl, rfl⟩, ⟨⟨Nat.le_of_ble_eq_true rfl, rfl⟩, ⟨⟨Nat.le_of_ble_eq_true rfl, rfl⟩, ⟨⟨Nat.le_of_ble_eq_true rfl, rfl⟩, ⟨⟨Nat.le_of_ble_eq_true rfl, rfl⟩, ⟨⟨Nat.le_of_ble_eq_true rfl, rfl⟩, ⟨⟨Nat.le_of_ble_eq_true rfl, rfl⟩, ⟨⟨Nat.le_of_ble_eq_true rfl, rfl⟩, ⟨⟨Nat.le_of_ble_eq_true rfl, rfl⟩, ⟨⟨Nat.le_of_ble_eq_true rfl, rfl⟩, ⟨⟨Nat.le_of_ble_eq_true rfl, rfl⟩, ⟨⟨Nat.le_of_ble_eq_true rfl, rfl⟩, ⟨⟨Nat.le_of_ble_eq_true rfl, rfl⟩, ⟨⟨Nat.le_of_ble_eq_true rfl, rfl⟩, ⟨⟨Nat.le_of_ble_eq_true rfl, rfl⟩, ⟨⟨Nat.le_of_ble_eq_true rfl, rfl⟩, ⟨⟨Nat.le_of_ble_eq_true rfl, rfl⟩, ⟨⟨Nat.le_of_ble_eq_true rfl, rfl⟩, ⟨⟨Nat.le_of_ble_eq_true rfl, rfl⟩, ⟨⟨Nat.le_of_ble_eq_true rfl, rfl⟩, ⟨⟨Nat.le_of_ble_eq_true rfl, rfl⟩, ⟨⟨Nat.le_of_ble_eq_true rfl, rfl⟩, ⟨⟨Nat.le_of_ble_eq_true rfl, rfl⟩, ⟨⟨Nat.le_of_ble_eq_true rfl, rfl⟩, ⟨⟨Nat.le_of_ble_eq_true rfl, rfl⟩, ⟨⟨Nat.le_of_ble_eq_true rfl, rfl⟩, ⟨⟨Nat.le_of_ble_eq_true rfl, rfl⟩, ⟨⟨Nat.le_of_ble_eq_true rfl, rfl⟩, ⟨⟨Nat.le_of_ble_eq_true rfl, rfl⟩, ⟨⟨Nat.le_of_ble_eq_true rfl, rfl⟩, ⟨⟨Nat.le_of_ble_eq_true rfl, rfl⟩, ⟨⟨Nat.le_of_ble_eq_true rfl, rfl⟩, ⟨⟨Nat.le_of_ble_eq_true rfl, rfl⟩, ⟨⟨Nat.le_of_ble_eq_true rfl, rfl⟩, ⟨⟨Nat.le_of_ble_eq_true rfl, rfl⟩, ⟨⟨Nat.le_of_ble_eq_true rfl, rfl⟩, ⟨⟨Nat.le_of_ble_eq_true rfl, rfl⟩, ⟨⟨Nat.le_of_ble_eq_true rfl, rfl⟩, ⟨⟨Nat.le_of_ble_eq_true rfl, rfl⟩, ⟨⟨Nat.le_of_ble_eq_true rfl, rfl⟩, ⟨⟨Nat.le_of_ble_eq_true rfl, rfl⟩, ⟨⟨Nat.le_of_ble_eq_true rfl, rfl⟩, ⟨⟨Nat.le_of_ble_eq_true rfl, rfl⟩, ⟨⟨Nat.le_of_ble_eq_true rfl, rfl⟩, ⟨⟨Nat.le_of_ble_eq_true rfl, rfl⟩, ⟨⟨Nat.le_of_ble_eq_true rfl, rfl⟩, ⟨⟨Nat.le_of_ble_eq_true rfl, rfl⟩, ⟨⟨Nat.le_of_ble_eq_true rfl, rfl⟩, ⟨⟨Nat.le_of_ble_eq_true rfl, rfl⟩, ⟨⟨Nat.le_of_ble_eq_true rfl, rfl⟩, ⟨⟨Nat.le_of_ble_eq_true rfl, rfl⟩, ⟨⟨Nat.le_of_ble_eq_true rfl, rfl⟩, ⟨⟨Nat.le_of_ble_eq_true rfl, rfl⟩, ⟨⟨Nat.le_of_ble_eq_true rfl, rfl⟩, ⟨⟨Nat.le_of_ble_eq_true rfl, rfl⟩, ⟨⟨Nat.le_of_ble_eq_true rfl, rfl⟩, ⟨⟨Nat.le_of_ble_eq_true rfl, rfl⟩, ⟨⟨Nat.le_of_ble_eq_true rfl, rfl⟩, fun p hp => (by cases hp)⟩⟩⟩⟩⟩⟩⟩⟩⟩⟩⟩⟩⟩⟩⟩⟩⟩⟩⟩⟩⟩⟩⟩⟩⟩⟩⟩⟩⟩⟩⟩⟩⟩⟩⟩⟩⟩⟩⟩⟩⟩⟩⟩⟩⟩⟩⟩⟩⟩⟩⟩⟩⟩⟩⟩⟩⟩⟩⟩⟩⟩⟩⟩⟩⟩⟩⟩) (fun u1 => ?_)
 refine zr ?_
 refine XL.step rfl (st_boxN 1001 (l := [.d (dI x.site), .d (dI x.num), .d (dI x.kind), .d (dI x.v.log), .d (dI x.v.dots), .d (.sl 5 (x.heads.map Hd.c)), .d (.sl 5 (x.graces.map Gr.c)), .d (dI x.art), .d (dI x.orn), .d (dI x.dyn), .d (.sl 2 (x.lyr.map Sy.c)), .d (dI x.stem), .d (dI x.beam)]) rfl rfl (by kernel_rfl)) ?_
 refine XL.step rfl (st_allocN 1002 (l := [.d (dI 0), .d (dI 0), .d (dI 0), .d (dI 0), .d (dI 0), .d (.v (.slice none 0 0)), .d (.v (.slice none 0 0)), .d (dI 0), .d (dI 0), .d (dI 0), .d (.v (.slice none 0 0)), .d (dI 0), .d (dI 0)]) rfl zero_60 (by kernel_rfl)) ?_
 refine zn ?_
 refine zs ?_
 refine xw_anyP 10 [7001, 7002, 7003] (by kernel_rfl) (by kernel_rfl) (by kernel_rfl) (by kernel_rfl) (by decide) ?_
 refine yp (p_fld_ptr rfl rfl fld_60_3) ?_
 refine yp (p_load_box rfl rfl sc_48 rfl rfl) ?_
 refine ChK.cons rfl (CStep.callS rfl ((clone_Hd_xs _ (by omega)).lab 7001) rfl (hn_one (by kernel_rfl))) ?_
 refine yp (p_fld_ptr rfl rfl fld_60_4) ?_
 refine yp (p_load_box rfl rfl sc_57 rfl rfl) ?_
 refine ChK.cons rfl (CStep.callS rfl ((clone_Gr_xs _ (by omega)).lab 7002) rfl (hn_one (by kernel_rfl))) ?_
 refine yp (p_fld_ptr rfl rfl fld_60_8) ?_
 refine yp (p_load_box rfl rfl sc_58 rfl rfl) ?_
 refine ChK.cons rfl (CStep.callS rfl ((clone_Sy_xs _ (by omega)).lab 7003) rfl (hn_one (by kernel_rfl))) ?_
 refine yp (p_fld_ptr rfl rfl fld_60_3) ?_
 refine ChK.nil ⟨by kernel_rfl, ?_⟩
 refine XL.step rfl (st_storeN (l' := [.d (dI x.site), .d (dI x.num), .d (dI x.kind), .d (dI x.v.log), .d (dI x.v.dots), .own 7001, .d (.sl 5 (x.graces.map Gr.c)), .d (dI x.art), .d (dI x.orn), .d (dI x.dyn), .d (.sl 2 (x.lyr.map Sy.c)), .d (dI x.stem), .d (dI x.beam)]) rfl rfl rfl rfl sz_48 rfl (Nat.le_of_ble_eq_true rfl) (by kernel_rfl)) ?_
 refine zp (p_fld_ptr rfl rfl fld_60_4) ?_
 refine XL.step rfl (st_storeN (l' := [.d (dI x.site), .d (dI x.num), .d (dI x.kind), .d (dI x.v.log), .d (dI x.v.dots), .own 7001, .own 7002, .d (dI x.art), .d (dI x.orn), .d (dI x.dyn), .d (.sl 2 (x.lyr.map Sy.c)), .d (dI x.stem), .d (dI x.beam)]) rfl rfl rfl rfl sz_57 rfl (Nat.le_of_ble_eq_true rfl) (by kernel_rfl)) ?_
 refine zp (p_fld_ptr rfl rfl fld_60_8) ?_
 refine XL.step rfl (st_storeN (l' := [.d (dI x.site), .d (dI x.num), .d (dI x.kind), .d (dI x.v.log), .d (dI x.v.dots), .own 7001, .own 7002, .d (dI x.art), .d (dI x.orn), .d (dI x.dyn), .own 7003, .d (dI x.stem), .d (dI x.beam)]) rfl rfl rfl rfl sz_58 rfl (Nat.le_of_ble_eq_true rfl) (by kernel_rfl)) ?_
 refine znr ?_
 refine zp (norm_pure (p_load_boxs rfl rfl agg_60 rfl (Nat.le_of_ble_eq_true rfl))) ?_
 refine XL.step rfl (st_storeN (l' := [.d (dI x.site), .d (dI x.num), .d (dI x.kind), .d (dI x.v.log), .d (dI x.v.dots), .own 7001, .own 7002, .d (dI x.art), .d (dI x.orn), .d (dI x.dyn), .own 7003, .d (dI x.stem), .d (dI x.beam)]) rfl rfl rfl rfl sz_60 rfl (Nat.le_of_ble_eq_true rfl) (by kernel_rfl)) ?_
 refine zn ?_
 refine zt ?_
 refine (k_inl (l := [(3, .ptr 3 0 0), (4, .ptr 4 0 0), (5, .d (dI 0)), (7, .ptr 7 0 0), (8, .d (dI (smA q.1 p q.2))), (9, .d (dI (q.2 : Nat))), (10, .d (.sl 1 (ints (ckL q.1 p.len)))), (11, .d (dI (ckE q.1 p.len))), (12, .d (dI (runS q.1 q.2 : Nat))), (13, .d (dI (smA q.1 p (runS q.1 q.2)))), (14, .d (.sl 2 ((p.m.split (p.off + (smA q.1 p q.2)) (p.off + (smA q.1 p (runS q.1 q.2)))).map Val.c))), (15, .d (dI (p.m.splitE (p.off + (smA q.1 p q.2)) (p.off + (smA q.1 p (runS q.1 q.2)))))), (29, .d (dI (q.2 : Nat))), (30, .ptr 7 0 0), (31, .d (.sl 13 (q.1.evs.map Ev.c))), (32, .d (dI q.1.evs.length)), (35, .d (.agg (Vo.c q.1))), (36, .ptr 3 0 9), (37, .d (dI p.len)), (39, .d (.sl 1 (ints (ckL q.1 p.len)))), (40, .d (dI (ckE q.1 p.len))), (41, .d (.agg (Vo.c q.1))), (42, .d (dI (q.2 : Nat))), (43, .d (dI (runS q.1 q.2 : Nat))), (44, .d (dI (smA q.1 p q.2))), (45, .d (.sl 1 (ints (ckL q.1 p.len)))), (46, .d (dI (q.2 : Nat))), (47, .d (dI (runS q.1 q.2 : Nat))), (48, .d (.sl 1 ((((ckL q.1 p.len).take (runS q.1 q.2 : Nat)).drop (q.2 : Nat)).map iv))), (49, .d (dI (tot (((ckL q.1 p.len).take (runS q.1 q.2)).drop q.2)))), (50, .d (dI (smA q.1 p (runS q.1 q.2)))), (51, .d (dI (runS q.1 q.2 : Nat))), (52, .d (dI (q.2 : Nat))), (53, .d (dI ((runS q.1 q.2 : Nat) - (q.2 : Nat)))), (56, .ptr 3 0 8), (57, .d (dI p.off)), (58, .d (dI (smA q.1 p q.2))), (59, .d (dI (p.off + (smA q.1 p q.2)))), (60, .d (dI ((p.off + (smA q.1 p q.2)) % 7560))), (64, .ptr 3 0 8), (65, .d (dI p.off)), (66, .d (dI (smA q.1 p (runS q.1 q.2)))), (67, .d (dI (p.off + (smA q.1 p (runS q.1 q.2))))), (68, .d (dI ((p.off + (smA q.1 p (runS q.1 q.2))) % 7560))), (72, .ptr 3 0 0), (73, .d (.agg (Me.c p.m))), (74, .ptr 3 0 8), (75, .d (dI p.off)), (76, .d (dI (smA q.1 p q.2))), (77, .d (dI (p.off + (smA q.1 p q.2)))), (78, .ptr 3 0 8), (79, .d (dI p.off)), (80, .d (dI (smA q.1 p (runS q.1 q.2)))), (81, .d (dI (p.off + (smA q.1 p (runS q.1 q.2))))), (83, .d (.sl 2 ((p.m.split (p.off + (smA q.1 p q.2)) (p.off + (smA q.1 p (runS q.1 q.2)))).map Val.c))), (84, .d (dI (p.m.splitE (p.off + (smA q.1 p q.2)) (p.off + (smA q.1 p (runS q.1 q.2)))))), (85, .d (dI (p.m.splitE (p.off + (smA q.1 p q.2)) (p.off + (smA q.1 p (runS q.1 q.2)))))), (88, .d (.sl 2 ((p.m.split (p.off + (smA q.1 p q.2)) (p.off + (smA q.1 p (runS q.1 q.2)))).map Val.c))), (89, .d (dI (p.m.split (p.off + (smA q.1 p q.2)) (p.off + (smA q.1 p (runS q.1 q.2)))).length)), (90, .d (dI (runS q.1 q.2 : Nat))), (91, .d (dI (q.2 : Nat))), (92, .d (dI ((runS q.1 q.2 : Nat) - (q.2 : Nat)))), (95, .ptr 7 0 0), (96, .d (.sl 13 (q.1.evs.map Ev.c))), (97, .d (dI (q.2 : Nat))), (98, .d (.pt (Ev.c x))), (99, .d (.agg (Ev.c x)))]) (by kernel_rfl) (rsS1 rfl (RVS.eq (s' := .agg [.d (dI x.site), .d (dI x.num), .d (dI x.kind), .d (dI x.v.log), .d (dI x.v.dots), .own 7001, .own 7002, .d (dI x.art), .d (dI x.orn), .d (dI x.dyn), .own 7003, .d (dI x.stem), .d (dI x.beam)]) (RVS.cells (i := 1002) (l := [.d (dI x.site), .d (dI x.num), .d (dI x.kind), .d (dI x.v.log), .d (dI x.v.dots), .own 7001, .own 7002, .d (dI x.art), .d (dI x.orn), .d (dI x.dyn), .own 7003, .d (dI x.stem), .d (dI x.beam)]) rfl (by kernel_rfl) (by kernel_rfl) agg_60 (Nat.le_of_ble_eq_true rfl)) rfl)) ?_).2
 refine XL.freeze (i := 7002) rfl ?_
 refine XL.freeze (i := 7003) rfl ?_
 refine XL.step rfl (st_allocN 16 (l := [.d (dI 0), .d (dI 0), .d (dI 0), .d (dI 0), .d (dI 0), .d (.v (.slice none 0 0)), .d (.v (.slice none 0 0)), .d (dI 0), .d (dI 0), .d (dI 0), .d (.v (.slice none 0 0)), .d (dI 0), .d (dI 0)]) rfl zero_60 (by kernel_rfl)) ?_
 refine XL.step rfl (st_storeN (l' := [.d (dI x.site), .d (dI x.num), .d (dI x.kind), .d (dI x.v.log), .d (dI x.v.dots), .own 7001, .d (.sl 5 (x.graces.map Gr.c)), .d (dI x.art), .d (dI x.orn), .d (dI x.dyn), .d (.sl 2 (x.lyr.map Sy.c)), .d (dI x.stem), .d (dI x.beam)]) rfl rfl rfl rfl sz_60 rfl (Nat.le_of_ble_eq_true rfl) (by kernel_rfl)) ?_
 refine zn ?_
 refine zs ?_
 refine zr ?_
 refine zp (p_fld_ptr rfl rfl fld_60_3) ?_
 refine zp (p_load_box rfl rfl sc_48 rfl rfl) ?_
 refine zp (p_len_ownm rfl rfl rfl Tryz.underlying48) ?_
 refine zm rfl rfl ?_
 refine zn ?_
 refine xw_block ?_
 refine xw_loop (α := Nat) (fun j => j ≤ x.heads.length) (fun j => mkF [(3, .ptr 3 0 0), (4, .ptr 4 0 0), (5, .d (dI 0)), (7, .ptr 7 0 0), (8, .d (dI (smA q.1 p q.2))), (9, .d (dI (q.2 : Nat))), (12, .d (dI (runS q.1 q.2 : Nat))), (13, .d (dI (smA q.1 p (runS q.1 q.2)))), (14, .d (.sl 2 ((p.m.split (p.off + (smA q.1 p q.2)) (p.off + (smA q.1 p (runS q.1 q.2)))).map Val.c))), (16, .ptr 16 0 0), (103, .d (dI x.heads.length)), (104, .d (dI j))]) (fun j => mkH [(3, .box ((Pl.c p).map S.d)), (4, .box [.d (.v (.slice none 0 0)), .d (.v (.slice none 0 0))]), (7, .box ((Vo.c q.1).map S.d)), (16, .box [.d (dI x.site), .d (dI x.num), .d (dI x.kind), .d (dI x.v.log), .d (dI x.v.dots), .own 7001, .d (.sl 5 (x.graces.map Gr.c)), .d (dI x.art), .d (dI x.orn), .d (dI x.dyn), .d (.sl 2 (x.lyr.map Sy.c)), .d (dI x.stem), .d (dI x.beam)]), (7001, .row 91 5 ((upTo (tieAt y.heads) x.heads j).map Hd.c))]) (fun j => x.heads.length - j) (0) (Nat.zero_le _) ?_ ?_ ?_
 exact fz ⟨sr, sr, sr, sr, sr, sr, sr, sr, sr, sr, sr, sr, trivial⟩
 exact gz ⟨rfl, rfl, rfl, rfl, by rw [upTo_zero]; rfl, trivial⟩
 intro j hk2
 refine zr ?_
 refine zp (p_lss rfl rfl rfl) ?_
 refine zn ?_
 refine zs ?_
 refine zd rfl (fun c105 => ?_) (fun c105 => ?_)
 have hjl : j < x.heads.length := by omega
 obtain ⟨xj, hxj⟩ := get_ex hjl
 obtain ⟨yj, hyj⟩ : ∃ yj, y.heads[j]? = some yj := get_ex (by omega)
 have hgj := upTo_get (f := tieAt y.heads) hxj
 refine zi ?_
 refine zs ?_
 refine xw_block ?_
 refine zr ?_
 refine zm rfl rfl ?_
 refine za rfl rfl ?_
 refine zn ?_
 refine xw_anyP 14 [] (by kernel_rfl) (by kernel_rfl) (by kernel_rfl) (by kernel_rfl) (by decide) ?_
 refine yp (p_fld_ptr rfl rfl fld_60_3) ?_
 refine yp (p_load_box rfl rfl sc_48 rfl rfl) ?_
 refine ym rfl rfl ?_
 refine yp (p_fld_ptr rfl rfl fld_25_0) ?_
 refine yp (p_load_box rfl rfl sc_22 rfl rfl) ?_
 refine ym rfl rfl ?_
 refine yp (p_sub rfl rfl rfl (by omega) (by omega)) ?_
 refine yp (p_idx_mapi rfl rfl rfl (by omega) el_22 (hy)) ?_
 refine yp (p_fld_pt rfl rfl fld_60_3) ?_
 refine yp (p_load_pt rfl rfl sc_48) ?_
 refine ym rfl rfl ?_
 refine yp (p_idx_map rfl rfl rfl el_48 (hyj)) ?_
 refine yp (p_fld_pt rfl rfl fld_91_1) ?_
 refine yp (p_load_pt rfl rfl sc_4) ?_
 refine ChK.nil ⟨by kernel_rfl, ?_⟩
 refine zp (p_idx_owni rfl rfl rfl (rfl) rfl el_48 (by rw [upTo_len]; omega)) ?_
 refine zp (p_fld_ptr rfl rfl fld_91_1) ?_
 refine XL.step rfl (st_store_row rfl rfl rfl (map_get hgj) rfl rfl sz_4 rfl (Nat.le_of_ble_eq_true rfl)) ?_
 refine zn ?_
 refine xw_region (by kernel_rfl) ?_
 refine zp (p_add rfl rfl rfl (by omega) (by omega)) ?_
 refine zm rfl rfl ?_
 refine zn ?_
 exact k_round (j + 1) (by omega) (by omega) (fz ⟨sr, sr, sr, sr, sr, sr, sr, sr, sr, sr, sr, sr, trivial⟩) (gz ⟨rfl, rfl, rfl, rfl, sSet (a := tieAt y.heads j xj) (by rw [tieAt_at hyj]; rfl) (upTo_set hxj), trivial⟩)
 have hte : upTo (tieAt y.heads) x.heads j = tieAs x.heads y.heads := upTo_end (f := tieAt y.heads) (l := x.heads) (k := j) (by omega)
 refine xw_exit ?_
 refine zr ?_
 refine XL.freeze (i := 7001) rfl ?_
 refine zp (pure_eq (s' := .d (.agg (Ev.c (x.reh (tieAs x.heads y.heads))))) (norm_pure (p_load_boxs rfl rfl agg_60 rfl (Nat.le_of_ble_eq_true rfl))) (by rw [← hte]; kernel_rfl)) ?_
 refine zm rfl rfl ?_
 refine XL.callS rfl rfl ((notes_xs (x.reh (tieAs x.heads y.heads)) (p.m.split (p.off + smA q.1 p q.2) (p.off + smA q.1 p (runS q.1 q.2))) false hrf (by omega)).lab 7004) rfl ?_
 refine zp (p_assign rfl (by conv => lhs; whnf)) ?_
 refine zn ?_
 refine zs ?_
 refine zr ?_
 refine zp (p_move rfl (by conv => lhs; whnf)) ?_
 refine zp (p_len_ownm rfl rfl rfl Tryz.underlying22) ?_
 refine zm rfl rfl ?_
 refine zn ?_
 refine xw_block ?_
 refine xw_loop (α := Nat) (fun n => n ≤ (notesS (x.reh (tieAs x.heads y.heads)) (p.m.split (p.off + smA q.1 p q.2) (p.off + smA q.1 p (runS q.1 q.2))) false).length) (fun n => mkF [(3, .ptr 3 0 0), (4, .ptr 4 0 0), (5, .d (dI 0)), (7, .ptr 7 0 0), (8, .d (dI (smA q.1 p q.2))), (9, .d (dI (q.2 : Nat))), (12, .d (dI (runS q.1 q.2 : Nat))), (13, .d (dI (smA q.1 p (runS q.1 q.2)))), (18, .own 7004), (128, .d (dI (notesS (x.reh (tieAs x.heads y.heads)) (p.m.split (p.off + smA q.1 p q.2) (p.off + smA q.1 p (runS q.1 q.2))) false).length)), (129, .d (dI n))]) (fun n => mkH [(3, .box ((Pl.c p).map S.d)), (4, .box [.d (.v (.slice none 0 0)), .d (.v (.slice none 0 0))]), (7, .box ((Vo.c q.1).map S.d)), (7004, .row 60 13 ((upTo (idAt (q.1.evs.drop q.2)) (notesS (x.reh (tieAs x.heads y.heads)) (p.m.split (p.off + smA q.1 p q.2) (p.off + smA q.1 p (runS q.1 q.2))) false) n).map Ev.c))]) (fun n => (notesS (x.reh (tieAs x.heads y.heads)) (p.m.split (p.off + smA q.1 p q.2) (p.off + smA q.1 p (runS q.1 q.2))) false).length - n) (0) (Nat.zero_le _) ?_ ?_ ?_
 exact fz ⟨sr, sr, sr, sr, sr, sr, sr, sr, sr, sr, sr, trivial⟩
 exact gz ⟨rfl, rfl, rfl, by rw [upTo_zero]; rfl, trivial⟩
 intro n hk4
 have hnl := notesS_len (x.reh (tieAs x.heads y.heads)) (p.m.split (p.off + smA q.1 p q.2) (p.off + smA q.1 p (runS q.1 q.2))) false
 refine zr ?_
 refine zp (p_lss rfl rfl rfl) ?_
 refine zn ?_
 refine zs ?_
 refine zd rfl (fun c130 => ?_) (fun c130 => ?_)
 have hjl : n < (notesS (x.reh (tieAs x.heads y.heads)) (p.m.split (p.off + smA q.1 p q.2) (p.off + smA q.1 p (runS q.1 q.2))) false).length := by omega
 obtain ⟨e, he⟩ := get_ex hjl
 obtain ⟨o, hon⟩ : ∃ o, q.1.evs[q.2 + n]? = some o := get_ex (by omega)
 have hge := upTo_get (f := idAt (q.1.evs.drop q.2)) he
 refine zi ?_
 refine zs ?_
 refine xw_block ?_
 refine zr ?_
 refine zm rfl rfl ?_
 refine za rfl rfl ?_
 refine zng ?_
 refine zp (p_move rfl (by conv => lhs; whnf)) ?_
 refine zm rfl rfl ?_
 refine zp (p_fld_ptr rfl rfl fld_25_0) ?_
 refine zp (p_load_box rfl rfl sc_22 rfl rfl) ?_
 refine zm rfl rfl ?_
 refine zm rfl rfl ?_
 refine zp (p_add rfl rfl rfl (by omega) (by omega)) ?_
 refine zp (p_idx_mapi rfl rfl rfl (by omega) el_22 (hon)) ?_
 refine zp (p_fld_pt rfl rfl fld_60_0) ?_
 refine zp (p_load_pts rfl rfl agg_54 (Nat.le_of_ble_eq_true rfl)) ?_
 refine zp (p_idx_owni rfl rfl rfl (rfl) rfl el_22 (by rw [upTo_len]; omega)) ?_
 refine zp (p_fld_ptr rfl rfl fld_60_0) ?_
 refine XL.step rfl (st_store_row rfl rfl rfl (map_get hge) rfl rfl sz_54 rfl (Nat.le_of_ble_eq_true rfl)) ?_
 refine zn ?_
 refine xw_region (by kernel_rfl) ?_
 refine zp (p_add rfl rfl rfl (by omega) (by omega)) ?_
 refine zm rfl rfl ?_
 refine zn ?_
 exact k_round (n + 1) (by omega) (by omega) (fz ⟨sr, sr, sr, sr, sr, sr, sr, sr, sr, sr, sr, trivial⟩) (gz ⟨rfl, rfl, rfl, sSet (a := idAt (q.1.evs.drop q.2) n e) (by rw [idAt_at (o := o) (by rw [List.getElem?_drop]; exact hon)]; rfl) (upTo_set he), trivial⟩)
 have hie : upTo (idAt (q.1.evs.drop q.2)) (notesS (x.reh (tieAs x.heads y.heads)) (p.m.split (p.off + smA q.1 p q.2) (p.off + smA q.1 p (runS q.1 q.2))) false) n = joinV q.1 p q.2 x y := upTo_end (by omega)
 have hjl2 : (joinV q.1 p q.2 x y).length = (p.m.split (p.off + smA q.1 p q.2) (p.off + smA q.1 p (runS q.1 q.2))).length := by rw [joinV, idsS_len, notesS_len]
 refine xw_exit ?_
 refine zr ?_
 refine XL.freeze (i := 7004) rfl ?_
 refine zp (pure_eq (s' := .d (.agg (Vo.c q.1))) (norm_pure (p_load_boxs rfl rfl agg_25 rfl (Nat.le_of_ble_eq_true rfl))) (by kernel_rfl)) ?_
 refine zm rfl rfl ?_
 refine zm rfl rfl ?_
 refine zm rfl rfl ?_
 refine zp (pure_eq (s' := .d (dI (runS q.1 q.2 - q.2 : Nat))) (p_sub rfl rfl rfl (by omega) (by omega)) (sI (by omega))) ?_
 refine zp (pure_eq (s' := .d (.sl 13 ((joinV q.1 p q.2 x y).map Ev.c))) (p_move rfl (by conv => lhs; whnf)) (by rw [← hie])) ?_
 refine zp (pure_eq (s' := .d (.agg [.sl 13 ((joinV q.1 p q.2 x y).map Ev.c), .v (.slice none 0 0)])) (norm_pure (p_build rfl str_25 zero_25 rfl)) (by kernel_rfl)) ?_
 refine XL.calls rfl rfl (replace_xc q.1 q.2 (runS q.1 q.2 - q.2) ⟨joinV q.1 p q.2 x y, []⟩ hsv (sml_evs (by omega)) (by omega)) (.cons rfl (.same rfl) (.cons rfl (.same rfl) (.cons rfl (.same rfl) (.cons rfl (.agg (.cons (.same rfl) (.cons (.nil 4) (.nil)))) (.nil))))) ?_
 refine XL.step rfl (st_storeN (l' := [.d (.sl 13 ((replS q.1 q.2 (runS q.1 q.2 - q.2) ⟨joinV q.1 p q.2 x y, []⟩).evs.map Ev.c)), .d (.sl 4 ((replS q.1 q.2 (runS q.1 q.2 - q.2) ⟨joinV q.1 p q.2 x y, []⟩).tups.map Tp.c))]) rfl rfl rfl rfl sz_25 rfl (Nat.le_of_ble_eq_true rfl) (by kernel_rfl)) ?_
 refine zng ?_
 refine zm rfl rfl ?_
 refine zp (pure_eq (s' := .d (.sl 13 ((joinV q.1 p q.2 x y).map Ev.c))) (p_move rfl (by conv => lhs; whnf)) (by rw [← hie])) ?_
 refine XL.len rfl rfl rfl Tryz.underlying22 (fun hl155 => ?_)
 refine zp (p_add rfl rfl rfl (by omega) (by omega)) ?_
 refine za rfl rfl ?_
 refine zng ?_
 refine zm rfl rfl ?_
 refine zm rfl rfl ?_
 refine za rfl rfl ?_
 refine za rfl rfl ?_
 refine zn ?_
 refine k_blk ?_
 exact k_round ((replS q.1 q.2 (runS q.1 q.2 - q.2) ⟨joinV q.1 p q.2 x y, []⟩, q.2 + (joinV q.1 p q.2 x y).length)) ((hS.nextJ hq2 (smN_yes hx hy hJ)).1) ((hS.nextJ hq2 (smN_yes hx hy hJ)).2.1) (fz ⟨sr, sr, sr, sr, .same (sI (hS.nextJ hq2 (smN_yes hx hy hJ)).2.2.symm), .same (sI (by omega)), trivial⟩) (gz ⟨rfl, rfl, rfl, trivial⟩)
 refine zi ?_
 refine xw_region (by kernel_rfl) ?_
 refine zm rfl rfl ?_
 refine zm rfl rfl ?_
 refine za rfl rfl ?_
 refine za rfl rfl ?_
 refine zn ?_
 refine k_blk ?_
 exact k_round ((q.1, runS q.1 q.2)) ((hS.nextJ hq2 (smN_no (by unfold smJ; omega))).1) ((hS.nextJ hq2 (smN_no (by unfold smJ; omega))).2.1) (fz ⟨sr, sr, sr, sr, .same (sI (hS.nextJ hq2 (smN_no (by unfold smJ; omega))).2.2.symm), sr, trivial⟩) (gz ⟨rfl, rfl, rfl, trivial⟩)
 refine zk 6 rfl ?_
 refine zq rfl rfl rfl ?_
 refine zn ?_
 refine xw_false (by kernel_rfl) rfl ?_
 refine zi ?_
 refine xw_region (by kernel_rfl) ?_
 refine zm rfl rfl ?_
 refine zm rfl rfl ?_
 refine za rfl rfl ?_
 refine za rfl rfl ?_
 refine zn ?_
 refine k_blk ?_
 exact k_round ((q.1, runS q.1 q.2)) ((hS.nextJ hq2 (smN_no (by unfold smJ; omega))).1) ((hS.nextJ hq2 (smN_no (by unfold smJ; omega))).2.1) (fz ⟨sr, sr, sr, sr, .same (sI (hS.nextJ hq2 (smN_no (by unfold smJ; omega))).2.2.symm), sr, trivial⟩) (gz ⟨rfl, rfl, rfl, trivial⟩)
 refine zi ?_
 refine xw_region (by kernel_rfl) ?_
 refine zm rfl rfl ?_
 refine zm rfl rfl ?_
 refine za rfl rfl ?_
 refine za rfl rfl ?_
 refine zn ?_
 refine k_blk ?_
 exact k_round ((q.1, runS q.1 q.2)) ((hS.nextJ hq2 (smN_no (by unfold smJ; omega))).1) ((hS.nextJ hq2 (smN_no (by unfold smJ; omega))).2.1) (fz ⟨sr, sr, sr, sr, .same (sI (hS.nextJ hq2 (smN_no (by unfold smJ; omega))).2.2.symm), sr, trivial⟩) (gz ⟨rfl, rfl, rfl, trivial⟩)
 refine zk 6 rfl ?_
 refine zq rfl rfl rfl ?_
 refine zn ?_
 refine xw_false (by kernel_rfl) rfl ?_
 refine zi ?_
 refine xw_region (by kernel_rfl) ?_
 refine zm rfl rfl ?_
 refine zm rfl rfl ?_
 refine za rfl rfl ?_
 refine za rfl rfl ?_
 refine zn ?_
 refine k_blk ?_
 exact k_round ((q.1, runS q.1 q.2)) ((hS.nextJ hq2 (smN_no (by unfold smJ; omega))).1) ((hS.nextJ hq2 (smN_no (by unfold smJ; omega))).2.1) (fz ⟨sr, sr, sr, sr, .same (sI (hS.nextJ hq2 (smN_no (by unfold smJ; omega))).2.2.symm), sr, trivial⟩) (gz ⟨rfl, rfl, rfl, trivial⟩)
 refine zk 6 rfl ?_
 refine zq rfl rfl rfl ?_
 refine zm rfl rfl ?_
 refine zk 6 rfl ?_
 refine zq rfl rfl rfl ?_
 refine zn ?_
 refine xw_false (by kernel_rfl) rfl ?_
 refine zi ?_
 refine xw_region (by kernel_rfl) ?_
 refine zm rfl rfl ?_
 refine zm rfl rfl ?_
 refine za rfl rfl ?_
 refine za rfl rfl ?_
 refine zn ?_
 refine k_blk ?_
 exact k_round ((q.1, runS q.1 q.2)) ((hS.nextJ hq2 (smN_no (by unfold smJ; omega))).1) ((hS.nextJ hq2 (smN_no (by unfold smJ; omega))).2.1) (fz ⟨sr, sr, sr, sr, .same (sI (hS.nextJ hq2 (smN_no (by unfold smJ; omega))).2.2.symm), sr, trivial⟩) (gz ⟨rfl, rfl, rfl, trivial⟩)
 have hdn := hS.done (by omega)
 refine xw_exit ?_
 refine zr ?_
 refine zp (pure_eq (s' := .d (.agg (Vo.c q.1))) (norm_pure (p_load_boxs rfl rfl agg_25 rfl (Nat.le_of_ble_eq_true rfl))) (by kernel_rfl)) ?_
 refine XL.call1 rfl rfl (vclone_xc _ (by assumption)) rfl ?_
 refine XL.step rfl (st_storeN (l' := [.d (.sl 13 (q.1.evs.map Ev.c)), .d (.sl 4 (q.1.tups.map Tp.c))]) rfl rfl rfl rfl sz_25 rfl (Nat.le_of_ble_eq_true rfl) (by kernel_rfl)) ?_
 refine za rfl rfl ?_
 refine zn ?_
 refine zt ?_
 exact ret2 rfl (RV.cells rfl rfl rfl agg_25 (Nat.le_of_ble_eq_true rfl) rfl) (RV.tmp rfl rfl) (r2v ((sm_2 c24).trans (by rw [← hdn])))
end Go.Proofs.YtcihalbakenleaaGreat
namespace Go.Proofs.YtcihalbakenleaaGreat
def kH (t : Bool) : Hd := ⟨⟨0, 0, 5⟩, t, 0⟩
def kE (s : Int) (v : Val) (t : Bool) : Ev := ⟨s, s, 1, v, [kH t], [], 0, 0, 0, [], 0, 0⟩
def kV : Vo := ⟨[kE 1 ⟨0, 0⟩ false], []⟩
def kP : Pl := ⟨⟨4, 4, 0, 0, 0, 0, 0, 0⟩, 0, 1935360⟩
def kW : Vo := ⟨[kE 1 ⟨2, 0⟩ true, kE 0 ⟨2, 0⟩ true, kE 0 ⟨1, 0⟩ false], []⟩
set_option maxRecDepth 100000 in
theorem kn_div : DivS kV kP 483840 = (kW, 0) := by kernel_rfl
set_option maxRecDepth 100000 in
theorem kn_sim : simS kW kP = (kV, 0) := by kernel_rfl
end Go.Proofs.YtcihalbakenleaaGreat
namespace Go.Proofs.YtcihalbakenleaaGreat
open Go.RowKit
theorem in_xc (n a b : Int) : XC Tryz.prog 77 [.v (.int .i64 n), .v (.int .i64 a), .v (.int .i64 b)] (fun r => r = dB (decide (a ≤ n ∧ n ≤ b))) := by
 refine xc_body callable_77 Tryz.func77 rfl rfl (Nat.le_of_ble_eq_true rfl) ?_
 refine zr ?_
 refine za rfl rfl ?_
 refine znr ?_
 refine zm rfl rfl ?_
 refine zm rfl rfl ?_
 refine zp (p_geq rfl rfl rfl) ?_
 refine zm rfl rfl ?_
 refine XL.dec 10 rfl (fun g10 => ?_) (fun g10 => ?_)
 refine zm rfl rfl ?_
 refine zm rfl rfl ?_
 refine zp (p_leq rfl rfl rfl) ?_
 refine zq rfl rfl rfl ?_
 refine za rfl rfl ?_
 refine zn ?_
 refine zt ?_
 exact z1 rfl rfl (rB (by rw [decide_eq_decide]; omega))
 refine zk 3 rfl ?_
 refine zq rfl rfl rfl ?_
 refine za rfl rfl ?_
 refine zn ?_
 refine zt ?_
 exact z1 rfl rfl (rB (by rw [eq_comm, decide_eq_false_iff_not]; omega))
/-- a pitch's number, or -1 -/
def refNum (p : Pit) : Int := if p.good then p.n else -1
theorem rn_no {p : Pit} (h : ¬ p.good) : -1 = refNum p := by rw [refNum, if_neg h]
theorem rn_ok {p : Pit} (h : p.good) : refNum p = p.num := by rw [refNum, if_pos h, p.num_ok h]
theorem rn_neg {p : Pit} : refNum p < 0 ↔ ¬ p.good := by
 unfold refNum
 split
 ·rename_i h; have := h.2; exact ⟨fun k => by omega, fun k => absurd h k⟩
 ·rename_i h; exact ⟨fun _ => h, fun _ => by decide⟩
theorem semis7 (k : Nat) (h : k < 7) : ([0, 2, 4, 5, 7, 9, 11] : List Int)[k]? = some (semi k) := by
 match k, h with
 | 0, _ => rfl | 1, _ => rfl | 2, _ => rfl | 3, _ => rfl | 4, _ => rfl | 5, _ => rfl | 6, _ => rfl
 | k + 7, h => omega
theorem rnum_xc (p : Pit) : XC Tryz.prog 127 [.agg (Pit.c p)] (fun r => r = dI (refNum p)) := by
 refine xc_body callable_127 Tryz.func127 rfl rfl (Nat.le_of_ble_eq_true rfl) ?_
 refine zr ?_
 refine XL.step rfl (st_boxN 1 (l := [.d (dI p.step), .d (dI p.alter), .d (dI p.oct)]) rfl rfl (by kernel_rfl)) ?_
 refine za rfl rfl ?_
 refine zn ?_
 refine zs ?_
 refine zr ?_
 refine zp (p_fld_ptr rfl rfl fld_89_0) ?_
 refine zp (p_load_box rfl rfl sc_3 rfl rfl) ?_
 refine zp (p_lss rfl rfl rfl) ?_
 refine zm rfl rfl ?_
 refine XL.dec 7 rfl (fun g7 => ?_) (fun g7 => ?_)
 refine zk 3 rfl ?_
 refine zq rfl rfl rfl ?_
 refine zm rfl rfl ?_
 refine zk 3 rfl ?_
 refine zq rfl rfl rfl ?_
 refine zm rfl rfl ?_
 refine zk 3 rfl ?_
 refine zq rfl rfl rfl ?_
 refine zm rfl rfl ?_
 refine zk 3 rfl ?_
 refine zq rfl rfl rfl ?_
 refine zm rfl rfl ?_
 refine zk 3 rfl ?_
 refine zq rfl rfl rfl ?_
 refine zn ?_
 refine xw_true (by kernel_rfl) rfl ?_
 refine zr ?_
 refine za rfl rfl ?_
 refine zn ?_
 refine zt ?_
 exact z1 rfl rfl (rI (rn_no fun h => by obtain ⟨⟨h1, h2, h3, h4, h5, h6⟩, _⟩ := h; omega))
 refine zp (p_fld_ptr rfl rfl fld_89_0) ?_
 refine zp (p_load_box rfl rfl sc_3 rfl rfl) ?_
 refine zp (p_gtr rfl rfl rfl) ?_
 refine zq rfl rfl rfl ?_
 refine zm rfl rfl ?_
 refine XL.dec 12 rfl (fun g12 => ?_) (fun g12 => ?_)
 refine zk 3 rfl ?_
 refine zq rfl rfl rfl ?_
 refine zm rfl rfl ?_
 refine zk 3 rfl ?_
 refine zq rfl rfl rfl ?_
 refine zm rfl rfl ?_
 refine zk 3 rfl ?_
 refine zq rfl rfl rfl ?_
 refine zm rfl rfl ?_
 refine zk 3 rfl ?_
 refine zq rfl rfl rfl ?_
 refine zn ?_
 refine xw_true (by kernel_rfl) rfl ?_
 refine zr ?_
 refine za rfl rfl ?_
 refine zn ?_
 refine zt ?_
 exact z1 rfl rfl (rI (rn_no fun h => by obtain ⟨⟨h1, h2, h3, h4, h5, h6⟩, _⟩ := h; omega))
 refine zp (p_fld_ptr rfl rfl fld_89_1) ?_
 refine zp (p_load_box rfl rfl sc_3 rfl rfl) ?_
 refine zp (p_lss rfl rfl rfl) ?_
 refine zq rfl rfl rfl ?_
 refine zm rfl rfl ?_
 refine XL.dec 17 rfl (fun g17 => ?_) (fun g17 => ?_)
 refine zk 3 rfl ?_
 refine zq rfl rfl rfl ?_
 refine zm rfl rfl ?_
 refine zk 3 rfl ?_
 refine zq rfl rfl rfl ?_
 refine zm rfl rfl ?_
 refine zk 3 rfl ?_
 refine zq rfl rfl rfl ?_
 refine zn ?_
 refine xw_true (by kernel_rfl) rfl ?_
 refine zr ?_
 refine za rfl rfl ?_
 refine zn ?_
 refine zt ?_
 exact z1 rfl rfl (rI (rn_no fun h => by obtain ⟨⟨h1, h2, h3, h4, h5, h6⟩, _⟩ := h; omega))
 refine zp (p_fld_ptr rfl rfl fld_89_1) ?_
 refine zp (p_load_box rfl rfl sc_3 rfl rfl) ?_
 refine zp (p_gtr rfl rfl rfl) ?_
 refine zq rfl rfl rfl ?_
 refine zm rfl rfl ?_
 refine XL.dec 22 rfl (fun g22 => ?_) (fun g22 => ?_)
 refine zk 3 rfl ?_
 refine zq rfl rfl rfl ?_
 refine zm rfl rfl ?_
 refine zk 3 rfl ?_
 refine zq rfl rfl rfl ?_
 refine zn ?_
 refine xw_true (by kernel_rfl) rfl ?_
 refine zr ?_
 refine za rfl rfl ?_
 refine zn ?_
 refine zt ?_
 exact z1 rfl rfl (rI (rn_no fun h => by obtain ⟨⟨h1, h2, h3, h4, h5, h6⟩, _⟩ := h; omega))
 refine zp (p_fld_ptr rfl rfl fld_89_2) ?_
 refine zp (p_load_box rfl rfl sc_3 rfl rfl) ?_
 refine zp (p_lss rfl rfl rfl) ?_
 refine zq rfl rfl rfl ?_
 refine zm rfl rfl ?_
 refine XL.dec 27 rfl (fun g27 => ?_) (fun g27 => ?_)
 refine zk 3 rfl ?_
 refine zq rfl rfl rfl ?_
 refine zn ?_
 refine xw_true (by kernel_rfl) rfl ?_
 refine zr ?_
 refine za rfl rfl ?_
 refine zn ?_
 refine zt ?_
 exact z1 rfl rfl (rI (rn_no fun h => by obtain ⟨⟨h1, h2, h3, h4, h5, h6⟩, _⟩ := h; omega))
 refine zp (p_fld_ptr rfl rfl fld_89_2) ?_
 refine zp (p_load_box rfl rfl sc_3 rfl rfl) ?_
 refine zp (p_gtr rfl rfl rfl) ?_
 refine zq rfl rfl rfl ?_
 refine zn ?_
 refine zd rfl (fun c31 => ?_) (fun c31 => ?_)
 refine zr ?_
 refine za rfl rfl ?_
 refine zn ?_
 refine zt ?_
 exact z1 rfl rfl (rI (rn_no fun h => by obtain ⟨⟨h1, h2, h3, h4, h5, h6⟩, _⟩ := h; omega))
 refine zi ?_
 refine zs ?_
 have hin : p.inR := by refine Pit.inR_mk ?_ ?_ ?_ ?_ ?_ ?_ <;> assumption
 obtain ⟨k, hk⟩ : ∃ k : Nat, p.step = k := ⟨p.step.toNat, by have := hin.1; omega⟩
 have hb := semi_bd k
 have hk7 : k < 7 := by have := hin.2.1; omega
 have hn : p.n = semi k + p.alter + 12 * (p.oct + 1) := by rw [Pit.n, hk, Int.toNat_natCast]; omega
 refine xw_any [] (by kernel_rfl) (by kernel_rfl) (by kernel_rfl) (by decide) ?_
 refine ChK.cons rfl (CStep.slice (l := ints [0, 2, 4, 5, 7, 9, 11]) rfl Tryz.underlying64 sz_3 zero_3 (by kernel_rfl) rfl (by omega) (by omega)) ?_
 refine yp (p_fld_ptr rfl rfl fld_89_0) ?_
 refine yp (p_load_box rfl rfl sc_3 rfl rfl) ?_
 refine yp (p_idx_mapi rfl rfl rfl (hk) el_64 (semis7 k hk7)) ?_
 refine yp (p_load_pt rfl rfl sc_3) ?_
 refine yp (p_fld_ptr rfl rfl fld_89_1) ?_
 refine yp (p_load_box rfl rfl sc_3 rfl rfl) ?_
 refine yp (p_add rfl rfl rfl (by omega) (by omega)) ?_
 refine yp (p_fld_ptr rfl rfl fld_89_2) ?_
 refine yp (p_load_box rfl rfl sc_3 rfl rfl) ?_
 refine yp (p_add rfl rfl rfl (by omega) (by omega)) ?_
 refine yp (p_mul rfl rfl rfl (by omega) (by omega)) ?_
 refine yp (p_add rfl rfl rfl (by omega) (by omega)) ?_
 refine ya rfl rfl ?_
 refine ChK.nil ⟨by kernel_rfl, ?_⟩
 refine zs ?_
 refine zr ?_
 refine zm rfl rfl ?_
 refine zp (p_lss rfl rfl rfl) ?_
 refine zm rfl rfl ?_
 refine XL.dec 47 rfl (fun g47 => ?_) (fun g47 => ?_)
 refine zk 2 rfl ?_
 refine zq rfl rfl rfl ?_
 refine zn ?_
 refine xw_true (by kernel_rfl) rfl ?_
 refine zr ?_
 refine za rfl rfl ?_
 refine zn ?_
 refine zt ?_
 exact z1 rfl rfl (rI (rn_no fun h => by obtain ⟨_, h1, h2⟩ := h; omega))
 refine zm rfl rfl ?_
 refine zp (p_gtr rfl rfl rfl) ?_
 refine zq rfl rfl rfl ?_
 refine zn ?_
 refine zd rfl (fun c50 => ?_) (fun c50 => ?_)
 refine zr ?_
 refine za rfl rfl ?_
 refine zn ?_
 refine zt ?_
 exact z1 rfl rfl (rI (rn_no fun h => by obtain ⟨_, h1, h2⟩ := h; omega))
 refine zi ?_
 refine zr ?_
 refine zm rfl rfl ?_
 refine za rfl rfl ?_
 refine zn ?_
 refine zt ?_
 exact z1 rfl rfl (rI (by rw [rn_ok ⟨hin, by omega, by omega⟩, Pit.num_ok ⟨hin, by omega, by omega⟩]; omega))
theorem err_18 {p : Pit} (h : refNum p < 0) : p.err = 18 := by rw [Pit.err, if_neg (rn_neg.1 h)]
theorem good_of {p : Pit} (h : ¬ refNum p < 0) : p.good := Decidable.not_not.1 fun k => h (rn_neg.2 k)
theorem err_00 {p : Pit} (h : ¬ refNum p < 0) : p.err = 0 := by rw [Pit.err, if_pos (good_of h)]
theorem well_18 {x : Hd} (h : refNum x.p < 0) : wellS x = 18 := by rw [wellS, firstS, err_18 h, if_pos (by decide)]
theorem well_2 {x : Hd} (h : ¬ refNum x.p < 0) (h2 : ¬ (0 ≤ x.sh ∧ x.sh ≤ 2)) : wellS x = 2 := by
 have : withinS x.sh 2 = 2 := by rw [withinS, if_pos (by omega)]
 rw [wellS, firstS, err_00 h, if_neg (by decide), firstS, this, if_pos (by decide)]
theorem well_0 {x : Hd} (h : ¬ refNum x.p < 0) (h2 : ¬ ¬ (0 ≤ x.sh ∧ x.sh ≤ 2)) : wellS x = 0 := by
 have : withinS x.sh 2 = 0 := by rw [withinS, if_neg (by omega)]
 rw [wellS, firstS, err_00 h, if_neg (by decide), firstS, this, if_neg (by decide)]; rfl
theorem lastNum_at {l : List Hd} {k : Nat} {y : Hd} (h : l[k - 1]? = some y) (hk : 0 < k) : lastNum (l.take k) = y.p.num := by
 have := lastNum_snoc h
 rwa [show k - 1 + 1 = k by omega] at this
theorem lastNum_0 {l : List Hd} {k : Nat} (hk : ¬ (0 : Int) < (k : Int)) : lastNum (l.take k) = -1 := by
 rw [show k = 0 by omega]; rfl
theorem rheads_xc (l : List Hd) : XC Tryz.prog 80 [.sl 5 (l.map Hd.c)] (fun r => r = dI (headsErr l)) := by
 refine xc_body callable_80 Tryz.func80 rfl rfl (Nat.le_of_ble_eq_true rfl) ?_
 refine zr ?_
 refine za rfl rfl ?_
 refine zn ?_
 refine zs ?_
 refine zr ?_
 refine zm rfl rfl ?_
 refine XL.len rfl rfl rfl Tryz.underlying48 (fun hl5 => ?_)
 refine zp (p_eql rfl rfl rfl) ?_
 refine zn ?_
 refine zd rfl (fun c6 => ?_) (fun c6 => ?_)
 refine zr ?_
 refine za rfl rfl ?_
 refine zn ?_
 refine zt ?_
 exact z1 rfl rfl (rI (by rw [headsErr, if_pos (by omega)]))
 refine zi ?_
 refine zs ?_
 refine zr ?_
 refine zm rfl rfl ?_
 refine XL.len rfl rfl rfl Tryz.underlying48 (fun hl8 => ?_)
 refine zp (p_gtr rfl rfl rfl) ?_
 refine zn ?_
 refine zd rfl (fun c9 => ?_) (fun c9 => ?_)
 refine zr ?_
 refine za rfl rfl ?_
 refine zn ?_
 refine zt ?_
 exact z1 rfl rfl (rI (by rw [headsErr, if_neg (by omega), if_pos (by omega)]))
 refine zi ?_
 refine zs ?_
 refine zr ?_
 refine za rfl rfl ?_
 refine zn ?_
 refine xw_block ?_
 refine xw_loop (α := Nat) (fun k => k ≤ l.length ∧ headsGo (lastNum (l.take k)) (l.drop k) = headsGo (-1) l ∧ (∀ y, l[k - 1]? = some y → 0 < k → y.p.good)) (fun k => mkF [(0, .d (.sl 5 (l.map Hd.c))), (3, .d (dI k))]) (fun k => mkH []) (fun k => l.length - k) (0) (⟨Nat.zero_le _, by rw [List.drop_zero]; rfl, fun y _ h => absurd h (Nat.lt_irrefl _)⟩) ?_ ?_ ?_
 exact fz ⟨sr, sr, trivial⟩
 exact HSub.nil
 intro k hk0
 obtain ⟨hk, hf, hgd⟩ := hk0
 refine zs ?_
 refine zr ?_
 refine zm rfl rfl ?_
 refine zm rfl rfl ?_
 refine XL.len rfl rfl rfl Tryz.underlying48 (fun hl12 => ?_)
 refine zp (p_lss rfl rfl rfl) ?_
 refine zn ?_
 refine zd rfl (fun c13 => ?_) (fun c13 => ?_)
 have hk0a : k < l.length := by omega
 obtain ⟨x0, hx0⟩ := get_ex hk0a
 rw [drop_cons hx0, headsGo] at hf
 refine zi ?_
 refine zs ?_
 refine xw_block ?_
 refine zs ?_
 refine zr ?_
 refine zm rfl rfl ?_
 refine zm rfl rfl ?_
 refine zp (p_idx_map rfl rfl rfl el_48 hx0) ?_
 refine zp (p_fld_pt rfl rfl fld_91_0) ?_
 refine zp (pure_eq (s' := .d (.agg (Pit.c x0.p))) (p_load_pts rfl rfl agg_89 (Nat.le_of_ble_eq_true rfl)) (by kernel_rfl)) ?_
 refine XL.call1 rfl rfl (rnum_xc _) rfl ?_
 refine zp (p_lss rfl rfl rfl) ?_
 refine zn ?_
 refine zd rfl (fun c22 => ?_) (fun c22 => ?_)
 refine zr ?_
 refine za rfl rfl ?_
 refine zn ?_
 refine zt ?_
 exact z1 rfl rfl (rI (by rw [headsErr_go c6 c9, ← hf, if_pos (by rw [well_18 c22]; decide), well_18 c22]))
 refine zi ?_
 refine zs ?_
 refine zr ?_
 refine zm rfl rfl ?_
 refine zm rfl rfl ?_
 refine zp (p_idx_map rfl rfl rfl el_48 hx0) ?_
 refine zp (p_fld_pt rfl rfl fld_91_2) ?_
 refine zp (p_load_pt rfl rfl sc_3) ?_
 refine XL.call1 rfl rfl (in_xc _ _ _) rfl ?_
 refine zp (p_notdec rfl rfl) ?_
 refine zn ?_
 refine zd rfl (fun c29 => ?_) (fun c29 => ?_)
 refine zr ?_
 refine za rfl rfl ?_
 refine zn ?_
 refine zt ?_
 exact z1 rfl rfl (rI (by rw [headsErr_go c6 c9, ← hf, if_pos (by rw [well_2 c22 c29]; decide), well_2 c22 c29]))
 refine zi ?_
 refine zs ?_
 by_cases q31 : (0 : Int) < (k : Int)
 obtain ⟨y, hy⟩ : ∃ y, l[k - 1]? = some y := get_ex (by omega)
 have hyg := hgd y hy (by omega)
 refine xw_any [] (by kernel_rfl) (by kernel_rfl) (by kernel_rfl) (by decide) ?_
 refine ym rfl rfl ?_
 refine yp (p_yes (p_gtr rfl rfl rfl) (q31)) ?_
 refine ym rfl rfl ?_
 refine ym rfl rfl ?_
 refine ym rfl rfl ?_
 refine yp (p_idx_map rfl rfl rfl el_48 hx0) ?_
 refine yp (p_fld_pt rfl rfl fld_91_0) ?_
 refine yp (pure_eq (s' := .d (.agg (Pit.c x0.p))) (p_load_pts rfl rfl agg_89 (Nat.le_of_ble_eq_true rfl)) (by kernel_rfl)) ?_
 refine ChK.cons rfl (CStep.call rfl (rnum_xc _) rfl) ?_
 refine ym rfl rfl ?_
 refine ym rfl rfl ?_
 refine yp (p_sub rfl rfl rfl (by omega) (by omega)) ?_
 refine yp (p_idx_mapi rfl rfl rfl (by omega) el_48 (hy)) ?_
 refine yp (p_fld_pt rfl rfl fld_91_0) ?_
 refine yp (pure_eq (s' := .d (.agg (Pit.c y.p))) (p_load_pts rfl rfl agg_89 (Nat.le_of_ble_eq_true rfl)) (by kernel_rfl)) ?_
 refine ChK.cons rfl (CStep.call rfl (rnum_xc _) rfl) ?_
 refine yp (p_leq rfl rfl rfl) ?_
 refine yp (p_pick_any rfl rfl (by conv => lhs; whnf)) ?_
 refine ChK.nil ⟨by kernel_rfl, ?_⟩
 refine zd rfl (fun c47 => ?_) (fun c47 => ?_)
 refine zr ?_
 refine za rfl rfl ?_
 refine zn ?_
 refine zt ?_
 exact z1 rfl rfl (rI (by rw [headsErr_go c6 c9, ← hf, if_neg (by rw [well_0 c22 c29]; decide), if_pos (by rw [lastNum_at hy (by omega), ← rn_ok (good_of c22), ← rn_ok hyg]; exact c47)]))
 refine zi ?_
 refine xw_region (by kernel_rfl) ?_
 refine zm rfl rfl ?_
 refine zp (p_add rfl rfl rfl (by omega) (by omega)) ?_
 refine za rfl rfl ?_
 refine zn ?_
 have hle : ¬ x0.p.num ≤ lastNum (l.take k) := by rw [lastNum_at hy (by omega), ← rn_ok (good_of c22), ← rn_ok hyg]; exact c47
 exact k_round (k + 1) (⟨by omega, by rw [lastNum_snoc hx0, ← hf, if_neg (by rw [well_0 c22 c29]; decide), if_neg hle], fun y2 hy2 _ => by rw [Nat.add_sub_cancel, hx0] at hy2; cases hy2; exact good_of c22⟩) (by omega) (fz ⟨sr, sr, trivial⟩) (HSub.nil)
 refine xw_any [] (by kernel_rfl) (by kernel_rfl) (by kernel_rfl) (by decide) ?_
 refine ym rfl rfl ?_
 refine yp (p_no (p_gtr rfl rfl rfl) (q31)) ?_
 refine ym rfl rfl ?_
 refine ChK.skip rfl ?_
 refine ChK.skip rfl ?_
 refine ChK.skip rfl ?_
 refine ChK.skip rfl ?_
 refine ChK.skip rfl ?_
 refine ChK.skip rfl ?_
 refine ChK.skip rfl ?_
 refine ChK.skip rfl ?_
 refine ChK.skip rfl ?_
 refine ChK.skip rfl ?_
 refine ChK.skip rfl ?_
 refine ChK.skip rfl ?_
 refine ChK.skip rfl ?_
 refine ChK.skip rfl ?_
 refine yp (p_pick_any rfl rfl (by conv => lhs; whnf)) ?_
 refine ChK.nil ⟨by kernel_rfl, ?_⟩
 refine xw_false (by kernel_rfl) rfl ?_
 refine zi ?_
 refine xw_region (by kernel_rfl) ?_
 refine zm rfl rfl ?_
 refine zp (p_add rfl rfl rfl (by omega) (by omega)) ?_
 refine za rfl rfl ?_
 refine zn ?_
 have hle : ¬ x0.p.num ≤ lastNum (l.take k) := by rw [lastNum_0 q31]; have := x0.p.num_bd; omega
 exact k_round (k + 1) (⟨by omega, by rw [lastNum_snoc hx0, ← hf, if_neg (by rw [well_0 c22 c29]; decide), if_neg hle], fun y2 hy2 _ => by rw [Nat.add_sub_cancel, hx0] at hy2; cases hy2; exact good_of c22⟩) (by omega) (fz ⟨sr, sr, trivial⟩) (HSub.nil)
 have hk0b : k = l.length := by omega
 refine xw_exit ?_
 refine zr ?_
 refine za rfl rfl ?_
 refine zn ?_
 refine zt ?_
 exact z1 rfl rfl (rI (by rw [headsErr_go c6 c9, ← hf, hk0b, List.drop_length]; rfl))
theorem rgraces_xc (l : List Gr) : XC Tryz.prog 81 [.sl 5 (l.map Gr.c)] (fun r => r = dI (gracesErr l)) := by
 refine xc_body callable_81 Tryz.func81 rfl rfl (Nat.le_of_ble_eq_true rfl) ?_
 refine zr ?_
 refine za rfl rfl ?_
 refine zn ?_
 refine zs ?_
 refine zr ?_
 refine zm rfl rfl ?_
 refine XL.len rfl rfl rfl Tryz.underlying57 (fun hl5 => ?_)
 refine zp (p_gtr rfl rfl rfl) ?_
 refine zn ?_
 refine zd rfl (fun c6 => ?_) (fun c6 => ?_)
 refine zr ?_
 refine za rfl rfl ?_
 refine zn ?_
 refine zt ?_
 exact z1 rfl rfl (rI (by rw [gracesErr, if_pos (by omega)]))
 refine zi ?_
 refine zs ?_
 refine zr ?_
 refine za rfl rfl ?_
 refine zn ?_
 refine xw_block ?_
 refine xw_loop (α := Nat) (fun k => k ≤ l.length ∧ gracesGo (l.drop k) = gracesGo l) (fun k => mkF [(0, .d (.sl 5 (l.map Gr.c))), (3, .d (dI k))]) (fun k => mkH []) (fun k => l.length - k) (0) (⟨Nat.zero_le _, by rw [List.drop_zero]⟩) ?_ ?_ ?_
 exact fz ⟨sr, sr, trivial⟩
 exact HSub.nil
 intro k hk0
 obtain ⟨hk, hf⟩ := hk0
 refine zs ?_
 refine zr ?_
 refine zm rfl rfl ?_
 refine zm rfl rfl ?_
 refine XL.len rfl rfl rfl Tryz.underlying57 (fun hl9 => ?_)
 refine zp (p_lss rfl rfl rfl) ?_
 refine zn ?_
 refine zd rfl (fun c10 => ?_) (fun c10 => ?_)
 have hk0a : k < l.length := by omega
 obtain ⟨x0, hx0⟩ := get_ex hk0a
 rw [drop_cons hx0, gracesGo] at hf
 refine zi ?_
 refine zs ?_
 refine xw_block ?_
 refine zs ?_
 refine zr ?_
 refine zm rfl rfl ?_
 refine zm rfl rfl ?_
 refine zp (p_idx_map rfl rfl rfl el_57 hx0) ?_
 refine zp (p_fld_pt rfl rfl fld_138_0) ?_
 refine zp (pure_eq (s' := .d (.agg (Pit.c x0.p))) (p_load_pts rfl rfl agg_89 (Nat.le_of_ble_eq_true rfl)) (by kernel_rfl)) ?_
 refine XL.call1 rfl rfl (rnum_xc _) rfl ?_
 refine zp (p_lss rfl rfl rfl) ?_
 refine zn ?_
 refine zd rfl (fun c19 => ?_) (fun c19 => ?_)
 refine zr ?_
 refine za rfl rfl ?_
 refine zn ?_
 refine zt ?_
 exact z1 rfl rfl (rI (by rw [gracesErr_go c6, ← hf, if_pos (by rw [err_18 c19]; decide), err_18 c19]))
 refine zi ?_
 refine zr ?_
 refine zm rfl rfl ?_
 refine zm rfl rfl ?_
 refine zp (p_idx_map rfl rfl rfl el_57 hx0) ?_
 refine zp (p_fld_pt rfl rfl fld_138_1) ?_
 refine zp (p_load_pt rfl rfl sc_3) ?_
 refine XL.call1 rfl rfl (in_xc _ _ _) rfl ?_
 refine zp (p_notdec rfl rfl) ?_
 refine zn ?_
 refine zd rfl (fun c26 => ?_) (fun c26 => ?_)
 refine zr ?_
 refine za rfl rfl ?_
 refine zn ?_
 refine zt ?_
 exact z1 rfl rfl (rI (by rw [gracesErr_go c6, ← hf, if_neg (by rw [err_00 c19]; decide), if_pos (by omega)]))
 refine zi ?_
 refine xw_region (by kernel_rfl) ?_
 refine zm rfl rfl ?_
 refine zp (p_add rfl rfl rfl (by omega) (by omega)) ?_
 refine za rfl rfl ?_
 refine zn ?_
 exact k_round (k + 1) (⟨by omega, by rw [if_neg (by rw [err_00 c19]; decide), if_neg (by omega)] at hf; exact hf⟩) (by omega) (fz ⟨sr, sr, trivial⟩) (HSub.nil)
 have hk0b : k = l.length := by omega
 refine xw_exit ?_
 refine zr ?_
 refine za rfl rfl ?_
 refine zn ?_
 refine zt ?_
 exact z1 rfl rfl (rI (by rw [gracesErr_go c6, ← hf, hk0b, List.drop_length]; rfl))
theorem rabsent_xc (s : Sy) : XC Tryz.prog 128 [.agg (Sy.c s)] (fun r => r = dB (decide s.none)) := by
 refine xc_body callable_128 Tryz.func128 rfl rfl (Nat.le_of_ble_eq_true rfl) ?_
 refine zr ?_
 refine XL.step rfl (st_boxN 1 (l := [.d (.v (.string ⟨s.text.toArray⟩)), .d (dI s.link)]) rfl rfl (by kernel_rfl)) ?_
 refine za rfl rfl ?_
 refine znr ?_
 refine zp (p_fld_ptr rfl rfl fld_140_0) ?_
 refine zp (p_load_box rfl rfl sc_9 rfl rfl) ?_
 refine zp (p_streq rfl rfl rfl) ?_
 refine zm rfl rfl ?_
 refine XL.bool 6 rfl (fun g6 => ?_) (fun g6 => ?_)
 refine zp (p_fld_ptr rfl rfl fld_140_1) ?_
 refine zp (p_load_box rfl rfl sc_3 rfl rfl) ?_
 refine zp (p_eql rfl rfl rfl) ?_
 refine zq rfl rfl rfl ?_
 refine za rfl rfl ?_
 refine zn ?_
 refine zt ?_
 exact z1 rfl rfl (rB (by rw [text_nil] at g6; rw [decide_eq_decide]; exact ⟨fun h => ⟨of_decide_eq_true g6, h⟩, fun h => h.2⟩))
 refine zk 3 rfl ?_
 refine zq rfl rfl rfl ?_
 refine za rfl rfl ?_
 refine zn ?_
 refine zt ?_
 exact z1 rfl rfl (rB (by rw [text_nil] at g6; rw [eq_comm, decide_eq_false_iff_not]; exact fun h => of_decide_eq_false g6 h.1))
theorem sy_1 {s : Sy} (h : ¬ (0 ≤ s.link ∧ s.link ≤ 2)) : syErr s = 2 := by rw [syErr, if_pos (by omega)]
theorem sy_2 {s : Sy} (h : ¬ ¬ (0 ≤ s.link ∧ s.link ≤ 2)) (h2 : 256 < (s.text.length : Int)) : syErr s = 5 := by rw [syErr, if_neg (by omega), if_pos (by omega)]
theorem sy_3 {s : Sy} {k : Nat} {b : UInt8} (h : ¬ ¬ (0 ≤ s.link ∧ s.link ≤ 2)) (h2 : ¬ 256 < (s.text.length : Int)) (hb : s.text[k]? = some b) (h3 : badByte b) : syErr s = 6 := (syErr_b (by omega) (by omega) h2 hb h3).symm
theorem sy_4 {s : Sy} (h : ¬ ¬ (0 ≤ s.link ∧ s.link ≤ 2)) (h2 : ¬ 256 < (s.text.length : Int)) (h3 : ∀ j b, j < s.text.length → s.text[j]? = some b → ¬ badByte b) : syErr s = if s.text = [] ∧ s.link = 1 then 3 else 0 := syErr_e (by omega) (by omega) h2 h3
theorem lyr_hit {l : List Sy} {k : Nat} {x : Sy} {n : Int} (h : l[k]? = some x) (hl : ¬ 4 < (l.length : Int)) (hf : lyrGo (l.drop k) = lyrGo l) (hx : syErr x = n) (hn : n ≠ 0) : lyrErr l = n := by
 have : lyrGo l = n := by rw [← hf, lyrGo_hit h (by rw [hx]; exact hn), hx]
 rw [lyrErr_go hl, this, if_pos hn]
theorem rlyrics_xc (l : List Sy) : XC Tryz.prog 82 [.sl 2 (l.map Sy.c)] (fun r => r = dI (lyrErr l)) := by
 refine xc_body callable_82 Tryz.func82 rfl rfl (Nat.le_of_ble_eq_true rfl) ?_
 refine zr ?_
 refine za rfl rfl ?_
 refine zn ?_
 refine zs ?_
 refine zr ?_
 refine zm rfl rfl ?_
 refine XL.len rfl rfl rfl Tryz.underlying58 (fun hl7 => ?_)
 refine zp (p_gtr rfl rfl rfl) ?_
 refine zn ?_
 refine zd rfl (fun c8 => ?_) (fun c8 => ?_)
 refine zr ?_
 refine za rfl rfl ?_
 refine zn ?_
 refine zt ?_
 exact z1 rfl rfl (rI (by rw [lyrErr, if_pos (by omega)]))
 refine zi ?_
 refine zs ?_
 refine zr ?_
 refine za rfl rfl ?_
 refine zn ?_
 refine xw_block ?_
 refine xw_loop (α := Nat) (fun k => k ≤ l.length ∧ lyrGo (l.drop k) = lyrGo l) (fun k => mkF [(0, .d (.sl 2 (l.map Sy.c))), (3, .d (dI k))]) (fun k => mkH []) (fun k => l.length - k) (0) (⟨Nat.zero_le _, by rw [List.drop_zero]⟩) ?_ ?_ ?_
 exact fz ⟨sr, sr, trivial⟩
 exact HSub.nil
 intro k hk0
 obtain ⟨hk, hf⟩ := hk0
 refine zs ?_
 refine zr ?_
 refine zm rfl rfl ?_
 refine zm rfl rfl ?_
 refine XL.len rfl rfl rfl Tryz.underlying58 (fun hl11 => ?_)
 refine zp (p_lss rfl rfl rfl) ?_
 refine zn ?_
 refine zd rfl (fun c12 => ?_) (fun c12 => ?_)
 have hk0a : k < l.length := by omega
 obtain ⟨x0, hx0⟩ := get_ex hk0a
 refine zi ?_
 refine zs ?_
 refine xw_block ?_
 refine zr ?_
 refine zm rfl rfl ?_
 refine zm rfl rfl ?_
 refine zp (p_idx_map rfl rfl rfl el_58 hx0) ?_
 refine zp (pure_eq (s' := .d (.agg (Sy.c x0))) (p_load_pts rfl rfl agg_140 (Nat.le_of_ble_eq_true rfl)) (by kernel_rfl)) ?_
 refine XL.step rfl (st_allocN 4 (l := [.d (.v (.string ⟨#[]⟩)), .d (dI 0)]) rfl zero_140 (by kernel_rfl)) ?_
 refine XL.step rfl (st_storeN (l' := [.d (.v (.string ⟨x0.text.toArray⟩)), .d (dI x0.link)]) rfl rfl rfl rfl sz_140 rfl (Nat.le_of_ble_eq_true rfl) (by kernel_rfl)) ?_
 refine zn ?_
 refine zs ?_
 refine zr ?_
 refine zp (p_fld_ptr rfl rfl fld_140_1) ?_
 refine zp (p_load_box rfl rfl sc_3 rfl rfl) ?_
 refine XL.call1 rfl rfl (in_xc _ _ _) rfl ?_
 refine zp (p_notdec rfl rfl) ?_
 refine zn ?_
 refine zd rfl (fun c22 => ?_) (fun c22 => ?_)
 refine zr ?_
 refine za rfl rfl ?_
 refine zn ?_
 refine zt ?_
 exact z1 rfl rfl (rI (lyr_hit hx0 c8 hf (sy_1 c22) (by decide)).symm)
 refine zi ?_
 refine zs ?_
 refine zr ?_
 refine zp (p_fld_ptr rfl rfl fld_140_0) ?_
 refine zp (p_load_box rfl rfl sc_9 rfl rfl) ?_
 refine zp (p_len_str rfl rfl Tryz.underlying9) ?_
 refine zp (p_gtr rfl rfl rfl) ?_
 refine zn ?_
 refine zd rfl (fun c26 => ?_) (fun c26 => ?_)
 refine zr ?_
 refine za rfl rfl ?_
 refine zn ?_
 refine zt ?_
 exact z1 rfl rfl (rI (lyr_hit hx0 c8 hf (sy_2 c22 (by have := c26; rw [text_size] at this; omega)) (by decide)).symm)
 refine zi ?_
 refine zs ?_
 refine zr ?_
 refine za rfl rfl ?_
 refine zn ?_
 refine xw_block ?_
 refine xw_loop (α := Nat) (fun m => m ≤ x0.text.length ∧ ∀ j b, j < m → x0.text[j]? = some b → ¬ badByte b) (fun m => mkF [(0, .d (.sl 2 (l.map Sy.c))), (3, .d (dI k)), (4, .ptr 4 0 0), (5, .d (dI m))]) (fun m => mkH [(4, .box ((Sy.c x0).map S.d))]) (fun m => x0.text.length - m) (0) (⟨Nat.zero_le _, fun j b h => absurd h (Nat.not_lt_zero _)⟩) ?_ ?_ ?_
 exact fz ⟨sr, sr, sr, sr, trivial⟩
 exact gz ⟨rfl, trivial⟩
 intro m hk2
 obtain ⟨hm, hfm⟩ := hk2
 refine zs ?_
 refine zr ?_
 refine zm rfl rfl ?_
 refine zp (p_fld_ptr rfl rfl fld_140_0) ?_
 refine zp (p_load_box rfl rfl sc_9 rfl rfl) ?_
 refine zp (p_len_str rfl rfl Tryz.underlying9) ?_
 refine zp (p_lss rfl rfl rfl) ?_
 refine zn ?_
 refine zd rfl (fun c31 => ?_) (fun c31 => ?_)
 rw [text_size] at c31
 have hkl : m < x0.text.length := by omega
 have hsz : (x0.text.length : Int) ≤ 256 := by have := c26; rw [text_size] at this; omega
 obtain ⟨b, hb⟩ := get_ex hkl
 refine zi ?_
 refine zs ?_
 refine xw_block ?_
 refine zr ?_
 refine zp (p_fld_ptr rfl rfl fld_140_0) ?_
 refine zp (p_load_box rfl rfl sc_9 rfl rfl) ?_
 refine zm rfl rfl ?_
 refine zp (p_byte rfl rfl rfl Tryz.underlying9 (text_get hb)) ?_
 refine zp (p_lss rfl rfl rfl) ?_
 refine zm rfl rfl ?_
 refine XL.dec 39 rfl (fun g39 => ?_) (fun g39 => ?_)
 refine zk 5 rfl ?_
 refine zq rfl rfl rfl ?_
 refine zn ?_
 refine xw_true (by kernel_rfl) rfl ?_
 refine zr ?_
 refine za rfl rfl ?_
 refine zn ?_
 refine zt ?_
 exact z1 rfl rfl (rI (lyr_hit hx0 c8 hf (sy_3 c22 (by rw [← text_size]; exact c26) hb (byte_lt g39)) (by decide)).symm)
 refine zp (p_fld_ptr rfl rfl fld_140_0) ?_
 refine zp (p_load_box rfl rfl sc_9 rfl rfl) ?_
 refine zm rfl rfl ?_
 refine zp (p_byte rfl rfl rfl Tryz.underlying9 (text_get hb)) ?_
 refine zp (p_eql rfl rfl rfl) ?_
 refine zq rfl rfl rfl ?_
 refine zn ?_
 refine zd rfl (fun c45 => ?_) (fun c45 => ?_)
 refine zr ?_
 refine za rfl rfl ?_
 refine zn ?_
 refine zt ?_
 exact z1 rfl rfl (rI (lyr_hit hx0 c8 hf (sy_3 c22 (by rw [← text_size]; exact c26) hb (byte_127 c45)) (by decide)).symm)
 refine zi ?_
 refine xw_region (by kernel_rfl) ?_
 refine zm rfl rfl ?_
 refine zp (p_add rfl rfl rfl (by omega) (by omega)) ?_
 refine za rfl rfl ?_
 refine zn ?_
 exact k_round (m + 1) (⟨by omega, fun j b' hj hb' => by by_cases e : j = m; (· subst e; rw [hb] at hb'; cases hb'; exact byte_ok g39 c45); (· exact hfm j b' (by omega) hb')⟩) (by omega) (fz ⟨sr, sr, sr, sr, trivial⟩) (gz ⟨rfl, trivial⟩)
 rw [text_size] at c31
 have hke : m = x0.text.length := by omega
 have he := sy_4 c22 (by rw [← text_size]; exact c26) (fun j b hj => hfm j b (by omega))
 refine xw_exit ?_
 refine zr ?_
 refine zp (p_fld_ptr rfl rfl fld_140_0) ?_
 refine zp (p_load_box rfl rfl sc_9 rfl rfl) ?_
 refine zp (p_streq rfl rfl rfl) ?_
 refine zm rfl rfl ?_
 refine XL.bool 49 rfl (fun g49 => ?_) (fun g49 => ?_)
 refine zp (p_fld_ptr rfl rfl fld_140_1) ?_
 refine zp (p_load_box rfl rfl sc_3 rfl rfl) ?_
 refine zp (p_eql rfl rfl rfl) ?_
 refine zq rfl rfl rfl ?_
 refine zn ?_
 refine zd rfl (fun c53 => ?_) (fun c53 => ?_)
 refine zr ?_
 refine za rfl rfl ?_
 refine zn ?_
 refine zt ?_
 exact z1 rfl rfl (rI (by rw [text_nil] at g49; exact (lyr_hit hx0 c8 hf (by rw [he, if_pos ⟨of_decide_eq_true g49, c53⟩]) (by decide)).symm))
 refine zi ?_
 refine xw_region (by kernel_rfl) ?_
 refine zm rfl rfl ?_
 refine zp (p_add rfl rfl rfl (by omega) (by omega)) ?_
 refine za rfl rfl ?_
 refine zn ?_
 have hz0 : syErr x0 = 0 := by rw [he, if_neg (fun h => c53 h.2)]
 exact k_round (k + 1) (⟨by omega, by rw [← lyrGo_step hx0 (by rw [hz0]; decide)]; exact hf⟩) (by omega) (fz ⟨sr, sr, trivial⟩) (HSub.nil)
 refine zk 3 rfl ?_
 refine zq rfl rfl rfl ?_
 refine zn ?_
 refine xw_false (by kernel_rfl) rfl ?_
 refine zi ?_
 refine xw_region (by kernel_rfl) ?_
 refine zm rfl rfl ?_
 refine zp (p_add rfl rfl rfl (by omega) (by omega)) ?_
 refine za rfl rfl ?_
 refine zn ?_
 rw [text_nil] at g49
 have hz0 : syErr x0 = 0 := by rw [he, if_neg (fun h => of_decide_eq_false g49 h.1)]
 exact k_round (k + 1) (⟨by omega, by rw [← lyrGo_step hx0 (by rw [hz0]; decide)]; exact hf⟩) (by omega) (fz ⟨sr, sr, trivial⟩) (HSub.nil)
 have hk0b : k = l.length := by omega
 have hz : lyrGo l = 0 := by rw [← hf, hk0b, List.drop_length]; rfl
 have hz2 : lyrErr l = if lastNone l then 3 else 0 := by rw [lyrErr_go c8, hz, if_neg (by simp)]
 refine xw_exit ?_
 refine zs ?_
 refine zr ?_
 refine zm rfl rfl ?_
 refine XL.len rfl rfl rfl Tryz.underlying58 (fun hl55 => ?_)
 refine zp (p_gtr rfl rfl rfl) ?_
 refine zm rfl rfl ?_
 refine XL.dec 57 rfl (fun g57 => ?_) (fun g57 => ?_)
 obtain ⟨s, hs⟩ : ∃ s, l[l.length - 1]? = some s := get_ex (by omega)
 refine zm rfl rfl ?_
 refine zm rfl rfl ?_
 refine XL.len rfl rfl rfl Tryz.underlying58 (fun hl60 => ?_)
 refine zp (p_sub rfl rfl rfl (by omega) (by omega)) ?_
 refine zp (p_idx_mapi rfl rfl rfl (by omega) el_58 (hs)) ?_
 refine zp (pure_eq (s' := .d (.agg (Sy.c s))) (p_load_pts rfl rfl agg_140 (Nat.le_of_ble_eq_true rfl)) (by kernel_rfl)) ?_
 refine XL.call1 rfl rfl (rabsent_xc _) rfl ?_
 refine zq rfl rfl rfl ?_
 refine zn ?_
 refine zd rfl (fun c65 => ?_) (fun c65 => ?_)
 refine zr ?_
 refine za rfl rfl ?_
 refine zn ?_
 refine zt ?_
 exact z1 rfl rfl (rI (by rw [hz2, if_pos ((lastNone_at hs).2 c65)]))
 refine zi ?_
 refine zr ?_
 refine za rfl rfl ?_
 refine zn ?_
 refine zt ?_
 exact z1 rfl rfl (rI (by rw [hz2, if_neg (fun h => c65 ((lastNone_at hs).1 h))]))
 refine zk 7 rfl ?_
 refine zq rfl rfl rfl ?_
 refine zn ?_
 refine xw_false (by kernel_rfl) rfl ?_
 refine zi ?_
 refine zr ?_
 refine za rfl rfl ?_
 refine zn ?_
 refine zt ?_
 exact z1 rfl rfl (rI (by rw [hz2, if_neg (lastNone_nil g57)]))
end Go.Proofs.YtcihalbakenleaaGreat
