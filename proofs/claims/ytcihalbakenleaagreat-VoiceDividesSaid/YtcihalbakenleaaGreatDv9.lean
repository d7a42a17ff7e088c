/- Part 9 of what the statements need: lemmas and walks. -/
import Derived.Lib.AppendZeros
import Derived.Test.YtcihalbakenleaaGreatDv8
set_option linter.unusedVariables false
set_option maxRecDepth 20000
set_option maxHeartbeats 8000000
namespace Go.Proofs.YtcihalbakenleaaGreat
open Go.RowKit
section
variable {P : Program} {o : Oper} {e : Operand → S} {h : Xh}
theorem U7 {t el : TypeId} {x : Operand} (ho : o.op = .call { callee := .builtin .cap, args := #[x], argTypes := #[t] }) (hx : e x = .d (.v (.slice none 0 0))) (hu : P.underlying t = some (.slice el)) : Bm P o e h (.d (.v (.int .i64 0))) := fun E H β ρ w _ hop => by
  have g := hop x (by rw [ho]; simp [Op.operands, Call.operands])
  rw [hx] at g
  refine ⟨_, ?_, .d (.v (.int .i64 0))⟩
  unfold execOp
  simp only [ho, resolve, invoke, builtin, Sem.run_bind, Sem.run_pure, Result.andThen_ok, List.map_toArray, List.map_cons, List.map_nil, Eb g]
  unfold Builtin.cap_
  simp only [List.getElem?_toArray, List.getElem?_cons_zero, Sem.run_bind, run_underlying hu, Result.andThen_ok, Sem.run_pure, goInt]
  rfl
theorem Abx {t sz : Nat} {x y : Operand} {k : IntKind} (ho : o.op = .slice t x none (some y) none) (hx : e x = .d (.v (.slice none 0 0))) (hy : e y = .d (.v (.int k 0))) (hf : elB P t sz = true) : Bm P o e h (.d (.v (.slice none 0 0))) := fun E H β ρ w _ hop => by
  have g := hop x (by rw [ho]; simp [Op.operands])
  have g2 := hop y (by rw [ho]; simp [Op.operands])
  rw [hx] at g
  rw [hy] at g2
  obtain ⟨el, hu, hpos, hsz⟩ := elB.parts hf
  have hb : (Instr.sliceBounds true 0 0 (none : Option Value) (some (ρ y)) none).run P w = .ok (0, 0, 0) w := by
    rw [Eb g2]
    exact Ls none (some (.int k 0)) 0 0 0 0 (.inl ⟨rfl, rfl⟩) (.inr ⟨k, rfl⟩) (Nat.le_refl _) (Nat.le_refl _) w
  refine ⟨_, ?_, .d (.v _)⟩
  unfold execOp
  simp only [ho, Eb g, Instr.sliceAt, Option.map_none, Option.map_some, Sem.run_bind, run_underlying hu, Result.andThen_ok, Instr.slice, hb, hsz, Sem.run_pure, Nat.sub_zero, if_true]
end
section
variable {P : Program} {n : Nat} {o : Oper} {f : Fr} {h : Xh}
theorem Afa (i : Nat) {t tn ty : TypeId} {sz bytes : Nat} {x y : Operand} {z : Value} {zs : List D} {k : Nat} {kq kn : IntKind} (ho : o.op = .call { callee := .builtin .append, args := #[x, y], argTypes := #[t, tn] })
    (hx : ev f x = .d (.v (.slice none 0 0))) (hy : ev f y = .d (.v (.int kq k))) (hu : P.underlying t = some (.slice ty)) (hun : P.underlying tn = some (.int kn)) (hinf : (P.info? ty).map (fun i => (i.zero, i.size, i.bytes)) = some (some z, sz, bytes))
    (hzs : z.cells.toList.map D.v = zs) (hzl : z.cells.size = sz) (hz1 : ∀ u ∈ z.cells, u.oneCell' = true) (hpos : 0 < sz) (hk : 0 < k) (hcm : k ≤ maxLen) (hby : k * bytes ≤ 140737488355328) :
    Step P n o f h (.own i) (Hg f i) ((h.kill i).set i (.row ty sz (List.replicate k zs))) := by
  intro E H β a w hs hf hop
  have g1 := hop x (by rw [ho]; simp [Op.operands, Call.operands])
  have g2 := hop y (by rw [ho]; simp [Op.operands, Call.operands])
  rw [hx] at g1
  rw [hy] at g2
  obtain ⟨inf, hi, hi1, hi2, hi3⟩ := info_parts hinf
  have hcm' : k ≤ 9223372036854775807 := Aig hcm
  have hrun0 := Lib.run_append_nil_zeros (P := P) w t tn o.type ty inf z kq kn hu hun hi hi1 k hk (by omega) (by omega) (by rw [hi3]; omega)
  have hrun : (execOp a.eval o).run P w = .ok (.value (.slice (some ⟨w.heap.size, 0, none⟩) (List.replicate k zs).length (grownCap w k 0 ty))) (w.drew.alloc (.cells (Builtin.zeroCells z.cells k ++ Builtin.zeroCells z.cells (grownCap w k 0 ty - k)) ty)) := by
    unfold execOp
    simp only [ho, Eb g1, Eb g2, resolve, invoke, builtin, Sem.run_bind, Sem.run_pure, Result.andThen_ok, List.map_toArray, List.map_cons, List.map_nil, hrun0, List.length_replicate]
  unfold Oper.wp
  rw [hrun]
  have hge := grownCap_ge w k 0 ty
  have hle := grownCap_le_maxLen w k 0 ty hcm
  have hzsl : zs.length = sz := by rw [← hzs, List.length_map, Array.length_toList, hzl]
  have hzget : ∀ m q, q < m * sz → (Builtin.zeroCells z.cells m)[q]? = some (z.cells[q % z.cells.size]'(Nat.mod_lt _ (by omega))) := by
    intro m q hq
    unfold Builtin.zeroCells
    rw [Array.getElem?_map]
    have : (Array.range (m * z.cells.size))[q]? = some q := by rw [hzl]; simp [hq]
    rw [this, Option.map_some]
    congr 1
    exact getElem!_pos z.cells (q % z.cells.size) (Nat.mod_lt _ (by omega))
  have hzsz : ∀ m, (Builtin.zeroCells z.cells m).size = m * sz := fun m => by unfold Builtin.zeroCells; simp [hzl]
  have hzone : ∀ m, ∀ u ∈ Builtin.zeroCells z.cells m, u.oneCell' = true := fun m u hu => by
    obtain ⟨q, hq⟩ := Array.getElem?_of_mem hu
    have hql := (Array.getElem?_eq_some_iff.1 hq).1
    rw [hzget m q (by rw [← hzsz]; exact hql)] at hq
    cases hq
    exact hz1 _ (Array.getElem_mem _)
  have hsim := hs.drew.add_row i (ty := ty) (sz := sz) (cap := grownCap w k 0 ty) (l := List.replicate k zs) (Builtin.zeroCells z.cells k ++ Builtin.zeroCells z.cells (grownCap w k 0 ty - k)) (fun x hx => by rw [List.eq_of_mem_replicate hx]; exact hzsl) (by rw [List.length_replicate]; exact hge) hle (by
      rw [Array.size_append, hzsz, hzsz, ← Nat.add_mul]; congr 1; omega) (fun u hu => by
      rcases Array.mem_append.1 hu with h | h
      · exact hzone _ u h
      · exact hzone _ u h) (fun k' j x d hk' hj => by
      have hkl := (List.getElem?_eq_some_iff.1 hk').1
      rw [List.length_replicate] at hkl
      have hx := List.eq_of_mem_replicate (List.mem_of_getElem? hk')
      subst hx
      have hjl := (List.getElem?_eq_some_iff.1 hj).1
      rw [hzsl] at hjl
      have h1 : (k' + 1) * sz ≤ k * sz := Nat.mul_le_mul_right _ hkl
      rw [Nat.add_mul] at h1
      refine ⟨_, by rw [Array.getElem?_append_left (by rw [hzsz]; omega)]; exact hzget k (k' * sz + j) (by omega), ?_⟩
      have e2 : (k' * sz + j) % sz = j := by rw [Nat.mul_comm, Nat.mul_add_mod, Nat.mod_eq_of_lt hjl]
      rw [← hzs, List.getElem?_map, Array.getElem?_toList, Array.getElem?_eq_getElem (by omega)] at hj
      cases hj
      have e3 : z.cells[(k' * sz + j) % z.cells.size]'(Nat.mod_lt _ (by omega)) = z.cells[j]'(by omega) := by congr 1; rw [hzl, e2]
      rw [e3]
      exact .v _)
  exact ⟨H, _, _, rfl, hsim, hf.kill i _, Pr H β i ⟨_, w.heap.size, sz⟩⟩
end
inductive DSubs : List D → List D → Prop where
  | nil : DSubs [] []
  | cons {d d' : D} {l l' : List D} (h : DSub d d') (hl : DSubs l l') : DSubs (d :: l) (d' :: l')
mutual
theorem S.frz_kill (i : Nat) (x : D) : ∀ s : S, (s.kill i).frz i x = s.kill i
  | .any => by simp only [S.kill, S.frz]
  | .d y => by simp only [S.kill, S.frz]
  | .ptr j k off => by
    simp only [S.kill]
    by_cases e : i = j
    · subst e; rw [B2]; simp only [cond_true, S.frz]
    · rw [Cb e]; simp only [cond_false, S.frz]
  | .own j => by
    simp only [S.kill]
    by_cases e : i = j
    · subst e; rw [B2]; simp only [cond_true, S.frz]
    · rw [Cb e]; simp only [cond_false, S.frz, Cb e]
  | .sub j a b => by
    simp only [S.kill]
    by_cases e : i = j
    · subst e; rw [B2]; simp only [cond_true, S.frz]
    · rw [Cb e]; simp only [cond_false, S.frz, Cb e]
  | .agg l => by simp only [S.kill, S.frz, S.frzL_kill i x l]
  | .fn f a c => by simp only [S.kill, S.frz, S.frzL_kill i x a, S.frzL_kill i x c]
  | .tup l => by simp only [S.kill, S.frz, S.frzL_kill i x l]
theorem S.frzL_kill (i : Nat) (x : D) : ∀ l : List S, S.frzL i x (S.killL i l) = S.killL i l
  | [] => by simp only [S.killL, S.frzL]
  | s :: l => by simp only [S.killL, S.frzL, S.frz_kill i x s, S.frzL_kill i x l]
end
theorem S.frzG_kill (i : Nat) (x : D) : ∀ l : List (Nat × S), S.frzG i x (S.killG i l) = S.killG i l
  | [] => rfl
  | (t, s) :: l => by simp only [S.killG, S.frzG, S.frz_kill i x s, S.frzG_kill i x l]
theorem XO.frz_kill (i : Nat) (x : D) (o : XO) : (o.kill i).frz i x = o.kill i := by
  cases o with
  | box l => simp only [XO.kill, XO.frz, S.frzL_kill]
  | row e sz l => rfl
  | ghost u l => simp only [XO.kill, XO.frz, S.frzG_kill]
def Ot (i : Nat) : Nat → Option XO → Option XO := fun k y => bif Nat.beq i k then none else y.map (XO.kill i)
theorem Vl {i : Nat} (z z' : Option XO) : Ot i i z = Ot i i z' := by simp only [Ot, B2, cond_true]
section
variable {P : Program} {n : Nat} {o : Oper} {f : Fr} {h : Xh}
theorem Vk {i : Nat} {t ty : TypeId} {sz bytes : Nat} {x y : Operand} {l l' l2 : List (List D)} (ho : o.op = .call { callee := .builtin .append, args := #[x, y], argTypes := #[t, t] }) (T : ElemTy P t ty sz bytes)
    (hx : Dest h (ev f x) i ty sz l) (hy : Src h (ev f y) sz l') (h63 : l.length + l'.length ≤ maxLen) (hby : (l.length + l'.length) * bytes ≤ 140737488355328) (hl2 : l ++ l' = l2) :
    ∀ hF, HLe h hF → Q1 P n o f hF i (.d (.sl sz l2)) (S.kill i) (hF.by (Ot i)) := by
  intro hF hle f' he E H β a w hs hf hop
  refine Hj (Oq ho T hx hy h63 hby hl2 hF hle f' he E H β a w hs hf hop) ?_
  rintro a' w' ⟨H', β', u, rfl, k1, k2, k3, k4⟩
  obtain ⟨H2, g1, g2, g3⟩ := k1.freeze (i := i) (e := ty) (sz := sz) (l := l2) (by show R4 i _ i _ = _; simp only [R4, B2, cond_true])
  obtain ⟨L, hL, hu⟩ := Je k4
  refine ⟨H2, β', u, rfl, g3.drop (fun k o e => ?_), k2.mono g1 (fun _ _ h => h), k3, .d (by rw [hu]; exact g2 L hL)⟩
  unfold Xh.by Ot at e
  unfold Xh.frz Xh.by R4
  by_cases e' : i = k
  · subst e'; simp only [B2, cond_true] at e; cases e
  · simp only [Cb e', cond_false] at e ⊢
    cases hk : hF k with
    | none => rw [hk] at e; cases e
    | some o1 => rw [hk] at e; cases e; simp only [Option.map_some, XO.frz_kill]
end
section
variable {P : Program} {n : Nat} {c : Code} {K : En} {f : Fr} {h : Xh}
theorem Al2 (t : Nat) {b : Bool} (ht : f t = .d (.v (.bool b))) (h1 : b = true → XW P n c K (Df f t (.d (.v (.bool true)))) h) (h2 : b = false → XW P n c K (Df f t (.d (.v (.bool false)))) h) : XW P n c K f h := by
  have e : ∀ b', b = b' → Df f t (.d (.v (.bool b'))) = f := fun b' hb => by
    funext j
    by_cases e : t = j
    · subst e; simp only [Df, B2, cond_true]; rw [ht, hb]
    · simp only [Df, Cb e, cond_false]
  cases hb : b with
  | true => have := h1 hb; rwa [e true hb] at this
  | false => have := h2 hb; rwa [e false hb] at this
theorem Ajc (t : Nat) {p : Prop} [Decidable p] (ht : f t = .d (.v (.bool (decide p)))) (h1 : p → XW P n c K (Df f t (.d (.v (.bool true)))) h) (h2 : ¬ p → XW P n c K (Df f t (.d (.v (.bool false)))) h) : XW P n c K f h :=
  Al2 t ht (fun e => h1 (of_decide_eq_true e)) (fun e => h2 (of_decide_eq_false e))
end
end Go.Proofs.YtcihalbakenleaaGreat
namespace Go.Proofs.YtcihalbakenleaaGreat
open Go.RowKit
def Tp.mv (by_ : Int) (t : Tp) : Tp := { t with first := t.first + by_ }
def C8 (p : Tp → Bool) (by_ : Int) (l : List Tp) : List Tp := (l.filter p).map (Tp.mv by_)
theorem Ah8 {p : Tp → Bool} {b : Int} {l : List Tp} {k : Nat} {t : Tp} (h : l[k]? = some t) (hp : p t = true) : C8 p b (l.take (k + 1)) = C8 p b (l.take k) ++ [t.mv b] := by
 rw [Bf h, C8, List.filter_append, List.filter_cons_of_pos hp, List.filter_nil, List.map_append]; rfl
theorem Af0 {p : Tp → Bool} {b : Int} {l : List Tp} {k : Nat} {t : Tp} (h : l[k]? = some t) (hp : ¬ p t = true) : C8 p b (l.take (k + 1)) = C8 p b (l.take k) := by
 rw [Bf h, C8, List.filter_append, List.filter_cons_of_neg hp, List.filter_nil, List.append_nil]; rfl
theorem Jw (p : Tp → Bool) (b : Int) (l : List Tp) : (C8 p b l).length ≤ l.length := by rw [C8, List.length_map]; exact List.length_filter_le _ _
theorem Aez {b : Bool} (h : b = false) : ¬ b = true := by rw [h]; exact Bool.false_ne_true
theorem R2 (l : List Tp) (F : Nat) (cs : List D) (p : Tp → Bool) (b : Int) (hF : ∀ t ∈ l, XC Tryz.prog F (.agg (Tp.c t) :: cs) (fun r => r = dB (p t))) (hl : l.length ≤ 1000) (hb : ∀ t ∈ l, p t = true → -1000000 ≤ t.first + b ∧ t.first + b ≤ 1000000) : XC Tryz.prog 84 [.sl 4 (l.map Tp.c), .fn F [] cs, .v (.int .i64 b)] (fun r => r = .sl 4 ((C8 p b l).map Tp.c)) := by
 refine An Aca Tryz.func84 R R lb<|zr<|za R R<|znr<|za R R<|zn<|zs<|zr<|zm R R<|XL.len R R R Tryz.underlying23 fun hl11=>zm R R<|zn<|Ag<|C0 900 7 102 4 R<|?_
 refine Au (α := Nat) (fun k => k ≤ l.length) (fun k => mkF [(1, .d (.fn F [] cs)), (2, .d (dI b)), (6, .d (.v (.slice none 0 0))), (7, .own 900), (10, .d (.sl 4 (l.map Tp.c))), (11, .d (dI l.length)), (12, .d (dI k))]) (fun k => mkH [(900, .row 102 4 ((C8 p b (l.take k)).map Tp.c))]) (fun k => l.length - k) (0) (Nat.zero_le _) ?_ ?_ ?_
 exact fz ⟨sr, sr, sr, sr, sr, sr, sr, trivial⟩
 exact gz ⟨R, trivial⟩
 intro k hk0
 refine zr<|zp (Aq R R R)<|zn<|zs<|?_
 refine zd R (fun c13 => ?_) (fun c13 => ?_)
 have hk0a : k < l.length := by omega
 obtain ⟨x0, hx0⟩ := Av hk0a
 have hml := Jw p b (l.take k)
 have htl : (l.take k).length ≤ l.length := List.length_take_le' _ _
 refine zi<|zs<|Ag<|zr<|zp (Ak R R R Ey hx0)<|zp (Ae (s' := .d (.agg (Tp.c x0))) (At R R Ci lb) (by kernel_rfl))<|XL.step R (A7 9 (l := [.d (dI 0), .d (dI 0), .d (dI 0), .d (dI 0)]) R Ei (by kernel_rfl))<|XL.step R (Ah (l' := [.d (dI x0.first), .d (dI x0.count), .d (dI x0.actual), .d (dI x0.normal)]) R R R R Gq R lb (by kernel_rfl))<|znr<|zm R R<|?_
 refine zp (Ae (s' := .d (.agg (Tp.c x0))) (Ad (Ac R R Ci R lb)) (by kernel_rfl))<|XL.callv1 (ds := [_]) R R R (hF x0 (List.mem_of_getElem? hx0)) R<|zn<|?_
 refine Du (by kernel_rfl) R (fun c18 => ?_) (fun c18 => ?_)
 have hb0 := hb x0 (List.mem_of_getElem? hx0) c18
 refine zr<|zp (Aa R R Da)<|zp (Ab R R Ai R R)<|zm R R<|zp (Aj R R R (by omega) (by omega))<|zp (Aa R R Da)<|XL.step R (Ah (l' := [.d (dI (x0.first + b)), .d (dI x0.count), .d (dI x0.actual), .d (dI x0.normal)]) R R R R C2 R lb (by kernel_rfl))<|zng<|zp (Ar R (by conv => lhs; whnf))<|?_
 refine zp (Ae (s' := .d (.agg [dI (x0.first + b), dI x0.count, dI x0.actual, dI x0.normal])) (Ad (Ac R R Ci R lb)) (by kernel_rfl))<|XL.step R (A9 26 R Tryz.underlying23 Gq Ei R R (by omega) (by omega))<|XL.step R (Az R G6 (.own R) (Src.own R) (by unfold maxLen; simp; omega) (by simp; omega))<|zp (Am R (by conv => lhs; whnf))<|?_
 refine zn<|Af (by kernel_rfl)<|zp (Aj R R R (by omega) (by omega))<|zm R R<|zn<|?_
 exact Al (k + 1) (by omega) (by omega) (fz ⟨sr, sr, sr, sr, sr, sr, sr, trivial⟩) (gz ⟨D9 R (Ah8 hx0 c18), trivial⟩)
 refine zi<|Af (by kernel_rfl)<|zp (Aj R R R (by omega) (by omega))<|zm R R<|zn<|?_
 exact Al (k + 1) (by omega) (by omega) (fz ⟨sr, sr, sr, sr, sr, sr, sr, trivial⟩) (gz ⟨Aoi (Af0 hx0 (Aez c18)).symm, trivial⟩)
 have hk0b : k = l.length := by omega
 have ht : l.take k = l := by rw [hk0b, List.take_length]
 refine Ap<|zr<|zp (Ar R (by conv => lhs; whnf))<|?_
 refine zp (Am R (by conv => lhs; whnf))<|?_
 exact zn<|zt<|Ba (i := 900) R<|z1 R R (rSl (by rw [ht]))
theorem Ank (n : Nat) (h : n ≤ 100000) : XS Tryz.prog 145 [.v (.slice none 0 0), .v (.int .i64 (n : Nat))] (.own 7001) [(7001, .row 60 13 ((([] : List Ev)).map Ev.c))] := by
 refine I2 Z8 Tryz.func145 R R lb (by kernel_rfl) (by kernel_rfl)<|zr<|za R R<|zn<|zs<|zr<|zm R R<|zp (Aq R R R)<|zn<|?_
 refine zd R (fun c6 => ?_) (fun c6 => ?_)
 exfalso; omega
 refine zi<|zs<|zr<|zm R R<|zm R R<|zp (U7 R R Tryz.underlying22)<|zm R R<|zp (U5 R R Tryz.underlying22)<|zp (Dj R R R (by omega) (by omega))<|zp (Ae (s' := .d (dI (n : Nat))) (Dj R R R (by omega) (by omega)) (sI (by omega)))<|za R R<|znr<|zm R R<|zp (A5 R R R)<|?_
 refine zn<|?_
 refine zd R (fun c16 => ?_) (fun c16 => ?_)
 refine Af (by kernel_rfl)<|zm R R<|zm R R<|zp (U7 R R Tryz.underlying22)<|zp (Abx R R R Ct)<|zm R R<|?_
 refine XL.step R (Afa 7001 (z := (.agg #[.int .i64 0, .int .i64 0, .int .i64 0, .int .i64 0, .int .i64 0, .slice none 0 0, .slice none 0 0, .int .i64 0, .int .i64 0, .int .i64 0, .slice none 0 0, .int .i64 0, .int .i64 0])) (zs := [dI 0, dI 0, dI 0, dI 0, dI 0, .v (.slice none 0 0), .v (.slice none 0 0), dI 0, dI 0, dI 0, .v (.slice none 0 0), dI 0, dI 0]) (sz := 13) (bytes := 152) R R R Tryz.underlying22 Tryz.underlying3 (by kernel_rfl) (by kernel_rfl) (by kernel_rfl) (by decide) (by decide) (by omega) (by unfold maxLen; omega) (by omega))<|?_
 refine zm R R<|zp (U5 R R Tryz.underlying22)<|XL.step R (Sq R R R Ct (.at R) (Nat.zero_le _))<|zp (Am R (by conv => lhs; whnf))<|?_
 refine znr<|zp (Ar R (by conv => lhs; whnf))<|?_
 refine zp (Am R (by conv => lhs; whnf))<|?_
 refine zn<|zt<|?_
 exact ⟨D1 R (RVS.tmp R R), HSub.cons (R) (HSub.nil)⟩
 refine zi<|zr<|zm R R<|za R R<|zn<|C0 7001 4 60 13 R<|zt<|?_
 exact ⟨D1 R (RVS.tmp R R), HSub.cons (R) (HSub.nil)⟩
def Yn (l : List Ev) : List D := [.sl 13 (l.map Ev.c)]
theorem Sb {ls : List (List Ev)} {k : Nat} {x : List Ev} (h : ls[k]? = some x) : (ls.take (k + 1)).flatten = (ls.take k).flatten ++ x := by rw [Bf h, List.flatten_append, List.flatten_singleton]
theorem Yz {ls : List (List Ev)} (k : Nat) : (ls.take k).flatten.length ≤ ls.flatten.length := by
 have : ls.flatten = (ls.take k).flatten ++ (ls.drop k).flatten := by rw [← List.flatten_append, List.take_append_drop]
 rw [this, List.length_append]; omega
theorem Ai3 (ls : List (List Ev)) (h : ls.flatten.length ≤ 100000) : XC Tryz.prog 106 [.sl 1 (ls.map Yn)] (fun r => r = .sl 13 (ls.flatten.map Ev.c)) := by
 refine An Aa4 Tryz.func106 R R lb<|zr<|za R R<|znr<|za R R<|zn<|zs<|zr<|zm R R<|XL.len R R R Tryz.underlying177 fun hl10=>zm R R<|zn<|Ag<|?_
 refine Au (α := Nat) (fun k => k ≤ ls.length) (fun k => mkF [(0, .d (.sl 1 (ls.map Yn))), (2, .d (.v (.slice none 0 0))), (3, .d (dI ((ls.take k).flatten.length : Nat))), (9, .d (.sl 1 (ls.map Yn))), (10, .d (dI ls.length)), (11, .d (dI k))]) (fun k => mkH []) (fun k => ls.length - k) (0) (Nat.zero_le _) ?_ ?_ ?_
 exact fz ⟨sr, sr, sr, sr, sr, sr, trivial⟩
 exact HSub.nil
 intro k hk0
 refine zr<|zp (Aq R R R)<|zn<|zs<|?_
 refine zd R (fun c12 => ?_) (fun c12 => ?_)
 have hk0a : k < ls.length := by omega
 obtain ⟨x0, hx0⟩ := Av hk0a
 have h1 := Yz (ls := ls) (k + 1)
 have h2 : (ls.take (k + 1)).flatten.length = (ls.take k).flatten.length + x0.length := by rw [Sb hx0, List.length_append]
 refine zi<|zs<|Ag<|zr<|zp (Ak R R R Aiy hx0)<|zp (Ax R R Bq)<|za R R<|znr<|zm R R<|zm R R<|XL.len R R R Tryz.underlying22 fun hl17=>zp (Aj R R R (by omega) (by omega))<|za R R<|znr<|?_
 refine zm R R<|zp (Aq R R R)<|zn<|?_
 refine zd R (fun c20 => ?_) (fun c20 => ?_)
 exfalso; omega
 refine zi<|Af (by kernel_rfl)<|zp (Aj R R R (by omega) (by omega))<|zm R R<|zn<|?_
 exact Al (k + 1) (by omega) (by omega) (fz ⟨sr, sr, .same (sI (by rw [h2]; omega)), sr, sr, sr, trivial⟩) (HSub.nil)
 have hk0b : k = ls.length := by omega
 have h3 := Yz (ls := ls) k
 refine Ap<|zr<|zm R R<|XL.callS R R ((Ank _ (by omega)).lab 7001) R<|zp (Am R (by conv => lhs; whnf))<|?_
 refine zn<|zs<|zr<|zm R R<|XL.len R R R Tryz.underlying177 fun hl26=>zm R R<|zn<|Ag<|?_
 refine Au (α := Nat) (fun j => j ≤ ls.length) (fun j => mkF [(2, .d (.v (.slice none 0 0))), (6, .own 7001), (25, .d (.sl 1 (ls.map Yn))), (26, .d (dI ls.length)), (27, .d (dI j))]) (fun j => mkH [(7001, .row 60 13 (((ls.take j).flatten).map Ev.c))]) (fun j => ls.length - j) (0) (Nat.zero_le _) ?_ ?_ ?_
 exact fz ⟨sr, sr, sr, sr, sr, trivial⟩
 exact gz ⟨R, trivial⟩
 intro j hk2
 refine zr<|zp (Aq R R R)<|zn<|zs<|?_
 refine zd R (fun c28 => ?_) (fun c28 => ?_)
 have hk2a : j < ls.length := by omega
 obtain ⟨x2, hx2⟩ := Av hk2a
 have h4 := Yz (ls := ls) (j + 1)
 have h5 : (ls.take (j + 1)).flatten.length = (ls.take j).flatten.length + x2.length := by rw [Sb hx2, List.length_append]
 refine zi<|zs<|Ag<|zr<|zp (Ak R R R Aiy hx2)<|zp (Ax R R Bq)<|za R R<|zng<|zp (Ar R (by conv => lhs; whnf))<|?_
 refine zm R R<|XL.step R (Az R Dt (.own R) (Src.sl (by omega)) (by simp only [List.length_map]; unfold maxLen; omega) (by simp only [List.length_map]; omega))<|zp (Am R (by conv => lhs; whnf))<|?_
 refine zn<|Af (by kernel_rfl)<|zp (Aj R R R (by omega) (by omega))<|zm R R<|zn<|?_
 exact Al (j + 1) (by omega) (by omega) (fz ⟨sr, sr, sr, sr, sr, trivial⟩) (gz ⟨E3 (Sb hx2), trivial⟩)
 have hk2b : j = ls.length := by omega
 have ht : ls.take j = ls := by rw [hk2b, List.take_length]
 refine Ap<|zr<|zp (Ar R (by conv => lhs; whnf))<|?_
 refine zp (Am R (by conv => lhs; whnf))<|?_
 exact zn<|zt<|Ba (i := 7001) R<|z1 R R (rSl (by rw [ht]))
def B0 (v : Vo) (a n : Nat) (x : Vo) : Vo :=
 ⟨v.evs.take a ++ x.evs ++ v.evs.drop (a + n), C8 (fun t => decide (t.first < a)) 0 v.tups ++ C8 (fun _ => true) a x.tups ++ C8 (fun t => decide ((a : Int) + n ≤ t.first)) (x.evs.length - n) v.tups⟩
structure Sml (v : Vo) : Prop where
 evs : v.evs.length ≤ 10000
 tups : v.tups.length ≤ 100
 bd : ∀ t ∈ v.tups, -10000 ≤ t.first ∧ t.first ≤ 10000
theorem Ajx (v : Vo) (a n : Nat) (x : Vo) : [(v.evs.take a).drop 0, x.evs, (v.evs.take v.evs.length).drop (a + n)].flatten = (B0 v a n x).evs := by
 simp [B0, List.flatten_cons]
theorem Oe (v : Vo) (a n : Nat) (x : Vo) (hv : Sml v) (hx : Sml x) (h : a + n ≤ v.evs.length) : XC Tryz.prog 65 [.agg (Vo.c v), .v (.int .i64 (a : Nat)), .v (.int .i64 (n : Nat)), .agg (Vo.c x)] (fun r => r = .agg (Vo.c (B0 v a n x))) := by
 have hve := hv.evs
 have hxe := hx.evs
 have hvt := hv.tups
 have hxt := hx.tups
 have m1 := Jw (fun t => decide (t.first < (a : Int))) 0 v.tups
 have m2 := Jw (fun _ => true) a x.tups
 have m3 := Jw (fun t => decide ((a : Int) + n ≤ t.first)) (x.evs.length - n) v.tups
 refine An Acq Tryz.func65 R R lb<|zr<|XL.step R (As 4 (l := [.d (.sl 13 (v.evs.map Ev.c)), .d (.sl 4 (v.tups.map Tp.c))]) R R (by kernel_rfl))<|XL.step R (As 5 (l := [.d (dI (a : Nat))]) R R (by kernel_rfl))<|XL.step R (As 6 (l := [.d (dI (n : Nat))]) R R (by kernel_rfl))<|?_
 refine XL.step R (As 7 (l := [.d (.sl 13 (x.evs.map Ev.c)), .d (.sl 4 (x.tups.map Tp.c))]) R R (by kernel_rfl))<|XL.step R (A7 8 (l := [.d (.v (.slice none 0 0)), .d (.v (.slice none 0 0))]) R By (by kernel_rfl))<|zn<|zs<|Cu 16 [9] (by kernel_rfl) (by kernel_rfl) (by kernel_rfl) (by kernel_rfl) (by decide)<|yp (Aa R R A0)<|yp (Ab R R Bq R R)<|?_
 refine yp (Ab R R Ai R R)<|yp (E7 R R Ct Bd.no (Bd.at R) (Nat.zero_le _) (by omega))<|yp (Aa R R A0)<|yp (Ab R R Bq R R)<|yp (Aa R R A0)<|yp (Ab R R Bq R R)<|yp (Ab R R Ai R R)<|yp (Ab R R Ai R R)<|yp (Ae (s' := .d (dI (a + n : Nat))) (Aj R R R (by omega) (by omega)) (sI (by omega)))<|?_
 refine yp (E7 R R Ct (Bd.at R) Bd.no (by omega) (Nat.le_refl _))<|ChK.cons R (CStep.slice (l := [((v.evs.take (a : Nat)).drop 0), x.evs, ((v.evs.take v.evs.length).drop (a + n : Nat))].map Yn) R Tryz.underlying177 We Aly (by kernel_rfl) R (by omega) (by omega))<|?_
 refine ChK.cons R (CStep.call R (Ai3 _ (by simp only [List.flatten_cons, List.flatten_nil, List.length_append, List.length_nil, List.length_take, List.length_drop]; omega)) R)<|?_
 refine yp (Ae (s' := .d (.agg [.sl 13 (([((v.evs.take (a : Nat)).drop 0), x.evs, ((v.evs.take v.evs.length).drop (a + n : Nat))]).flatten.map Ev.c), .v (.slice none 0 0)])) (Ad (Bo R Dq By R)) (by kernel_rfl))<|ChK.cons R (CStep.allocN 9 (l := [.d (.v (.slice none 0 0)), .d (.v (.slice none 0 0))]) R By R R)<|?_
 refine ChK.nil ⟨by kernel_rfl, ?_⟩
 refine XL.step R (Ah (l' := [.d (.sl 13 (([((v.evs.take (a : Nat)).drop 0), x.evs, ((v.evs.take v.evs.length).drop (a + n : Nat))]).flatten.map Ev.c)), .d (.v (.slice none 0 0))]) R R R R Cr R lb (by kernel_rfl))<|znr<|XL.freezeP 5 (ds := [dI (a : Nat)]) R (by kernel_rfl) (by kernel_rfl)<|zp (Afs (pd := []) (cd := [_]) R R R)<|za R R<|znr<|?_
 refine XL.freezeP 6 (ds := [dI (n : Nat)]) R (by kernel_rfl) (by kernel_rfl)<|zp (Afs (pd := []) (cd := [_, _]) R R R)<|za R R<|zn<|zs<|Cu 6 [] (by kernel_rfl) (by kernel_rfl) (by kernel_rfl) (by kernel_rfl) (by decide)<|yp (Aa R R B5)<|yp (Ab R R B3 R R)<|yp (Aa R R B5)<|yp (Ab R R B3 R R)<|ym R R<|?_
 refine ChK.cons R (CStep.call R (R2 v.tups 107 [.pt [dI a]] (fun t => decide (t.first < (a : Int))) (0) (fun t _ => Ams t a) (by omega) (fun t ht _ => by have := hv.bd t ht; omega)) rfl)<|?_
 refine ChK.nil ⟨by kernel_rfl, ?_⟩
 refine XL.step R (Az R G6 (.nil 35 _ _) (Src.sl (by omega)) (by simp only [List.length_map, List.length_nil]; unfold maxLen; omega) (by simp only [List.length_map, List.length_nil]; omega))<|zp (Aa R R B5)<|?_
 refine XL.step R (Ah (l' := [.d (.sl 13 (([((v.evs.take (a : Nat)).drop 0), x.evs, ((v.evs.take v.evs.length).drop (a + n : Nat))]).flatten.map Ev.c)), .own 35]) R R R R Hf R lb (by kernel_rfl))<|zn<|zs<|Cu 6 [] (by kernel_rfl) (by kernel_rfl) (by kernel_rfl) (by kernel_rfl) (by decide)<|yp (Aa R R B5)<|yp (Ab R R B3 R R)<|yp (Aa R R B5)<|?_
 refine yp (Ab R R B3 R R)<|yp (Ax R R Ai)<|ChK.cons R (CStep.call R (R2 x.tups 109 [] (fun _ => true) (a) (fun t _ => Amq t) (by omega) (fun t ht _ => by have := hx.bd t ht; omega)) rfl)<|?_
 refine ChK.nil ⟨by kernel_rfl, ?_⟩
 refine XL.step R (Az R G6 (.own R) (Src.sl (by omega)) (by simp only [List.length_append, List.length_map, List.length_nil]; unfold maxLen; omega) (by simp only [List.length_append, List.length_map, List.length_nil]; omega))<|zp (Aa R R B5)<|?_
 refine XL.step R (Ah (l' := [.d (.sl 13 (([((v.evs.take (a : Nat)).drop 0), x.evs, ((v.evs.take v.evs.length).drop (a + n : Nat))]).flatten.map Ev.c)), .own 35]) R R R R Hf R lb (by kernel_rfl))<|zn<|zs<|Cu 11 [] (by kernel_rfl) (by kernel_rfl) (by kernel_rfl) (by kernel_rfl) (by decide)<|yp (Aa R R B5)<|yp (Ab R R B3 R R)<|yp (Aa R R B5)<|?_
 refine yp (Ab R R B3 R R)<|ym R R<|yp (Aa R R A0)<|yp (Ab R R Bq R R)<|yp (Aot R R Tryz.underlying22)<|yp (Ax R R Ai)<|yp (Dj R R R (by omega) (by omega))<|?_
 refine ChK.cons R (CStep.call R (R2 v.tups 108 [.pt [dI a], .pt [dI n]] (fun t => decide ((a : Int) + n ≤ t.first)) (x.evs.length - n) (fun t _ => Amr t a n (by omega) (by omega)) (by omega) (fun t ht _ => by have := hv.bd t ht; omega)) rfl)<|?_
 refine ChK.nil ⟨by kernel_rfl, ?_⟩
 refine XL.step R (Az R G6 (.own R) (Src.sl (by omega)) (by simp only [List.length_append, List.length_map, List.length_nil]; unfold maxLen; omega) (by simp only [List.length_append, List.length_map, List.length_nil]; omega))<|zp (Aa R R B5)<|?_
 refine XL.step R (Ah (l' := [.d (.sl 13 (([((v.evs.take (a : Nat)).drop 0), x.evs, ((v.evs.take v.evs.length).drop (a + n : Nat))]).flatten.map Ev.c)), .own 35]) R R R R Hf R lb (by kernel_rfl))<|znr<|zp (Ad (Ac R R A8 R lb))<|?_
 refine XL.step R (Ah (l' := [.d (.sl 13 (([((v.evs.take (a : Nat)).drop 0), x.evs, ((v.evs.take v.evs.length).drop (a + n : Nat))]).flatten.map Ev.c)), .own 35]) R R R R Cr R lb (by kernel_rfl))<|zn<|zt<|Ba (i := 35) R<|?_
 exact Fm R (RV.cells R R R A8 lb R) (by rw [Ajx]; simp only [B0, Vo.c, List.map_append, List.nil_append])
end Go.Proofs.YtcihalbakenleaaGreat
namespace Go.Proofs.YtcihalbakenleaaGreat
def Tp.bef (a b : Tp) : Prop := a.first < b.first ∨ (a.first = b.first ∧ b.count ≤ a.count)
instance (a b : Tp) : Decidable (a.bef b) := by unfold Tp.bef; exact inferInstance
theorem Ug (a b : Tp) : a.bef b ↔ ¬ 0 < Gh a b := by
 unfold Tp.bef Gh
 split
 ·split <;> omega
 ·split
  ·split <;> omega
  ·omega
theorem Tp.bef.trans {a b c : Tp} (h1 : a.bef b) (h2 : b.bef c) : a.bef c := by unfold Tp.bef at *; omega
theorem Tp.bef.first {a b : Tp} (h1 : a.bef b) : a.first ≤ b.first := by unfold Tp.bef at *; omega
structure TV (l : List Tp) (n : Int) : Prop where
 inR : ∀ t ∈ l, t.inR n
 ord : l.Pairwise Tp.bef
 nest : l.Pairwise (fun a b => b.first < a.e → b.e ≤ a.e)
 dep : ∀ e, hits l e ≤ 3
theorem Mo (A B : List Tp) (e : Int) : hits (A ++ B) e = hits A e + hits B e := by unfold hits; rw [List.filter_append, List.length_append]
theorem TV.nil (n : Int) : TV [] n := ⟨fun t h => (by cases h), List.Pairwise.nil, List.Pairwise.nil, fun e => Nat.zero_le _⟩
theorem TV.snoc {P : List Tp} {t : Tp} {n : Int} : TV (P ++ [t]) n ↔ TV P n ∧ t.inR n ∧ (∀ a ∈ P, a.bef t) ∧ (∀ a ∈ P, t.first < a.e → t.e ≤ a.e) ∧ ∀ e, t.has e → hits P e ≤ 2 := by
 constructor
 ·intro h
  have ho := List.pairwise_append.1 h.ord
  have hn := List.pairwise_append.1 h.nest
  refine ⟨⟨fun x hx => h.inR x (List.mem_append_left _ hx), ho.1, hn.1, fun e => ?_⟩, h.inR t (List.mem_append_right _ (List.mem_singleton.2 rfl)), fun a ha => ho.2.2 a ha t (List.mem_singleton.2 rfl), fun a ha => hn.2.2 a ha t (List.mem_singleton.2 rfl), fun e he => ?_⟩
  ·have := h.dep e; rw [Mo] at this; omega
  ·have := h.dep e; rw [Hr, if_pos he] at this; omega
 ·rintro ⟨h, h1, h2, h3, h4⟩
  refine ⟨fun x hx => ?_, List.pairwise_append.2 ⟨h.ord, List.pairwise_singleton _ _, fun a ha b hb => by rw [List.mem_singleton.1 hb]; exact h2 a ha⟩, List.pairwise_append.2 ⟨h.nest, List.pairwise_singleton _ _, fun a ha b hb => by rw [List.mem_singleton.1 hb]; exact h3 a ha⟩, fun e => ?_⟩
  ·rcases List.mem_append.1 hx with k | k
   ·exact h.inR x k
   ·rw [List.mem_singleton.1 k]; exact h1
  ·rw [Hr]
   have := h.dep e
   split
   ·rename_i k; have := h4 e k; omega
   ·omega
def Gx (x : Int) (P : List Tp) : List Tp := P.filter fun o => decide (x < o.e)
structure Rep (P s : List Tp) : Prop where
 fil : ∀ x, (∀ q ∈ P, q.first ≤ x) → Gx x s = (Gx x P).reverse
 mono : s.Pairwise fun a b => a.e ≤ b.e
theorem Mj {t : Tp} : ∀ {s : List Tp}, (s.Pairwise fun a b => a.e ≤ b.e) → Cm t s = Gx t.first s
 | [], _ => rfl
 | o :: r, h => by
  have h2 := List.pairwise_cons.1 h
  rw [Cm]
  split
  ·rename_i k
   rw [Mj h2.2, Gx, Gx, List.filter_cons_of_neg (by simp; omega)]
  ·rename_i k
   refine (List.filter_eq_self.2 fun a ha => ?_).symm
   rcases List.mem_cons.1 ha with e | e
   ·rw [e]; simp; omega
   ·have := h2.1 a e; simp; omega
theorem Sz {x : Int} {s : List Tp} (h : s.Pairwise fun a b => a.e ≤ b.e) : (Gx x s).Pairwise fun a b => a.e ≤ b.e := h.sublist List.filter_sublist
theorem U8 {t : Tp} {s : List Tp} (h : s.Pairwise fun a b => a.e ≤ b.e) : Dk t s ↔ s.length = 3 ∨ ∃ o ∈ s, o.e < t.e := by
 unfold Dk
 cases s with
 | nil => simp
 | cons o r =>
  have h2 := List.pairwise_cons.1 h
  constructor
  ·rintro (k | k)
   ·exact .inl k
   ·exact .inr ⟨o, List.mem_cons_self, k⟩
  ·rintro (k | ⟨a, ha, k⟩)
   ·exact .inl k
   ·rcases List.mem_cons.1 ha with e | e
    ·exact .inr (e ▸ k)
    ·have := h2.1 a e; exact .inr (by show o.e < t.e; omega)
theorem Rep.pop {P s : List Tp} {t : Tp} (h : Rep P s) (hb : ∀ a ∈ P, a.first ≤ t.first) : Cm t s = (Gx t.first P).reverse := by rw [Mj h.mono, h.fil _ hb]
theorem Afc {x : Int} {P : List Tp} (hb : ∀ a ∈ P, a.first ≤ x) : (Gx x P).length = hits P x := by
 unfold Gx hits
 congr 1
 refine List.filter_congr fun o ho => ?_
 have := hb o ho
 rw [decide_eq_decide]
 unfold Tp.e Tp.has
 omega
theorem Rep.over {P s : List Tp} {t : Tp} {n : Int} (h : Rep P s) (hv : TV P n) (hb : ∀ a ∈ P, a.first ≤ t.first) : Dk t (Cm t s) ↔ (∃ o ∈ P, t.first < o.e ∧ o.e < t.e) ∨ 3 ≤ hits P t.first := by
 rw [U8 (by rw [Mj h.mono]; exact Sz h.mono), h.pop hb, List.length_reverse, Afc hb]
 have := hv.dep t.first
 constructor
 ·rintro (k | ⟨o, ho, k⟩)
  ·exact .inr (by omega)
  ·have := List.mem_filter.1 (List.mem_reverse.1 ho)
   exact .inl ⟨o, this.1, by simpa using this.2, k⟩
 ·rintro (⟨o, ho, k1, k2⟩ | k)
  ·exact .inr ⟨o, List.mem_reverse.2 (List.mem_filter.2 ⟨ho, by simpa using k1⟩), k2⟩
  ·exact .inl (by omega)
theorem Rep.nil : Rep [] [] := ⟨fun x _ => rfl, List.Pairwise.nil⟩
theorem Rep.snoc {P s : List Tp} {t : Tp} (h : Rep P s) (hb : ∀ a ∈ P, a.first ≤ t.first) (hno : ¬ Dk t (Cm t s)) : Rep (P ++ [t]) (t :: Cm t s) := by
 have hm : (Cm t s).Pairwise fun a b => a.e ≤ b.e := by rw [Mj h.mono]; exact Sz h.mono
 rw [U8 hm] at hno
 refine ⟨fun x hx => ?_, List.pairwise_cons.2 ⟨fun a ha => Int.not_lt.1 fun k => hno (.inr ⟨a, ha, k⟩), hm⟩⟩
 have hx1 : t.first ≤ x := hx t (List.mem_append_right _ (List.mem_singleton.2 rfl))
 have h1 : Gx x (Cm t s) = (Gx x P).reverse := by
  rw [Mj h.mono, ← h.fil x (fun q hq => hx q (List.mem_append_left _ hq)), Gx, Gx, List.filter_filter]
  refine List.filter_congr fun o _ => ?_
  by_cases k : x < o.e
  ·simp [k]; omega
  ·simp [k]
 have h2 : Gx x (P ++ [t]) = Gx x P ++ Gx x [t] := List.filter_append _ _
 rw [h2, List.reverse_append, ← h1]
 show List.filter _ (t :: Cm t s) = _
 rw [List.filter_cons]
 by_cases k : x < t.e
 ·have h3 : Gx x [t] = [t] := List.filter_cons_of_pos (by simpa using k)
  rw [if_pos (by simpa using k), h3]; rfl
 ·have h3 : Gx x [t] = [] := List.filter_cons_of_neg (by simpa using k)
  rw [if_neg (by simpa using k), h3]; rfl
theorem TV.pre {A B : List Tp} {n : Int} (h : TV (A ++ B) n) : TV A n :=
 ⟨fun t ht => h.inR t (List.mem_append_left _ ht), (List.pairwise_append.1 h.ord).1, (List.pairwise_append.1 h.nest).1, fun e => by have := h.dep e; rw [Mo] at this; omega⟩
theorem O8 {P : List Tp} {t : Tp} (ho : P.Pairwise Tp.bef) : Hq P.getLast? t ↔ ¬ ∀ a ∈ P, a.bef t := by
 rcases List.eq_nil_or_concat P with e | ⟨Q, q, e⟩
 ·subst e; simp [Hq]
 ·rw [List.concat_eq_append] at e; subst e
  rw [List.getLast?_concat]
  show 0 < Gh q t ↔ _
  rw [← Decidable.not_not (p := 0 < Gh q t), ← Ug]
  refine not_congr ⟨fun k a ha => ?_, fun k => k q (List.mem_append_right _ (List.mem_singleton.2 rfl))⟩
  rcases List.mem_append.1 ha with j | j
  ·exact ((List.pairwise_append.1 ho).2.2 a j q (List.mem_singleton.2 rfl)).trans k
  ·rw [List.mem_singleton.1 j]; exact k
theorem TV.step {P : List Tp} {t : Tp} {n : Int} (h : TV P n) (hi : t.inR n) (hb : ∀ a ∈ P, a.bef t) : TV (P ++ [t]) n ↔ ¬ ((∃ o ∈ P, t.first < o.e ∧ o.e < t.e) ∨ 3 ≤ hits P t.first) := by
 rw [TV.snoc]
 constructor
 ·rintro ⟨_, _, _, h3, h4⟩ (⟨o, ho, k1, k2⟩ | k)
  ·have := h3 o ho k1; omega
  ·have := h4 t.first (by unfold Tp.inR at hi; unfold Tp.has; omega); omega
 ·intro k
  refine ⟨h, hi, hb, fun a ha k1 => Int.not_lt.1 fun k2 => k (.inl ⟨a, ha, k1, k2⟩), fun e he => ?_⟩
  have h5 : ¬ 3 ≤ hits P t.first := fun j => k (.inr j)
  have h6 : hits P e ≤ hits P t.first := by
   unfold hits
   rw [← List.countP_eq_length_filter, ← List.countP_eq_length_filter]
   refine List.countP_mono_left fun o ho hh => ?_
   have h7 := (hb o ho).first
   simp only [decide_eq_true_eq] at hh ⊢
   unfold Tp.has at hh he ⊢
   omega
  omega
theorem Ag7 (n : Int) (l : List Tp) : ∀ (P s : List Tp), TV P n → Rep P s → (Ep n P.getLast? s l = 0 ↔ TV (P ++ l) n) := by
 induction l with
 | nil => intro P s h _; rw [List.append_nil]; exact ⟨fun _ => h, fun _ => rfl⟩
 | cons t l ih =>
  intro P s h hr
  have ha : P ++ t :: l = (P ++ [t]) ++ l := by simp
  rw [Ep]
  split
  ·rename_i k
   exact ⟨fun e => by omega, fun e => absurd (e.inR t (by simp)) k⟩
  ·rename_i hi
   have hi := Decidable.not_not.1 hi
   split
   ·rename_i k
    refine ⟨fun e => by omega, fun e => absurd ?_ ((O8 h.ord).1 k)⟩
    rw [ha] at e
    exact (TV.snoc.1 e.pre).2.2.1
   ·rename_i k
    have hb : ∀ a ∈ P, a.bef t := Decidable.not_not.1 fun j => k ((O8 h.ord).2 j)
    have hb1 : ∀ a ∈ P, a.first ≤ t.first := fun a ha => (hb a ha).first
    split
    ·rename_i k2
     refine ⟨fun e => by omega, fun e => ?_⟩
     rw [ha] at e
     exact absurd ((hr.over h hb1).1 k2) ((h.step hi hb).1 e.pre)
    ·rename_i k2
     have h2 : TV (P ++ [t]) n := (h.step hi hb).2 fun j => k2 ((hr.over h hb1).2 j)
     have := ih (P ++ [t]) (t :: Cm t s) h2 (hr.snoc hb1 k2)
     rw [List.getLast?_concat] at this
     rw [ha]; exact this
theorem tupErr_iff {l : List Tp} {n : Int} : D5 l n = 0 ↔ 0 ≤ n ∧ n ≤ 128 ∧ l.length ≤ 16 ∧ TV l n := by
 have := Ag7 n l [] [] (TV.nil n) Rep.nil
 rw [List.nil_append] at this
 rw [← this]
 unfold D5
 split
 ·omega
 ·split
  ·omega
  ·show Ep n none [] l = 0 ↔ _ ∧ _ ∧ _ ∧ Ep n none [] l = 0
   omega
theorem Ut {T : List Tp} : ∀ {ws : List Int} {i : Nat}, Hy T i ws = 0 ↔ ∀ j w, ws[j]? = some w → Ds T ((i + j : Nat) : Int) w = 0
 | [], i => ⟨fun _ j w h => by simp at h, fun _ => rfl⟩
 | w :: r, i => by
  rw [Hy]
  split
  ·rename_i k
   exact ⟨fun h => absurd h k, fun h => absurd (h 0 w rfl) k⟩
  ·rename_i k
   rw [Ut]
   constructor
   ·intro h j x hj
    cases j with
    | zero => cases hj; exact Decidable.not_not.1 k
    | succ j => have := h j x hj; rwa [show i + 1 + j = i + (j + 1) by omega] at this
   ·intro h j x hj
    have := h (j + 1) x hj; rwa [show i + (j + 1) = i + 1 + j by omega] at this
structure TL (T : List Tp) (ws ls : List Int) : Prop where
 wl : ws.length ≤ 128
 tl : T.length ≤ 16
 tv : TV T ws.length
 sc : ∀ (i : Nat) w, ws[i]? = some w → Ds T i w = 0
 un : ∀ (k : Nat) t, T[k]? = some t → (E9 (T.drop (k + 1)) t ws).isSome = true
 ls : ls = Cx T 0 ws
theorem Rm (l : List Tp) (i : Nat) : J4 l i = l.drop (i + 1) := by unfold J4; rw [List.take_length]
theorem unitAll_iff {T : List Tp} {ws : List Int} : Jq T ws ↔ ∀ (k : Nat) t, T[k]? = some t → (E9 (T.drop (k + 1)) t ws).isSome = true := by
 constructor
 ·intro h k t ht
  have := h k (List.getElem?_eq_some_iff.1 ht).1
  rwa [Kd ht, Rm] at this
 ·intro h k hk
  have ht : T[k]? = some T[k] := List.getElem?_eq_getElem hk
  rw [Kd ht, Rm]
  exact h k _ ht
theorem TL_iff {T : List Tp} {ws ls : List Int} : TL T ws ls ↔ Cv T ws = 0 ∧ Fp T ws = 0 ∧ ls = G4 T ws := by
 have hsc : Hy T 0 ws = 0 ↔ ∀ (i : Nat) w, ws[i]? = some w → Ds T i w = 0 := by
  rw [Ut]
  exact ⟨fun h i w hw => by have := h i w hw; rwa [Nat.zero_add] at this, fun h i w hw => by rw [Nat.zero_add]; exact h i w hw⟩
 constructor
 ·intro h
  have h1 : D5 T ws.length = 0 := tupErr_iff.2 ⟨by omega, by have := h.wl; omega, h.tl, h.tv⟩
  have h2 : Cv T ws = 0 := by rw [Cv, if_neg (by omega)]; exact hsc.2 h.sc
  refine ⟨h2, ?_, ?_⟩
  ·rw [Fp, if_neg (by omega), if_pos (unitAll_iff.2 h.un)]
  ·rw [G4, if_pos h2]; exact h.ls
 ·rintro ⟨h1, h2, h3⟩
  have h4 : D5 T ws.length = 0 ∧ Hy T 0 ws = 0 := by
   rw [Cv] at h1
   split at h1
   ·rename_i k; exact absurd h1 k
   ·rename_i k; exact ⟨by omega, h1⟩
  obtain ⟨_, h5, h6, h7⟩ := tupErr_iff.1 h4.1
  refine ⟨by omega, h6, h7, hsc.1 h4.2, ?_, ?_⟩
  ·rw [Fp, if_neg (by omega)] at h2
   split at h2
   ·rename_i k; exact unitAll_iff.1 k
   ·omega
  ·rw [h3, G4, if_pos h1]
theorem Oz {i : Int} : ∀ {B : List Tp} (p : Int × Int), (∀ t ∈ B, ¬ t.has i) → B.foldl (Fs i) p = p
 | [], p, _ => rfl
 | t :: B, p, h => by
  rw [List.foldl_cons, Fs, if_neg (h t List.mem_cons_self)]
  exact Oz p fun x hx => h x (List.mem_cons_of_mem _ hx)
theorem Afn {A B : List Tp} {i : Int} (h : ∀ t ∈ B, ¬ t.has i) : A1 (A ++ B) i = A1 A i := by
 unfold A1; rw [List.foldl_append, Oz _ h]
theorem Abw {A B : List Tp} {i : Int} (h : ∀ t ∈ A, ¬ t.has i) : A1 (A ++ B) i = A1 B i := by
 unfold A1; rw [List.foldl_append, Oz _ h]
theorem X6 (t : Tp) (d i : Int) : (t.mv d).has (i + d) ↔ t.has i := by unfold Tp.has Tp.mv; simp only; omega
theorem Xr (B : List Tp) (d i : Int) : A1 (B.map (Tp.mv d)) (i + d) = A1 B i := by
 unfold A1
 rw [List.foldl_map]
 congr 1
 funext p t
 unfold Fs
 by_cases h : t.has i
 ·rw [if_pos h, if_pos ((X6 t d i).2 h)]; rfl
 ·rw [if_neg h, if_neg (fun k => h ((X6 t d i).1 k))]
theorem Ip {A B : List Tp} {i j w : Int} (h : A1 A i = A1 B j) : Ds A i w = Ds B j w := by unfold Ds; rw [h]
theorem Pn {A B : List Tp} {i j w : Int} (h : A1 A i = A1 B j) : Dr A i w = Dr B j w := by unfold Dr; rw [h]
theorem Nh {A B : List Tp} : ∀ {seg : List Int} {i i' : Nat} {acc : Int}, (∀ j, j < seg.length → A1 A ((i + j : Nat) : Int) = A1 B ((i' + j : Nat) : Int)) → Fa A i seg acc = Fa B i' seg acc
 | [], i, i', acc, h => rfl
 | w :: r, i, i', acc, h => by
  have h0 := h 0 (by simp)
  rw [Nat.add_zero, Nat.add_zero] at h0
  rw [Fa, Fa, Ip h0, Pn h0]
  split
  ·rfl
  ·refine Nh fun j hj => ?_
   have := h (j + 1) (by simp; omega)
   rwa [show i + (j + 1) = i + 1 + j by omega, show i' + (j + 1) = i' + 1 + j by omega] at this
theorem Mm {A B : List Tp} : ∀ {ws : List Int} {i i' : Nat}, (∀ j, j < ws.length → A1 A ((i + j : Nat) : Int) = A1 B ((i' + j : Nat) : Int)) → Cx A i ws = Cx B i' ws
 | [], i, i', h => rfl
 | w :: r, i, i', h => by
  have h0 := h 0 (by simp)
  rw [Nat.add_zero, Nat.add_zero] at h0
  rw [Cx, Cx, Pn h0, Mm (i' := i' + 1)]
  intro j hj
  have := h (j + 1) (by simp; omega)
  rwa [show i + (j + 1) = i + 1 + j by omega, show i' + (j + 1) = i' + 1 + j by omega] at this
theorem Q9 (T : List Tp) (b : List Int) : ∀ (a : List Int) (i : Nat), Cx T i (a ++ b) = Cx T i a ++ Cx T (i + a.length) b
 | [], i => rfl
 | w :: a, i => by rw [List.cons_append, Cx, Cx, Q9 T b a (i + 1), List.cons_append, List.length_cons, show i + 1 + a.length = i + (a.length + 1) by omega]
theorem Aek (B : List Tp) (d e : Int) : hits (B.map (Tp.mv d)) (e + d) = hits B e := by
 unfold hits
 rw [List.filter_map, List.length_map]
 congr 1
 refine List.filter_congr fun t _ => ?_
 show decide ((t.mv d).has (e + d)) = decide (t.has e)
 rw [decide_eq_decide]; exact X6 t d e
theorem Vt {B : List Tp} {e : Int} (h : ∀ t ∈ B, ¬ t.has e) : hits B e = 0 := by
 unfold hits
 rw [List.filter_eq_nil_iff.2 fun t ht => by simpa using h t ht]; rfl
theorem Afy (t : Tp) (d : Int) : (t.mv d).e = t.e + d := by unfold Tp.mv Tp.e; simp only; omega
theorem Jk (t : Tp) (d : Int) : (t.mv d).first = t.first + d := rfl
theorem mv_bef {a b : Tp} {d : Int} : (a.mv d).bef (b.mv d) ↔ a.bef b := by unfold Tp.bef Tp.mv; simp only; omega
theorem Afx (t : Tp) (a b : Int) : (t.mv a).mv b = t.mv (a + b) := by unfold Tp.mv; simp only [Int.add_assoc]
theorem Aec (t : Tp) : t.mv 0 = t := by unfold Tp.mv; simp
theorem Vb {A : List Tp} {n i : Int} (h : ∀ t ∈ A, t.e ≤ n) (hi : n ≤ i) : ∀ t ∈ A, ¬ t.has i := fun t ht k => by have := h t ht; unfold Tp.e at this; unfold Tp.has at k; omega
theorem Tb {B : List Tp} {n i : Int} (h : ∀ t ∈ B, 0 ≤ t.first) (hi : i < n) : ∀ t ∈ B.map (Tp.mv n), ¬ t.has i := fun t ht k => by
 obtain ⟨b, hb, rfl⟩ := List.mem_map.1 ht
 have := h b hb; unfold Tp.has Tp.mv at k; simp only at k; omega
theorem Aja {A B : List Tp} {n1 n2 : Int} (h1 : 0 ≤ n1) (h2 : 0 ≤ n2) (hA : ∀ t ∈ A, t.e ≤ n1) (hB : ∀ t ∈ B, 0 ≤ t.first) : TV (A ++ B.map (Tp.mv n1)) (n1 + n2) ↔ TV A n1 ∧ TV B n2 := by
 constructor
 ·intro h
  have ho := List.pairwise_append.1 h.ord
  have hn := List.pairwise_append.1 h.nest
  refine ⟨⟨fun t ht => ?_, ho.1, hn.1, fun e => by have := h.dep e; rw [Mo] at this; omega⟩, ⟨fun t ht => ?_, ?_, ?_, fun e => ?_⟩⟩
  ·have k1 := h.inR t (List.mem_append_left _ ht); have k2 := hA t ht; unfold Tp.inR at *; unfold Tp.e at k2; omega
  ·have k1 := h.inR (t.mv n1) (List.mem_append_right _ (List.mem_map.2 ⟨t, ht, rfl⟩)); have k2 := hB t ht; unfold Tp.inR Tp.mv at k1; unfold Tp.inR; simp only at k1; omega
  ·exact (List.pairwise_map.1 ho.2.1).imp fun k => mv_bef.1 k
  ·refine (List.pairwise_map.1 hn.2.1).imp fun {a b} k k2 => ?_
   rw [Afy, Afy, Jk] at k; omega
  ·have := h.dep (e + n1); rw [Mo, Aek] at this; omega
 ·rintro ⟨a, b⟩
  refine ⟨fun t ht => ?_, List.pairwise_append.2 ⟨a.ord, List.pairwise_map.2 (b.ord.imp fun k => mv_bef.2 k), fun x hx y hy => ?_⟩, List.pairwise_append.2 ⟨a.nest, List.pairwise_map.2 (b.nest.imp fun {x y} k => ?_), fun x hx y hy k => ?_⟩, fun e => ?_⟩
  ·rcases List.mem_append.1 ht with k | k
   ·have k1 := a.inR t k; unfold Tp.inR at *; omega
   ·obtain ⟨s, hs, rfl⟩ := List.mem_map.1 k
    have k1 := b.inR s hs; unfold Tp.inR at k1; unfold Tp.inR Tp.mv; simp only; omega
  ·obtain ⟨s, hs, rfl⟩ := List.mem_map.1 hy
   have k1 := a.inR x hx; have k2 := hA x hx; have k3 := hB s hs
   left; unfold Tp.inR at k1; unfold Tp.e at k2; rw [Jk]; omega
  ·rw [Afy, Afy, Jk]; omega
  ·obtain ⟨s, hs, rfl⟩ := List.mem_map.1 hy
   have k2 := hA x hx; have k3 := hB s hs
   rw [Jk] at k; omega
  ·rw [Mo]
   by_cases k : e < n1
   ·rw [Vt (Tb hB k)]; exact a.dep e
   ·rw [Vt (Vb hA (by omega)), Nat.zero_add]
    have := b.dep (e - n1)
    have k2 := Aek B n1 (e - n1)
    rw [Int.sub_add_cancel] at k2
    omega
theorem Wj {A B : List Tp} {n1 : Nat} (hB : ∀ t ∈ B, 0 ≤ t.first) {i : Nat} (hi : i < n1) : A1 (A ++ B.map (Tp.mv n1)) i = A1 A i := Afn (Tb hB (by omega))
theorem Afo {A B : List Tp} {n1 : Nat} (hA : ∀ t ∈ A, t.e ≤ n1) (i : Nat) : A1 (A ++ B.map (Tp.mv n1)) ((n1 + i : Nat) : Int) = A1 B i := by
 rw [Abw (Vb hA (by omega))]
 have := Xr B n1 i
 rwa [show (i : Int) + (n1 : Int) = ((n1 + i : Nat) : Int) by omega] at this
theorem Ya {A B : List Tp} {w1 w2 : List Int} (hA : ∀ t ∈ A, t.e ≤ w1.length) (hB : ∀ t ∈ B, 0 ≤ t.first) : Cx (A ++ B.map (Tp.mv w1.length)) 0 (w1 ++ w2) = Cx A 0 w1 ++ Cx B 0 w2 := by
 rw [Q9]
 congr 1
 ·exact Mm fun j hj => by rw [Nat.zero_add]; exact Wj hB hj
 ·refine Mm fun j hj => ?_
  rw [Nat.zero_add, Nat.zero_add]; exact Afo hA j
theorem Ajs {t : Tp} {w1 w2 : List Int} (h0 : 0 ≤ t.first) (h : t.e ≤ w1.length) (hc : 1 ≤ t.count) : Fq t (w1 ++ w2) = Fq t w1 := by
 unfold Fq
 unfold Tp.e at h
 rw [List.drop_append_of_le_length (by omega), List.take_append_of_le_length (by rw [List.length_drop]; omega)]
theorem Ahk {t : Tp} {w1 w2 : List Int} (h0 : 0 ≤ t.first) : Fq (t.mv w1.length) (w1 ++ w2) = Fq t w2 := by
 unfold Fq
 rw [Jk, show (t.first + (w1.length : Int)).toNat = w1.length + t.first.toNat by omega, ← List.drop_drop, List.drop_left]
 rfl
theorem Un {A B : List Tp} {t : Tp} {w1 w2 : List Int} (h0 : 0 ≤ t.first) (h : t.e ≤ w1.length) (hc : 1 ≤ t.count) (hB : ∀ t ∈ B, 0 ≤ t.first) : E9 (A ++ B.map (Tp.mv w1.length)) t (w1 ++ w2) = E9 A t w1 := by
 unfold E9
 rw [Ajs h0 h hc, Nh (B := A) (i' := t.first.toNat)]
 intro j hj
 have : (Fq t w1).length ≤ t.count.toNat := by unfold Fq; rw [List.length_take]; omega
 unfold Tp.e at h
 exact Wj hB (by omega)
theorem Sj {B : List Tp} {t : Tp} {w1 w2 : List Int} (h0 : 0 ≤ t.first) : E9 (B.map (Tp.mv w1.length)) (t.mv w1.length) (w1 ++ w2) = E9 B t w2 := by
 unfold E9
 rw [Ahk h0, Nh (B := B) (i' := t.first.toNat)]
 ·rfl
 ·intro j hj
  have := Xr B w1.length ((t.first.toNat + j : Nat) : Int)
  rw [← this]
  congr 1
  rw [Jk]
  omega
theorem TL.app {A B : List Tp} {w1 w2 l1 l2 : List Int} (h1 : TL A w1 l1) (h2 : TL B w2 l2) (hw : w1.length + w2.length ≤ 128) (ht : A.length + B.length ≤ 16) : TL (A ++ B.map (Tp.mv w1.length)) (w1 ++ w2) (l1 ++ l2) := by
 have hA : ∀ t ∈ A, t.e ≤ w1.length := fun t ht => by have := h1.tv.inR t ht; unfold Tp.inR at this; unfold Tp.e; omega
 have hB : ∀ t ∈ B, 0 ≤ t.first := fun t ht => by have := h2.tv.inR t ht; unfold Tp.inR at this; omega
 refine ⟨by rw [List.length_append]; exact hw, by rw [List.length_append, List.length_map]; exact ht, ?_, fun i w hi => ?_, fun k t hk => ?_, ?_⟩
 ·rw [List.length_append, Int.natCast_add]; exact (Aja (by omega) (by omega) hA hB).2 ⟨h1.tv, h2.tv⟩
 ·by_cases c : i < w1.length
  ·rw [List.getElem?_append_left c] at hi
   rw [Ip (Wj hB c)]; exact h1.sc i w hi
  ·rw [List.getElem?_append_right (by omega)] at hi
   have := Afo (B := B) hA (i - w1.length)
   rw [show w1.length + (i - w1.length) = i by omega] at this
   rw [Ip this]; exact h2.sc _ w hi
 ·by_cases c : k < A.length
  ·rw [List.getElem?_append_left c] at hk
   have hm := List.mem_of_getElem? hk
   have := h1.tv.inR t hm
   rw [List.drop_append_of_le_length (by omega), Un (by unfold Tp.inR at this; omega) (hA t hm) (by unfold Tp.inR at this; omega) hB]
   exact h1.un k t hk
  ·rw [List.getElem?_append_right (by omega), List.getElem?_map] at hk
   cases hb : B[k - A.length]? with
   | none => rw [hb] at hk; cases hk
   | some s =>
    rw [hb] at hk; cases hk
    have hd : (A ++ B.map (Tp.mv w1.length)).drop (k + 1) = (B.drop (k - A.length + 1)).map (Tp.mv w1.length) := by
     rw [List.drop_append, List.drop_eq_nil_of_le (by omega), List.nil_append, List.map_drop, show k + 1 - A.length = k - A.length + 1 by omega]
    rw [hd, Sj (hB s (List.mem_of_getElem? hb))]
    exact h2.un _ s hb
 ·rw [Ya hA hB, h1.ls, h2.ls]
theorem TL.split {A B : List Tp} {w1 w2 ls : List Int} (h : TL (A ++ B.map (Tp.mv w1.length)) (w1 ++ w2) ls) (hA : ∀ t ∈ A, t.e ≤ w1.length) (hB : ∀ t ∈ B, 0 ≤ t.first) : TL A w1 (ls.take w1.length) ∧ TL B w2 (ls.drop w1.length) := by
 have hl := h.wl
 have ht := h.tl
 rw [List.length_append] at hl ht
 rw [List.length_map] at ht
 have hv : TV A w1.length ∧ TV B w2.length := by
  have := h.tv
  rw [List.length_append, Int.natCast_add] at this
  exact (Aja (by omega) (by omega) hA hB).1 this
 have hls := h.ls
 rw [Ya hA hB] at hls
 have hlg := H3 A w1 0
 refine ⟨⟨by omega, by omega, hv.1, fun i w hi => ?_, fun k t hk => ?_, ?_⟩, ⟨by omega, by omega, hv.2, fun i w hi => ?_, fun k t hk => ?_, ?_⟩⟩
 ·have c := (List.getElem?_eq_some_iff.1 hi).1
  have := h.sc i w (by rw [List.getElem?_append_left c]; exact hi)
  rwa [Ip (Wj hB c)] at this
 ·have c := (List.getElem?_eq_some_iff.1 hk).1
  have hm := List.mem_of_getElem? hk
  have hr := hv.1.inR t hm
  have := h.un k t (by rw [List.getElem?_append_left c]; exact hk)
  rwa [List.drop_append_of_le_length (by omega), Un (by unfold Tp.inR at hr; omega) (hA t hm) (by unfold Tp.inR at hr; omega) hB] at this
 ·rw [hls, List.take_left' hlg]
 ·have := h.sc (w1.length + i) w (by rw [List.getElem?_append_right (by omega), Nat.add_sub_cancel_left]; exact hi)
  rwa [Ip (Afo hA i)] at this
 ·have := h.un (A.length + k) (t.mv w1.length) (by rw [List.getElem?_append_right (by omega), Nat.add_sub_cancel_left, List.getElem?_map, hk]; rfl)
  have hd : (A ++ B.map (Tp.mv w1.length)).drop (A.length + k + 1) = (B.drop (k + 1)).map (Tp.mv w1.length) := by
   rw [List.drop_append, List.drop_eq_nil_of_le (by omega), List.nil_append, List.map_drop, show A.length + k + 1 - A.length = k + 1 by omega]
  rwa [hd, Sj (hB t (List.mem_of_getElem? hk))] at this
 ·rw [hls, List.drop_left' hlg]
theorem Tg : ∀ (ws : List Int) (i : Nat), (∀ w ∈ ws, 0 ≤ w ∧ w ≤ 7741440) → Cx [] i ws = ws
 | [], i, _ => rfl
 | w :: r, i, h => by
  have := h w List.mem_cons_self
  rw [Cx, Tg r (i + 1) fun x hx => h x (List.mem_cons_of_mem _ hx), Dr, if_neg (by omega)]
  simp [A1]
theorem TL.nil {ws : List Int} (hl : ws.length ≤ 128) (h : ∀ w ∈ ws, 0 ≤ w ∧ w ≤ 7741440) : TL [] ws ws :=
 ⟨hl, Nat.zero_le _, TV.nil _, fun i w hi => by have := h w (List.mem_of_getElem? hi); rw [Ds, if_neg (by omega)]; simp [A1], fun k t hk => by simp at hk, (Tg ws 0 h).symm⟩
theorem Xb {l : List Tp} (h : l.Pairwise Tp.bef) (a : Int) : l = l.filter (fun t => decide (t.first < a)) ++ l.filter (fun t => decide (a ≤ t.first)) := by
 induction l with
 | nil => rfl
 | cons t l ih =>
  have h2 := List.pairwise_cons.1 h
  have ih := ih h2.2
  by_cases c : t.first < a
  ·rw [List.filter_cons_of_pos (by simpa using c), List.filter_cons_of_neg (by simp; omega), List.cons_append, ← ih]
  ·have : l.filter (fun t => decide (t.first < a)) = [] := List.filter_eq_nil_iff.2 fun x hx => by have := (h2.1 x hx).first; simp; omega
   rw [this, List.nil_append] at ih
   rw [List.filter_cons_of_neg (by simpa using c), List.filter_cons_of_pos (by simp; omega), this, List.nil_append, ← ih]
def Se (l : List Tp) (a : Int) : Prop := ∀ t ∈ l, t.e ≤ a ∨ a ≤ t.first
theorem TL.cut {T : List Tp} {ws ls : List Int} (h : TL T ws ls) {a : Nat} (ha : a ≤ ws.length) (hf : Se T a) :
  TL (T.filter fun t => decide (t.first < (a : Int))) (ws.take a) (ls.take a) ∧ TL ((T.filter fun t => decide ((a : Int) ≤ t.first)).map (Tp.mv (-a))) (ws.drop a) (ls.drop a) := by
 have hl : (ws.take a).length = a := by rw [List.length_take]; omega
 have e1 : T = (T.filter fun t => decide (t.first < (a : Int))) ++ (((T.filter fun t => decide ((a : Int) ≤ t.first)).map (Tp.mv (-a))).map (Tp.mv (ws.take a).length)) := by
  rw [List.map_map, hl]
  have : (Tp.mv (a : Int)) ∘ (Tp.mv (-(a : Int))) = id := by funext t; show (t.mv _).mv _ = t; rw [Afx, Int.add_left_neg, Aec]
  rw [this, List.map_id]; exact Xb h.tv.ord a
 have h' : TL ((T.filter fun t => decide (t.first < (a : Int))) ++ (((T.filter fun t => decide ((a : Int) ≤ t.first)).map (Tp.mv (-a))).map (Tp.mv (ws.take a).length))) (ws.take a ++ ws.drop a) ls := by
  rw [← e1, List.take_append_drop]; exact h
 have := h'.split (fun t ht => ?_) (fun t ht => ?_)
 ·rw [hl] at this; exact this
 ·have k := List.mem_filter.1 ht
  have k2 := k.2
  simp only [decide_eq_true_eq] at k2
  rcases hf t k.1 with j | j
  ·rw [hl]; exact j
  ·omega
 ·obtain ⟨s, hs, rfl⟩ := List.mem_map.1 ht
  have k := (List.mem_filter.1 hs).2
  simp only [decide_eq_true_eq] at k
  rw [Jk]; omega
end Go.Proofs.YtcihalbakenleaaGreat
namespace Go.Proofs.YtcihalbakenleaaGreat
open Go.RowKit
def Ap5 : Ev := ⟨0, 0, 2, ⟨0, 0⟩, [], [], 0, 0, 0, [], 0, 0⟩
theorem Io (m : Me) (a b : Int) : (m.split a b).length ≤ 2049 := by
 unfold Me.split
 split
 ·rename_i h
  unfold Me.splitE at h
  split at h
  ·rename_i h1; exact absurd h h1
  ·split at h
   ·cases h
   ·split at h
    ·cases h
    ·split at h
     ·cases h
     ·have := Ck (m := m) (Cz a b + 1) a b ⟨by omega, by omega, by omega, by omega, Nat.le_refl _⟩
      unfold Cz at *
      omega
 ·exact Nat.zero_le _
def restsS (m : Me) (a b : Int) : List Ev := Bi Ap5 (m.split a b) false
def Aow (x : Ev) (m : Me) (a b : Int) : Int := if x.err ≠ 0 then x.err else if x.kind = 3 then 11 else m.splitE a b
def notesL (x : Ev) (m : Me) (a b : Int) : List Ev := if Aow x m a b = 0 then Bi x (m.split a b) false else []
end Go.Proofs.YtcihalbakenleaaGreat
namespace Go.Proofs.YtcihalbakenleaaGreat
open Go.RowKit
theorem Mq {v : Vo} {L : Int} (h : ckE v L = 0) : B4 v L = 0 ∧ ckL v L = Co v L := by
 have h1 : B4 v L = 0 := by
  unfold ckE at h
  split at h
  ·cases h
  ·exact h
 exact ⟨h1, by rw [ckL, h, if_neg (by decide)]⟩
theorem Aeh {v : Vo} (h : Fn v = 0) : (G0 v).length = v.evs.length ∧ Cv v.tups (wrS v.evs) = 0 := by
 have h1 : Cv v.tups (wrS v.evs) = 0 := by
  unfold Fn at h
  split at h
  ·rename_i k; exact absurd h k
  ·split at h
   ·rename_i k; exact absurd h k
   ·rename_i k; exact Decidable.not_not.1 k
 refine ⟨?_, h1⟩
 rw [G0, if_pos h, G4, if_pos h1, H3, wrS, List.length_map]
theorem T7 {v : Vo} {L : Int} (h : B4 v L = 0) : (Co v L).length = v.evs.length := by
 rw [Co, if_neg (by rw [h]; decide)]
 split
 ·rename_i k; rw [k.2]; rfl
 ·rename_i k
  have : Fn v = 0 := by
   by_cases c1 : L < 1 ∨ 15482880 < L
   ·rw [B4, if_pos c1] at h; cases h
   ·by_cases c2 : 128 < v.evs.length
    ·rw [B4, if_neg c1, if_pos c2] at h; cases h
    ·rw [B4, if_neg c1, if_neg c2, if_neg k] at h; exact h
  exact (Aeh this).1
theorem J2 {v : Vo} {L : Int} (h : ckE v L = 0) : (ckL v L).length = v.evs.length := by
 obtain ⟨h1, h2⟩ := Mq h
 rw [h2]; exact T7 h1
theorem Uh (l : List Int) (t : Int) : ∀ n, ∃ k : Nat, atS l t n = ((k : Int), tot (l.take k)) ∧ (k < n ∨ k = 0)
 | 0 => ⟨0, rfl, .inr rfl⟩
 | n + 1 => by
  obtain ⟨k, h1, h2⟩ := Uh l t n
  cases hl : l[n]? with
  | none => exact ⟨k, by simp only [atS, hl]; exact h1, by omega⟩
  | some x =>
   by_cases c : tot (l.take n) ≤ t ∧ 0 < x
   ·exact ⟨n, Tu hl c.1 c.2, by omega⟩
   ·exact ⟨k, by rw [L5 hl c]; exact h1, by omega⟩
theorem Ae1 (v : Vo) (L t : Int) : ∃ (k : Nat) (a : Int), atV v L t = ((k : Int), a) ∧ 0 ≤ a ∧ a ≤ 32469952757760 ∧ (atE v L t = 0 → k < (ckL v L).length ∧ a = tot ((ckL v L).take k)) := by
 have hN := Kk v L
 by_cases h : atE v L t ≠ 0
 ·exact ⟨0, 0, by rw [atV, if_pos h]; rfl, by omega, by omega, fun k => absurd k h⟩
 ·obtain ⟨k, h1, h2⟩ := Uh (ckL v L) t (ckL v L).length
  have hb := (hN.take k).tot
  refine ⟨k, _, by rw [atV, if_neg h]; exact h1, hb.1, hb.2, fun h0 => ⟨?_, rfl⟩⟩
  have : (ckL v L).length ≠ 0 := fun e => by
   by_cases c : ckE v L ≠ 0
   ·rw [Abe c] at h0; exact c h0
   ·rw [Abd c (by omega)] at h0; cases h0
  omega
theorem Ak2 {v : Vo} {L t : Int} (h : atE v L t = 0) : ckE v L = 0 ∧ 0 ≤ t ∧ t < L := by
 unfold atE at h
 split at h
 ·rename_i c; exact absurd h c
 ·rename_i c
  split at h
  ·cases h
  ·split at h
   ·cases h
   ·omega
theorem Aqw {v : Vo} {L t a : Int} {k : Nat} (hE : Evs v.evs) (h : atV v L t = ((k : Int), a)) : XC Tryz.prog 22 [.agg (Vo.c v), dI L, dI t] (fun r => r = .tup [dI k, dI a, dI (atE v L t)]) := by
 have := Aqz v L t hE
 rw [h] at this
 exact this
theorem Iz {p : Pl} {v : Vo} (h : p.chk v = 0) : p.m.err = 0 ∧ ¬ p.bad ∧ ckE v p.len = 0 := by
 unfold Pl.chk at h
 split at h
 ·rename_i c; exact absurd h c
 ·rename_i c
  split at h
  ·cases h
  ·exact ⟨Decidable.not_not.1 c, by assumption, h⟩
theorem len_ok {v : Vo} {L : Int} (h : B4 v L = 0) : v.evs.length ≤ 128 ∧ (v.tups.length = 0 ∨ Cv v.tups (wrS v.evs) = 0) ∧ 1 ≤ L ∧ L ≤ 15482880 := by
 by_cases c1 : L < 1 ∨ 15482880 < L
 ·rw [B4, if_pos c1] at h; cases h
 ·by_cases c2 : 128 < v.evs.length
  ·rw [B4, if_neg c1, if_pos c2] at h; cases h
  ·refine ⟨by omega, ?_, by omega, by omega⟩
   by_cases k : v.whole ∧ v.evs.length = 1
   ·left
    obtain ⟨e, he⟩ : ∃ e, v.evs[0]? = some e := Av (by omega)
    have := Wp (L := L) (by omega) (by omega) (by omega) k.1 (by omega) he
    rw [h] at this
    by_cases c3 : e.err ≠ 0
    ·rw [if_pos c3] at this; exact absurd this.symm c3
    ·rw [if_neg c3] at this
     by_cases c4 : 0 < v.tups.length
     ·rw [if_pos c4] at this; cases this
     ·omega
   ·rw [B4, if_neg c1, if_neg c2, if_neg k] at h
    exact .inr (Aeh h).2
theorem P7 {v : Vo} {L : Int} (h : ckE v L = 0) : Sml v ∧ v.evs.length ≤ 128 := by
 obtain ⟨h1, _⟩ := Mq h
 obtain ⟨h2, h3, _⟩ := len_ok h1
 refine ⟨⟨by omega, ?_, ?_⟩, h2⟩
 ·rcases h3 with h3 | h3
  ·omega
  ·have := (Jt (fun k => k h3)).len; omega
 ·rcases h3 with h3 | h3
  ·have : v.tups = [] := List.eq_nil_of_length_eq_zero h3
   rw [this]; exact fun t ht => by cases ht
  ·intro t ht
   have := (Jt (fun k => k h3)).ok t ht
   unfold Tp.ok at this
   omega
theorem Cn (x : Ev) (vs : List Val) (f : Bool) : (Bi x vs f).length = vs.length := by rw [Bi, List.length_mapIdx]
def Ev.asRest (x : Ev) : Ev := ⟨x.site, x.num, 2, x.v, x.heads, x.graces, x.art, x.orn, x.dyn, x.lyr, x.stem, x.beam⟩
def Ev.unrest (x : Ev) : Ev := if x.kind = 3 then x.asRest else x
def Ev.tiedE (x : Ev) : Ev := ⟨x.site, x.num, x.kind, x.v, x.heads.map Hd.tie, x.graces, x.art, x.orn, x.dyn, x.lyr, x.stem, x.beam⟩
theorem Ev.fit.rest {x : Ev} (h : x.fit) : x.asRest.fit := h
theorem Ev.fit.tied {x : Ev} (h : x.fit) : x.tiedE.fit := ⟨by show (x.heads.map Hd.tie).length ≤ 1000; rw [List.length_map]; exact h.1, h.2⟩
theorem Ev.fit.put {x : Ev} (h : x.fit) (v : Val) (t : Bool) : (x.put v t).fit := ⟨by cases t <;> simp only [Ev.put, if_true, Bool.false_eq_true, if_false, List.length_map] <;> exact h.1, h.2⟩
theorem Ev.fit.further {x : Ev} (h : x.fit) : x.further.fit := ⟨by show (x.heads.map Hd.plain).length ≤ 1000; rw [List.length_map]; exact h.1, Nat.zero_le _, Nat.zero_le _⟩
theorem Oo {x : Ev} (h : x.fit) (vs : List Val) (f : Bool) : ∀ e ∈ Bi x vs f, e.fit := by
 intro e he
 obtain ⟨i, hi⟩ := List.getElem?_of_mem he
 rw [Bi, List.getElem?_mapIdx] at hi
 cases hv : vs[i]? with
 | none => rw [hv] at hi; cases hi
 | some v =>
  rw [hv] at hi; cases hi
  unfold Fd
  split
  ·exact h.further.put _ _
  ·exact h.put _ _
theorem Ty {l : List Ev} (h : l.length ≤ 10000) : Sml ⟨l, []⟩ := ⟨h, Nat.zero_le _, fun t ht => by cases ht⟩
def Dg (p : Pl) (t : Int) (a w : Int) (x : Ev) : List Ev := Bi x.unrest.tiedE (p.m.split (p.off + a) (p.off + t)) false ++ Bi x.unrest (p.m.split (p.off + t) (p.off + (a + w))) true
def Kb (v : Vo) (p : Pl) (t : Int) (k : Nat) (a w : Int) (x : Ev) : Vo × Int :=
 if 0 < F6 v.tups k then (⟨[], []⟩, 27) else if p.m.splitE (p.off + a) (p.off + t) ≠ 0 then (⟨[], []⟩, p.m.splitE (p.off + a) (p.off + t)) else if p.m.splitE (p.off + t) (p.off + (a + w)) ≠ 0 then (⟨[], []⟩, p.m.splitE (p.off + t) (p.off + (a + w))) else
 if 128 < (B0 v k 1 ⟨Dg p t a w x, []⟩).evs.length then (⟨[], []⟩, 9) else (B0 v k 1 ⟨Dg p t a w x, []⟩, 0)
def Fx (v : Vo) (p : Pl) (t : Int) : Vo × Int :=
 if atE v p.len t ≠ 0 ∨ (atV v p.len t).2 = t then (v, 0) else
 match v.evs[(atV v p.len t).1.toNat]?, (ckL v p.len)[(atV v p.len t).1.toNat]? with
 | some x, some w => Kb v p t (atV v p.len t).1.toNat (atV v p.len t).2 w x
 | _, _ => (⟨[], []⟩, 0)
theorem Nc {v : Vo} {p : Pl} {t a : Int} {k : Nat} (hat : atV v p.len t = ((k : Int), a)) (h : atE v p.len t ≠ 0 ∨ a = t) : Fx v p t = (v, 0) := by rw [Fx, hat, if_pos h]
theorem Fj {v : Vo} {p : Pl} {t a w : Int} {k : Nat} {x : Ev} (hat : atV v p.len t = ((k : Int), a)) (h : ¬ (atE v p.len t ≠ 0 ∨ a = t)) (hx : v.evs[k]? = some x) (hw : (ckL v p.len)[k]? = some w) : Fx v p t = Kb v p t k a w x := by
 rw [Fx, hat, if_neg h]
 simp only [Int.toNat_natCast, hx, hw]
theorem App {v : Vo} {p : Pl} {t a w : Int} {k : Nat} {x : Ev} (h : 0 < F6 v.tups k) : Kb v p t k a w x = (⟨[], []⟩, 27) := by rw [Kb, if_pos h]
theorem Apo {v : Vo} {p : Pl} {t a w : Int} {k : Nat} {x : Ev} (h : ¬ 0 < F6 v.tups k) (h2 : p.m.splitE (p.off + a) (p.off + t) ≠ 0) : Kb v p t k a w x = (⟨[], []⟩, p.m.splitE (p.off + a) (p.off + t)) := by rw [Kb, if_neg h, if_pos h2]
theorem Apn {v : Vo} {p : Pl} {t a w : Int} {k : Nat} {x : Ev} (h : ¬ 0 < F6 v.tups k) (h2 : ¬ p.m.splitE (p.off + a) (p.off + t) ≠ 0) (h3 : p.m.splitE (p.off + t) (p.off + (a + w)) ≠ 0) : Kb v p t k a w x = (⟨[], []⟩, p.m.splitE (p.off + t) (p.off + (a + w))) := by rw [Kb, if_neg h, if_neg h2, if_pos h3]
theorem Agm {v : Vo} {p : Pl} {t a w : Int} {k : Nat} {x : Ev} {l : List Ev} (h : ¬ 0 < F6 v.tups k) (h2 : ¬ p.m.splitE (p.off + a) (p.off + t) ≠ 0) (h3 : ¬ p.m.splitE (p.off + t) (p.off + (a + w)) ≠ 0) (hl : l = Dg p t a w x) (h4 : 128 < ((B0 v k 1 ⟨l, []⟩).evs.length : Int)) : Kb v p t k a w x = (⟨[], []⟩, 9) := by
 subst hl; rw [Kb, if_neg h, if_neg h2, if_neg h3, if_pos (by omega)]
theorem Agl {v : Vo} {p : Pl} {t a w : Int} {k : Nat} {x : Ev} {l : List Ev} (h : ¬ 0 < F6 v.tups k) (h2 : ¬ p.m.splitE (p.off + a) (p.off + t) ≠ 0) (h3 : ¬ p.m.splitE (p.off + t) (p.off + (a + w)) ≠ 0) (hl : l = Dg p t a w x) (h4 : ¬ 128 < ((B0 v k 1 ⟨l, []⟩).evs.length : Int)) : Kb v p t k a w x = (B0 v k 1 ⟨l, []⟩, 0) := by
 subst hl; rw [Kb, if_neg h, if_neg h2, if_neg h3, if_neg (by omega)]
theorem O5 {p : Pl} {t a w : Int} {x : Ev} (h : x.kind = 3) : Bi x.asRest.tiedE (p.m.split (p.off + a) (p.off + t)) false ++ Bi x.asRest (p.m.split (p.off + t) (p.off + (a + w))) true = Dg p t a w x := by rw [Dg, Ev.unrest, if_pos h]
theorem O6 {p : Pl} {t a w : Int} {x : Ev} (h : ¬ x.kind = 3) : Bi x.tiedE (p.m.split (p.off + a) (p.off + t)) false ++ Bi x (p.m.split (p.off + t) (p.off + (a + w))) true = Dg p t a w x := by rw [Dg, Ev.unrest, if_neg h]
theorem Si {x : Ev} (h : x.fit) : x.unrest.fit := by unfold Ev.unrest; split <;> exact h
theorem Xm {v : Vo} {k : Nat} {l : List Ev} (hv : v.fit) (hl : ∀ e ∈ l, e.fit) (hs : Sml v) (h : ¬ 128 < ((B0 v k 1 ⟨l, []⟩).evs.length : Int)) : (B0 v k 1 ⟨l, []⟩).fit := by
 refine ⟨by omega, ?_, fun e he => ?_⟩
 ·have h1 := Jw (fun t => decide (t.first < (k : Int))) 0 v.tups
  have h2 := Jw (fun t => decide ((k : Int) + (1 : Nat) ≤ t.first)) ((l.length : Int) - (1 : Nat)) v.tups
  have h3 := hs.tups
  simp only [B0, List.length_append]
  have h4 : (C8 (fun _ => true) (k : Int) []).length = 0 := rfl
  omega
 ·simp only [B0] at he
  rcases List.mem_append.1 he with he | he
  ·rcases List.mem_append.1 he with he | he
   ·exact hv.ev e (List.mem_of_mem_take he)
   ·exact hl e he
  ·exact hv.ev e (List.mem_of_mem_drop he)
theorem Yt {p : Pl} {t a w : Int} {x : Ev} (h : x.fit) : ∀ e ∈ Dg p t a w x, e.fit := by
 intro e he
 rcases List.mem_append.1 he with he | he
 ·exact Oo (Si h).tied _ _ e he
 ·exact Oo (Si h) _ _ e he
theorem r2v {v : Vo} {a : Int} {q : Vo × Int} (h : q = (v, a)) : D.tup [.agg (Vo.c v), dI a] = .tup [.agg (Vo.c q.1), dI q.2] := by rw [h]
theorem Ai1 (v : Vo) (p : Pl) (t : Int) (hE : Evs v.evs) (hF : v.fit) (hc : p.chk v = 0) : XC Tryz.prog 48 [.agg (Vo.c v), .agg (Pl.c p), .v (.int .i64 t)] (fun r => r = .tup [.agg (Vo.c (Fx v p t).1), dI (Fx v p t).2]) := by
 obtain ⟨k, a, hat, ha0, ha1, hak⟩ := Ae1 v p.len t
 obtain ⟨hme, hpb, hck⟩ := Iz hc
 obtain ⟨hsv, hev⟩ := P7 hck
 have hcl := J2 hck
 have hN := Kk v p.len
 unfold Pl.bad at hpb
 refine An Ac7 Tryz.func48 R R lb<|zr<|XL.step R (As 3 (l := [.d (.sl 13 (v.evs.map Ev.c)), .d (.sl 4 (v.tups.map Tp.c))]) R R (by kernel_rfl))<|XL.step R (As 4 (l := [.d (dI p.m.count), .d (dI p.m.unit), .d (dI p.m.g0), .d (dI p.m.g1), .d (dI p.m.g2), .d (dI p.m.g3), .d (dI p.m.g4), .d (dI p.m.g5), .d (dI p.off), .d (dI p.len)]) R R (by kernel_rfl))<|?_
 refine XL.step R (A7 6 (l := [.d (.v (.slice none 0 0)), .d (.v (.slice none 0 0))]) R By (by kernel_rfl))<|za R R<|znr<|zp (Ae (s' := .d (.agg (Vo.c v))) (Ad (Ac R R A8 R lb)) (by kernel_rfl))<|zp (Aa R R G9)<|zp (Ab R R Ai R R)<|XL.call1 R R (Lr _ _ (by assumption)) R<|zm R R<|zp (Be R R R)<|zp (Be R R R)<|za R R<|za R R<|znr<|?_
 refine zp (Ae (s' := .d (.agg (Vo.c v))) (Ad (Ac R R A8 R lb)) (by kernel_rfl))<|zp (Aa R R G9)<|zp (Ab R R Ai R R)<|zm R R<|XL.call1 R R (Aqw hE hat) R<|zm R R<|zp (Be R R R)<|zp (Be R R R)<|zp (Be R R R)<|za R R<|za R R<|za R R<|zn<|zs<|?_
 refine zr<|zm R R<|zp (Bh R R R)<|zm R R<|?_
 refine XL.dec 37 R (fun g37 => ?_) (fun g37 => ?_)
 refine zk 3 R<|zq R R R<|zn<|Ao (by kernel_rfl) R<|zr<|zp (Ae (s' := .d (.agg (Vo.c v))) (Ad (Ac R R A8 R lb)) (by kernel_rfl))<|XL.call1 R R (Jp _ (by assumption)) R<|XL.step R (Ah (l' := [.d (.sl 13 (v.evs.map Ev.c)), .d (.sl 4 (v.tups.map Tp.c))]) R R R R Cr R lb (by kernel_rfl))<|za R R<|zn<|zt<|?_
 exact Bj R (RV.cells R R R A8 lb R) (RV.tmp R R) (r2v (Nc hat (by omega)))
 refine zm R R<|zm R R<|zp (Ay R R R)<|zq R R R<|zn<|?_
 refine zd R (fun c41 => ?_) (fun c41 => ?_)
 refine zr<|zp (Ae (s' := .d (.agg (Vo.c v))) (Ad (Ac R R A8 R lb)) (by kernel_rfl))<|XL.call1 R R (Jp _ (by assumption)) R<|XL.step R (Ah (l' := [.d (.sl 13 (v.evs.map Ev.c)), .d (.sl 4 (v.tups.map Tp.c))]) R R R R Cr R lb (by kernel_rfl))<|za R R<|zn<|zt<|?_
 exact Bj R (RV.cells R R R A8 lb R) (RV.tmp R R) (r2v (Nc hat (by omega)))
 refine zi<|zs<|?_
 have hne : ¬ (atE v p.len t ≠ 0 ∨ a = t) := by omega
 have he0 : atE v p.len t = 0 := by omega
 obtain ⟨hk, hak2⟩ := hak he0
 obtain ⟨w, hw⟩ : ∃ w, (ckL v p.len)[k]? = some w := Av hk
 obtain ⟨x, hx⟩ : ∃ x, v.evs[k]? = some x := Av (by omega)
 have hwb := hN.bd w (List.mem_of_getElem? hw)
 obtain ⟨_, ht0, ht1⟩ := Ak2 he0
 have hxf : x.fit := hF.ev x (List.mem_of_getElem? hx)
 have hs1 := Io p.m (p.off + a) (p.off + t)
 have hs2 := Io p.m (p.off + t) (p.off + (a + w))
 have hxh := hxf.1
 refine Af (by kernel_rfl)<|zm R R<|zm R R<|zm R R<|zp (Ak R R R Cy (hw))<|zp (Ax R R Ai)<|zp (Aj R R R (by omega) (by omega))<|za R R<|zn<|zs<|zr<|zp (Aa R R B5)<|zp (Ab R R B3 R R)<|zm R R<|?_
 refine XL.call1 R R (Yu _ _ (by omega) (by omega)) R<|zp (A5 R R R)<|zn<|?_
 refine zd R (fun c54 => ?_) (fun c54 => ?_)
 refine zr<|zp (Ae (s' := .d (.agg [.v (.slice none 0 0), .v (.slice none 0 0)])) (Ad (Bo R Dq By R)) (by kernel_rfl))<|XL.step R (Ah (l' := [.d (.v (.slice none 0 0)), .d (.v (.slice none 0 0))]) R R R R Cr R lb (by kernel_rfl))<|za R R<|zn<|zt<|?_
 exact Bj R (RV.sub (RV.cells R R R A8 lb R) (.agg (.cons (.nil 13) (.cons (.nil 4) (.nil))))) (RV.tmp R R) (r2v ((Fj hat hne hx hw).trans (App c54)))
 refine zi<|zr<|zp (Aa R R O1)<|zp (Ae (s' := .d (.agg (Me.c p.m))) (Ad (Ac R R Bb R lb)) (by kernel_rfl))<|zp (Aa R R Ha)<|zp (Ab R R Ai R R)<|zm R R<|zp (Aj R R R (by omega) (by omega))<|zp (Aa R R Ha)<|zp (Ab R R Ai R R)<|zm R R<|zp (Aj R R R (by omega) (by omega))<|XL.call1 R R (Pv _ _ _) R<|zm R R<|?_
 refine zp (Be R R R)<|zp (Be R R R)<|za R R<|za R R<|zn<|zs<|zr<|zm R R<|zp (Bh R R R)<|zn<|?_
 refine zd R (fun c71 => ?_) (fun c71 => ?_)
 refine zr<|zp (Ae (s' := .d (.agg [.v (.slice none 0 0), .v (.slice none 0 0)])) (Ad (Bo R Dq By R)) (by kernel_rfl))<|zm R R<|XL.step R (Ah (l' := [.d (.v (.slice none 0 0)), .d (.v (.slice none 0 0))]) R R R R Cr R lb (by kernel_rfl))<|za R R<|zn<|zt<|?_
 exact Bj R (RV.sub (RV.cells R R R A8 lb R) (.agg (.cons (.nil 13) (.cons (.nil 4) (.nil))))) (RV.tmp R R) (r2v ((Fj hat hne hx hw).trans (Apo c54 c71)))
 refine zi<|zr<|zp (Aa R R O1)<|zp (Ae (s' := .d (.agg (Me.c p.m))) (Ad (Ac R R Bb R lb)) (by kernel_rfl))<|zp (Aa R R Ha)<|zp (Ab R R Ai R R)<|zm R R<|zp (Aj R R R (by omega) (by omega))<|zp (Aa R R Ha)<|zp (Ab R R Ai R R)<|zm R R<|zp (Aj R R R (by omega) (by omega))<|XL.call1 R R (Pv _ _ _) R<|zm R R<|?_
 refine zp (Be R R R)<|zp (Be R R R)<|za R R<|za R R<|zn<|zs<|zr<|zm R R<|zp (Bh R R R)<|zn<|?_
 refine zd R (fun c89 => ?_) (fun c89 => ?_)
 refine zr<|zp (Ae (s' := .d (.agg [.v (.slice none 0 0), .v (.slice none 0 0)])) (Ad (Bo R Dq By R)) (by kernel_rfl))<|zm R R<|XL.step R (Ah (l' := [.d (.v (.slice none 0 0)), .d (.v (.slice none 0 0))]) R R R R Cr R lb (by kernel_rfl))<|za R R<|zn<|zt<|?_
 exact Bj R (RV.sub (RV.cells R R R A8 lb R) (.agg (.cons (.nil 13) (.cons (.nil 4) (.nil))))) (RV.tmp R R) (r2v ((Fj hat hne hx hw).trans (Apn c54 c71 c89)))
 refine zi<|zr<|zp (Aa R R A0)<|zp (Ab R R Bq R R)<|zm R R<|zp (Ak R R R Ct (hx))<|zp (Ae (s' := .d (.agg (Ev.c x))) (At R R Aw lb) (by kernel_rfl))<|?_
 refine XL.step R (A7 16 (l := [.d (dI 0), .d (dI 0), .d (dI 0), .d (dI 0), .d (dI 0), .d (.v (.slice none 0 0)), .d (.v (.slice none 0 0)), .d (dI 0), .d (dI 0), .d (dI 0), .d (.v (.slice none 0 0)), .d (dI 0), .d (dI 0)]) R Bs (by kernel_rfl))<|?_
 refine XL.step R (Ah (l' := [.d (dI x.site), .d (dI x.num), .d (dI x.kind), .d (dI x.v.log), .d (dI x.v.dots), .d (.sl 5 (x.heads.map Hd.c)), .d (.sl 5 (x.graces.map Gr.c)), .d (dI x.art), .d (dI x.orn), .d (dI x.dyn), .d (.sl 2 (x.lyr.map Sy.c)), .d (dI x.stem), .d (dI x.beam)]) R R R R Bw R lb (by kernel_rfl))<|zn<|zs<|zr<|zp (Aa R R Bv)<|zp (Ab R R Ai R R)<|?_
 refine zp (Ay R R R)<|zn<|?_
 refine zd R (fun c99 => ?_) (fun c99 => ?_)
 refine Af (by kernel_rfl)<|zp (Aa R R Bv)<|XL.step R (Ah (l' := [.d (dI x.site), .d (dI x.num), .d (dI 2), .d (dI x.v.log), .d (dI x.v.dots), .d (.sl 5 (x.heads.map Hd.c)), .d (.sl 5 (x.graces.map Gr.c)), .d (dI x.art), .d (dI x.orn), .d (dI x.dyn), .d (.sl 2 (x.lyr.map Sy.c)), .d (dI x.stem), .d (dI x.beam)]) R R R R C2 R lb (by kernel_rfl))<|znr<|?_
 refine zp (Ae (s' := .d (.agg [dI x.site, dI x.num, dI 2, dI x.v.log, dI x.v.dots, .sl 5 (x.heads.map Hd.c), .sl 5 (x.graces.map Gr.c), dI x.art, dI x.orn, dI x.dyn, .sl 2 (x.lyr.map Sy.c), dI x.stem, dI x.beam])) (Ad (Ac R R Aw R lb)) (by kernel_rfl))<|?_
 refine XL.step R (A7 17 (l := [.d (dI 0), .d (dI 0), .d (dI 0), .d (dI 0), .d (dI 0), .d (.v (.slice none 0 0)), .d (.v (.slice none 0 0)), .d (dI 0), .d (dI 0), .d (dI 0), .d (.v (.slice none 0 0)), .d (dI 0), .d (dI 0)]) R Bs (by kernel_rfl))<|?_
 refine XL.step R (Ah (l' := [.d (dI x.site), .d (dI x.num), .d (dI 2), .d (dI x.v.log), .d (dI x.v.dots), .d (.sl 5 (x.heads.map Hd.c)), .d (.sl 5 (x.graces.map Gr.c)), .d (dI x.art), .d (dI x.orn), .d (dI x.dyn), .d (.sl 2 (x.lyr.map Sy.c)), .d (dI x.stem), .d (dI x.beam)]) R R R R Bw R lb (by kernel_rfl))<|znr<|zp (Aa R R Bk)<|zp (Ab R R C9 R R)<|?_
 refine XL.call1 R R (Pj _ (hxf.1)) R<|zp (Aa R R Bk)<|XL.step R (Ah (l' := [.d (dI x.site), .d (dI x.num), .d (dI 2), .d (dI x.v.log), .d (dI x.v.dots), .d (.sl 5 ((x.heads.map Hd.tie).map Hd.c)), .d (.sl 5 (x.graces.map Gr.c)), .d (dI x.art), .d (dI x.orn), .d (dI x.dyn), .d (.sl 2 (x.lyr.map Sy.c)), .d (dI x.stem), .d (dI x.beam)]) R R R R I4 R lb (by kernel_rfl))<|zn<|zs<|?_
 refine Jj 8 12 [7001, 7002, 18] (S.kill 7001) 7001 (Ot 7001) (by kernel_rfl) (by kernel_rfl) (by kernel_rfl) (by kernel_rfl) (by decide)<|ChMK.fr R R (CStep.pure (Ae (s' := .d (.agg (Vo.c v))) (Ad (Ac R R A8 R lb)) (by kernel_rfl))) (CStep.pure (Ae (s' := .d (.agg (Vo.c v))) (Ad (Ac R R A8 R lb)) (by kernel_rfl))) (by exact rfl)<|?_
 refine ChMK.fr R R (CStep.pure (Ar R (by conv => lhs; whnf))) (CStep.pure (Ar R (by conv => lhs; whnf))) (by exact rfl)<|?_
 refine ChMK.bf R (CStep.pure (Ae (s' := .d (.agg [dI x.site, dI x.num, dI 2, dI x.v.log, dI x.v.dots, .sl 5 ((x.heads.map Hd.tie).map Hd.c), .sl 5 (x.graces.map Gr.c), dI x.art, dI x.orn, dI x.dyn, .sl 2 (x.lyr.map Sy.c), dI x.stem, dI x.beam])) (Ad (Ac R R Aw R lb)) (by kernel_rfl))) (by conv => lhs; whnf)<|?_
 refine ChMK.bf R (CStep.pure (Ar R (by conv => lhs; whnf))) (by conv => lhs; whnf)<|?_
 refine ChMK.bfO R (CStep.callS R ((Ml (x.asRest.tiedE) _ false hxf.rest.tied (by omega)).lab 7001) R (Eg (by kernel_rfl))) (by conv => lhs; whnf) (fun _ _ => Vl _ _)<|?_
 refine ChMK.bf R (CStep.pure (Ae (s' := .d (.agg [dI x.site, dI x.num, dI 2, dI x.v.log, dI x.v.dots, .sl 5 (x.heads.map Hd.c), .sl 5 (x.graces.map Gr.c), dI x.art, dI x.orn, dI x.dyn, .sl 2 (x.lyr.map Sy.c), dI x.stem, dI x.beam])) (Ad (Ac R R Aw R lb)) (by kernel_rfl))) (by conv => lhs; whnf)<|?_
 refine ChMK.bf R (CStep.pure (Ar R (by conv => lhs; whnf))) (by conv => lhs; whnf)<|?_
 refine ChMK.bfN R (CStep.callS R ((Ml (x.asRest) _ true hxf.rest (by omega)).lab 7002) R (Eg (by kernel_rfl))) (by conv => lhs; whnf) R R<|?_
 refine ChMK.mu R (Vk (l2 := ((Bi x.asRest.tiedE ((p.m.split (p.off + a) (p.off + t))) false) ++ (Bi x.asRest ((p.m.split (p.off + t) (p.off + (a + w)))) true)).map Ev.c) R Dt (.own R) (Src.own R) (by simp only [List.length_map, Cn]; unfold maxLen; omega) (by simp only [List.length_map, Cn]; omega) (Aed))<|?_
 refine ChMK.af R (CStep.pure (Ae (s' := .d (.agg [.sl 13 (((Bi x.asRest.tiedE ((p.m.split (p.off + a) (p.off + t))) false) ++ (Bi x.asRest ((p.m.split (p.off + t) (p.off + (a + w)))) true)).map Ev.c), .v (.slice none 0 0)])) (Ad (Bo R Dq By R)) (by kernel_rfl)))<|?_
 refine ChMK.af R (CStep.calls R (Oe v k 1 ⟨((Bi x.asRest.tiedE ((p.m.split (p.off + a) (p.off + t))) false) ++ (Bi x.asRest ((p.m.split (p.off + t) (p.off + (a + w)))) true)), []⟩ hsv (Ty (by simp only [List.length_append, Cn]; omega)) (by omega)) (.cons R (.same R) (.cons R (.same R) (.cons R (.same R) (.cons R (.agg (.cons (.same R) (.cons (.nil 4) (.nil)))) (.nil))))))<|?_
 refine ChMK.frN R R (CStep.allocN 18 (l := [.d (.v (.slice none 0 0)), .d (.v (.slice none 0 0))]) R By R R) (CStep.allocN 18 (l := [.d (.v (.slice none 0 0)), .d (.v (.slice none 0 0))]) R By R R) (by exact rfl) (by exact rfl) R<|?_
 refine ChMK.nil ⟨⟨by kernel_rfl, by kernel_rfl, by kernel_rfl⟩, ?_⟩
 refine XL.step R (Ah (l' := [.d (.sl 13 ((B0 v k 1 ⟨((Bi x.asRest.tiedE ((p.m.split (p.off + a) (p.off + t))) false) ++ (Bi x.asRest ((p.m.split (p.off + t) (p.off + (a + w)))) true)), []⟩).evs.map Ev.c)), .d (.sl 4 ((B0 v k 1 ⟨((Bi x.asRest.tiedE ((p.m.split (p.off + a) (p.off + t))) false) ++ (Bi x.asRest ((p.m.split (p.off + t) (p.off + (a + w)))) true)), []⟩).tups.map Tp.c))]) R R R R Cr R lb (by kernel_rfl))<|?_
 refine zn<|zs<|zr<|zp (Aa R R A0)<|zp (Ab R R Bq R R)<|XL.len R R R Tryz.underlying22 fun hl119=>zp (A5 R R R)<|zn<|?_
 refine zd R (fun c120 => ?_) (fun c120 => ?_)
 refine zr<|zp (Ae (s' := .d (.agg [.v (.slice none 0 0), .v (.slice none 0 0)])) (Ad (Bo R Dq By R)) (by kernel_rfl))<|XL.step R (Ah (l' := [.d (.v (.slice none 0 0)), .d (.v (.slice none 0 0))]) R R R R Cr R lb (by kernel_rfl))<|za R R<|zn<|zt<|?_
 exact Bj R (RV.sub (RV.cells R R R A8 lb R) (.agg (.cons (.nil 13) (.cons (.nil 4) (.nil))))) (RV.tmp R R) (r2v ((Fj hat hne hx hw).trans (Agm c54 c71 c89 (by first | exact O5 c99 | exact O6 c99) c120)))
 have hof := Xm (k := k) (l := _) hF (Yt (p := p) (t := t) (a := a) (w := w) hxf) hsv (by first | (rw [← O5 c99]; exact c120) | (rw [← O6 c99]; exact c120))
 first | rw [← O5 c99] at hof | rw [← O6 c99] at hof
 refine zi<|zr<|zp (Ae (s' := .d (.agg (Vo.c (B0 v k 1 ⟨((Bi x.asRest.tiedE ((p.m.split (p.off + a) (p.off + t))) false) ++ (Bi x.asRest ((p.m.split (p.off + t) (p.off + (a + w)))) true)), []⟩)))) (Ad (Ac R R A8 R lb)) (by kernel_rfl))<|XL.call1 R R (Jp _ (by assumption)) R<|?_
 refine XL.step R (Ah (l' := [.d (.sl 13 ((B0 v k 1 ⟨((Bi x.asRest.tiedE ((p.m.split (p.off + a) (p.off + t))) false) ++ (Bi x.asRest ((p.m.split (p.off + t) (p.off + (a + w)))) true)), []⟩).evs.map Ev.c)), .d (.sl 4 ((B0 v k 1 ⟨((Bi x.asRest.tiedE ((p.m.split (p.off + a) (p.off + t))) false) ++ (Bi x.asRest ((p.m.split (p.off + t) (p.off + (a + w)))) true)), []⟩).tups.map Tp.c))]) R R R R Cr R lb (by kernel_rfl))<|?_
 refine za R R<|zn<|zt<|?_
 exact Bj R (RV.cells R R R A8 lb R) (RV.tmp R R) (r2v ((Fj hat hne hx hw).trans (Agl c54 c71 c89 (by first | exact O5 c99 | exact O6 c99) c120)))
 refine zi<|zr<|zp (Ae (s' := .d (.agg (Ev.c x))) (Ad (Ac R R Aw R lb)) (by kernel_rfl))<|XL.step R (A7 17 (l := [.d (dI 0), .d (dI 0), .d (dI 0), .d (dI 0), .d (dI 0), .d (.v (.slice none 0 0)), .d (.v (.slice none 0 0)), .d (dI 0), .d (dI 0), .d (dI 0), .d (.v (.slice none 0 0)), .d (dI 0), .d (dI 0)]) R Bs (by kernel_rfl))<|?_
 refine XL.step R (Ah (l' := [.d (dI x.site), .d (dI x.num), .d (dI x.kind), .d (dI x.v.log), .d (dI x.v.dots), .d (.sl 5 (x.heads.map Hd.c)), .d (.sl 5 (x.graces.map Gr.c)), .d (dI x.art), .d (dI x.orn), .d (dI x.dyn), .d (.sl 2 (x.lyr.map Sy.c)), .d (dI x.stem), .d (dI x.beam)]) R R R R Bw R lb (by kernel_rfl))<|znr<|zp (Aa R R Bk)<|zp (Ab R R C9 R R)<|?_
 refine XL.call1 R R (Pj _ (hxf.1)) R<|zp (Aa R R Bk)<|XL.step R (Ah (l' := [.d (dI x.site), .d (dI x.num), .d (dI x.kind), .d (dI x.v.log), .d (dI x.v.dots), .d (.sl 5 ((x.heads.map Hd.tie).map Hd.c)), .d (.sl 5 (x.graces.map Gr.c)), .d (dI x.art), .d (dI x.orn), .d (dI x.dyn), .d (.sl 2 (x.lyr.map Sy.c)), .d (dI x.stem), .d (dI x.beam)]) R R R R I4 R lb (by kernel_rfl))<|zn<|?_
 refine zs<|Jj 8 12 [7001, 7002, 18] (S.kill 7001) 7001 (Ot 7001) (by kernel_rfl) (by kernel_rfl) (by kernel_rfl) (by kernel_rfl) (by decide)<|ChMK.fr R R (CStep.pure (Ae (s' := .d (.agg (Vo.c v))) (Ad (Ac R R A8 R lb)) (by kernel_rfl))) (CStep.pure (Ae (s' := .d (.agg (Vo.c v))) (Ad (Ac R R A8 R lb)) (by kernel_rfl))) (by exact rfl)<|?_
 refine ChMK.fr R R (CStep.pure (Ar R (by conv => lhs; whnf))) (CStep.pure (Ar R (by conv => lhs; whnf))) (by exact rfl)<|?_
 refine ChMK.bf R (CStep.pure (Ae (s' := .d (.agg [dI x.site, dI x.num, dI x.kind, dI x.v.log, dI x.v.dots, .sl 5 ((x.heads.map Hd.tie).map Hd.c), .sl 5 (x.graces.map Gr.c), dI x.art, dI x.orn, dI x.dyn, .sl 2 (x.lyr.map Sy.c), dI x.stem, dI x.beam])) (Ad (Ac R R Aw R lb)) (by kernel_rfl))) (by conv => lhs; whnf)<|?_
 refine ChMK.bf R (CStep.pure (Ar R (by conv => lhs; whnf))) (by conv => lhs; whnf)<|?_
 refine ChMK.bfO R (CStep.callS R ((Ml (x.tiedE) _ false hxf.tied (by omega)).lab 7001) R (Eg (by kernel_rfl))) (by conv => lhs; whnf) (fun _ _ => Vl _ _)<|?_
 refine ChMK.bf R (CStep.pure (Ae (s' := .d (.agg (Ev.c x))) (Ad (Ac R R Aw R lb)) (by kernel_rfl))) (by conv => lhs; whnf)<|?_
 refine ChMK.bf R (CStep.pure (Ar R (by conv => lhs; whnf))) (by conv => lhs; whnf)<|?_
 refine ChMK.bfN R (CStep.callS R ((Ml (x) _ true hxf (by omega)).lab 7002) R (Eg (by kernel_rfl))) (by conv => lhs; whnf) R R<|?_
 refine ChMK.mu R (Vk (l2 := ((Bi x.tiedE ((p.m.split (p.off + a) (p.off + t))) false) ++ (Bi x ((p.m.split (p.off + t) (p.off + (a + w)))) true)).map Ev.c) R Dt (.own R) (Src.own R) (by simp only [List.length_map, Cn]; unfold maxLen; omega) (by simp only [List.length_map, Cn]; omega) (Aed))<|?_
 refine ChMK.af R (CStep.pure (Ae (s' := .d (.agg [.sl 13 (((Bi x.tiedE ((p.m.split (p.off + a) (p.off + t))) false) ++ (Bi x ((p.m.split (p.off + t) (p.off + (a + w)))) true)).map Ev.c), .v (.slice none 0 0)])) (Ad (Bo R Dq By R)) (by kernel_rfl)))<|?_
 refine ChMK.af R (CStep.calls R (Oe v k 1 ⟨((Bi x.tiedE ((p.m.split (p.off + a) (p.off + t))) false) ++ (Bi x ((p.m.split (p.off + t) (p.off + (a + w)))) true)), []⟩ hsv (Ty (by simp only [List.length_append, Cn]; omega)) (by omega)) (.cons R (.same R) (.cons R (.same R) (.cons R (.same R) (.cons R (.agg (.cons (.same R) (.cons (.nil 4) (.nil)))) (.nil))))))<|?_
 refine ChMK.frN R R (CStep.allocN 18 (l := [.d (.v (.slice none 0 0)), .d (.v (.slice none 0 0))]) R By R R) (CStep.allocN 18 (l := [.d (.v (.slice none 0 0)), .d (.v (.slice none 0 0))]) R By R R) (by exact rfl) (by exact rfl) R<|?_
 refine ChMK.nil ⟨⟨by kernel_rfl, by kernel_rfl, by kernel_rfl⟩, ?_⟩
 refine XL.step R (Ah (l' := [.d (.sl 13 ((B0 v k 1 ⟨((Bi x.tiedE ((p.m.split (p.off + a) (p.off + t))) false) ++ (Bi x ((p.m.split (p.off + t) (p.off + (a + w)))) true)), []⟩).evs.map Ev.c)), .d (.sl 4 ((B0 v k 1 ⟨((Bi x.tiedE ((p.m.split (p.off + a) (p.off + t))) false) ++ (Bi x ((p.m.split (p.off + t) (p.off + (a + w)))) true)), []⟩).tups.map Tp.c))]) R R R R Cr R lb (by kernel_rfl))<|?_
 refine zn<|zs<|zr<|zp (Aa R R A0)<|zp (Ab R R Bq R R)<|XL.len R R R Tryz.underlying22 fun hl119=>zp (A5 R R R)<|zn<|?_
 refine zd R (fun c120 => ?_) (fun c120 => ?_)
 refine zr<|zp (Ae (s' := .d (.agg [.v (.slice none 0 0), .v (.slice none 0 0)])) (Ad (Bo R Dq By R)) (by kernel_rfl))<|XL.step R (Ah (l' := [.d (.v (.slice none 0 0)), .d (.v (.slice none 0 0))]) R R R R Cr R lb (by kernel_rfl))<|za R R<|zn<|zt<|?_
 exact Bj R (RV.sub (RV.cells R R R A8 lb R) (.agg (.cons (.nil 13) (.cons (.nil 4) (.nil))))) (RV.tmp R R) (r2v ((Fj hat hne hx hw).trans (Agm c54 c71 c89 (by first | exact O5 c99 | exact O6 c99) c120)))
 have hof := Xm (k := k) (l := _) hF (Yt (p := p) (t := t) (a := a) (w := w) hxf) hsv (by first | (rw [← O5 c99]; exact c120) | (rw [← O6 c99]; exact c120))
 first | rw [← O5 c99] at hof | rw [← O6 c99] at hof
 refine zi<|zr<|zp (Ae (s' := .d (.agg (Vo.c (B0 v k 1 ⟨((Bi x.tiedE ((p.m.split (p.off + a) (p.off + t))) false) ++ (Bi x ((p.m.split (p.off + t) (p.off + (a + w)))) true)), []⟩)))) (Ad (Ac R R A8 R lb)) (by kernel_rfl))<|XL.call1 R R (Jp _ (by assumption)) R<|?_
 refine XL.step R (Ah (l' := [.d (.sl 13 ((B0 v k 1 ⟨((Bi x.tiedE ((p.m.split (p.off + a) (p.off + t))) false) ++ (Bi x ((p.m.split (p.off + t) (p.off + (a + w)))) true)), []⟩).evs.map Ev.c)), .d (.sl 4 ((B0 v k 1 ⟨((Bi x.tiedE ((p.m.split (p.off + a) (p.off + t))) false) ++ (Bi x ((p.m.split (p.off + t) (p.off + (a + w)))) true)), []⟩).tups.map Tp.c))]) R R R R Cr R lb (by kernel_rfl))<|?_
 refine za R R<|zn<|zt<|?_
 exact Bj R (RV.cells R R R A8 lb R) (RV.tmp R R) (r2v ((Fj hat hne hx hw).trans (Agl c54 c71 c89 (by first | exact O5 c99 | exact O6 c99) c120)))
def Eo (v : Vo) (p : Pl) (t : Int) : Vo × Int := if p.chk v ≠ 0 then (⟨[], []⟩, p.chk v) else if v.absent then (⟨[], []⟩, 10) else if t < 0 ∨ p.len < t then (⟨[], []⟩, 2) else Fx v p t
theorem Apz {v : Vo} {p : Pl} {t : Int} (h : p.chk v ≠ 0) : Eo v p t = (⟨[], []⟩, p.chk v) := by rw [Eo, if_pos h]
theorem Ak6 {v : Vo} {p : Pl} {t : Int} (h : ¬ p.chk v ≠ 0) (h2 : v.absent) : Eo v p t = (⟨[], []⟩, 10) := by rw [Eo, if_neg h, if_pos h2]
theorem Ag0 {v : Vo} {p : Pl} {t : Int} (h : ¬ p.chk v ≠ 0) (h2 : ¬ v.absent) (h3 : t < 0 ∨ p.len < t) : Eo v p t = (⟨[], []⟩, 2) := by rw [Eo, if_neg h, if_neg h2, if_pos h3]
theorem Ak5 {v : Vo} {p : Pl} {t : Int} (h : ¬ p.chk v ≠ 0) (h2 : ¬ v.absent) (h3 : ¬ (t < 0 ∨ p.len < t)) : Eo v p t = Fx v p t := by rw [Eo, if_neg h, if_neg h2, if_neg h3]
theorem V8 (v : Vo) (p : Pl) (t : Int) (hE : Evs v.evs) (hF : v.fit) : XC Tryz.prog 15 [.agg (Vo.c v), .agg (Pl.c p), .v (.int .i64 t)] (fun r => r = .tup [.agg (Vo.c (Eo v p t).1), dI (Eo v p t).2]) := by
 refine An Adn Tryz.func15 R R lb<|zr<|XL.step R (As 3 (l := [.d (.sl 13 (v.evs.map Ev.c)), .d (.sl 4 (v.tups.map Tp.c))]) R R (by kernel_rfl))<|XL.step R (As 4 (l := [.d (dI p.m.count), .d (dI p.m.unit), .d (dI p.m.g0), .d (dI p.m.g1), .d (dI p.m.g2), .d (dI p.m.g3), .d (dI p.m.g4), .d (dI p.m.g5), .d (dI p.off), .d (dI p.len)]) R R (by kernel_rfl))<|?_
 refine XL.step R (A7 6 (l := [.d (.v (.slice none 0 0)), .d (.v (.slice none 0 0))]) R By (by kernel_rfl))<|za R R<|zn<|zs<|zr<|zp (Ae (s' := .d (.agg (Pl.c p))) (Ad (Ac R R Kc R lb)) (by kernel_rfl))<|zp (Ae (s' := .d (.agg (Vo.c v))) (Ad (Ac R R A8 R lb)) (by kernel_rfl))<|XL.call1 R R (S5 _ _ (by assumption)) R<|za R R<|znr<|?_
 refine zm R R<|zp (Bh R R R)<|zn<|?_
 refine zd R (fun c13 => ?_) (fun c13 => ?_)
 refine zr<|zp (Ae (s' := .d (.agg [.v (.slice none 0 0), .v (.slice none 0 0)])) (Ad (Bo R Dq By R)) (by kernel_rfl))<|zm R R<|XL.step R (Ah (l' := [.d (.v (.slice none 0 0)), .d (.v (.slice none 0 0))]) R R R R Cr R lb (by kernel_rfl))<|za R R<|zn<|zt<|?_
 exact Bj R (RV.sub (RV.cells R R R A8 lb R) (.agg (.cons (.nil 13) (.cons (.nil 4) (.nil))))) (RV.tmp R R) (r2v (Apz c13))
 refine zi<|zs<|Ag<|zr<|zp (Ae (s' := .d (.agg (Vo.c v))) (Ad (Ac R R A8 R lb)) (by kernel_rfl))<|XL.call1 R R (Ae6 _) R<|za R R<|zn<|?_
 refine zd R (fun c16 => ?_) (fun c16 => ?_)
 refine zr<|zp (Ae (s' := .d (.agg [.v (.slice none 0 0), .v (.slice none 0 0)])) (Ad (Bo R Dq By R)) (by kernel_rfl))<|XL.step R (Ah (l' := [.d (.v (.slice none 0 0)), .d (.v (.slice none 0 0))]) R R R R Cr R lb (by kernel_rfl))<|za R R<|zn<|zt<|?_
 exact Bj R (RV.sub (RV.cells R R R A8 lb R) (.agg (.cons (.nil 13) (.cons (.nil 4) (.nil))))) (RV.tmp R R) (r2v (Ak6 c13 c16))
 refine zr<|zm R R<|zp (Aq R R R)<|zm R R<|?_
 refine XL.dec 23 R (fun g23 => ?_) (fun g23 => ?_)
 refine zk 4 R<|zq R R R<|za R R<|zn<|Ao (by kernel_rfl) R<|zr<|zp (Ae (s' := .d (.agg [.v (.slice none 0 0), .v (.slice none 0 0)])) (Ad (Bo R Dq By R)) (by kernel_rfl))<|XL.step R (Ah (l' := [.d (.v (.slice none 0 0)), .d (.v (.slice none 0 0))]) R R R R Cr R lb (by kernel_rfl))<|za R R<|zn<|zt<|?_
 exact Bj R (RV.sub (RV.cells R R R A8 lb R) (.agg (.cons (.nil 13) (.cons (.nil 4) (.nil))))) (RV.tmp R R) (r2v (Ag0 c13 c16 (by omega)))
 refine zm R R<|zp (Aa R R G9)<|zp (Ab R R Ai R R)<|zp (A5 R R R)<|zq R R R<|za R R<|zn<|?_
 refine zd R (fun c20 => ?_) (fun c20 => ?_)
 refine zr<|zp (Ae (s' := .d (.agg [.v (.slice none 0 0), .v (.slice none 0 0)])) (Ad (Bo R Dq By R)) (by kernel_rfl))<|XL.step R (Ah (l' := [.d (.v (.slice none 0 0)), .d (.v (.slice none 0 0))]) R R R R Cr R lb (by kernel_rfl))<|za R R<|zn<|zt<|?_
 exact Bj R (RV.sub (RV.cells R R R A8 lb R) (.agg (.cons (.nil 13) (.cons (.nil 4) (.nil))))) (RV.tmp R R) (r2v (Ag0 c13 c16 (by omega)))
 refine zi<|zs<|?_
 have hc0 : p.chk v = 0 := by omega
 refine Af (by kernel_rfl)<|zp (Ae (s' := .d (.agg (Vo.c v))) (Ad (Ac R R A8 R lb)) (by kernel_rfl))<|zp (Ae (s' := .d (.agg (Pl.c p))) (Ad (Ac R R Kc R lb)) (by kernel_rfl))<|zm R R<|XL.call1 R R (Ai1 _ _ _ (by assumption) (by assumption) (by assumption)) R<|zp (Be R R R)<|zp (Be R R R)<|?_
 refine XL.step R (Ah (l' := [.d (.sl 13 (((Fx v p t).1).evs.map Ev.c)), .d (.sl 4 (((Fx v p t).1).tups.map Tp.c))]) R R R R Cr R lb (by kernel_rfl))<|za R R<|zn<|zt<|?_
 exact Bj R (RV.cells R R R A8 lb R) (RV.tmp R R) (by rw [← Ak5 c13 c16 (by omega)]; rfl)
end Go.Proofs.YtcihalbakenleaaGreat
namespace Go.Proofs.YtcihalbakenleaaGreat
theorem Hv (x : Int) (l : List Int) : tot (x :: l) = x + tot l := by
 have h : ∀ (l : List Int) (a : Int), l.foldl (· + ·) a = a + tot l := by
  intro l
  induction l with
  | nil => intro a; show a = a + 0; omega
  | cons y l ih =>
   intro a
   rw [List.foldl_cons, ih]
   show a + y + tot l = a + List.foldl (· + ·) 0 (y :: l)
   rw [List.foldl_cons, ih]; omega
 unfold tot
 rw [List.foldl_cons, h]
 show 0 + x + tot l = x + tot l
 omega
theorem Jr : tot [] = 0 := rfl
theorem Js (a b : List Int) : tot (a ++ b) = tot a + tot b := by
 induction a with
 | nil => rw [List.nil_append, Jr]; omega
 | cons x a ih => rw [List.cons_append, Hv, Hv, ih]; omega
theorem Qc (a b : List Ev) : wrS (a ++ b) = wrS a ++ wrS b := List.map_append
theorem H9 (a : List Ev) : (wrS a).length = a.length := List.length_map _
theorem Aje (a : List Ev) (k : Nat) : wrS (a.take k) = (wrS a).take k := List.map_take
theorem Ajf (a : List Ev) (k : Nat) : wrS (a.drop k) = (wrS a).drop k := List.map_drop
structure VL (v : Vo) (ls : List Int) : Prop where
 tl : TL v.tups (wrS v.evs) ls
 ev : ∀ e ∈ v.evs, e.err = 0 ∧ e.kind ≠ 3
def Vo.rest (v : Vo) : Prop := v.whole ∧ v.evs.length = 1
instance (v : Vo) : Decidable v.rest := by unfold Vo.rest; exact inferInstance
theorem inGo_zero {n : Nat} : ∀ {l : List Ev} {k : Nat}, Ec n k l = 0 ↔ ∀ j e, l[j]? = some e → e.err = 0 ∧ ¬ (e.kind = 3 ∧ (0 < k + j ∨ 1 < n))
 | [], k => ⟨fun _ j e h => by simp at h, fun _ => rfl⟩
 | e :: r, k => by
  rw [Ec]
  split
  ·rename_i c
   exact ⟨fun h => absurd h c, fun h => absurd (h 0 e rfl).1 c⟩
  ·rename_i c
   split
   ·rename_i c2
    exact ⟨fun h => by omega, fun h => absurd c2 (h 0 e rfl).2⟩
   ·rename_i c2
    rw [inGo_zero]
    constructor
    ·intro h j x hj
     cases j with
     | zero => cases hj; exact ⟨Decidable.not_not.1 c, c2⟩
     | succ j => have := h j x hj; exact ⟨this.1, fun k => this.2 ⟨k.1, by omega⟩⟩
    ·intro h j x hj
     have := h (j + 1) x hj; exact ⟨this.1, fun k => this.2 ⟨k.1, by omega⟩⟩
theorem innE_zero {v : Vo} : Fn v = 0 ↔ Ec v.evs.length 0 v.evs = 0 ∧ Cv v.tups (wrS v.evs) = 0 ∧ Fp v.tups (wrS v.evs) = 0 := by
 unfold Fn
 split
 ·omega
 ·split
  ·omega
  ·split <;> omega
theorem Aei {v : Vo} {ls : List Int} (h : ¬ v.rest) : (Fn v = 0 ∧ ls = G0 v) ↔ VL v ls := by
 rw [innE_zero]
 constructor
 ·rintro ⟨⟨h1, h2, h3⟩, h4⟩
  have h0 : Fn v = 0 := innE_zero.2 ⟨h1, h2, h3⟩
  rw [G0, if_pos h0] at h4
  refine ⟨TL_iff.2 ⟨h2, h3, h4⟩, fun e he => ?_⟩
  obtain ⟨j, hj⟩ := List.getElem?_of_mem he
  have h5 := inGo_zero.1 h1 j e hj
  refine ⟨h5.1, fun k => ?_⟩
  have h6 := fun q => h5.2 ⟨k, q⟩
  have hl := (List.getElem?_eq_some_iff.1 hj).1
  have : j = 0 ∧ v.evs.length = 1 := by omega
  rw [this.1] at hj
  exact h ⟨(Ij hj).2 k, this.2⟩
 ·intro hv
  obtain ⟨h2, h3, h4⟩ := TL_iff.1 hv.tl
  have h1 : Ec v.evs.length 0 v.evs = 0 := inGo_zero.2 fun j e hj => by
   have := hv.ev e (List.mem_of_getElem? hj)
   exact ⟨this.1, fun k => this.2 k.1⟩
  refine ⟨⟨h1, h2, h3⟩, ?_⟩
  rw [G0, if_pos (innE_zero.2 ⟨h1, h2, h3⟩)]; exact h4
theorem VL.norest {v : Vo} {ls : List Int} (h : VL v ls) : ¬ v.rest := fun k => by
 obtain ⟨e, he⟩ : ∃ e, v.evs[0]? = some e := Av (by rw [k.2]; omega)
 exact (h.ev e (List.mem_of_getElem? he)).2 ((Ij he).1 k.1)
theorem VL.len {v : Vo} {ls : List Int} (h : VL v ls) : ls.length = v.evs.length := by rw [h.tl.ls, H3, H9]
theorem VL.evs {v : Vo} {ls : List Int} (h : VL v ls) : v.evs.length ≤ 128 := by have := h.tl.wl; rwa [H9] at this
theorem VL.inn {v : Vo} {ls : List Int} (h : VL v ls) : Fn v = 0 ∧ G0 v = ls := by have := (Aei h.norest).2 h; exact ⟨this.1, this.2.symm⟩
theorem Ky {v : Vo} {L : Int} {ls : List Int} (h : ¬ v.rest) : (ckE v L = 0 ∧ ls = ckL v L) ↔ 1 ≤ L ∧ L ≤ 15482880 ∧ VL v ls ∧ (v.evs ≠ [] → tot ls = L) := by
 have hz : ∀ l : List Ev, l = [] ↔ l.length = 0 := fun l => by cases l <;> simp
 constructor
 ·rintro ⟨h1, h2⟩
  obtain ⟨h3, h4⟩ := Mq h1
  obtain ⟨h5, _, h6, h7⟩ := len_ok h3
  have h8 : B4 v L = Fn v := by rw [B4, if_neg (by omega), if_neg (by omega), if_neg (show ¬ (v.whole ∧ v.evs.length = 1) from h)]
  have h9 : Co v L = G0 v := by rw [Co, if_neg (by omega), if_neg (show ¬ (v.whole ∧ v.evs.length = 1) from h)]
  have hv : VL v ls := (Aei h).1 ⟨by omega, by rw [h2, h4, h9]⟩
  refine ⟨h6, h7, hv, fun hne => ?_⟩
  rw [h2, h4]
  unfold ckE at h1
  split at h1
  ·omega
  ·rename_i c
   refine Decidable.not_not.1 fun k => c ⟨h3, ?_, k⟩
   rw [h9, hv.inn.2, hv.len]
   have := (not_congr (hz v.evs)).1 hne; omega
 ·rintro ⟨h6, h7, hv, ht⟩
  obtain ⟨h1, h2⟩ := hv.inn
  have h5 := hv.evs
  have h8 : B4 v L = 0 := by rw [B4, if_neg (by omega), if_neg (by omega), if_neg (show ¬ (v.whole ∧ v.evs.length = 1) from h)]; exact h1
  have h9 : Co v L = ls := by rw [Co, if_neg (by omega), if_neg (show ¬ (v.whole ∧ v.evs.length = 1) from h)]; exact h2
  have h10 : ckE v L = 0 := by
   rw [ckE, if_neg]
   ·exact h8
   ·rintro ⟨_, k1, k2⟩
    rw [h9] at k1 k2
    rw [hv.len] at k1
    exact k2 (ht fun e => by rw [hz] at e; omega)
  exact ⟨h10, by rw [ckL, if_neg (by omega), h9]⟩
theorem Ny {v : Vo} {L : Int} (h : v.rest) (h1 : ckE v L = 0) : v.tups = [] ∧ ckL v L = [L] ∧ ∃ e, v.evs = [e] ∧ e.err = 0 ∧ e.kind = 3 := by
 obtain ⟨h3, h4⟩ := Mq h1
 obtain ⟨h5, h2, h6, h7⟩ := len_ok h3
 have h' := h
 obtain ⟨hw, hl⟩ := h
 cases hv : v.evs with
 | nil => rw [hv] at hl; cases hl
 | cons e l =>
  have hl2 : l = [] := by rw [hv] at hl; exact List.eq_nil_of_length_eq_zero (by simpa using hl)
  subst hl2
  have he : v.evs[0]? = some e := by rw [hv]; rfl
  have := Wp (L := L) (by omega) (by omega) (by omega) hw (by omega) he
  rw [h3] at this
  refine ⟨?_, by rw [h4, Co, if_neg (by omega), if_pos (show v.whole ∧ v.evs.length = 1 from h')], e, rfl, ?_, (Ij he).1 hw⟩
  ·by_cases c : e.err ≠ 0
   ·rw [if_pos c] at this; exact absurd this.symm c
   ·rw [if_neg c] at this
    by_cases c2 : 0 < v.tups.length
    ·rw [if_pos c2] at this; omega
    ·exact List.eq_nil_of_length_eq_zero (by omega)
  ·by_cases c : e.err ≠ 0
   ·rw [if_pos c] at this; exact absurd this.symm c
   ·exact Decidable.not_not.1 c
def partV (v : Vo) (a n : Nat) : Vo := ⟨(v.evs.drop a).take n, (v.tups.filter fun t => decide ((a : Int) ≤ t.first ∧ t.first < (a : Int) + n)).map (Tp.mv (-a))⟩
theorem VL.repl {v x : Vo} {ls lx : List Int} {a n : Nat} (h : VL v ls) (ha : a + n ≤ v.evs.length) (h1 : Se v.tups a) (h2 : Se v.tups ((a : Int) + n)) (hx : VL x lx) (hc : v.evs.length - n + x.evs.length ≤ 128)
  (ht : (B0 v a n x).tups.length ≤ 16) : VL (B0 v a n x) (ls.take a ++ lx ++ ls.drop (a + n)) := by
 have hwl := H9 v.evs
 obtain ⟨hA, _⟩ := h.tl.cut (a := a) (by rw [hwl]; omega) h1
 obtain ⟨_, hC⟩ := h.tl.cut (a := a + n) (by rw [hwl]; exact ha) (by rw [Int.natCast_add]; exact h2)
 have hXC := TL.app hx.tl hC (by rw [List.length_drop, hwl, H9]; omega)
 have e0 : C8 (fun t => decide (t.first < (a : Int))) 0 v.tups = v.tups.filter fun t => decide (t.first < (a : Int)) := by
  unfold C8
  rw [show Tp.mv 0 = id from funext Aec, List.map_id]
 have e1 : (C8 (fun t => decide ((a : Int) + n ≤ t.first)) (x.evs.length - n) v.tups) = ((((v.tups.filter fun t => decide (((a + n : Nat) : Int) ≤ t.first)).map (Tp.mv (-((a + n : Nat) : Int)))).map (Tp.mv (wrS x.evs).length)).map (Tp.mv ((wrS v.evs).take a).length)) := by
  unfold C8
  rw [List.map_map, List.map_map, show (((wrS v.evs).take a).length) = a from by rw [List.length_take, hwl]; omega, H9]
  have : (Tp.mv (a : Int)) ∘ ((Tp.mv (x.evs.length : Int)) ∘ Tp.mv (-((a + n : Nat) : Int))) = Tp.mv (x.evs.length - n) := by
   funext t
   show ((t.mv _).mv _).mv _ = _
   rw [Afx, Afx]; congr 1; omega
  rw [show ((Tp.mv (a : Int)) ∘ (Tp.mv (x.evs.length : Int))) ∘ Tp.mv (-((a + n : Nat) : Int)) = Tp.mv (x.evs.length - n) from this, Int.natCast_add]
 have e2 : C8 (fun _ => true) a x.tups = x.tups.map (Tp.mv ((wrS v.evs).take a).length) := by
  unfold C8
  rw [List.filter_eq_self.2 (fun _ _ => rfl), show (((wrS v.evs).take a).length) = a from by rw [List.length_take, hwl]; omega]
 have et : (B0 v a n x).tups = (v.tups.filter fun t => decide (t.first < (a : Int))) ++ (x.tups ++ ((v.tups.filter fun t => decide (((a + n : Nat) : Int) ≤ t.first)).map (Tp.mv (-((a + n : Nat) : Int)))).map (Tp.mv (wrS x.evs).length)).map (Tp.mv ((wrS v.evs).take a).length) := by
  show C8 _ 0 v.tups ++ C8 _ a x.tups ++ C8 _ _ v.tups = _
  rw [e0, e1, e2, List.map_append, List.append_assoc]
 have ht2 := ht
 rw [et, List.length_append, List.length_map] at ht2
 have hXC := hXC (by rw [List.length_append, List.length_map] at ht2; omega)
 have hall := TL.app hA hXC (by rw [List.length_take, List.length_append, List.length_drop, hwl, H9]; omega) ht2
 refine ⟨?_, fun e he => ?_⟩
 ·rw [et]
  have : wrS (B0 v a n x).evs = (wrS v.evs).take a ++ (wrS x.evs ++ (wrS v.evs).drop (a + n)) := by
   show wrS (v.evs.take a ++ x.evs ++ v.evs.drop (a + n)) = _
   rw [Qc, Qc, Aje, Ajf, List.append_assoc]
  rw [this, List.append_assoc]; exact hall
 ·rcases List.mem_append.1 he with k | k
  ·rcases List.mem_append.1 k with k | k
   ·exact h.ev e (List.mem_of_mem_take k)
   ·exact hx.ev e k
  ·exact h.ev e (List.mem_of_mem_drop k)
theorem Aks {d : Int} (h : Ee d = 0) : C1 (B6 d) = 0 ∧ B9 (B6 d) = d := by
 unfold Ee at h
 split at h
 ·omega
 ·rename_i c
  cases hf : Hh d allV with
  | none => exact absurd hf c
  | some v =>
   have e : B6 d = v := by rw [B6, hf]; rfl
   rw [e]
   have h1 := List.mem_of_find?_eq_some hf
   have h2 := List.find?_some hf
   obtain ⟨q, _, rfl⟩ := List.mem_map.1 h1
   exact ⟨(Ph (Wz q.2)).symm, by simpa using h2⟩
theorem Vy : Ee 7560 = 0 := by decide +kernel
theorem Aha {m : Me} {a : Int} : ∀ k, 0 < k → (Dy m a k).2.2 = true
 | k + 1, _ => by
  by_cases c : (Dy m a k).2.2 = false ∨ m.level (a + 7560 * (k + 1)) < (Dy m a k).2.1
  ·rw [Hx c]
  ·rw [Dy, if_neg c]
   cases e : (Dy m a k).2.2 with
   | true => rfl
   | false => exact absurd (.inl e) c
theorem Q4 {m : Me} {a b : Int} (h : (m.strong a b).2.2 = false) : Cz a b = 0 := by
 by_cases c : Cz a b = 0
 ·exact c
 ·have := Aha (m := m) (a := a) (Cz a b) (by omega)
  rw [show Dy m a (Cz a b) = m.strong a b from rfl, h] at this
  cases this
theorem N5 {m : Me} : ∀ (f : Nat) (a b : Int), SpP f a b → a % 7560 = 0 → b % 7560 = 0 → tot ((Dz m f a b).map B9) = b - a ∧ ∀ v ∈ Dz m f a b, C1 v = 0
 | 0, a, b, h, _, _ => by have := h.2.2.2.2; omega
 | f + 1, a, b, h, ha, hb => by
  by_cases c : a = b
  ·rw [Ce c]; exact ⟨by show (0 : Int) = b - a; omega, fun v hv => by cases hv⟩
  ·by_cases c2 : m.simp a b ∨ (m.strong a b).2.2 = false
   ·rw [Cd c c2]
    have h0 : Ee (b - a) = 0 := by
     rcases c2 with k | k
     ·exact k.1
     ·have k2 := Q4 k
      have := h.2.1
      unfold Cz at k2
      have : b - a = 7560 := by omega
      rw [this]; exact Vy
    obtain ⟨h1, h2⟩ := Aks h0
    refine ⟨?_, fun v hv => by rw [List.mem_singleton.1 hv]; exact h1⟩
    rw [List.map_singleton, h2, Hv, Jr]; omega
   ·have hs : ¬ m.simp a b := fun k => c2 (.inl k)
    have hw : (m.strong a b).2.2 = true := by
     cases e : (m.strong a b).2.2 with
     | true => rfl
     | false => exact absurd (.inr e) c2
    obtain ⟨h1, h2, _⟩ := Fk h hw
    obtain ⟨j, _, hj⟩ := Pk hw
    obtain ⟨q1, q2⟩ := N5 f _ _ h1 ha (by rw [hj]; omega)
    obtain ⟨q3, q4⟩ := N5 f _ _ h2 (by rw [hj]; omega) hb
    rw [Cf c hs hw, List.map_append, Js]
    refine ⟨by rw [q1, q3]; omega, fun v hv => ?_⟩
    rcases List.mem_append.1 hv with k | k
    ·exact q2 v k
    ·exact q4 v k
theorem Ur {m : Me} {a b : Int} (h : m.splitE a b = 0) : m.err = 0 ∧ 0 ≤ a ∧ a ≤ b ∧ b ≤ 4398046511104 ∧ a % 7560 = 0 ∧ b % 7560 = 0 ∧ b - a ≤ 15482880 ∧ m.split a b = Dz m (Cz a b + 1) a b := by
 have hs : m.split a b = Dz m (Cz a b + 1) a b := by rw [Me.split, if_pos h]
 unfold Me.splitE at h
 split at h
 ·omega
 ·split at h
  ·omega
  ·split at h
   ·omega
   ·split at h
    ·omega
    ·exact ⟨by omega, by omega, by omega, by omega, by omega, by omega, by omega, hs⟩
theorem Pm {m : Me} {a b : Int} (h : m.splitE a b = 0) : tot ((m.split a b).map B9) = b - a ∧ ∀ v ∈ m.split a b, C1 v = 0 := by
 obtain ⟨_, h1, h2, h3, h4, h5, h6, h7⟩ := Ur h
 rw [h7]
 exact N5 _ a b ⟨h1, h2, h3, h6, Nat.le_refl _⟩ h4 h5
theorem err_iff {e : Ev} : e.err = 0 ↔ e.e1 = 0 ∧ (1 ≤ e.kind ∧ e.kind ≤ 4) ∧ e.same e.strip ∧ (e.kind ≠ 3 → C1 e.v = 0) ∧ (e.kind = 1 → e.e2 = 0) ∧ e.e3 = 0 := by
 unfold Ev.err
 split
 ·rename_i c; exact ⟨fun h => absurd h c, fun h => absurd h.1 c⟩
 ·rename_i c
  split
  ·rename_i c2; exact ⟨fun h => by omega, fun h => absurd h.2.1 c2⟩
  ·rename_i c2
   split
   ·rename_i c3; exact ⟨fun h => by omega, fun h => absurd h.2.2.1 c3⟩
   ·rename_i c3
    split
    ·rename_i c4; exact ⟨fun h => by omega, fun h => absurd (h.2.2.2.1 c4.1) c4.2⟩
    ·rename_i c4
     split
     ·rename_i c5; exact ⟨fun h => absurd h c5.2, fun h => absurd (h.2.2.2.2.1 c5.1) c5.2⟩
     ·rename_i c5
      refine ⟨fun h => ⟨Decidable.not_not.1 c, Decidable.not_not.1 c2, Decidable.not_not.1 c3, fun k => Decidable.not_not.1 fun j => c4 ⟨k, j⟩, fun k => Decidable.not_not.1 fun j => c5 ⟨k, j⟩, h⟩, fun h => h.2.2.2.2.2⟩
theorem first_zero {l : List Int} : Cq l = 0 ↔ ∀ x ∈ l, x = 0 := by
 induction l with
 | nil => simp [Cq]
 | cons x l ih =>
  rw [Cq]
  by_cases h : x = 0
  ·rw [if_neg (by omega), ih]; simp [h]
  ·rw [if_pos h]; simp [h]
theorem Abk {n m : Int} : Bn n m = 0 ↔ 0 ≤ n ∧ n ≤ m := by
 unfold Bn
 split <;> omega
theorem Rc {f : Hd → Hd} (hp : ∀ h, (f h).p = h.p) : ∀ {l : List Hd} {n : Int}, (∀ h ∈ l, Bn h.sh 2 = 0 → Bn (f h).sh 2 = 0) → Ed n l = 0 → Ed n (l.map f) = 0
 | [], n, _, _ => rfl
 | h :: t, n, hf, h0 => by
  rw [Ed] at h0
  rw [List.map_cons, Ed, hp]
  split at h0
  ·rename_i c; exact absurd h0 c
  ·rename_i c
   split at h0
   ·omega
   ·rename_i c2
    have hw : He h = 0 := Decidable.not_not.1 c
    have hw2 : He (f h) = 0 := by
     unfold He at hw ⊢
     rw [first_zero] at hw ⊢
     intro x hx
     have h1 := hw h.p.err (by simp)
     have h2 := hf h List.mem_cons_self (hw _ (by simp))
     rw [hp] at hx
     simp only [List.mem_cons, List.not_mem_nil, or_false] at hx
     rcases hx with e | e
     ·rw [e]; exact h1
     ·rw [e]; exact h2
    rw [if_neg (by omega), if_neg c2]
    exact Rc hp (fun x hx => hf x (List.mem_cons_of_mem _ hx)) h0
theorem P2 {f : Hd → Hd} (hp : ∀ h, (f h).p = h.p) {l : List Hd} (hf : ∀ h ∈ l, Bn h.sh 2 = 0 → Bn (f h).sh 2 = 0) (h : Cg l = 0) : Cg (l.map f) = 0 := by
 unfold Cg at h ⊢
 rw [List.length_map]
 split at h
 ·omega
 ·split at h
  ·omega
  ·rename_i c1 c2
   rw [if_neg c1, if_neg c2]; exact Rc hp hf h
theorem Ev.err_put {x : Ev} (h : x.err = 0) (hk : x.kind ≠ 3) {v : Val} (hv : C1 v = 0) (t : Bool) : (x.put v t).err = 0 := by
 rw [err_iff] at h ⊢
 obtain ⟨h1, h2, h3, h4, h5, h6⟩ := h
 refine ⟨h1, h2, ?_, fun _ => hv, fun k => ?_, h6⟩
 ·by_cases c : x.kind = 1
  ·have : (x.put v t).strip = x.put v t := (Qi (e := x.put v t) c).symm
   rw [this]; exact ⟨rfl, rfl, rfl, rfl, rfl, rfl, rfl, rfl, rfl, rfl⟩
  ·have hs : x.strip = ⟨x.site, x.num, x.kind, x.v, [], [], if x.kind ≠ 4 then D7 x.art else 0, 0, x.dyn, [], 0, 0⟩ := by rw [Ev.strip, if_neg (by omega), if_pos hk]
   have hs2 : (x.put v t).strip = ⟨x.site, x.num, x.kind, v, [], [], if x.kind ≠ 4 then D7 x.art else 0, 0, x.dyn, [], 0, 0⟩ := by
    have : ¬ ((x.put v t).kind = 1 ∨ ¬ (1 ≤ (x.put v t).kind ∧ (x.put v t).kind ≤ 4)) := by show ¬ (x.kind = 1 ∨ ¬ (1 ≤ x.kind ∧ x.kind ≤ 4)); omega
    rw [Ev.strip, if_neg this, if_pos (show (x.put v t).kind ≠ 3 from hk)]; rfl
   rw [hs] at h3
   rw [hs2]
   obtain ⟨k1, k2, k3, k4, k5, k6, k7, k8, k9, k10⟩ := h3
   refine ⟨k1, rfl, k3, k4, k5, k6, k7, ?_, k9, k10⟩
   show (if t then x.heads.map Hd.tie else x.heads) = []
   rw [show x.heads = [] from k8]; cases t <;> rfl
 ·have := h5 k
  unfold Ev.e2 at this ⊢
  rw [first_zero] at this ⊢
  intro y hy
  simp only [List.mem_cons, List.not_mem_nil, or_false] at hy
  rcases hy with e | e | e
  ·rw [e]
   have h7 := this (Cg x.heads) (by simp)
   show Cg (if t then x.heads.map Hd.tie else x.heads) = 0
   cases t with
   | false => exact h7
   | true => exact P2 (f := Hd.tie) (fun _ => rfl) (fun _ _ j => j) h7
  ·rw [e]; exact this _ (by simp [Ev.put])
  ·rw [e]; exact this _ (by simp [Ev.put])
theorem Ev.err_further {x : Ev} (h : x.err = 0) (hk : x.kind ≠ 3) : x.further.err = 0 := by
 rw [err_iff] at h ⊢
 obtain ⟨h1, h2, h3, h4, h5, h6⟩ := h
 have h6' := first_zero.1 h6
 refine ⟨by rfl, h2, ?_, fun _ => by rfl, fun k => ?_, ?_⟩
 ·by_cases c : x.kind = 1
  ·have : x.further.strip = x.further := (Qi (e := x.further) c).symm
   rw [this]; exact ⟨rfl, rfl, rfl, rfl, rfl, rfl, rfl, rfl, rfl, rfl⟩
  ·have hs : x.strip = ⟨x.site, x.num, x.kind, x.v, [], [], if x.kind ≠ 4 then D7 x.art else 0, 0, x.dyn, [], 0, 0⟩ := by rw [Ev.strip, if_neg (by omega), if_pos hk]
   have hs2 : x.further.strip = ⟨0, 0, x.kind, ⟨0, 0⟩, [], [], if x.kind ≠ 4 then D7 0 else 0, 0, 0, [], 0, 0⟩ := by
    have : ¬ (x.further.kind = 1 ∨ ¬ (1 ≤ x.further.kind ∧ x.further.kind ≤ 4)) := by show ¬ (x.kind = 1 ∨ ¬ (1 ≤ x.kind ∧ x.kind ≤ 4)); omega
    rw [Ev.strip, if_neg this, if_pos (show x.further.kind ≠ 3 from hk)]; rfl
   rw [hs] at h3
   rw [hs2]
   obtain ⟨k1, k2, k3, k4, k5, k6, k7, k8, k9, k10⟩ := h3
   refine ⟨rfl, rfl, ?_, rfl, rfl, k6, rfl, ?_, rfl, rfl⟩
   ·show (0 : Int) = if x.kind ≠ 4 then D7 0 else 0
    split <;> rfl
   ·show x.heads.map Hd.plain = []
    rw [show x.heads = [] from k8]; rfl
 ·have := h5 k
  unfold Ev.e2 at this ⊢
  rw [first_zero] at this ⊢
  intro y hy
  simp only [List.mem_cons, List.not_mem_nil, or_false] at hy
  rcases hy with e | e | e
  ·rw [e]
   exact P2 (f := Hd.plain) (fun _ => rfl) (fun _ _ _ => rfl) (this (Cg x.heads) (by simp))
  ·rw [e]; rfl
  ·rw [e]; rfl
 ·refine first_zero.2 fun y hy => ?_
  simp only [List.mem_cons, List.not_mem_nil, or_false] at hy
  rcases hy with e | e | e | e | e
  ·rw [e]; rfl
  ·rw [e]; rfl
  ·rw [e]; rfl
  ·rw [e]; exact h6' _ (by simp [Ev.further])
  ·rw [e]; rfl
theorem Ev.err_tied {x : Ev} (h : x.err = 0) (hk : x.kind ≠ 3) : x.tiedE.err = 0 := by
 have := Ev.err_put h hk ((err_iff.1 h).2.2.2.1 hk) true
 exact this
theorem Ev.err_rest {x : Ev} (h : x.err = 0) (hk : x.kind = 3) : x.asRest.err = 0 := by
 rw [err_iff] at h ⊢
 obtain ⟨h1, h2, h3, h4, h5, h6⟩ := h
 have hs : x.strip = ⟨x.site, x.num, x.kind, ⟨0, 0⟩, [], [], D7 x.art, 0, x.dyn, [], 0, 0⟩ := by rw [Ev.strip, if_neg (by omega), if_neg (by omega), if_pos (by omega)]
 have hs2 : x.asRest.strip = ⟨x.site, x.num, 2, x.v, [], [], D7 x.art, 0, x.dyn, [], 0, 0⟩ := rfl
 rw [hs] at h3
 obtain ⟨k1, k2, k3, k4, k5, k6, k7, k8, k9, k10⟩ := h3
 refine ⟨h1, (show (1 : Int) ≤ 2 ∧ (2 : Int) ≤ 4 by decide), ?_, fun _ => ?_, fun k => absurd (show (2 : Int) = 1 from k) (by decide), h6⟩
 ·rw [hs2]; exact ⟨rfl, rfl, k3, k4, k5, k6, k7, k8, k9, k10⟩
 ·show C1 x.v = 0
  rw [show x.v = ⟨0, 0⟩ from k2]; rfl
theorem Ev.err_unrest {x : Ev} (h : x.err = 0) : x.unrest.err = 0 ∧ x.unrest.kind ≠ 3 := by
 unfold Ev.unrest
 split
 ·rename_i c; exact ⟨Ev.err_rest h c, (show (2 : Int) ≠ 3 by decide)⟩
 ·rename_i c; exact ⟨h, c⟩
theorem Ev.len_ok {x : Ev} (h : x.err = 0) (hk : x.kind ≠ 3) : x.len = B9 x.v := by
 rw [Ev.len, if_neg (by omega), Pg, if_pos ((err_iff.1 h).2.2.2.1 hk)]
theorem Va {x : Ev} (h : x.err = 0) (hk : x.kind ≠ 3) {v : Val} (hv : C1 v = 0) (n i : Nat) (fu : Bool) : (Fd x n fu i v).err = 0 ∧ (Fd x n fu i v).kind ≠ 3 ∧ (Fd x n fu i v).v = v := by
 unfold Fd
 split
 ·exact ⟨Ev.err_put (Ev.err_further h hk) hk hv _, hk, rfl⟩
 ·exact ⟨Ev.err_put h hk hv _, hk, rfl⟩
theorem Ps {x : Ev} (h : x.err = 0) (hk : x.kind ≠ 3) {vs : List Val} (hv : ∀ v ∈ vs, C1 v = 0) (fu : Bool) : (∀ e ∈ Bi x vs fu, e.err = 0 ∧ e.kind ≠ 3) ∧ wrS (Bi x vs fu) = vs.map B9 := by
 constructor
 ·intro e he
  obtain ⟨i, hi⟩ := List.getElem?_of_mem he
  rw [Bi, List.getElem?_mapIdx] at hi
  cases hv2 : vs[i]? with
  | none => rw [hv2] at hi; cases hi
  | some v =>
   rw [hv2] at hi; cases hi
   have := Va h hk (hv v (List.mem_of_getElem? hv2)) vs.length i fu
   exact ⟨this.1, this.2.1⟩
 ·unfold wrS
  refine List.ext_getElem? fun i => ?_
  rw [List.getElem?_map, Bi, List.getElem?_mapIdx, List.getElem?_map]
  cases hv2 : vs[i]? with
  | none => rfl
  | some v =>
   have := Va h hk (hv v (List.mem_of_getElem? hv2)) vs.length i fu
   simp only [Option.map_some]
   rw [Ev.len_ok this.1 this.2.1, this.2.2]
theorem Agn {p : Int} (h0 : 0 ≤ p) (n : Nat) : (Eh p n).1 + (Eh p n).2 ≤ 2 * p := by
 induction n with
 | zero => simp [Eh]; omega
 | succ n ih => have := (J1 h0 n).1; simp only [Eh]; omega
theorem An4 {v : Val} (h : C1 v = 0) : 0 ≤ B9 v ∧ B9 v ≤ 7741440 := by
 have h1 := Kv v
 have h2 := Agn h1.1 v.dots.toNat
 have h3 := J1 h1.1 v.dots.toNat
 unfold B9
 omega
theorem Ak9 {l : List Ev} (h : ∀ e ∈ l, e.err = 0 ∧ e.kind ≠ 3) : ∀ w ∈ wrS l, 0 ≤ w ∧ w ≤ 7741440 := by
 intro w hw
 obtain ⟨e, he, rfl⟩ := List.mem_map.1 hw
 have := h e he
 rw [Ev.len_ok this.1 this.2]
 exact An4 ((err_iff.1 this.1).2.2.2.1 this.2)
theorem VL.nil {l : List Ev} (h : ∀ e ∈ l, e.err = 0 ∧ e.kind ≠ 3) (hl : l.length ≤ 128) : VL ⟨l, []⟩ (wrS l) := ⟨TL.nil (by rw [H9]; exact hl) (Ak9 h), h⟩
end Go.Proofs.YtcihalbakenleaaGreat
namespace Go.Proofs.YtcihalbakenleaaGreat
theorem TV.mono {l : List Tp} {n m : Int} (h : TV l n) (hm : n ≤ m) : TV l m := ⟨fun t ht => by have := h.inR t ht; unfold Tp.inR at *; omega, h.ord, h.nest, h.dep⟩
theorem TL.err128 {T : List Tp} {ws ls : List Int} (h : TL T ws ls) : D5 T 128 = 0 := tupErr_iff.2 ⟨by omega, by omega, h.tl, h.tv.mono (by have := h.wl; omega)⟩
theorem Lp {T : List Tp} {ws ls : List Int} (h : TL T ws ls) (k : Int) : F6 T k = (hits T k : Int) := by rw [F6, if_neg (by have := h.err128; omega)]
theorem P0 {T : List Tp} {k : Int} (h : hits T k = 0) : ∀ t ∈ T, ¬ t.has k := by
 intro t ht hh
 unfold hits at h
 have := List.eq_nil_of_length_eq_zero h
 rw [List.filter_eq_nil_iff] at this
 exact this t ht (by simpa using hh)
theorem Ud {T : List Tp} {k : Int} (h : ∀ t ∈ T, ¬ t.has k) : Se T k ∧ Se T (k + 1) := by
 refine ⟨fun t ht => ?_, fun t ht => ?_⟩ <;> (have := h t ht; unfold Tp.has at this; unfold Tp.e; omega)
theorem Apf {l : List Ev} (h : ∀ e ∈ l, e.err = 0) : Evs l := fun e he => by
 have := first_zero.1 (err_iff.1 (h e he)).2.2.2.2.2 (Bn e.art 31) (by simp)
 rw [Abk] at this
 omega
theorem L3 {v : Vo} {L : Int} (h : ckE v L = 0) : (∀ e ∈ v.evs, e.err = 0) ∧ Evs v.evs := by
 have h1 : ∀ e ∈ v.evs, e.err = 0 := by
  by_cases c : v.rest
  ·obtain ⟨_, _, e, he, h2, _⟩ := Ny c h
   intro x hx
   rw [he] at hx
   rw [List.mem_singleton.1 hx]; exact h2
  ·obtain ⟨_, _, hv, _⟩ := (Ky c).1 ⟨h, rfl⟩
   exact fun e he => (hv.ev e he).1
 exact ⟨h1, Apf h1⟩
theorem Aev {v x : Vo} {L : Int} {a n : Nat} {lx : List Int} (h : ckE v L = 0) (hr : ¬ v.rest) (ha : a + n ≤ v.evs.length) (h1 : Se v.tups a) (h2 : Se v.tups ((a : Int) + n)) (hx : VL x lx)
  (hc : v.evs.length - n + x.evs.length ≤ 128) (ht : (B0 v a n x).tups.length ≤ 16) (ht2 : v.evs ≠ [] → tot lx = tot (((ckL v L).drop a).take n)) (hn : (B0 v a n x).evs ≠ [] → v.evs ≠ []) :
  ckE (B0 v a n x) L = 0 ∧ ckL (B0 v a n x) L = (ckL v L).take a ++ lx ++ (ckL v L).drop (a + n) ∧ ¬ (B0 v a n x).rest := by
 obtain ⟨h3, h4, hv, h5⟩ := (Ky hr).1 ⟨h, rfl⟩
 have hl := hv.len
 have hR := hv.repl ha h1 h2 hx hc ht
 have := (Ky hR.norest).2 ⟨h3, h4, hR, fun hne => ?_⟩
 ·exact ⟨this.1, this.2.symm, hR.norest⟩
 ·have hne := hn hne
  rw [Js, Js, ht2 hne]
  have e : ckL v L = (ckL v L).take a ++ ((ckL v L).drop a).take n ++ (ckL v L).drop (a + n) := by
   rw [List.append_assoc, ← List.drop_drop, List.take_append_drop, List.take_append_drop]
  have := h5 hne
  rw [e, Js, Js] at this
  exact this
theorem K6 (p : Tp → Bool) (b : Int) : C8 p b [] = [] := rfl
theorem Pp {v : Vo} {a n : Nat} {l : List Ev} : (B0 v a n ⟨l, []⟩).tups.length ≤ v.tups.length := by
 show (C8 _ 0 v.tups ++ C8 _ a [] ++ C8 _ _ v.tups).length ≤ _
 rw [K6, List.append_nil, List.length_append]
 unfold C8
 rw [List.length_map, List.length_map, ← List.countP_eq_length_filter, ← List.countP_eq_length_filter]
 have : ∀ l : List Tp, l.countP (fun t => decide (t.first < (a : Int))) + l.countP (fun t => decide ((a : Int) + n ≤ t.first)) ≤ l.length := by
  intro l
  induction l with
  | nil => simp
  | cons t l ih =>
   rw [List.countP_cons, List.countP_cons, List.length_cons]
   by_cases c : t.first < (a : Int)
   ·have c2 : ¬ (a : Int) + n ≤ t.first := by omega
    simp [c, c2]; omega
   ·simp [c]; split <;> omega
 exact this _
theorem Ant {p : Pl} {t a w : Int} {x : Ev} (hx : x.err = 0) (h1 : p.m.splitE (p.off + a) (p.off + t) = 0) (h2 : p.m.splitE (p.off + t) (p.off + (a + w)) = 0) (hl : (Dg p t a w x).length ≤ 128) :
  VL ⟨Dg p t a w x, []⟩ (wrS (Dg p t a w x)) ∧ tot (wrS (Dg p t a w x)) = w := by
 obtain ⟨q1, q2⟩ := Pm h1
 obtain ⟨q3, q4⟩ := Pm h2
 obtain ⟨u1, u2⟩ := Ev.err_unrest hx
 obtain ⟨k1, k2⟩ := Ps (Ev.err_tied u1 u2) (show x.unrest.tiedE.kind ≠ 3 from u2) q2 false
 obtain ⟨k3, k4⟩ := Ps u1 u2 q4 true
 refine ⟨VL.nil (fun e he => ?_) hl, ?_⟩
 ·rcases List.mem_append.1 he with k | k
  ·exact k1 e k
  ·exact k3 e k
 ·rw [Dg, Qc, k2, k4, Js, q1, q3]; omega
theorem Am7 {l : List Int} {k : Nat} {w : Int} (h : l[k]? = some w) : (l.drop k).take 1 = [w] := by rw [Cj h]; rfl
inductive DivR (v : Vo) (p : Pl) (t : Int) : Prop
 | same (h : Fx v p t = (v, 0))
 | err (h : (Fx v p t).2 ≠ 0) (h1 : (Fx v p t).1 = ⟨[], []⟩)
 | div (k : Nat) (a w : Int) (x : Ev) (hk : v.evs[k]? = some x) (hw : (ckL v p.len)[k]? = some w) (ha : a = tot ((ckL v p.len).take k)) (hat : atV v p.len t = ((k : Int), a)) (hat2 : atE v p.len t = 0) (hne : a ≠ t) (hd : ∀ s ∈ v.tups, ¬ s.has k)
   (h1 : p.m.splitE (p.off + a) (p.off + t) = 0) (h2 : p.m.splitE (p.off + t) (p.off + (a + w)) = 0) (hl : (B0 v k 1 ⟨Dg p t a w x, []⟩).evs.length ≤ 128) (h : Fx v p t = (B0 v k 1 ⟨Dg p t a w x, []⟩, 0))
theorem Qz {v : Vo} {L : Int} (h : ckE v L = 0) : ∃ ws ls, TL v.tups ws ls := by
 by_cases c : v.rest
 ·obtain ⟨e, _⟩ := Ny c h
  rw [e]; exact ⟨[], [], TL.nil (Nat.zero_le _) fun w hw => by cases hw⟩
 ·exact ⟨_, _, ((Ky c).1 ⟨h, rfl⟩).2.2.1.tl⟩
theorem Arh {v : Vo} {p : Pl} (hc : p.chk v = 0) (t : Int) : DivR v p t := by
 obtain ⟨k, a, hat, ha0, ha1, hak⟩ := Ae1 v p.len t
 obtain ⟨hme, hpb, hck⟩ := Iz hc
 obtain ⟨ws, ls, hT⟩ := Qz hck
 by_cases c : atE v p.len t ≠ 0 ∨ a = t
 ·exact .same (Nc hat c)
 ·have he0 : atE v p.len t = 0 := by omega
  obtain ⟨hk, hak2⟩ := hak he0
  have hcl := J2 hck
  obtain ⟨w, hw⟩ : ∃ w, (ckL v p.len)[k]? = some w := Av hk
  obtain ⟨x, hx⟩ : ∃ x, v.evs[k]? = some x := Av (by omega)
  have hd := Fj hat c hx hw
  unfold Kb at hd
  split at hd
  ·exact .err (by rw [hd]; decide) (by rw [hd])
  ·rename_i c1
   split at hd
   ·rename_i c2; exact .err (by rw [hd]; exact c2) (by rw [hd])
   ·rename_i c2
    split at hd
    ·rename_i c3; exact .err (by rw [hd]; exact c3) (by rw [hd])
    ·rename_i c3
     split at hd
     ·exact .err (by rw [hd]; decide) (by rw [hd])
     ·rename_i c4
      rw [Lp hT] at c1
      exact .div k a w x hx hw hak2 hat he0 (by omega) (P0 (by omega)) (by omega) (by omega) (by omega) hd
theorem Ajv {v : Vo} (h : v.rest) {k : Nat} {x : Ev} (hx : v.evs[k]? = some x) : k = 0 ∧ v.evs = [x] ∧ x.kind = 3 := by
 have := (List.getElem?_eq_some_iff.1 hx).1
 rw [h.2] at this
 have hk : k = 0 := by omega
 subst hk
 refine ⟨rfl, ?_, (Ij hx).1 h.1⟩
 have h2 := h.2
 cases hv : v.evs with
 | nil => rw [hv] at hx; cases hx
 | cons y l =>
  rw [hv] at hx h2
  cases hx
  rw [List.eq_nil_of_length_eq_zero (show l.length = 0 by simpa using h2)]
theorem Apr {v : Vo} {L : Int} {p : Pl} {t a w : Int} {k : Nat} {x : Ev} (hck : ckE v L = 0) (hk : v.evs[k]? = some x) (hw : (ckL v L)[k]? = some w) (hd : ∀ s ∈ v.tups, ¬ s.has k)
  (h1 : p.m.splitE (p.off + a) (p.off + t) = 0) (h2 : p.m.splitE (p.off + t) (p.off + (a + w)) = 0) (hl : (B0 v k 1 ⟨Dg p t a w x, []⟩).evs.length ≤ 128) :
  ckE (B0 v k 1 ⟨Dg p t a w x, []⟩) L = 0 ∧ ckL (B0 v k 1 ⟨Dg p t a w x, []⟩) L = (ckL v L).take k ++ wrS (Dg p t a w x) ++ (ckL v L).drop (k + 1) ∧ ¬ (B0 v k 1 ⟨Dg p t a w x, []⟩).rest := by
 have hxe := (L3 hck).1 x (List.mem_of_getElem? hk)
 have hkl := (List.getElem?_eq_some_iff.1 hk).1
 have hlen : (B0 v k 1 ⟨Dg p t a w x, []⟩).evs.length = v.evs.length - 1 + (Dg p t a w x).length := by
  show (v.evs.take k ++ Dg p t a w x ++ v.evs.drop (k + 1)).length = _
  rw [List.length_append, List.length_append, List.length_take, List.length_drop]; omega
 obtain ⟨hN, hs⟩ := Ant hxe h1 h2 (by omega)
 by_cases c : v.rest
 ·obtain ⟨hk0, hv, hx3⟩ := Ajv c hk
  subst hk0
  obtain ⟨ht, hll, _⟩ := Ny c hck
  obtain ⟨h3, h4⟩ := Mq hck
  obtain ⟨_, _, h5, h6⟩ := len_ok h3
  have e : B0 v 0 1 ⟨Dg p t a w x, []⟩ = ⟨Dg p t a w x, []⟩ := by
   unfold B0
   rw [hv, ht, K6, K6, K6]
   simp
  rw [hll] at hw
  cases hw
  rw [e, hll]
  have hnr := hN.norest
  have := (Ky (L := L) (ls := wrS (Dg p t a L x)) hnr).2 ⟨h5, h6, hN, fun _ => hs⟩
  exact ⟨this.1, by rw [← this.2]; simp, hnr⟩
 ·obtain ⟨f1, f2⟩ := Ud hd
  have htl := ((Ky c).1 ⟨hck, rfl⟩).2.2.1.tl.tl
  exact Aev hck c (by omega) f1 (by exact f2) hN (by rw [← hlen]; exact hl) (Nat.le_trans Pp htl) (fun _ => by rw [Am7 hw, hs, Hv, Jr]; omega) (fun _ h => by rw [h] at hkl; simp at hkl)
theorem Akz {v : Vo} {p : Pl} {t : Int} (hc : p.chk v = 0) (h : (Fx v p t).2 = 0) : p.chk (Fx v p t).1 = 0 := by
 obtain ⟨hme, hpb, hck⟩ := Iz hc
 rcases Arh hc t with h | ⟨h', _⟩ | ⟨k, a, w, x, hk, hw, ha, hat, hat2, hne, hd, h1, h2, hl, he⟩
 ·rw [h]; exact hc
 ·exact absurd h h'
 ·rw [he]
  rw [Pl.chk, if_neg (by omega), if_neg hpb]
  exact (Apr hck hk hw hd h1 h2 hl).1
end Go.Proofs.YtcihalbakenleaaGreat
namespace Go.Proofs.YtcihalbakenleaaGreat
open Go.RowKit
def J9 (v : Vo) (k : Int) : Prop := k < v.evs.length ∧ F6 v.tups k = 0
instance (v : Vo) (k : Int) : Decidable (J9 v k) := by unfold J9; exact inferInstance
theorem tiedTo_iff {a b : List Hd} : Pi a b ↔ ∀ p ∈ a.zip b, p.1.tied = true ∧ p.1.p = p.2.p := by
 constructor
 ·intro h p hp
  obtain ⟨j, hj⟩ := List.getElem?_of_mem hp
  rw [List.getElem?_zip_eq_some] at hj
  exact h j p.1 p.2 hj.1 hj.2
 ·intro h j x y hx hy
  exact h (x, y) (List.mem_of_getElem? (List.getElem?_zip_eq_some.2 ⟨hx, hy⟩))
instance (a b : List Hd) : Decidable (Pi a b) := decidable_of_iff _ tiedTo_iff.symm
instance (x y : Ev) (s : Int) : Decidable (x.conts y s) := by unfold Ev.conts; exact inferInstance
theorem Qy {x y : Ev} {s : Int} (h : x.contB y s = true) : x.conts y s := by unfold Ev.contB at h; exact @of_decide_eq_true _ (Classical.propDecidable _) h
theorem Nx {x y : Ev} {s : Int} (h : x.contB y s = false) : ¬ x.conts y s := by unfold Ev.contB at h; exact @of_decide_eq_false _ (Classical.propDecidable _) h
def Qu (x y : Ev) (s : Int) : Prop := ((x.silent ∧ y.silent) ∧ x.kind = y.kind) ∨ x.conts y s
instance (x y : Ev) (s : Int) : Decidable (Qu x y s) := by unfold Qu; exact inferInstance
def Iv (v : Vo) (i k : Nat) : Prop := match v.evs[k - 1]?, v.evs[k]?, v.evs[i]? with
 | some x, some y, some z => Qu x y z.stem
 | _, _, _ => False
instance (v : Vo) (i k : Nat) : Decidable (Iv v i k) := by unfold Iv; split <;> exact inferInstance
theorem Gk {v : Vo} {i k : Nat} {x y z : Ev} (hx : v.evs[k - 1]? = some x) (hy : v.evs[k]? = some y) (hz : v.evs[i]? = some z) : Iv v i k ↔ Qu x y z.stem := by unfold Iv; rw [hx, hy, hz]
def Ki (v : Vo) (i : Nat) : Nat → Nat → Nat
 | 0, k => k
 | f + 1, k => if (J9 v i ∧ J9 v k) ∧ Iv v i k then Ki v i f (k + 1) else k
def A4 (v : Vo) (i : Nat) : Nat := Ki v i v.evs.length (i + 1)
theorem Od {v : Vo} {i k : Nat} (h1 : J9 v i) (h2 : J9 v k) (h3 : Iv v i k) : Ki v i (v.evs.length + (i + 1) - k) k = Ki v i (v.evs.length + (i + 1) - (k + 1)) (k + 1) := by
 have h4 := h2.1
 obtain ⟨f, hf⟩ : ∃ f, v.evs.length + (i + 1) - k = f + 1 := ⟨v.evs.length + (i + 1) - k - 1, by omega⟩
 have hf2 : v.evs.length + (i + 1) - (k + 1) = f := by omega
 rw [hf, hf2, Ki, if_pos ⟨⟨h1, h2⟩, h3⟩]
theorem Ma {v : Vo} {i k : Nat} (h : ¬ ((J9 v i ∧ J9 v k) ∧ Iv v i k)) : Ki v i (v.evs.length + (i + 1) - k) k = k := by
 cases v.evs.length + (i + 1) - k with
 | zero => rfl
 | succ f => rw [Ki, if_neg h]
theorem Ad3 (v : Vo) (k : Int) (h0 : 0 ≤ k) (hl : v.evs.length ≤ 128) : XC Tryz.prog 99 [.v (.int .i64 k), .pt (Vo.c v)] (fun r => r = dB (decide (J9 v k))) := by
 refine An Ab1 Tryz.func99 R R lb<|zr<|za R R<|znr<|zm R R<|zp (Bg R R A0)<|zp (Ax R R Bq)<|XL.len R R R Tryz.underlying22 fun hl7=>zp (Aq R R R)<|zm R R<|?_
 refine XL.dec 9 R (fun g9 => ?_) (fun g9 => ?_)
 exact zp (Bg R R B5)<|zp (Ax R R B3)<|zm R R<|XL.call1 R R (Yu _ _ (by omega) (by omega)) R<|zp (Ay R R R)<|zq R R R<|za R R<|zn<|zt<|z1 R R (rB (by rw [decide_eq_decide]; exact ⟨fun h => ⟨g9, h⟩, fun h => h.2⟩))
 exact zk 5 R<|zq R R R<|za R R<|zn<|zt<|z1 R R (rB (by rw [eq_comm, decide_eq_false_iff_not]; exact fun h => g9 h.1))
theorem Aoj (v : Vo) (i : Nat) (hv : v.fit) (hl : v.evs.length ≤ 128) (hi : i < v.evs.length) : XC Tryz.prog 60 [.agg (Vo.c v), .v (.int .i64 (i : Nat))] (fun r => r = dI (A4 v i : Nat)) := by
 refine An Acv Tryz.func60 R R lb<|zr<|XL.step R (As 2 (l := [.d (.sl 13 (v.evs.map Ev.c)), .d (.sl 4 (v.tups.map Tp.c))]) R R (by kernel_rfl))<|za R R<|znr<|XL.freezeP 2 (ds := Vo.c v) R (by kernel_rfl) (by kernel_rfl)<|zp (Afs (pd := []) (cd := [_]) R R R)<|za R R<|znr<|zm R R<|zp (Aj R R R (by omega) (by omega))<|za R R<|zn<|zs<|?_
 refine Ag<|?_
 refine Au (α := Nat) (fun k => Ki v i (v.evs.length + (i + 1) - k) k = A4 v i ∧ i + 1 ≤ k ∧ (k = i + 1 ∨ k ≤ v.evs.length)) (fun k => mkF [(1, .d (dI (i : Nat))), (2, .d (.pt (Vo.c v))), (4, .d (dI 0)), (5, .d (.fn 99 [] [.pt (Vo.c v)])), (6, .d (dI (k : Nat)))]) (fun k => mkH []) (fun k => v.evs.length - k) (i + 1) (⟨by rw [Nat.add_sub_cancel]; rfl, Nat.le_refl _, .inl rfl⟩) ?_ ?_ ?_
 exact fz ⟨sr, sr, sr, sr, .same (sI (by omega)), trivial⟩
 exact HSub.nil
 intro k hk0
 obtain ⟨hgo, hk1, hk2⟩ := hk0
 refine zs<|zr<|zm R R<|zm R R<|XL.callv1 (ds := [_]) R R R (Ad3 v i (by omega) hl) R<|zm R R<|?_
 refine XL.dec 16 R (fun g16 => ?_) (fun g16 => ?_)
 refine zm R R<|zm R R<|XL.callv1 (ds := [_]) R R R (Ad3 v k (by omega) hl) R<|zq R R R<|zn<|?_
 refine zd R (fun c20 => ?_) (fun c20 => ?_)
 refine zi<|Ag<|zs<|?_
 have hkl := c20.1
 obtain ⟨x, hx⟩ : ∃ x, v.evs[k - 1]? = some x := Av (by omega)
 obtain ⟨y, hy⟩ : ∃ y, v.evs[k]? = some y := Av (by omega)
 obtain ⟨z, hz⟩ : ∃ z, v.evs[i]? = some z := Av hi
 have hyf := hv.ev y (List.mem_of_getElem? hy)
 refine Jj 13 14 [7, 8] id 7 (R3 7 (.box [.d (dI x.site), .d (dI x.num), .d (dI x.kind), .d (dI x.v.log), .d (dI x.v.dots), .d (.sl 5 (x.heads.map Hd.c)), .d (.sl 5 (x.graces.map Gr.c)), .d (dI x.art), .d (dI x.orn), .d (dI x.dyn), .d (.sl 2 (x.lyr.map Sy.c)), .d (dI x.stem), .d (dI x.beam)])) (by kernel_rfl) (by kernel_rfl) (by kernel_rfl) (by kernel_rfl) (by decide)<|?_
 refine ChMK.bf R (CStep.pure (Bg R R A0)) (by conv => lhs; whnf)<|?_
 refine ChMK.bf R (CStep.pure (Ax R R Bq)) (by conv => lhs; whnf)<|?_
 refine ChMK.bf R (CStep.pure (Ar R (by conv => lhs; whnf))) (by conv => lhs; whnf)<|?_
 refine ChMK.bf R (CStep.pure (Dj R R R (by omega) (by omega))) (by conv => lhs; whnf)<|?_
 refine ChMK.bf R (CStep.pure (F1 R R R (by omega) Ct (hx))) (by conv => lhs; whnf)<|?_
 refine ChMK.bf R (CStep.pure (Ae (s' := .d (.agg (Ev.c x))) (At R R Aw lb) (by kernel_rfl))) (by conv => lhs; whnf)<|?_
 refine ChMK.fr R R (CStep.pure (Bg R R A0)) (CStep.pure (Bg R R A0)) (by exact rfl)<|ChMK.fr R R (CStep.pure (Ax R R Bq)) (CStep.pure (Ax R R Bq)) (by exact rfl)<|ChMK.fr R R (CStep.pure (Ar R (by conv => lhs; whnf))) (CStep.pure (Ar R (by conv => lhs; whnf))) (by exact rfl)<|?_
 refine ChMK.fr R R (CStep.pure (Ak R R R Ct (hy))) (CStep.pure (Ak R R R Ct (hy))) (by exact rfl)<|ChMK.fr R R (CStep.pure (Ae (s' := .d (.agg (Ev.c y))) (At R R Aw lb) (by kernel_rfl))) (CStep.pure (Ae (s' := .d (.agg (Ev.c y))) (At R R Aw lb) (by kernel_rfl))) (by exact rfl)<|?_
 refine ChMK.bfO R (CStep.allocN 7 (l := [.d (dI 0), .d (dI 0), .d (dI 0), .d (dI 0), .d (dI 0), .d (.v (.slice none 0 0)), .d (.v (.slice none 0 0)), .d (dI 0), .d (dI 0), .d (dI 0), .d (.v (.slice none 0 0)), .d (dI 0), .d (dI 0)]) R Bs R R) (by conv => lhs; whnf) (fun _ _ => Ake _ _)<|?_
 refine ChMK.bfN R (CStep.allocN 8 (l := [.d (dI 0), .d (dI 0), .d (dI 0), .d (dI 0), .d (dI 0), .d (.v (.slice none 0 0)), .d (.v (.slice none 0 0)), .d (dI 0), .d (dI 0), .d (dI 0), .d (.v (.slice none 0 0)), .d (dI 0), .d (dI 0)]) R Bs R R) (by conv => lhs; whnf) R R<|?_
 refine ChMK.mu R (Am5 (l2 := [.d (dI x.site), .d (dI x.num), .d (dI x.kind), .d (dI x.v.log), .d (dI x.v.dots), .d (.sl 5 (x.heads.map Hd.c)), .d (.sl 5 (x.graces.map Gr.c)), .d (dI x.art), .d (dI x.orn), .d (dI x.dyn), .d (.sl 2 (x.lyr.map Sy.c)), .d (dI x.stem), .d (dI x.beam)]) R R R R Bw R lb (by kernel_rfl))<|?_
 refine ChMK.nil ⟨⟨by kernel_rfl, by kernel_rfl, by kernel_rfl⟩, ?_⟩
 refine XL.step R (Ah (l' := [.d (dI y.site), .d (dI y.num), .d (dI y.kind), .d (dI y.v.log), .d (dI y.v.dots), .d (.sl 5 (y.heads.map Hd.c)), .d (.sl 5 (y.graces.map Gr.c)), .d (dI y.art), .d (dI y.orn), .d (dI y.dyn), .d (.sl 2 (y.lyr.map Sy.c)), .d (dI y.stem), .d (dI y.beam)]) R R R R Bw R lb (by kernel_rfl))<|znr<|?_
 refine zp (Ae (s' := .d (.agg (Ev.c x))) (Ad (Ac R R Aw R lb)) (by kernel_rfl))<|XL.call1 R R (Us _) R<|zm R R<|?_
 refine XL.dec 34 R (fun g34 => ?_) (fun g34 => ?_)
 refine zp (Ae (s' := .d (.agg (Ev.c y))) (Ad (Ac R R Aw R lb)) (by kernel_rfl))<|XL.call1 R R (Us _) R<|zq R R R<|zm R R<|?_
 refine XL.dec 38 R (fun g38 => ?_) (fun g38 => ?_)
 refine zp (Aa R R Bv)<|zp (Ab R R Ai R R)<|zp (Aa R R Bv)<|zp (Ab R R Ai R R)<|zp (Ay R R R)<|zq R R R<|za R R<|zn<|zs<|zs<|?_
 refine Ajc 9 R (fun o9 => ?_) (fun o9 => ?_)
 refine Bc [] (by kernel_rfl) (by kernel_rfl) (by kernel_rfl) (by decide)<|ym R R<|yp (C3 R R)<|ym R R<|ChK.skip R<|ChK.skip R<|ChK.skip R<|ChK.skip R<|ChK.skip R<|ChK.skip R<|ChK.skip R<|ChK.skip R<|ChK.skip R<|ChK.skip R<|?_
 refine yp (A6 R R (by conv => lhs; whnf))<|?_
 refine ChK.nil ⟨by kernel_rfl, ?_⟩
 refine A3 (by kernel_rfl) R<|zi<|Af (by kernel_rfl)<|zm R R<|zp (Aj R R R (by omega) (by omega))<|za R R<|zn<|Ig<|?_
 exact Al (k + 1) (⟨by rw [← Od g16 c20 ((Gk hx hy hz).2 (by first | exact .inl ⟨⟨g34, g38⟩, o9⟩ | exact .inr (Qy (Ho c58))))]; exact hgo, by omega, by have := c20.1; omega⟩) (by have := c20.1; omega) (fz ⟨sr, sr, sr, sr, .same (sI (by omega)), trivial⟩) (HSub.nil)
 refine Bc [] (by kernel_rfl) (by kernel_rfl) (by kernel_rfl) (by decide)<|ym R R<|yp (C3 R R)<|ym R R<|yp (Ae (s' := .d (.agg (Ev.c x))) (Ad (Ac R R Aw R lb)) (by kernel_rfl))<|yp (Ae (s' := .d (.agg (Ev.c y))) (Ad (Ac R R Aw R lb)) (by kernel_rfl))<|yp (Bg R R A0)<|yp (Ax R R Bq)<|ym R R<|yp (Ak R R R Ct (hz))<|?_
 refine yp (Bg R R D4)<|yp (Ax R R Ai)<|ChK.cons R (CStep.call R (Sa _ _ _ (hyf.1)) R)<|yp (C3 R R)<|yp (A6 R R (by conv => lhs; whnf))<|?_
 refine ChK.nil ⟨by kernel_rfl, ?_⟩
 refine Du (by kernel_rfl) R (fun c58 => ?_) (fun c58 => ?_)
 exact Ap<|zr<|zm R R<|za R R<|zn<|zt<|z1 R R (rI (by rw [← hgo, Ma (by first | exact fun h => g16 h.1.1 | exact fun h => c20 h.1.2 | exact fun h => (fun hj => hj.elim (fun k => by first | exact o9 k.2 | exact g38 k.1.2 | exact g34 k.1.1) (fun k => Nx (D8 c58) k)) ((Gk hx hy hz).1 h.2))]))
 refine zi<|Af (by kernel_rfl)<|zm R R<|zp (Aj R R R (by omega) (by omega))<|za R R<|zn<|Ig<|?_
 exact Al (k + 1) (⟨by rw [← Od g16 c20 ((Gk hx hy hz).2 (by first | exact .inl ⟨⟨g34, g38⟩, o9⟩ | exact .inr (Qy (Ho c58))))]; exact hgo, by omega, by have := c20.1; omega⟩) (by have := c20.1; omega) (fz ⟨sr, sr, sr, sr, .same (sI (by omega)), trivial⟩) (HSub.nil)
 refine zk 5 R<|zq R R R<|za R R<|zn<|zs<|zs<|Bc [] (by kernel_rfl) (by kernel_rfl) (by kernel_rfl) (by decide)<|ym R R<|yp (C3 R R)<|ym R R<|yp (Ae (s' := .d (.agg (Ev.c x))) (Ad (Ac R R Aw R lb)) (by kernel_rfl))<|yp (Ae (s' := .d (.agg (Ev.c y))) (Ad (Ac R R Aw R lb)) (by kernel_rfl))<|yp (Bg R R A0)<|yp (Ax R R Bq)<|?_
 refine ym R R<|yp (Ak R R R Ct (hz))<|yp (Bg R R D4)<|yp (Ax R R Ai)<|ChK.cons R (CStep.call R (Sa _ _ _ (hyf.1)) R)<|yp (C3 R R)<|yp (A6 R R (by conv => lhs; whnf))<|?_
 refine ChK.nil ⟨by kernel_rfl, ?_⟩
 refine Du (by kernel_rfl) R (fun c58 => ?_) (fun c58 => ?_)
 exact Ap<|zr<|zm R R<|za R R<|zn<|zt<|z1 R R (rI (by rw [← hgo, Ma (by first | exact fun h => g16 h.1.1 | exact fun h => c20 h.1.2 | exact fun h => (fun hj => hj.elim (fun k => by first | exact o9 k.2 | exact g38 k.1.2 | exact g34 k.1.1) (fun k => Nx (D8 c58) k)) ((Gk hx hy hz).1 h.2))]))
 refine zi<|Af (by kernel_rfl)<|zm R R<|zp (Aj R R R (by omega) (by omega))<|za R R<|zn<|Ig<|?_
 exact Al (k + 1) (⟨by rw [← Od g16 c20 ((Gk hx hy hz).2 (by first | exact .inl ⟨⟨g34, g38⟩, o9⟩ | exact .inr (Qy (Ho c58))))]; exact hgo, by omega, by have := c20.1; omega⟩) (by have := c20.1; omega) (fz ⟨sr, sr, sr, sr, .same (sI (by omega)), trivial⟩) (HSub.nil)
 refine zk 2 R<|zq R R R<|zm R R<|zk 5 R<|zq R R R<|za R R<|zn<|zs<|zs<|Bc [] (by kernel_rfl) (by kernel_rfl) (by kernel_rfl) (by decide)<|ym R R<|yp (C3 R R)<|ym R R<|yp (Ae (s' := .d (.agg (Ev.c x))) (Ad (Ac R R Aw R lb)) (by kernel_rfl))<|?_
 refine yp (Ae (s' := .d (.agg (Ev.c y))) (Ad (Ac R R Aw R lb)) (by kernel_rfl))<|yp (Bg R R A0)<|yp (Ax R R Bq)<|ym R R<|yp (Ak R R R Ct (hz))<|yp (Bg R R D4)<|yp (Ax R R Ai)<|ChK.cons R (CStep.call R (Sa _ _ _ (hyf.1)) R)<|yp (C3 R R)<|yp (A6 R R (by conv => lhs; whnf))<|?_
 refine ChK.nil ⟨by kernel_rfl, ?_⟩
 refine Du (by kernel_rfl) R (fun c58 => ?_) (fun c58 => ?_)
 exact Ap<|zr<|zm R R<|za R R<|zn<|zt<|z1 R R (rI (by rw [← hgo, Ma (by first | exact fun h => g16 h.1.1 | exact fun h => c20 h.1.2 | exact fun h => (fun hj => hj.elim (fun k => by first | exact o9 k.2 | exact g38 k.1.2 | exact g34 k.1.1) (fun k => Nx (D8 c58) k)) ((Gk hx hy hz).1 h.2))]))
 refine zi<|Af (by kernel_rfl)<|zm R R<|zp (Aj R R R (by omega) (by omega))<|za R R<|zn<|Ig<|?_
 exact Al (k + 1) (⟨by rw [← Od g16 c20 ((Gk hx hy hz).2 (by first | exact .inl ⟨⟨g34, g38⟩, o9⟩ | exact .inr (Qy (Ho c58))))]; exact hgo, by omega, by have := c20.1; omega⟩) (by have := c20.1; omega) (fz ⟨sr, sr, sr, sr, .same (sI (by omega)), trivial⟩) (HSub.nil)
 exact Ap<|zr<|zm R R<|za R R<|zn<|zt<|z1 R R (rI (by rw [← hgo, Ma (by first | exact fun h => g16 h.1.1 | exact fun h => c20 h.1.2 | exact fun h => (fun hj => hj.elim (fun k => by first | exact o9 k.2 | exact g38 k.1.2 | exact g34 k.1.1) (fun k => Nx (D8 c58) k)) ((Gk hx hy hz).1 h.2))]))
 exact zk 3 R<|zq R R R<|zn<|A3 (by kernel_rfl) R<|Ap<|zr<|zm R R<|za R R<|zn<|zt<|z1 R R (rI (by rw [← hgo, Ma (by first | exact fun h => g16 h.1.1 | exact fun h => c20 h.1.2 | exact fun h => (fun hj => hj.elim (fun k => by first | exact o9 k.2 | exact g38 k.1.2 | exact g34 k.1.1) (fun k => Nx (D8 c58) k)) ((Gk hx hy hz).1 h.2))]))
end Go.Proofs.YtcihalbakenleaaGreat
namespace Go.Proofs.YtcihalbakenleaaGreat
def Jb {α : Type} (f : Nat → α → α) (l : List α) (k : Nat) : List α := l.mapIdx fun i a => if i < k then f i a else a
theorem Rl {α : Type} (f : Nat → α → α) (l : List α) (k : Nat) : (Jb f l k).length = l.length := by rw [Jb, List.length_mapIdx]
theorem Um {α : Type} (f : Nat → α → α) (l : List α) : Jb f l 0 = l := by
 refine List.ext_getElem? fun i => ?_
 rw [Jb, List.getElem?_mapIdx]
 cases l[i]? <;> simp
theorem W5 {α : Type} {f : Nat → α → α} {l : List α} {k : Nat} (h : l.length ≤ k) : Jb f l k = l.mapIdx f := by
 refine List.ext_getElem? fun i => ?_
 rw [Jb, List.getElem?_mapIdx, List.getElem?_mapIdx]
 cases hi : l[i]? with
 | none => rfl
 | some a => have := (List.getElem?_eq_some_iff.1 hi).1; simp only [Option.map_some]; rw [if_pos (by omega)]
theorem W4 {α : Type} {f : Nat → α → α} {l : List α} {k : Nat} {x : α} (h : l[k]? = some x) : (Jb f l k)[k]? = some x := by
 rw [Jb, List.getElem?_mapIdx, h]; simp
theorem W3 {α : Type} {f : Nat → α → α} {l : List α} {k : Nat} {x : α} (h : l[k]? = some x) : Jb f l (k + 1) = (Jb f l k).set k (f k x) := by
 refine List.ext_getElem? fun i => ?_
 have hk := (List.getElem?_eq_some_iff.1 h).1
 rw [List.getElem?_set, Jb, List.getElem?_mapIdx]
 by_cases e : k = i
 ·subst e
  rw [if_pos rfl, if_pos (by rw [Rl]; exact hk), h]
  simp
 ·rw [if_neg e, Jb, List.getElem?_mapIdx]
  cases l[i]? with
  | none => rfl
  | some a => simp only [Option.map_some]; by_cases c : i < k <;> simp [c] <;> omega
def Ev.reh (x : Ev) (hs : List Hd) : Ev := ⟨x.site, x.num, x.kind, x.v, hs, x.graces, x.art, x.orn, x.dyn, x.lyr, x.stem, x.beam⟩
def Ev.reid (x o : Ev) : Ev := ⟨o.site, o.num, x.kind, x.v, x.heads, x.graces, x.art, x.orn, x.dyn, x.lyr, x.stem, x.beam⟩
theorem Ev.err_reh {x : Ev} (h : x.err = 0) (hk : x.kind ≠ 3) {hs : List Hd} (h1 : x.heads = [] → hs = []) (h2 : Cg x.heads = 0 → Cg hs = 0) : (x.reh hs).err = 0 := by
 rw [err_iff] at h ⊢
 obtain ⟨q1, q2, q3, q4, q5, q6⟩ := h
 refine ⟨q1, q2, ?_, q4, fun k => ?_, q6⟩
 ·by_cases c : x.kind = 1
  ·have : (x.reh hs).strip = x.reh hs := (Qi (e := x.reh hs) c).symm
   rw [this]; exact ⟨rfl, rfl, rfl, rfl, rfl, rfl, rfl, rfl, rfl, rfl⟩
  ·have hs1 : x.strip = ⟨x.site, x.num, x.kind, x.v, [], [], if x.kind ≠ 4 then D7 x.art else 0, 0, x.dyn, [], 0, 0⟩ := by rw [Ev.strip, if_neg (by omega), if_pos hk]
   have hs2 : (x.reh hs).strip = ⟨x.site, x.num, x.kind, x.v, [], [], if x.kind ≠ 4 then D7 x.art else 0, 0, x.dyn, [], 0, 0⟩ := by
    have : ¬ ((x.reh hs).kind = 1 ∨ ¬ (1 ≤ (x.reh hs).kind ∧ (x.reh hs).kind ≤ 4)) := by show ¬ (x.kind = 1 ∨ ¬ (1 ≤ x.kind ∧ x.kind ≤ 4)); omega
    rw [Ev.strip, if_neg this, if_pos (show (x.reh hs).kind ≠ 3 from hk)]; rfl
   rw [hs1] at q3
   rw [hs2]
   obtain ⟨k1, k2, k3, k4, k5, k6, k7, k8, k9, k10⟩ := q3
   exact ⟨k1, k2, k3, k4, k5, k6, k7, h1 k8, k9, k10⟩
 ·have := q5 k
  unfold Ev.e2 at this ⊢
  rw [first_zero] at this ⊢
  intro y hy
  simp only [List.mem_cons, List.not_mem_nil, or_false] at hy
  rcases hy with e | e | e
  ·rw [e]; exact h2 (this (Cg x.heads) (by simp))
  ·rw [e]; exact this _ (by simp [Ev.reh])
  ·rw [e]; exact this _ (by simp [Ev.reh])
theorem Ev.err_reid {x o : Ev} (h : x.err = 0) (ho : o.err = 0) : (x.reid o).err = 0 := by
 rw [err_iff] at h ho ⊢
 refine ⟨ho.1, h.2.1, ?_, h.2.2.2.1, h.2.2.2.2.1, h.2.2.2.2.2⟩
 have h3 := h.2.2.1
 by_cases c : x.kind = 1 ∨ ¬ (1 ≤ x.kind ∧ x.kind ≤ 4)
 ·rw [Ev.strip, if_pos (show (x.reid o).kind = 1 ∨ ¬ (1 ≤ (x.reid o).kind ∧ (x.reid o).kind ≤ 4) from c)]
  exact ⟨rfl, rfl, rfl, rfl, rfl, rfl, rfl, rfl, rfl, rfl⟩
 ·rw [Ev.strip, if_neg c] at h3
  rw [Ev.strip, if_neg (show ¬ ((x.reid o).kind = 1 ∨ ¬ (1 ≤ (x.reid o).kind ∧ (x.reid o).kind ≤ 4)) from c)]
  exact h3
theorem Ev.no_heads {x : Ev} (h : x.err = 0) (hk : x.kind ≠ 1) : x.heads = [] := by
 rw [err_iff] at h
 obtain ⟨q1, q2, q3, q4, q5, q6⟩ := h
 rw [Ev.strip, if_neg (by omega)] at q3
 exact q3.2.2.2.2.2.2.2.1
theorem P1 : ∀ {l l' : List Hd} {n : Int}, l.length = l'.length → (∀ (j : Nat) a b, l[j]? = some a → l'[j]? = some b → a.p = b.p ∧ a.sh = b.sh) → Ed n l' = Ed n l
 | [], [], n, _, _ => rfl
 | a :: l, b :: l', n, hl, h => by
  obtain ⟨h1, h2⟩ := h 0 a b rfl rfl
  have h3 : Ed a.p.num l' = Ed a.p.num l := P1 (by simpa using hl) fun j x y hx hy => h (j + 1) x y hx hy
  rw [Ed, Ed, ← h1, h3, show He b = He a by rw [He, He, h1, h2]]
theorem Wa {l l' : List Hd} (hl : l.length = l'.length) (h : ∀ (j : Nat) a b, l[j]? = some a → l'[j]? = some b → a.p = b.p ∧ a.sh = b.sh) : Cg l' = Cg l := by
 unfold Cg
 rw [hl, P1 hl h]
def J3 (b : List Hd) (j : Nat) (h : Hd) : Hd := match b[j]? with | some g => ⟨h.p, g.tied, h.sh⟩ | none => h
def Gg (a b : List Hd) : List Hd := a.mapIdx (J3 b)
theorem Ajn {b : List Hd} {j : Nat} {h g : Hd} (hg : b[j]? = some g) : J3 b j h = ⟨h.p, g.tied, h.sh⟩ := by rw [J3, hg]
theorem Amc (b : List Hd) (j : Nat) (h : Hd) : (J3 b j h).p = h.p ∧ (J3 b j h).sh = h.sh := by unfold J3; split <;> exact ⟨rfl, rfl⟩
theorem Up (a b : List Hd) : (Gg a b).length = a.length := by rw [Gg, List.length_mapIdx]
theorem Ag8 (a b : List Hd) : Cg (Gg a b) = Cg a := by
 refine Wa (Up a b).symm fun j x y hx hy => ?_
 rw [Gg, List.getElem?_mapIdx, hx] at hy
 cases hy
 have := Amc b j x
 exact ⟨this.1.symm, this.2.symm⟩
def Lg (os : List Ev) (j : Nat) (e : Ev) : Ev := match os[j]? with | some o => e.reid o | none => e
def Oy (js os : List Ev) : List Ev := js.mapIdx (Lg os)
theorem Ang {os : List Ev} {j : Nat} {e o : Ev} (h : os[j]? = some o) : Lg os j e = e.reid o := by rw [Lg, h]
theorem Ye (js os : List Ev) : (Oy js os).length = js.length := by rw [Oy, List.length_mapIdx]
theorem Aej {os : List Ev} {j : Nat} {e : Ev} (h : e.err = 0 ∧ e.kind ≠ 3) (ho : ∀ o ∈ os, o.err = 0) : (Lg os j e).err = 0 ∧ (Lg os j e).kind ≠ 3 ∧ (Lg os j e).len = e.len := by
 unfold Lg
 split
 ·rename_i o hj
  have h1 := Ev.err_reid h.1 (ho o (List.mem_of_getElem? hj))
  exact ⟨h1, h.2, by rw [Ev.len_ok h1 h.2, Ev.len_ok h.1 h.2]; rfl⟩
 ·exact ⟨h.1, h.2, rfl⟩
theorem Anf {js os : List Ev} (h : ∀ e ∈ js, e.err = 0 ∧ e.kind ≠ 3) (ho : ∀ o ∈ os, o.err = 0) : (∀ e ∈ Oy js os, e.err = 0 ∧ e.kind ≠ 3) ∧ wrS (Oy js os) = wrS js := by
 constructor
 ·intro e he
  obtain ⟨j, hj⟩ := List.getElem?_of_mem he
  rw [Oy, List.getElem?_mapIdx] at hj
  cases hv : js[j]? with
  | none => rw [hv] at hj; cases hj
  | some x =>
   rw [hv] at hj; cases hj
   have := Aej (os := os) (j := j) (h x (List.mem_of_getElem? hv)) ho
   exact ⟨this.1, this.2.1⟩
 ·unfold wrS
  refine List.ext_getElem? fun j => ?_
  rw [List.getElem?_map, List.getElem?_map, Oy, List.getElem?_mapIdx]
  cases hv : js[j]? with
  | none => rfl
  | some x => simp only [Option.map_some]; rw [(Aej (os := os) (j := j) (h x (List.mem_of_getElem? hv)) ho).2.2]
theorem Ako {js os : List Ev} (h : ∀ e ∈ js, e.fit) : ∀ e ∈ Oy js os, e.fit := by
 intro e he
 obtain ⟨j, hj⟩ := List.getElem?_of_mem he
 rw [Oy, List.getElem?_mapIdx] at hj
 cases hv : js[j]? with
 | none => rw [hv] at hj; cases hj
 | some x =>
  rw [hv] at hj; cases hj
  have := h x (List.mem_of_getElem? hv)
  unfold Lg
  split
  ·exact this
  ·exact this
theorem Ad5 {x : Ev} (h : x.fit) (b : List Hd) : (x.reh (Gg x.heads b)).fit := ⟨by show (Gg x.heads b).length ≤ 1000; rw [Up]; exact h.1, h.2⟩
theorem Ad2 (v : Vo) (i : Nat) : ∀ f k, k ≤ Ki v i f k
 | 0, k => Nat.le_refl _
 | f + 1, k => by
  rw [Ki]; split
  ·have := Ad2 v i f (k + 1); omega
  ·exact Nat.le_refl _
theorem Md {v : Vo} {i : Nat} : ∀ f k j, k ≤ j → j < Ki v i f k → (J9 v i ∧ J9 v j) ∧ Iv v i j
 | 0, k, j, h1, h2 => by rw [Ki] at h2; omega
 | f + 1, k, j, h1, h2 => by
  rw [Ki] at h2
  split at h2
  ·rename_i c
   by_cases e : k = j
   ·rw [← e]; exact c
   ·exact Md f (k + 1) j (by omega) h2
  ·omega
theorem Xg {v : Vo} {i : Nat} (hi : i < v.evs.length) : i + 1 ≤ A4 v i ∧ A4 v i ≤ v.evs.length := by
 have h1 : i + 1 ≤ A4 v i := Ad2 v i _ _
 refine ⟨h1, ?_⟩
 by_cases c : A4 v i = i + 1
 ·omega
 ·have := (Md (v := v) (i := i) _ (i + 1) (A4 v i - 1) (by omega) (by show _ < A4 v i; omega)).1.2.1
  omega
theorem Xf {v : Vo} {i : Nat} (h : 1 < A4 v i - i) {j : Nat} (h1 : i ≤ j) (h2 : j < A4 v i) : F6 v.tups j = 0 := by
 by_cases c : j = i
 ·rw [c]; exact (Md (v := v) (i := i) _ (i + 1) (i + 1) (by omega) (by show _ < A4 v i; omega)).1.1.2
 ·exact (Md (v := v) (i := i) _ (i + 1) j (by omega) h2).1.2.2
theorem Vr {x y : Ev} {s : Int} (hx : x.err = 0) (hy : y.err = 0) (h : Qu x y s) : x.heads.length = y.heads.length ∧ x.kind ≠ 3 := by
 rcases h with ⟨⟨h1, h2⟩, h3⟩ | h
 ·unfold Ev.silent at h1 h2
  rw [Ev.no_heads hx (by omega), Ev.no_heads hy (by omega)]
  exact ⟨rfl, by omega⟩
 ·exact ⟨h.2.1, by have := h.1; omega⟩
theorem Xe {v : Vo} {i j : Nat} (h1 : i < j) (h2 : j < A4 v i) : Iv v i j := (Md (v := v) (i := i) _ (i + 1) j (by omega) h2).2
theorem Vs {v : Vo} {i j : Nat} (h : Iv v i j) : ∃ x y z, v.evs[j - 1]? = some x ∧ v.evs[j]? = some y ∧ v.evs[i]? = some z ∧ Qu x y z.stem := by
 unfold Iv at h
 split at h
 ·rename_i x y z hx hy hz; exact ⟨x, y, z, hx, hy, hz, h⟩
 ·exact h.elim
theorem Uv {v : Vo} (hE : ∀ e ∈ v.evs, e.err = 0) {i : Nat} {x : Ev} (hx : v.evs[i]? = some x) : ∀ (n : Nat) {y : Ev}, i + n < A4 v i → v.evs[i + n]? = some y → x.heads.length = y.heads.length
 | 0, y, _, hy => by rw [Nat.add_zero, hx] at hy; cases hy; rfl
 | n + 1, y, h, hy => by
  obtain ⟨a, b, z, ha, hb, hz, hj⟩ := Vs (Xe (v := v) (i := i) (j := i + (n + 1)) (by omega) h)
  rw [hy] at hb; cases hb
  rw [show i + (n + 1) - 1 = i + n by omega] at ha
  have := Uv hE hx n (by omega) ha
  rw [this]
  exact (Vr (hE a (List.mem_of_getElem? ha)) (hE _ (List.mem_of_getElem? hy)) hj).1
theorem Aju {v : Vo} (hE : ∀ e ∈ v.evs, e.err = 0) {i : Nat} {x : Ev} (hx : v.evs[i]? = some x) (h : 1 < A4 v i - i) : x.kind ≠ 3 := by
 obtain ⟨a, b, z, ha, hb, hz, hj⟩ := Vs (Xe (v := v) (i := i) (j := i + 1) (by omega) (by omega))
 rw [show i + 1 - 1 = i by omega, hx] at ha
 cases ha
 exact (Vr (hE _ (List.mem_of_getElem? hx)) (hE _ (List.mem_of_getElem? hb)) hj).2
def smJ (p : Pl) (a b : Int) (n : Nat) : Prop := ((1 < n ∧ (p.off + a) % 7560 = 0) ∧ (p.off + b) % 7560 = 0) ∧ p.m.splitE (p.off + a) (p.off + b) = 0 ∧ (p.m.split (p.off + a) (p.off + b)).length < n
instance (p : Pl) (a b : Int) (n : Nat) : Decidable (smJ p a b n) := by unfold smJ; exact inferInstance
def smA (v : Vo) (p : Pl) (i : Nat) : Int := tot ((ckL v p.len).take i)
def Dh (v : Vo) (p : Pl) (i : Nat) (x y : Ev) : List Ev := Oy (Bi (x.reh (Gg x.heads y.heads)) (p.m.split (p.off + smA v p i) (p.off + smA v p (A4 v i))) false) (v.evs.drop i)
def T8 (v : Vo) (p : Pl) (i : Nat) : List Ev := match v.evs[i]?, v.evs[A4 v i - 1]? with
 | some x, some y => Dh v p i x y
 | _, _ => []
def smN (v : Vo) (p : Pl) (i : Nat) : Vo × Nat :=
 if smJ p (smA v p i) (smA v p (A4 v i)) (A4 v i - i) then (B0 v i (A4 v i - i) ⟨T8 v p i, []⟩, i + (T8 v p i).length) else (v, A4 v i)
def Ss (p : Pl) : Nat → Vo × Nat → Vo
 | 0, q => q.1
 | f + 1, q => if q.2 < q.1.evs.length then Ss p f (smN q.1 p q.2) else q.1
def Afb (v : Vo) (p : Pl) : Vo := Ss p v.evs.length (v, 0)
def Ro (v : Vo) (p : Pl) : Vo × Int := if p.chk v ≠ 0 then (⟨[], []⟩, p.chk v) else (Afb v p, 0)
theorem Ge {v : Vo} {p : Pl} {i : Nat} (h : ¬ smJ p (smA v p i) (smA v p (A4 v i)) (A4 v i - i)) : smN v p i = (v, A4 v i) := by rw [smN, if_neg h]
theorem Qk {v : Vo} {p : Pl} {i : Nat} {x y : Ev} (hx : v.evs[i]? = some x) (hy : v.evs[A4 v i - 1]? = some y) (h : smJ p (smA v p i) (smA v p (A4 v i)) (A4 v i - i)) : smN v p i = (B0 v i (A4 v i - i) ⟨Dh v p i x y, []⟩, i + (Dh v p i x y).length) := by
 rw [smN, if_pos h, T8, hx, hy]
theorem Ahq {v : Vo} {k n : Nat} {l : List Ev} (hv : v.fit) (hl : ∀ e ∈ l, e.fit) (hs : Sml v) (h : (B0 v k n ⟨l, []⟩).evs.length ≤ 1000) : (B0 v k n ⟨l, []⟩).fit := by
 refine ⟨h, ?_, fun e he => ?_⟩
 ·have h1 := Pp (v := v) (a := k) (n := n) (l := l)
  have h2 := hs.tups
  omega
 ·simp only [B0] at he
  rcases List.mem_append.1 he with he | he
  ·rcases List.mem_append.1 he with he | he
   ·exact hv.ev e (List.mem_of_mem_take he)
   ·exact hl e he
  ·exact hv.ev e (List.mem_of_mem_drop he)
theorem Xl {v : Vo} {a n : Nat} {l : List Ev} (h : a + n ≤ v.evs.length) : (B0 v a n ⟨l, []⟩).evs.length = v.evs.length - n + l.length := by
 show (v.evs.take a ++ l ++ v.evs.drop (a + n)).length = _
 rw [List.length_append, List.length_append, List.length_take, List.length_drop]; omega
theorem Qg (l : List Int) (i k : Nat) (h : i ≤ k) : tot (l.take k) = tot (l.take i) + tot ((l.take k).drop i) := by
 have h1 : tot (l.take k) = tot ((l.take k).take i ++ (l.take k).drop i) := by rw [List.take_append_drop]
 rw [h1, Js, List.take_take, Nat.min_eq_left h]
structure JoinR (v : Vo) (p : Pl) (i : Nat) (js : List Ev) : Prop where
 chk : p.chk (B0 v i (A4 v i - i) ⟨js, []⟩) = 0
 ck : ckE (B0 v i (A4 v i - i) ⟨js, []⟩) p.len = 0
 lens : ckL (B0 v i (A4 v i - i) ⟨js, []⟩) p.len = (ckL v p.len).take i ++ wrS js ++ (ckL v p.len).drop (A4 v i)
 sum : tot (wrS js) = smA v p (A4 v i) - smA v p i
 len : js.length = (p.m.split (p.off + smA v p i) (p.off + smA v p (A4 v i))).length
 ok : ∀ e ∈ js, e.err = 0 ∧ e.kind ≠ 3
theorem And {v : Vo} {p : Pl} {i : Nat} {x y : Ev} (hc : p.chk v = 0) (hx : v.evs[i]? = some x) (hJ : smJ p (smA v p i) (smA v p (A4 v i)) (A4 v i - i)) : JoinR v p i (Dh v p i x y) := by
 obtain ⟨hme, hpb, hck⟩ := Iz hc
 have hi := (List.getElem?_eq_some_iff.1 hx).1
 obtain ⟨hk1, hk2⟩ := Xg hi
 obtain ⟨⟨⟨j1, j2⟩, j3⟩, j4, j5⟩ := hJ
 have hE := (L3 hck).1
 have hr : ¬ v.rest := fun k => by have := k.2; omega
 have hxe := hE x (List.mem_of_getElem? hx)
 have hxk := Aju hE hx (by omega)
 obtain ⟨q1, q2⟩ := Pm j4
 have hxe2 := Ev.err_reh (hs := Gg x.heads y.heads) hxe hxk (fun e => by rw [e]; rfl) (fun e => by rw [Ag8]; exact e)
 obtain ⟨n1, n2⟩ := Ps (x := x.reh (Gg x.heads y.heads)) hxe2 hxk q2 false
 obtain ⟨n3, n4⟩ := Anf (os := v.evs.drop i) n1 fun o ho => hE o (List.mem_of_mem_drop ho)
 have hlen : (Dh v p i x y).length = (p.m.split (p.off + smA v p i) (p.off + smA v p (A4 v i))).length := by rw [Dh, Ye, Cn]
 obtain ⟨hvl1, hvl2, hv, _⟩ := (Ky hr).1 ⟨hck, rfl⟩
 have hev := hv.evs
 have hX : VL ⟨Dh v p i x y, []⟩ (wrS (Dh v p i x y)) := VL.nil n3 (by omega)
 have hs : tot (wrS (Dh v p i x y)) = smA v p (A4 v i) - smA v p i := by rw [Dh, n4, n2, q1]; omega
 obtain ⟨ws, ls, hT⟩ := Qz hck
 have f1 := (Ud (T := v.tups) (k := (i : Int)) (P0 (by have := Lp hT i; have := Xf j1 (Nat.le_refl i) (by omega); omega))).1
 have f2 := (Ud (T := v.tups) (k := ((A4 v i - 1 : Nat) : Int)) (P0 (by have := Lp hT ((A4 v i - 1 : Nat) : Int); have := Xf (j := A4 v i - 1) j1 (by omega) (by omega); omega))).2
 have hrl := Xl (v := v) (a := i) (n := A4 v i - i) (l := Dh v p i x y) (by omega)
 have hcut := Qg (ckL v p.len) i (A4 v i) (by omega)
 have hR := Aev (x := ⟨Dh v p i x y, []⟩) hck hr (a := i) (n := A4 v i - i) (by omega) f1 (by rw [show ((i : Int) + (A4 v i - i : Nat)) = ((A4 v i - 1 : Nat) : Int) + 1 by omega]; exact f2) hX
  (by show v.evs.length - (A4 v i - i) + (Dh v p i x y).length ≤ 128; omega) (Nat.le_trans Pp hv.tl.tl)
  (fun _ => by rw [hs, ← List.drop_take]; unfold smA; omega) (fun _ h => by rw [h] at hi; simp at hi)
 rw [show i + (A4 v i - i) = A4 v i by omega] at hR
 exact ⟨by rw [Pl.chk, if_neg (by omega), if_neg hpb]; exact hR.1, hR.1, hR.2.1, hs, hlen, n3⟩
structure SmI (v : Vo) (p : Pl) (q : Vo × Nat) : Prop where
 chk : p.chk q.1 = 0
 fit : q.1.fit
 le : q.2 ≤ q.1.evs.length
 go : ∃ f, q.1.evs.length - q.2 ≤ f ∧ Ss p f q = Afb v p
theorem SmI.zero {v : Vo} {p : Pl} (hc : p.chk v = 0) (hF : v.fit) : SmI v p (v, 0) := ⟨hc, hF, Nat.zero_le _, v.evs.length, Nat.sub_le _ _, rfl⟩
theorem SmI.done {v : Vo} {p : Pl} {q : Vo × Nat} (h : SmI v p q) (hq : ¬ q.2 < q.1.evs.length) : q.1 = Afb v p := by
 obtain ⟨f, hf, hg⟩ := h.go
 rw [← hg]
 cases f with
 | zero => rfl
 | succ f => rw [Ss, if_neg hq]
theorem Ahf {v : Vo} {p : Pl} {i : Nat} (hc : p.chk v = 0) (hi : i < v.evs.length) : (smN v p i).2 ≤ (smN v p i).1.evs.length ∧ (smN v p i).1.evs.length - (smN v p i).2 < v.evs.length - i ∧ (smN v p i).1.evs.length ≤ v.evs.length ∧ p.chk (smN v p i).1 = 0 ∧ (v.fit → (smN v p i).1.fit)
  ∧ smA (smN v p i).1 p (smN v p i).2 = smA v p (A4 v i) := by
 obtain ⟨hk1, hk2⟩ := Xg hi
 obtain ⟨x, hx⟩ : ∃ x, v.evs[i]? = some x := Av hi
 obtain ⟨y, hy⟩ : ∃ y, v.evs[A4 v i - 1]? = some y := Av (by omega)
 by_cases c : smJ p (smA v p i) (smA v p (A4 v i)) (A4 v i - i)
 ·have hj := And (y := y) hc hx c
  have hl := Xl (v := v) (a := i) (n := A4 v i - i) (l := Dh v p i x y) (by omega)
  have hc4 := c.2.2
  have hjl := hj.len
  rw [Qk hx hy c]
  refine ⟨?_, ?_, ?_, hj.chk, fun hF => ?_, ?_⟩
  ·show i + (Dh v p i x y).length ≤ (B0 v i (A4 v i - i) ⟨Dh v p i x y, []⟩).evs.length; omega
  ·show (B0 v i (A4 v i - i) ⟨Dh v p i x y, []⟩).evs.length - (i + (Dh v p i x y).length) < _; omega
  ·show (B0 v i (A4 v i - i) ⟨Dh v p i x y, []⟩).evs.length ≤ _; omega
  ·have hsm := P7 (Iz hc).2.2
   exact Ahq hF (Ako (Oo (Ad5 (hF.ev x (List.mem_of_getElem? hx)) _) _ _)) hsm.1 (by have := hsm.2; omega)
  ·show tot ((ckL (B0 v i (A4 v i - i) ⟨Dh v p i x y, []⟩) p.len).take (i + (Dh v p i x y).length)) = _
   have hcl := J2 (Iz hc).2.2
   have h1 : ((ckL v p.len).take i ++ wrS (Dh v p i x y)).length = i + (Dh v p i x y).length := by rw [List.length_append, List.length_take, H9]; omega
   rw [hj.lens, ← h1, List.take_left, Js, hj.sum]; unfold smA; omega
 ·rw [Ge c]
  exact ⟨hk2, by show v.evs.length - A4 v i < _; omega, Nat.le_refl _, hc, fun h => h, rfl⟩
theorem SmI.next {v : Vo} {p : Pl} {q : Vo × Nat} (h : SmI v p q) (hq : q.2 < q.1.evs.length) : SmI v p (smN q.1 p q.2) ∧ (smN q.1 p q.2).1.evs.length - (smN q.1 p q.2).2 < q.1.evs.length - q.2 := by
 obtain ⟨h1, h2, h3, h4, h5, _⟩ := Ahf h.chk hq
 refine ⟨⟨h4, h5 h.fit, h1, ?_⟩, h2⟩
 obtain ⟨f, hf, hg⟩ := h.go
 cases f with
 | zero => omega
 | succ f => exact ⟨f, by omega, by rw [← hg, Ss, if_pos hq]⟩
theorem SmI.nextJ {v : Vo} {p : Pl} {q : Vo × Nat} {r : Vo × Nat} (h : SmI v p q) (hq : q.2 < q.1.evs.length) (hr : smN q.1 p q.2 = r) : SmI v p r ∧ r.1.evs.length - r.2 < q.1.evs.length - q.2 ∧ smA r.1 p r.2 = smA q.1 p (A4 q.1 q.2) := by
 subst hr
 obtain ⟨h1, h2⟩ := h.next hq
 exact ⟨h1, h2, (Ahf h.chk hq).2.2.2.2.2⟩
theorem Ah7 {l : List Int} (h : Nums l) (k : Nat) : Nums (l.drop k) := ⟨by rw [List.length_drop]; have := h.len; omega, fun x hx => h.bd x (List.mem_of_mem_drop hx)⟩
theorem Ahg (v : Vo) (p : Pl) (i : Nat) : 0 ≤ smA v p i ∧ smA v p i ≤ 32469952757760 := ((Kk v p.len).take i).tot
theorem Aq5 {v : Vo} {p : Pl} (h : p.chk v ≠ 0) : Ro v p = (⟨[], []⟩, p.chk v) := by rw [Ro, if_pos h]
theorem Aq4 {v : Vo} {p : Pl} (h : ¬ p.chk v ≠ 0) : Ro v p = (Afb v p, 0) := by rw [Ro, if_neg h]
end Go.Proofs.YtcihalbakenleaaGreat
namespace Go.Proofs.YtcihalbakenleaaGreat
open Go.RowKit
theorem RVS.cells {P : Program} {n : Nat} {f : Fr} {h : Xh} {a t m i : Nat} {l : List S} (ha : Nat.blt a n = true) (hf : f a = .ptr i 0 0) (hi : h i = some (.box l)) (hs : aggB P t m = true) (hm : m ≤ l.length) : RVS P n f h (.cell a t) (.agg ((l.drop 0).take m)) := fun E H β act w hsim hfv => by
 have g := hfv.slot a (Gf ha)
 rw [hf] at g
 obtain ⟨L, h1, h2⟩ := Ik g
 rw [Nat.zero_mul, Nat.zero_add] at h2
 have hp : Bm P ⟨none, .load t (.tmp 0), t, "", #[], none⟩ (fun _ => .ptr i 0 0) h (.agg ((l.drop 0).take m)) := Ac rfl rfl hs hi (by omega)
 obtain ⟨u, r1, r2⟩ := hp E H β (fun _ => act.tmps.getD a undef) w hsim (fun x _ => by rw [h2]; have := VS.ptr (H := H) 0 0 h1; rw [Nat.zero_mul, Nat.zero_add] at this; exact this)
 rw [It rfl h2] at r1
 refine ⟨u, ?_, r2⟩
 unfold Su
 simp only [Sem.run_bind, h2, asAddr, Sem.run_pure, Result.andThen_ok]
 generalize (loadVar t ⟨L.b, 0, none⟩).run P w = r at r1
 cases r with
 | ok v w' => simp only [Result.andThen_ok, Result.ok.injEq, Next.value.injEq] at r1; obtain ⟨rfl, rfl⟩ := r1; rfl
 | halt x w' => simp [Result.andThen] at r1
end Go.Proofs.YtcihalbakenleaaGreat
namespace Go.Proofs.YtcihalbakenleaaGreat
open Go.RowKit
def idxS (p : Int → Bool) (l : List Int) : Int := match l.findIdx? p with | some k => k | none => -1
def To (on : List Int) (a : Int) : Nat := on.findIdx fun x => decide (a ≤ x)
def Alo (on : List Int) (a b : Int) : Nat := To on a + ((on.drop (To on a)).takeWhile fun x => decide (a ≤ x ∧ x < b)).length
def Ae9 (t : Tp) (f l : Int) : Prop := max t.first f < min (t.first + t.count) l ∧ (max t.first f ≠ t.first ∨ min (t.first + t.count) l ≠ t.first + t.count)
instance (t : Tp) (f l : Int) : Decidable (Ae9 t f l) := by unfold Ae9; exact inferInstance
def Aq7 (d : Vo) (p : Pl) (a b : Int) : Vo × Int × Int × Int :=
 if ∃ t ∈ d.tups, Ae9 t (To (Fb (ckL d p.len)) a) (Alo (Fb (ckL d p.len)) a b) then (⟨[], []⟩, 0, 0, 27) else (d, (To (Fb (ckL d p.len)) a : Int), (Alo (Fb (ckL d p.len)) a b : Int), 0)
def Aq8 (v : Vo) (p : Pl) (a b : Int) : Vo × Int × Int × Int :=
 if (Fx v p a).2 ≠ 0 then (⟨[], []⟩, 0, 0, (Fx v p a).2) else if (Fx (Fx v p a).1 p b).2 ≠ 0 then (⟨[], []⟩, 0, 0, (Fx (Fx v p a).1 p b).2) else Aq7 (Fx (Fx v p a).1 p b).1 p a b
def regS (v : Vo) (p : Pl) (a b : Int) : Vo × Int × Int × Int :=
 if p.chk v ≠ 0 then (⟨[], []⟩, 0, 0, p.chk v) else if v.absent then (⟨[], []⟩, 0, 0, 10) else if a < 0 ∨ b < a ∨ p.len < b then (⟨[], []⟩, 0, 0, 2) else Aq8 v p a b
end Go.Proofs.YtcihalbakenleaaGreat
namespace Go.Proofs.YtcihalbakenleaaGreat
open Go.RowKit
theorem Abn (v : Vo) (p : Pl) (hE : Evs v.evs) (hF : v.fit) : XC Tryz.prog 20 [.agg (Vo.c v), .agg (Pl.c p)] (fun r => r = .tup [.agg (Vo.c (Ro v p).1), dI (Ro v p).2]) := by
 refine An Adi Tryz.func20 R R lb<|zr<|XL.step R (As 2 (l := [.d (.sl 13 (v.evs.map Ev.c)), .d (.sl 4 (v.tups.map Tp.c))]) R R (by kernel_rfl))<|XL.step R (As 3 (l := [.d (dI p.m.count), .d (dI p.m.unit), .d (dI p.m.g0), .d (dI p.m.g1), .d (dI p.m.g2), .d (dI p.m.g3), .d (dI p.m.g4), .d (dI p.m.g5), .d (dI p.off), .d (dI p.len)]) R R (by kernel_rfl))<|?_
 refine XL.step R (A7 4 (l := [.d (.v (.slice none 0 0)), .d (.v (.slice none 0 0))]) R By (by kernel_rfl))<|za R R<|zn<|zs<|zr<|zp (Ae (s' := .d (.agg (Pl.c p))) (Ad (Ac R R Kc R lb)) (by kernel_rfl))<|zp (Ae (s' := .d (.agg (Vo.c v))) (Ad (Ac R R A8 R lb)) (by kernel_rfl))<|XL.call1 R R (S5 _ _ (by assumption)) R<|za R R<|znr<|?_
 refine zm R R<|zp (Bh R R R)<|zn<|?_
 refine zd R (fun c24 => ?_) (fun c24 => ?_)
 refine zr<|zp (Ae (s' := .d (.agg [.v (.slice none 0 0), .v (.slice none 0 0)])) (Ad (Bo R Dq By R)) (by kernel_rfl))<|zm R R<|XL.step R (Ah (l' := [.d (.v (.slice none 0 0)), .d (.v (.slice none 0 0))]) R R R R Cr R lb (by kernel_rfl))<|za R R<|zn<|zt<|?_
 exact Bj R (RV.sub (RV.cells R R R A8 lb R) (.agg (.cons (.nil 13) (.cons (.nil 4) (.nil))))) (RV.tmp R R) (r2v (Aq5 c24))
 refine zi<|zs<|?_
 have hc0 : p.chk v = 0 := by omega
 refine Af (by kernel_rfl)<|zp (Ae (s' := .d (.agg (Vo.c v))) (Ad (Ac R R A8 R lb)) (by kernel_rfl))<|XL.call1 R R (Jp _ (by assumption)) R<|XL.step R (A7 7 (l := [.d (.v (.slice none 0 0)), .d (.v (.slice none 0 0))]) R By (by kernel_rfl))<|?_
 refine XL.step R (Ah (l' := [.d (.sl 13 (v.evs.map Ev.c)), .d (.sl 4 (v.tups.map Tp.c))]) R R R R Cr R lb (by kernel_rfl))<|znr<|za R R<|zn<|zs<|zr<|za R R<|zn<|Ag<|?_
 refine Au (α := Vo × Nat) (fun q => SmI v p q) (fun q => mkF [(3, .ptr 3 0 0), (4, .ptr 4 0 0), (5, .d (dI 0)), (7, .ptr 7 0 0), (8, .d (dI (smA q.1 p q.2))), (9, .d (dI (q.2 : Nat)))]) (fun q => mkH [(3, .box ((Pl.c p).map S.d)), (4, .box [.d (.v (.slice none 0 0)), .d (.v (.slice none 0 0))]), (7, .box ((Vo.c q.1).map S.d))]) (fun q => q.1.evs.length - q.2) ((v, 0)) (SmI.zero hc0 hF) ?_ ?_ ?_
 exact fz ⟨sr, sr, sr, sr, sr, sr, trivial⟩
 exact gz ⟨R, R, R, trivial⟩
 intro q hk0
 have hS := hk0
 have hcq := hS.chk
 have hFq := hS.fit
 obtain ⟨hme, hpb, hck⟩ := Iz hcq
 obtain ⟨hsv, hev⟩ := P7 hck
 have hEq := (L3 hck).2
 have hN := Kk q.1 p.len
 have hcl := J2 hck
 have hb1 := Ahg q.1 p q.2
 have hb2 := Ahg q.1 p (A4 q.1 q.2)
 unfold Pl.bad at hpb
 refine zs<|zr<|zm R R<|zp (Aa R R A0)<|zp (Ab R R Bq R R)<|XL.len R R R Tryz.underlying22 fun hl32=>zp (Aq R R R)<|zn<|?_
 refine zd R (fun c33 => ?_) (fun c33 => ?_)
 have hq2 : q.2 < q.1.evs.length := by omega
 obtain ⟨hrn1, hrn2⟩ := Xg hq2
 have hNs := Ah7 (hN.take (A4 q.1 q.2)) q.2
 have hNb := hNs.tot
 have hcut : smA q.1 p (A4 q.1 q.2) = smA q.1 p q.2 + tot (((ckL q.1 p.len).take (A4 q.1 q.2)).drop q.2) := Qg (ckL q.1 p.len) q.2 (A4 q.1 q.2) (by omega)
 refine zi<|Ag<|zr<|zp (Ae (s' := .d (.agg (Vo.c q.1))) (Ad (Ac R R A8 R lb)) (by kernel_rfl))<|zp (Aa R R G9)<|zp (Ab R R Ai R R)<|XL.call1 R R (Agy _ _ (by assumption)) R<|zm R R<|zp (Be R R R)<|zp (Be R R R)<|za R R<|za R R<|znr<|zp (Ae (s' := .d (.agg (Vo.c q.1))) (Ad (Ac R R A8 R lb)) (by kernel_rfl))<|?_
 refine zm R R<|XL.call1 R R (Aoj q.1 q.2 hFq (by omega) hq2) R<|za R R<|znr<|zm R R<|zm R R<|zm R R<|zm R R<|zp (E7 R R Cy (Bd.at R) (Bd.at R) (by omega) (by omega))<|XL.call1 R R (W7 _ hNs) R<|zp (Ae (s' := .d (dI (smA q.1 p (A4 q.1 q.2)))) (Aj R R R (by omega) (by omega)) (sI ((Qg (ckL q.1 p.len) q.2 (A4 q.1 q.2) (by omega)).symm)))<|za R R<|zn<|zs<|?_
 refine zr<|zm R R<|zm R R<|zp (Dj R R R (by omega) (by omega))<|zp (A5 R R R)<|zm R R<|?_
 refine XL.dec 55 R (fun g55 => ?_) (fun g55 => ?_)
 refine zp (Aa R R Ha)<|zp (Ab R R Ai R R)<|zm R R<|zp (Aj R R R (by omega) (by omega))<|zp (Dx R R R (by omega) (by omega))<|zp (Ay R R R)<|zq R R R<|zm R R<|?_
 refine XL.dec 63 R (fun g63 => ?_) (fun g63 => ?_)
 refine zp (Aa R R Ha)<|zp (Ab R R Ai R R)<|zm R R<|zp (Aj R R R (by omega) (by omega))<|zp (Dx R R R (by omega) (by omega))<|zp (Ay R R R)<|zq R R R<|zn<|?_
 refine zd R (fun c70 => ?_) (fun c70 => ?_)
 refine zs<|?_
 obtain ⟨x, hx⟩ : ∃ x, q.1.evs[q.2]? = some x := Av hq2
 obtain ⟨y, hy⟩ : ∃ y, q.1.evs[A4 q.1 q.2 - 1]? = some y := Av (by omega)
 have hsl := Io p.m (p.off + smA q.1 p q.2) (p.off + smA q.1 p (A4 q.1 q.2))
 refine Af (by kernel_rfl)<|zp (Aa R R O1)<|zp (Ae (s' := .d (.agg (Me.c p.m))) (Ad (Ac R R Bb R lb)) (by kernel_rfl))<|zp (Aa R R Ha)<|zp (Ab R R Ai R R)<|zm R R<|zp (Aj R R R (by omega) (by omega))<|zp (Aa R R Ha)<|zp (Ab R R Ai R R)<|zm R R<|zp (Aj R R R (by omega) (by omega))<|?_
 refine XL.call1 R R (Pv _ _ _) R<|zm R R<|zp (Be R R R)<|zp (Be R R R)<|za R R<|za R R<|znr<|zm R R<|zp (Ay R R R)<|zm R R<|?_
 refine XL.dec 87 R (fun g87 => ?_) (fun g87 => ?_)
 refine zm R R<|XL.len R R R Tryz.underlying106 fun hl89=>zm R R<|zm R R<|zp (Dj R R R (by omega) (by omega))<|zp (Aq R R R)<|zq R R R<|zn<|?_
 refine zd R (fun c94 => ?_) (fun c94 => ?_)
 refine zs<|?_
 have hJ : smJ p (smA q.1 p q.2) (smA q.1 p (A4 q.1 q.2)) (A4 q.1 q.2 - q.2) := ⟨⟨⟨by omega, by omega⟩, by omega⟩, by omega, by omega⟩
 have hxf := hFq.ev x (List.mem_of_getElem? hx)
 have hxh := hxf.1
 have hxg := hxf.2.1
 have hxl := hxf.2.2
 have hrf := Ad5 hxf y.heads
 have hxy : x.heads.length = y.heads.length := Uv (L3 hck).1 hx (A4 q.1 q.2 - 1 - q.2) (by omega) (by rw [show q.2 + (A4 q.1 q.2 - 1 - q.2) = A4 q.1 q.2 - 1 by omega]; exact hy)
 refine Af (by kernel_rfl)<|zp (Aa R R A0)<|zp (Ab R R Bq R R)<|zm R R<|zp (Ak R R R Ct (hx))<|zp (Ae (s' := .d (.agg (Ev.c x))) (At R R Aw lb) (by kernel_rfl))<|?_
 refine XL.inl 900001 [(3, .ptr 3 0 0), (4, .ptr 4 0 0), (5, .d (dI 0)), (7, .ptr 7 0 0), (8, .d (dI (smA q.1 p q.2))), (9, .d (dI (q.2 : Nat))), (10, .d (.sl 1 (Bu (ckL q.1 p.len)))), (11, .d (dI (ckE q.1 p.len))), (12, .d (dI (A4 q.1 q.2 : Nat))), (13, .d (dI (smA q.1 p (A4 q.1 q.2)))), (14, .d (.sl 2 ((p.m.split (p.off + (smA q.1 p q.2)) (p.off + (smA q.1 p (A4 q.1 q.2)))).map Val.c))), (15, .d (dI (p.m.splitE (p.off + (smA q.1 p q.2)) (p.off + (smA q.1 p (A4 q.1 q.2)))))), (29, .d (dI (q.2 : Nat))), (30, .ptr 7 0 0), (31, .d (.sl 13 (q.1.evs.map Ev.c))), (32, .d (dI q.1.evs.length)), (35, .d (.agg (Vo.c q.1))), (36, .ptr 3 0 9), (37, .d (dI p.len)), (39, .d (.sl 1 (Bu (ckL q.1 p.len)))), (40, .d (dI (ckE q.1 p.len))), (41, .d (.agg (Vo.c q.1))), (42, .d (dI (q.2 : Nat))), (43, .d (dI (A4 q.1 q.2 : Nat))), (44, .d (dI (smA q.1 p q.2))), (45, .d (.sl 1 (Bu (ckL q.1 p.len)))), (46, .d (dI (q.2 : Nat))), (47, .d (dI (A4 q.1 q.2 : Nat))), (48, .d (.sl 1 ((((ckL q.1 p.len).take (A4 q.1 q.2 : Nat)).drop (q.2 : Nat)).map iv))), (49, .d (dI (tot (((ckL q.1 p.len).take (A4 q.1 q.2)).drop q.2)))), (50, .d (dI (smA q.1 p (A4 q.1 q.2)))), (51, .d (dI (A4 q.1 q.2 : Nat))), (52, .d (dI (q.2 : Nat))), (53, .d (dI ((A4 q.1 q.2 : Nat) - (q.2 : Nat)))), (56, .ptr 3 0 8), (57, .d (dI p.off)), (58, .d (dI (smA q.1 p q.2))), (59, .d (dI (p.off + (smA q.1 p q.2)))), (60, .d (dI ((p.off + (smA q.1 p q.2)) % 7560))), (64, .ptr 3 0 8), (65, .d (dI p.off)), (66, .d (dI (smA q.1 p (A4 q.1 q.2)))), (67, .d (dI (p.off + (smA q.1 p (A4 q.1 q.2))))), (68, .d (dI ((p.off + (smA q.1 p (A4 q.1 q.2))) % 7560))), (72, .ptr 3 0 0), (73, .d (.agg (Me.c p.m))), (74, .ptr 3 0 8), (75, .d (dI p.off)), (76, .d (dI (smA q.1 p q.2))), (77, .d (dI (p.off + (smA q.1 p q.2)))), (78, .ptr 3 0 8), (79, .d (dI p.off)), (80, .d (dI (smA q.1 p (A4 q.1 q.2)))), (81, .d (dI (p.off + (smA q.1 p (A4 q.1 q.2))))), (83, .d (.sl 2 ((p.m.split (p.off + (smA q.1 p q.2)) (p.off + (smA q.1 p (A4 q.1 q.2)))).map Val.c))), (84, .d (dI (p.m.splitE (p.off + (smA q.1 p q.2)) (p.off + (smA q.1 p (A4 q.1 q.2)))))), (85, .d (dI (p.m.splitE (p.off + (smA q.1 p q.2)) (p.off + (smA q.1 p (A4 q.1 q.2)))))), (88, .d (.sl 2 ((p.m.split (p.off + (smA q.1 p q.2)) (p.off + (smA q.1 p (A4 q.1 q.2)))).map Val.c))), (89, .d (dI (p.m.split (p.off + (smA q.1 p q.2)) (p.off + (smA q.1 p (A4 q.1 q.2)))).length)), (90, .d (dI (A4 q.1 q.2 : Nat))), (91, .d (dI (q.2 : Nat))), (92, .d (dI ((A4 q.1 q.2 : Nat) - (q.2 : Nat)))), (95, .ptr 7 0 0), (96, .d (.sl 13 (q.1.evs.map Ev.c))), (97, .d (dI (q.2 : Nat))), (98, .d (.pt (Ev.c x))), (99, .d (.agg (Ev.c x)))] R R .d Ri Tryz.func63 R R lb (by simp only [List.forall_mem_cons]; exact ⟨⟨Nat.le_of_ble_eq_true rfl, rfl⟩, ⟨⟨Nat.le_of_ble_eq_true rfl, rfl⟩, ⟨⟨Nat.le_of_ble_eq_true rfl, rfl⟩, ⟨⟨Nat.le_of_ble_eq_true rfl, rfl⟩, ⟨⟨Nat.le_of_ble_eq_true rfl, rfl⟩, ⟨⟨Nat.le_of_ble_eq_true rfl, rfl⟩, ⟨⟨Nat.le_of_ble_eq_true rfl, rfl⟩, ⟨⟨Nat.le_of_ble_eq_true rfl, rfl⟩, ⟨⟨Nat.le_of_ble_eq_true rfl, rfl⟩, ⟨⟨Nat.le_of_ble_eq_true rfl, rfl⟩, ⟨⟨Nat.le_of_ble_eq_true rfl, rfl⟩, ⟨⟨Nat.le_of_ble_eq_true rfl, rfl⟩, ⟨⟨Nat.le_of_ble_eq_true rfl, rfl⟩, ⟨⟨Nat.le_of_ble_eq_true rfl, rfl⟩, ⟨⟨Nat.le_of_ble_eq_true rfl, rfl⟩, ⟨⟨Nat.le_of_ble_eq_true rfl, rfl⟩, ⟨⟨Nat.le_of_ble_eq_true rfl, rfl⟩, ⟨⟨Nat.le_of_ble_eq_true rfl, rfl⟩, ⟨⟨Nat.le_of_ble_eq_true rfl, rfl⟩, ⟨⟨Nat.le_of_ble_eq_true rfl, rfl⟩, ⟨⟨Nat.le_of_ble_eq_true rfl, rfl⟩, ⟨⟨Nat.le_of_ble_eq_true rfl, rfl⟩, ⟨⟨Nat.le_of_ble_eq_true rfl, rfl⟩, ⟨⟨Nat.le_of_ble_eq_true rfl, rfl⟩, ⟨⟨Nat.le_of_ble_eq_true rfl, rfl⟩, ⟨⟨Nat.le_of_ble_eq_true rfl, rfl⟩, ⟨⟨Nat.le_of_ble_eq_true rfl, rfl⟩, ⟨⟨Nat.le_of_ble_eq_true rfl, rfl⟩, ⟨⟨Nat.le_of_ble_eq_true rfl, rfl⟩, ⟨⟨Nat.le_of_ble_eq_true rfl, rfl⟩, ⟨⟨Nat.le_of_ble_eq_true rfl, rfl⟩, ⟨⟨Nat.le_of_ble_eq_true rfl, rfl⟩, ⟨⟨Nat.le_of_ble_eq_true rfl, rfl⟩, ⟨⟨Nat.le_of_ble_eq_true rfl, rfl⟩, ⟨⟨Nat.le_of_ble_eq_true rfl, rfl⟩, ⟨⟨Nat.le_of_ble_eq_true rfl, rfl⟩, ⟨⟨Nat.le_of_ble_eq_true rfl, rfl⟩, ⟨⟨Nat.le_of_ble_eq_true rfl, rfl⟩, ⟨⟨Nat.le_of_ble_eq_true rfl, rfl⟩, ⟨⟨Nat.le_of_ble_eq_true rfl, rfl⟩, ⟨⟨Nat.le_of_ble_eq_true rfl, rfl⟩, ⟨⟨Nat.le_of_ble_eq_true rfl, rfl⟩, ⟨⟨Nat.le_of_ble_eq_true rfl, rfl⟩, ⟨⟨Nat.le_of_ble_eq_true rfl, rfl⟩, ⟨⟨Nat.le_of_ble_eq_true rfl, rfl⟩, ⟨⟨Nat.le_of_ble_eq_true rfl, rfl⟩, ⟨⟨Nat.le_of_ble_eq_true rfl, rfl⟩, ⟨⟨Nat.le_of_ble_eq_true rfl, rfl⟩, ⟨⟨Nat.le_of_ble_eq_true rfl, rfl⟩, ⟨⟨Nat.le_of_ble_eq_true rfl, rfl⟩, ⟨⟨Nat.le_of_ble_eq_true rfl, rfl⟩, ⟨⟨Nat.le_of_ble_eq_true rfl, rfl⟩, ⟨⟨Nat.le_of_ble_eq_true rfl, rfl⟩, ⟨⟨Nat.le_of_ble_eq_true rfl, rfl⟩, ⟨⟨Nat.le_of_ble_eq_true rfl, rfl⟩, ⟨⟨Nat.le_of_ble_eq_true rfl, rfl⟩, ⟨⟨Nat.le_of_ble_eq_true rfl, rfl⟩, ⟨⟨Nat.le_of_ble_eq_true rfl, rfl⟩, ⟨⟨Nat.le_of_ble_eq_true rfl, rfl⟩, ⟨⟨Nat.le_of_ble_eq_true rfl, rfl⟩, ⟨⟨Nat.le_of_ble_eq_true rfl, rfl⟩, ⟨⟨Nat.le_of_ble_eq_true rfl, rfl⟩, ⟨⟨Nat.le_of_ble_eq_true rfl, rfl⟩, ⟨⟨Nat.le_of_ble_eq_true rfl, rfl⟩, ⟨⟨Nat.le_of_ble_eq_true rfl, rfl⟩, ⟨⟨Nat.le_of_ble_eq_true rfl, rfl⟩, ⟨⟨Nat.le_of_ble_eq_true rfl, rfl⟩, fun p hp => (by cases hp)⟩⟩⟩⟩⟩⟩⟩⟩⟩⟩⟩⟩⟩⟩⟩⟩⟩⟩⟩⟩⟩⟩⟩⟩⟩⟩⟩⟩⟩⟩⟩⟩⟩⟩⟩⟩⟩⟩⟩⟩⟩⟩⟩⟩⟩⟩⟩⟩⟩⟩⟩⟩⟩⟩⟩⟩⟩⟩⟩⟩⟩⟩⟩⟩⟩⟩⟩) fun u1=>?_
 refine zr<|XL.step R (As 1001 (l := [.d (dI x.site), .d (dI x.num), .d (dI x.kind), .d (dI x.v.log), .d (dI x.v.dots), .d (.sl 5 (x.heads.map Hd.c)), .d (.sl 5 (x.graces.map Gr.c)), .d (dI x.art), .d (dI x.orn), .d (dI x.dyn), .d (.sl 2 (x.lyr.map Sy.c)), .d (dI x.stem), .d (dI x.beam)]) R R (by kernel_rfl))<|?_
 refine XL.step R (A7 1002 (l := [.d (dI 0), .d (dI 0), .d (dI 0), .d (dI 0), .d (dI 0), .d (.v (.slice none 0 0)), .d (.v (.slice none 0 0)), .d (dI 0), .d (dI 0), .d (dI 0), .d (.v (.slice none 0 0)), .d (dI 0), .d (dI 0)]) R Bs (by kernel_rfl))<|zn<|zs<|Cu 10 [7001, 7002, 7003] (by kernel_rfl) (by kernel_rfl) (by kernel_rfl) (by kernel_rfl) (by decide)<|yp (Aa R R Bk)<|?_
 refine yp (Ab R R C9 R R)<|ChK.cons R (CStep.callS R ((Kx _ (by omega)).lab 7001) R (Eg (by kernel_rfl)))<|yp (Aa R R El)<|yp (Ab R R Ie R R)<|ChK.cons R (CStep.callS R ((Rg _ (by omega)).lab 7002) R (Eg (by kernel_rfl)))<|yp (Aa R R Ej)<|yp (Ab R R Id R R)<|?_
 refine ChK.cons R (CStep.callS R ((Rf _ (by omega)).lab 7003) R (Eg (by kernel_rfl)))<|yp (Aa R R Bk)<|?_
 refine ChK.nil ⟨by kernel_rfl, ?_⟩
 refine XL.step R (Ah (l' := [.d (dI x.site), .d (dI x.num), .d (dI x.kind), .d (dI x.v.log), .d (dI x.v.dots), .own 7001, .d (.sl 5 (x.graces.map Gr.c)), .d (dI x.art), .d (dI x.orn), .d (dI x.dyn), .d (.sl 2 (x.lyr.map Sy.c)), .d (dI x.stem), .d (dI x.beam)]) R R R R I4 R lb (by kernel_rfl))<|zp (Aa R R El)<|?_
 refine XL.step R (Ah (l' := [.d (dI x.site), .d (dI x.num), .d (dI x.kind), .d (dI x.v.log), .d (dI x.v.dots), .own 7001, .own 7002, .d (dI x.art), .d (dI x.orn), .d (dI x.dyn), .d (.sl 2 (x.lyr.map Sy.c)), .d (dI x.stem), .d (dI x.beam)]) R R R R Ale R lb (by kernel_rfl))<|zp (Aa R R Ej)<|?_
 refine XL.step R (Ah (l' := [.d (dI x.site), .d (dI x.num), .d (dI x.kind), .d (dI x.v.log), .d (dI x.v.dots), .own 7001, .own 7002, .d (dI x.art), .d (dI x.orn), .d (dI x.dyn), .own 7003, .d (dI x.stem), .d (dI x.beam)]) R R R R Ald R lb (by kernel_rfl))<|znr<|zp (Ad (Ac R R Aw R lb))<|?_
 refine XL.step R (Ah (l' := [.d (dI x.site), .d (dI x.num), .d (dI x.kind), .d (dI x.v.log), .d (dI x.v.dots), .own 7001, .own 7002, .d (dI x.art), .d (dI x.orn), .d (dI x.dyn), .own 7003, .d (dI x.stem), .d (dI x.beam)]) R R R R Bw R lb (by kernel_rfl))<|zn<|zt<|?_
 refine (F2 (l := [(3, .ptr 3 0 0), (4, .ptr 4 0 0), (5, .d (dI 0)), (7, .ptr 7 0 0), (8, .d (dI (smA q.1 p q.2))), (9, .d (dI (q.2 : Nat))), (10, .d (.sl 1 (Bu (ckL q.1 p.len)))), (11, .d (dI (ckE q.1 p.len))), (12, .d (dI (A4 q.1 q.2 : Nat))), (13, .d (dI (smA q.1 p (A4 q.1 q.2)))), (14, .d (.sl 2 ((p.m.split (p.off + (smA q.1 p q.2)) (p.off + (smA q.1 p (A4 q.1 q.2)))).map Val.c))), (15, .d (dI (p.m.splitE (p.off + (smA q.1 p q.2)) (p.off + (smA q.1 p (A4 q.1 q.2)))))), (29, .d (dI (q.2 : Nat))), (30, .ptr 7 0 0), (31, .d (.sl 13 (q.1.evs.map Ev.c))), (32, .d (dI q.1.evs.length)), (35, .d (.agg (Vo.c q.1))), (36, .ptr 3 0 9), (37, .d (dI p.len)), (39, .d (.sl 1 (Bu (ckL q.1 p.len)))), (40, .d (dI (ckE q.1 p.len))), (41, .d (.agg (Vo.c q.1))), (42, .d (dI (q.2 : Nat))), (43, .d (dI (A4 q.1 q.2 : Nat))), (44, .d (dI (smA q.1 p q.2))), (45, .d (.sl 1 (Bu (ckL q.1 p.len)))), (46, .d (dI (q.2 : Nat))), (47, .d (dI (A4 q.1 q.2 : Nat))), (48, .d (.sl 1 ((((ckL q.1 p.len).take (A4 q.1 q.2 : Nat)).drop (q.2 : Nat)).map iv))), (49, .d (dI (tot (((ckL q.1 p.len).take (A4 q.1 q.2)).drop q.2)))), (50, .d (dI (smA q.1 p (A4 q.1 q.2)))), (51, .d (dI (A4 q.1 q.2 : Nat))), (52, .d (dI (q.2 : Nat))), (53, .d (dI ((A4 q.1 q.2 : Nat) - (q.2 : Nat)))), (56, .ptr 3 0 8), (57, .d (dI p.off)), (58, .d (dI (smA q.1 p q.2))), (59, .d (dI (p.off + (smA q.1 p q.2)))), (60, .d (dI ((p.off + (smA q.1 p q.2)) % 7560))), (64, .ptr 3 0 8), (65, .d (dI p.off)), (66, .d (dI (smA q.1 p (A4 q.1 q.2)))), (67, .d (dI (p.off + (smA q.1 p (A4 q.1 q.2))))), (68, .d (dI ((p.off + (smA q.1 p (A4 q.1 q.2))) % 7560))), (72, .ptr 3 0 0), (73, .d (.agg (Me.c p.m))), (74, .ptr 3 0 8), (75, .d (dI p.off)), (76, .d (dI (smA q.1 p q.2))), (77, .d (dI (p.off + (smA q.1 p q.2)))), (78, .ptr 3 0 8), (79, .d (dI p.off)), (80, .d (dI (smA q.1 p (A4 q.1 q.2)))), (81, .d (dI (p.off + (smA q.1 p (A4 q.1 q.2))))), (83, .d (.sl 2 ((p.m.split (p.off + (smA q.1 p q.2)) (p.off + (smA q.1 p (A4 q.1 q.2)))).map Val.c))), (84, .d (dI (p.m.splitE (p.off + (smA q.1 p q.2)) (p.off + (smA q.1 p (A4 q.1 q.2)))))), (85, .d (dI (p.m.splitE (p.off + (smA q.1 p q.2)) (p.off + (smA q.1 p (A4 q.1 q.2)))))), (88, .d (.sl 2 ((p.m.split (p.off + (smA q.1 p q.2)) (p.off + (smA q.1 p (A4 q.1 q.2)))).map Val.c))), (89, .d (dI (p.m.split (p.off + (smA q.1 p q.2)) (p.off + (smA q.1 p (A4 q.1 q.2)))).length)), (90, .d (dI (A4 q.1 q.2 : Nat))), (91, .d (dI (q.2 : Nat))), (92, .d (dI ((A4 q.1 q.2 : Nat) - (q.2 : Nat)))), (95, .ptr 7 0 0), (96, .d (.sl 13 (q.1.evs.map Ev.c))), (97, .d (dI (q.2 : Nat))), (98, .d (.pt (Ev.c x))), (99, .d (.agg (Ev.c x)))]) (by kernel_rfl) (D1 R (RVS.eq (s' := .agg [.d (dI x.site), .d (dI x.num), .d (dI x.kind), .d (dI x.v.log), .d (dI x.v.dots), .own 7001, .own 7002, .d (dI x.art), .d (dI x.orn), .d (dI x.dyn), .own 7003, .d (dI x.stem), .d (dI x.beam)]) (RVS.cells (i := 1002) (l := [.d (dI x.site), .d (dI x.num), .d (dI x.kind), .d (dI x.v.log), .d (dI x.v.dots), .own 7001, .own 7002, .d (dI x.art), .d (dI x.orn), .d (dI x.dyn), .own 7003, .d (dI x.stem), .d (dI x.beam)]) R (by kernel_rfl) (by kernel_rfl) Aw lb) R)) ?_).2
 refine XL.freeze (i := 7002) R<|XL.freeze (i := 7003) R<|XL.step R (A7 16 (l := [.d (dI 0), .d (dI 0), .d (dI 0), .d (dI 0), .d (dI 0), .d (.v (.slice none 0 0)), .d (.v (.slice none 0 0)), .d (dI 0), .d (dI 0), .d (dI 0), .d (.v (.slice none 0 0)), .d (dI 0), .d (dI 0)]) R Bs (by kernel_rfl))<|?_
 refine XL.step R (Ah (l' := [.d (dI x.site), .d (dI x.num), .d (dI x.kind), .d (dI x.v.log), .d (dI x.v.dots), .own 7001, .d (.sl 5 (x.graces.map Gr.c)), .d (dI x.art), .d (dI x.orn), .d (dI x.dyn), .d (.sl 2 (x.lyr.map Sy.c)), .d (dI x.stem), .d (dI x.beam)]) R R R R Bw R lb (by kernel_rfl))<|zn<|zs<|zr<|zp (Aa R R Bk)<|zp (Ab R R C9 R R)<|?_
 refine zp (C4 R R R Tryz.underlying48)<|zm R R<|zn<|Ag<|?_
 refine Au (α := Nat) (fun j => j ≤ x.heads.length) (fun j => mkF [(3, .ptr 3 0 0), (4, .ptr 4 0 0), (5, .d (dI 0)), (7, .ptr 7 0 0), (8, .d (dI (smA q.1 p q.2))), (9, .d (dI (q.2 : Nat))), (12, .d (dI (A4 q.1 q.2 : Nat))), (13, .d (dI (smA q.1 p (A4 q.1 q.2)))), (14, .d (.sl 2 ((p.m.split (p.off + (smA q.1 p q.2)) (p.off + (smA q.1 p (A4 q.1 q.2)))).map Val.c))), (16, .ptr 16 0 0), (103, .d (dI x.heads.length)), (104, .d (dI j))]) (fun j => mkH [(3, .box ((Pl.c p).map S.d)), (4, .box [.d (.v (.slice none 0 0)), .d (.v (.slice none 0 0))]), (7, .box ((Vo.c q.1).map S.d)), (16, .box [.d (dI x.site), .d (dI x.num), .d (dI x.kind), .d (dI x.v.log), .d (dI x.v.dots), .own 7001, .d (.sl 5 (x.graces.map Gr.c)), .d (dI x.art), .d (dI x.orn), .d (dI x.dyn), .d (.sl 2 (x.lyr.map Sy.c)), .d (dI x.stem), .d (dI x.beam)]), (7001, .row 91 5 ((Jb (J3 y.heads) x.heads j).map Hd.c))]) (fun j => x.heads.length - j) (0) (Nat.zero_le _) ?_ ?_ ?_
 exact fz ⟨sr, sr, sr, sr, sr, sr, sr, sr, sr, sr, sr, sr, trivial⟩
 exact gz ⟨R, R, R, R, by rw [Um]; rfl, trivial⟩
 intro j hk2
 refine zr<|zp (Aq R R R)<|zn<|zs<|?_
 refine zd R (fun c105 => ?_) (fun c105 => ?_)
 have hjl : j < x.heads.length := by omega
 obtain ⟨xj, hxj⟩ := Av hjl
 obtain ⟨yj, hyj⟩ : ∃ yj, y.heads[j]? = some yj := Av (by omega)
 have hgj := W4 (f := J3 y.heads) hxj
 refine zi<|zs<|Ag<|zr<|zm R R<|za R R<|zn<|Cu 14 [] (by kernel_rfl) (by kernel_rfl) (by kernel_rfl) (by kernel_rfl) (by decide)<|yp (Aa R R Bk)<|yp (Ab R R C9 R R)<|ym R R<|yp (Aa R R A0)<|yp (Ab R R Bq R R)<|ym R R<|?_
 refine yp (Dj R R R (by omega) (by omega))<|yp (F1 R R R (by omega) Ct (hy))<|yp (Bg R R Bk)<|yp (Ax R R C9)<|ym R R<|yp (Ak R R R F8 (hyj))<|yp (Bg R R Jn)<|yp (Ax R R Ob)<|?_
 refine ChK.nil ⟨by kernel_rfl, ?_⟩
 refine zp (Ex R R R (R) R F8 (by rw [Rl]; omega))<|zp (Aa R R Jn)<|XL.step R (Gs R R R (Fi hgj) R R An6 R lb)<|zn<|Af (by kernel_rfl)<|zp (Aj R R R (by omega) (by omega))<|zm R R<|zn<|?_
 exact Al (j + 1) (by omega) (by omega) (fz ⟨sr, sr, sr, sr, sr, sr, sr, sr, sr, sr, sr, sr, trivial⟩) (gz ⟨R, R, R, R, Rr (a := J3 y.heads j xj) (by rw [Ajn hyj]; rfl) (W3 hxj), trivial⟩)
 have hte : Jb (J3 y.heads) x.heads j = Gg x.heads y.heads := W5 (f := J3 y.heads) (l := x.heads) (k := j) (by omega)
 refine Ap<|zr<|XL.freeze (i := 7001) R<|zp (Ae (s' := .d (.agg (Ev.c (x.reh (Gg x.heads y.heads))))) (Ad (Ac R R Aw R lb)) (by rw [← hte]; kernel_rfl))<|zm R R<|XL.callS R R ((Ml (x.reh (Gg x.heads y.heads)) (p.m.split (p.off + smA q.1 p q.2) (p.off + smA q.1 p (A4 q.1 q.2))) false hrf (by omega)).lab 7004) R<|zp (Am R (by conv => lhs; whnf))<|?_
 refine zn<|zs<|zr<|zp (Ar R (by conv => lhs; whnf))<|?_
 refine zp (C4 R R R Tryz.underlying22)<|zm R R<|zn<|Ag<|?_
 refine Au (α := Nat) (fun n => n ≤ (Bi (x.reh (Gg x.heads y.heads)) (p.m.split (p.off + smA q.1 p q.2) (p.off + smA q.1 p (A4 q.1 q.2))) false).length) (fun n => mkF [(3, .ptr 3 0 0), (4, .ptr 4 0 0), (5, .d (dI 0)), (7, .ptr 7 0 0), (8, .d (dI (smA q.1 p q.2))), (9, .d (dI (q.2 : Nat))), (12, .d (dI (A4 q.1 q.2 : Nat))), (13, .d (dI (smA q.1 p (A4 q.1 q.2)))), (18, .own 7004), (128, .d (dI (Bi (x.reh (Gg x.heads y.heads)) (p.m.split (p.off + smA q.1 p q.2) (p.off + smA q.1 p (A4 q.1 q.2))) false).length)), (129, .d (dI n))]) (fun n => mkH [(3, .box ((Pl.c p).map S.d)), (4, .box [.d (.v (.slice none 0 0)), .d (.v (.slice none 0 0))]), (7, .box ((Vo.c q.1).map S.d)), (7004, .row 60 13 ((Jb (Lg (q.1.evs.drop q.2)) (Bi (x.reh (Gg x.heads y.heads)) (p.m.split (p.off + smA q.1 p q.2) (p.off + smA q.1 p (A4 q.1 q.2))) false) n).map Ev.c))]) (fun n => (Bi (x.reh (Gg x.heads y.heads)) (p.m.split (p.off + smA q.1 p q.2) (p.off + smA q.1 p (A4 q.1 q.2))) false).length - n) (0) (Nat.zero_le _) ?_ ?_ ?_
 exact fz ⟨sr, sr, sr, sr, sr, sr, sr, sr, sr, sr, sr, trivial⟩
 exact gz ⟨R, R, R, by rw [Um]; rfl, trivial⟩
 intro n hk4
 have hnl := Cn (x.reh (Gg x.heads y.heads)) (p.m.split (p.off + smA q.1 p q.2) (p.off + smA q.1 p (A4 q.1 q.2))) false
 refine zr<|zp (Aq R R R)<|zn<|zs<|?_
 refine zd R (fun c130 => ?_) (fun c130 => ?_)
 have hjl : n < (Bi (x.reh (Gg x.heads y.heads)) (p.m.split (p.off + smA q.1 p q.2) (p.off + smA q.1 p (A4 q.1 q.2))) false).length := by omega
 obtain ⟨e, he⟩ := Av hjl
 obtain ⟨o, hon⟩ : ∃ o, q.1.evs[q.2 + n]? = some o := Av (by omega)
 have hge := W4 (f := Lg (q.1.evs.drop q.2)) he
 refine zi<|zs<|Ag<|zr<|zm R R<|za R R<|zng<|zp (Ar R (by conv => lhs; whnf))<|?_
 refine zm R R<|zp (Aa R R A0)<|zp (Ab R R Bq R R)<|zm R R<|zm R R<|zp (Aj R R R (by omega) (by omega))<|zp (F1 R R R (by omega) Ct (hon))<|zp (Bg R R Ez)<|zp (At R R Jg lb)<|zp (Ex R R R (R) R Ct (by rw [Rl]; omega))<|zp (Aa R R Ez)<|XL.step R (Gs R R R (Fi hge) R R Ap1 R lb)<|zn<|?_
 refine Af (by kernel_rfl)<|zp (Aj R R R (by omega) (by omega))<|zm R R<|zn<|?_
 exact Al (n + 1) (by omega) (by omega) (fz ⟨sr, sr, sr, sr, sr, sr, sr, sr, sr, sr, sr, trivial⟩) (gz ⟨R, R, R, Rr (a := Lg (q.1.evs.drop q.2) n e) (by rw [Ang (o := o) (by rw [List.getElem?_drop]; exact hon)]; rfl) (W3 he), trivial⟩)
 have hie : Jb (Lg (q.1.evs.drop q.2)) (Bi (x.reh (Gg x.heads y.heads)) (p.m.split (p.off + smA q.1 p q.2) (p.off + smA q.1 p (A4 q.1 q.2))) false) n = Dh q.1 p q.2 x y := W5 (by omega)
 have hjl2 : (Dh q.1 p q.2 x y).length = (p.m.split (p.off + smA q.1 p q.2) (p.off + smA q.1 p (A4 q.1 q.2))).length := by rw [Dh, Ye, Cn]
 refine Ap<|zr<|XL.freeze (i := 7004) R<|zp (Ae (s' := .d (.agg (Vo.c q.1))) (Ad (Ac R R A8 R lb)) (by kernel_rfl))<|zm R R<|zm R R<|zm R R<|zp (Ae (s' := .d (dI (A4 q.1 q.2 - q.2 : Nat))) (Dj R R R (by omega) (by omega)) (sI (by omega)))<|zp (Ae (s' := .d (.sl 13 ((Dh q.1 p q.2 x y).map Ev.c))) (Ar R (by conv => lhs; whnf)) (by rw [← hie]))<|?_
 refine zp (Ae (s' := .d (.agg [.sl 13 ((Dh q.1 p q.2 x y).map Ev.c), .v (.slice none 0 0)])) (Ad (Bo R Dq By R)) (by kernel_rfl))<|XL.calls R R (Oe q.1 q.2 (A4 q.1 q.2 - q.2) ⟨Dh q.1 p q.2 x y, []⟩ hsv (Ty (by omega)) (by omega)) (.cons R (.same R) (.cons R (.same R) (.cons R (.same R) (.cons R (.agg (.cons (.same R) (.cons (.nil 4) (.nil)))) (.nil)))))<|?_
 refine XL.step R (Ah (l' := [.d (.sl 13 ((B0 q.1 q.2 (A4 q.1 q.2 - q.2) ⟨Dh q.1 p q.2 x y, []⟩).evs.map Ev.c)), .d (.sl 4 ((B0 q.1 q.2 (A4 q.1 q.2 - q.2) ⟨Dh q.1 p q.2 x y, []⟩).tups.map Tp.c))]) R R R R Cr R lb (by kernel_rfl))<|zng<|zm R R<|zp (Ae (s' := .d (.sl 13 ((Dh q.1 p q.2 x y).map Ev.c))) (Ar R (by conv => lhs; whnf)) (by rw [← hie]))<|?_
 refine XL.len R R R Tryz.underlying22 fun hl155=>zp (Aj R R R (by omega) (by omega))<|za R R<|zng<|zm R R<|zm R R<|za R R<|za R R<|zn<|Ig<|?_
 exact Al ((B0 q.1 q.2 (A4 q.1 q.2 - q.2) ⟨Dh q.1 p q.2 x y, []⟩, q.2 + (Dh q.1 p q.2 x y).length)) ((hS.nextJ hq2 (Qk hx hy hJ)).1) ((hS.nextJ hq2 (Qk hx hy hJ)).2.1) (fz ⟨sr, sr, sr, sr, .same (sI (hS.nextJ hq2 (Qk hx hy hJ)).2.2.symm), .same (sI (by omega)), trivial⟩) (gz ⟨R, R, R, trivial⟩)
 refine zi<|Af (by kernel_rfl)<|zm R R<|zm R R<|za R R<|za R R<|zn<|Ig<|?_
 exact Al ((q.1, A4 q.1 q.2)) ((hS.nextJ hq2 (Ge (by unfold smJ; omega))).1) ((hS.nextJ hq2 (Ge (by unfold smJ; omega))).2.1) (fz ⟨sr, sr, sr, sr, .same (sI (hS.nextJ hq2 (Ge (by unfold smJ; omega))).2.2.symm), sr, trivial⟩) (gz ⟨R, R, R, trivial⟩)
 refine zk 6 R<|zq R R R<|zn<|A3 (by kernel_rfl) R<|zi<|Af (by kernel_rfl)<|zm R R<|zm R R<|za R R<|za R R<|zn<|Ig<|?_
 exact Al ((q.1, A4 q.1 q.2)) ((hS.nextJ hq2 (Ge (by unfold smJ; omega))).1) ((hS.nextJ hq2 (Ge (by unfold smJ; omega))).2.1) (fz ⟨sr, sr, sr, sr, .same (sI (hS.nextJ hq2 (Ge (by unfold smJ; omega))).2.2.symm), sr, trivial⟩) (gz ⟨R, R, R, trivial⟩)
 refine zi<|Af (by kernel_rfl)<|zm R R<|zm R R<|za R R<|za R R<|zn<|Ig<|?_
 exact Al ((q.1, A4 q.1 q.2)) ((hS.nextJ hq2 (Ge (by unfold smJ; omega))).1) ((hS.nextJ hq2 (Ge (by unfold smJ; omega))).2.1) (fz ⟨sr, sr, sr, sr, .same (sI (hS.nextJ hq2 (Ge (by unfold smJ; omega))).2.2.symm), sr, trivial⟩) (gz ⟨R, R, R, trivial⟩)
 refine zk 6 R<|zq R R R<|zn<|A3 (by kernel_rfl) R<|zi<|Af (by kernel_rfl)<|zm R R<|zm R R<|za R R<|za R R<|zn<|Ig<|?_
 exact Al ((q.1, A4 q.1 q.2)) ((hS.nextJ hq2 (Ge (by unfold smJ; omega))).1) ((hS.nextJ hq2 (Ge (by unfold smJ; omega))).2.1) (fz ⟨sr, sr, sr, sr, .same (sI (hS.nextJ hq2 (Ge (by unfold smJ; omega))).2.2.symm), sr, trivial⟩) (gz ⟨R, R, R, trivial⟩)
 refine zk 6 R<|zq R R R<|zm R R<|zk 6 R<|zq R R R<|zn<|A3 (by kernel_rfl) R<|zi<|Af (by kernel_rfl)<|zm R R<|zm R R<|za R R<|za R R<|zn<|?_
 refine Ig<|?_
 exact Al ((q.1, A4 q.1 q.2)) ((hS.nextJ hq2 (Ge (by unfold smJ; omega))).1) ((hS.nextJ hq2 (Ge (by unfold smJ; omega))).2.1) (fz ⟨sr, sr, sr, sr, .same (sI (hS.nextJ hq2 (Ge (by unfold smJ; omega))).2.2.symm), sr, trivial⟩) (gz ⟨R, R, R, trivial⟩)
 have hdn := hS.done (by omega)
 refine Ap<|zr<|zp (Ae (s' := .d (.agg (Vo.c q.1))) (Ad (Ac R R A8 R lb)) (by kernel_rfl))<|XL.call1 R R (Jp _ (by assumption)) R<|XL.step R (Ah (l' := [.d (.sl 13 (q.1.evs.map Ev.c)), .d (.sl 4 (q.1.tups.map Tp.c))]) R R R R Cr R lb (by kernel_rfl))<|za R R<|zn<|zt<|?_
 exact Bj R (RV.cells R R R A8 lb R) (RV.tmp R R) (r2v ((Aq4 c24).trans (by rw [← hdn])))
end Go.Proofs.YtcihalbakenleaaGreat
namespace Go.Proofs.YtcihalbakenleaaGreat
def kH (t : Bool) : Hd := ⟨⟨0, 0, 5⟩, t, 0⟩
def kE (s : Int) (v : Val) (t : Bool) : Ev := ⟨s, s, 1, v, [kH t], [], 0, 0, 0, [], 0, 0⟩
def kV : Vo := ⟨[kE 1 ⟨0, 0⟩ false], []⟩
def kP : Pl := ⟨⟨4, 4, 0, 0, 0, 0, 0, 0⟩, 0, 1935360⟩
def kW : Vo := ⟨[kE 1 ⟨2, 0⟩ true, kE 0 ⟨2, 0⟩ true, kE 0 ⟨1, 0⟩ false], []⟩
set_option maxRecDepth 100000 in
theorem Ao8 : Eo kV kP 483840 = (kW, 0) := by kernel_rfl
set_option maxRecDepth 100000 in
theorem Ao7 : Ro kW kP = (kV, 0) := by kernel_rfl
end Go.Proofs.YtcihalbakenleaaGreat
namespace Go.Proofs.YtcihalbakenleaaGreat
open Go.RowKit
theorem Ea (n a b : Int) : XC Tryz.prog 77 [.v (.int .i64 n), .v (.int .i64 a), .v (.int .i64 b)] (fun r => r = dB (decide (a ≤ n ∧ n ≤ b))) := by
 refine An Acg Tryz.func77 R R lb<|zr<|za R R<|znr<|zm R R<|zm R R<|zp (D6 R R R)<|zm R R<|?_
 refine XL.dec 10 R (fun g10 => ?_) (fun g10 => ?_)
 exact zm R R<|zm R R<|zp (E4 R R R)<|zq R R R<|za R R<|zn<|zt<|z1 R R (rB (by rw [decide_eq_decide]; omega))
 exact zk 3 R<|zq R R R<|za R R<|zn<|zt<|z1 R R (rB (by rw [eq_comm, decide_eq_false_iff_not]; omega))
def Hl (p : Pit) : Int := if p.good then p.n else -1
theorem Mx {p : Pit} (h : ¬ p.good) : -1 = Hl p := by rw [Hl, if_neg h]
theorem Sv {p : Pit} (h : p.good) : Hl p = p.num := by rw [Hl, if_pos h, p.num_ok h]
theorem rn_neg {p : Pit} : Hl p < 0 ↔ ¬ p.good := by
 unfold Hl
 split
 ·rename_i h; have := h.2; exact ⟨fun k => by omega, fun k => absurd h k⟩
 ·rename_i h; exact ⟨fun _ => h, fun _ => by decide⟩
theorem Aog (k : Nat) (h : k < 7) : ([0, 2, 4, 5, 7, 9, 11] : List Int)[k]? = some (Rp k) := by
 match k, h with
 | 0, _ => rfl | 1, _ => rfl | 2, _ => rfl | 3, _ => rfl | 4, _ => rfl | 5, _ => rfl | 6, _ => rfl
 | k + 7, h => omega
theorem Qm (p : Pit) : XC Tryz.prog 127 [.agg (Pit.c p)] (fun r => r = dI (Hl p)) := by
 refine An Aal Tryz.func127 R R lb<|zr<|XL.step R (As 1 (l := [.d (dI p.step), .d (dI p.alter), .d (dI p.oct)]) R R (by kernel_rfl))<|za R R<|zn<|zs<|zr<|zp (Aa R R Kr)<|zp (Ab R R Ai R R)<|zp (Aq R R R)<|zm R R<|?_
 refine XL.dec 7 R (fun g7 => ?_) (fun g7 => ?_)
 refine zk 3 R<|zq R R R<|zm R R<|zk 3 R<|zq R R R<|zm R R<|zk 3 R<|zq R R R<|zm R R<|zk 3 R<|zq R R R<|zm R R<|zk 3 R<|zq R R R<|?_
 exact zn<|Ao (by kernel_rfl) R<|zr<|za R R<|zn<|zt<|z1 R R (rI (Mx fun h => by obtain ⟨⟨h1, h2, h3, h4, h5, h6⟩, _⟩ := h; omega))
 refine zp (Aa R R Kr)<|zp (Ab R R Ai R R)<|zp (A5 R R R)<|zq R R R<|zm R R<|?_
 refine XL.dec 12 R (fun g12 => ?_) (fun g12 => ?_)
 refine zk 3 R<|zq R R R<|zm R R<|zk 3 R<|zq R R R<|zm R R<|zk 3 R<|zq R R R<|zm R R<|zk 3 R<|zq R R R<|zn<|Ao (by kernel_rfl) R<|zr<|?_
 exact za R R<|zn<|zt<|z1 R R (rI (Mx fun h => by obtain ⟨⟨h1, h2, h3, h4, h5, h6⟩, _⟩ := h; omega))
 refine zp (Aa R R Kq)<|zp (Ab R R Ai R R)<|zp (Aq R R R)<|zq R R R<|zm R R<|?_
 refine XL.dec 17 R (fun g17 => ?_) (fun g17 => ?_)
 exact zk 3 R<|zq R R R<|zm R R<|zk 3 R<|zq R R R<|zm R R<|zk 3 R<|zq R R R<|zn<|Ao (by kernel_rfl) R<|zr<|za R R<|zn<|zt<|z1 R R (rI (Mx fun h => by obtain ⟨⟨h1, h2, h3, h4, h5, h6⟩, _⟩ := h; omega))
 refine zp (Aa R R Kq)<|zp (Ab R R Ai R R)<|zp (A5 R R R)<|zq R R R<|zm R R<|?_
 refine XL.dec 22 R (fun g22 => ?_) (fun g22 => ?_)
 exact zk 3 R<|zq R R R<|zm R R<|zk 3 R<|zq R R R<|zn<|Ao (by kernel_rfl) R<|zr<|za R R<|zn<|zt<|z1 R R (rI (Mx fun h => by obtain ⟨⟨h1, h2, h3, h4, h5, h6⟩, _⟩ := h; omega))
 refine zp (Aa R R Kp)<|zp (Ab R R Ai R R)<|zp (Aq R R R)<|zq R R R<|zm R R<|?_
 refine XL.dec 27 R (fun g27 => ?_) (fun g27 => ?_)
 exact zk 3 R<|zq R R R<|zn<|Ao (by kernel_rfl) R<|zr<|za R R<|zn<|zt<|z1 R R (rI (Mx fun h => by obtain ⟨⟨h1, h2, h3, h4, h5, h6⟩, _⟩ := h; omega))
 refine zp (Aa R R Kp)<|zp (Ab R R Ai R R)<|zp (A5 R R R)<|zq R R R<|zn<|?_
 refine zd R (fun c31 => ?_) (fun c31 => ?_)
 exact zr<|za R R<|zn<|zt<|z1 R R (rI (Mx fun h => by obtain ⟨⟨h1, h2, h3, h4, h5, h6⟩, _⟩ := h; omega))
 refine zi<|zs<|?_
 have hin : p.inR := by refine Pit.inR_mk ?_ ?_ ?_ ?_ ?_ ?_ <;> assumption
 obtain ⟨k, hk⟩ : ∃ k : Nat, p.step = k := ⟨p.step.toNat, by have := hin.1; omega⟩
 have hb := Ady k
 have hk7 : k < 7 := by have := hin.2.1; omega
 have hn : p.n = Rp k + p.alter + 12 * (p.oct + 1) := by rw [Pit.n, hk, Int.toNat_natCast]; omega
 refine Bc [] (by kernel_rfl) (by kernel_rfl) (by kernel_rfl) (by decide)<|ChK.cons R (CStep.slice (l := Bu [0, 2, 4, 5, 7, 9, 11]) R Tryz.underlying64 C2 Ef (by kernel_rfl) R (by omega) (by omega))<|yp (Aa R R Kr)<|yp (Ab R R Ai R R)<|yp (F1 R R R (hk) Cy (Aog k hk7))<|yp (Ax R R Ai)<|yp (Aa R R Kq)<|yp (Ab R R Ai R R)<|?_
 refine yp (Aj R R R (by omega) (by omega))<|yp (Aa R R Kp)<|yp (Ab R R Ai R R)<|yp (Aj R R R (by omega) (by omega))<|yp (Gy R R R (by omega) (by omega))<|yp (Aj R R R (by omega) (by omega))<|ya R R<|?_
 refine ChK.nil ⟨by kernel_rfl, ?_⟩
 refine zs<|zr<|zm R R<|zp (Aq R R R)<|zm R R<|?_
 refine XL.dec 47 R (fun g47 => ?_) (fun g47 => ?_)
 exact zk 2 R<|zq R R R<|zn<|Ao (by kernel_rfl) R<|zr<|za R R<|zn<|zt<|z1 R R (rI (Mx fun h => by obtain ⟨_, h1, h2⟩ := h; omega))
 refine zm R R<|zp (A5 R R R)<|zq R R R<|zn<|?_
 refine zd R (fun c50 => ?_) (fun c50 => ?_)
 exact zr<|za R R<|zn<|zt<|z1 R R (rI (Mx fun h => by obtain ⟨_, h1, h2⟩ := h; omega))
 exact zi<|zr<|zm R R<|za R R<|zn<|zt<|z1 R R (rI (by rw [Sv ⟨hin, by omega, by omega⟩, Pit.num_ok ⟨hin, by omega, by omega⟩]; omega))
theorem Yo {p : Pit} (h : Hl p < 0) : p.err = 18 := by rw [Pit.err, if_neg (rn_neg.1 h)]
theorem Nw {p : Pit} (h : ¬ Hl p < 0) : p.good := Decidable.not_not.1 fun k => h (rn_neg.2 k)
theorem Tq {p : Pit} (h : ¬ Hl p < 0) : p.err = 0 := by rw [Pit.err, if_pos (Nw h)]
theorem Ads {x : Hd} (h : Hl x.p < 0) : He x = 18 := by rw [He, Cq, Yo h, if_pos (by decide)]
theorem Ag3 {x : Hd} (h : ¬ Hl x.p < 0) (h2 : ¬ (0 ≤ x.sh ∧ x.sh ≤ 2)) : He x = 2 := by
 have : Bn x.sh 2 = 2 := by rw [Bn, if_pos (by omega)]
 rw [He, Cq, Tq h, if_neg (by decide), Cq, this, if_pos (by decide)]
theorem Ww {x : Hd} (h : ¬ Hl x.p < 0) (h2 : ¬ ¬ (0 ≤ x.sh ∧ x.sh ≤ 2)) : He x = 0 := by
 have : Bn x.sh 2 = 0 := by rw [Bn, if_neg (by omega)]
 rw [He, Cq, Tq h, if_neg (by decide), Cq, this, if_neg (by decide)]; rfl
theorem Tj {l : List Hd} {k : Nat} {y : Hd} (h : l[k - 1]? = some y) (hk : 0 < k) : I6 (l.take k) = y.p.num := by
 have := Iu h
 rwa [show k - 1 + 1 = k by omega] at this
theorem Aii {l : List Hd} {k : Nat} (hk : ¬ (0 : Int) < (k : Int)) : I6 (l.take k) = -1 := by
 rw [show k = 0 by omega]; rfl
theorem Uw (l : List Hd) : XC Tryz.prog 80 [.sl 5 (l.map Hd.c)] (fun r => r = dI (Cg l)) := by
 refine An Acd Tryz.func80 R R lb<|zr<|za R R<|zn<|zs<|zr<|zm R R<|XL.len R R R Tryz.underlying48 fun hl5=>zp (Ay R R R)<|zn<|?_
 refine zd R (fun c6 => ?_) (fun c6 => ?_)
 exact zr<|za R R<|zn<|zt<|z1 R R (rI (by rw [Cg, if_pos (by omega)]))
 refine zi<|zs<|zr<|zm R R<|XL.len R R R Tryz.underlying48 fun hl8=>zp (A5 R R R)<|zn<|?_
 refine zd R (fun c9 => ?_) (fun c9 => ?_)
 exact zr<|za R R<|zn<|zt<|z1 R R (rI (by rw [Cg, if_neg (by omega), if_pos (by omega)]))
 refine zi<|zs<|zr<|za R R<|zn<|Ag<|?_
 refine Au (α := Nat) (fun k => k ≤ l.length ∧ Ed (I6 (l.take k)) (l.drop k) = Ed (-1) l ∧ (∀ y, l[k - 1]? = some y → 0 < k → y.p.good)) (fun k => mkF [(0, .d (.sl 5 (l.map Hd.c))), (3, .d (dI k))]) (fun k => mkH []) (fun k => l.length - k) (0) (⟨Nat.zero_le _, by rw [List.drop_zero]; rfl, fun y _ h => absurd h (Nat.lt_irrefl _)⟩) ?_ ?_ ?_
 exact fz ⟨sr, sr, trivial⟩
 exact HSub.nil
 intro k hk0
 obtain ⟨hk, hf, hgd⟩ := hk0
 refine zs<|zr<|zm R R<|zm R R<|XL.len R R R Tryz.underlying48 fun hl12=>zp (Aq R R R)<|zn<|?_
 refine zd R (fun c13 => ?_) (fun c13 => ?_)
 have hk0a : k < l.length := by omega
 obtain ⟨x0, hx0⟩ := Av hk0a
 rw [Cj hx0, Ed] at hf
 refine zi<|zs<|Ag<|zs<|zr<|zm R R<|zm R R<|zp (Ak R R R F8 hx0)<|zp (Bg R R H7)<|zp (Ae (s' := .d (.agg (Pit.c x0.p))) (At R R Fh lb) (by kernel_rfl))<|XL.call1 R R (Qm _) R<|zp (Aq R R R)<|zn<|?_
 refine zd R (fun c22 => ?_) (fun c22 => ?_)
 exact zr<|za R R<|zn<|zt<|z1 R R (rI (by rw [G7 c6 c9, ← hf, if_pos (by rw [Ads c22]; decide), Ads c22]))
 refine zi<|zs<|zr<|zm R R<|zm R R<|zp (Ak R R R F8 hx0)<|zp (Bg R R O0)<|zp (Ax R R Ai)<|XL.call1 R R (Ea _ _ _) R<|zp (Bp R R)<|zn<|?_
 refine zd R (fun c29 => ?_) (fun c29 => ?_)
 exact zr<|za R R<|zn<|zt<|z1 R R (rI (by rw [G7 c6 c9, ← hf, if_pos (by rw [Ag3 c22 c29]; decide), Ag3 c22 c29]))
 refine zi<|zs<|?_
 by_cases q31 : (0 : Int) < (k : Int)
 obtain ⟨y, hy⟩ : ∃ y, l[k - 1]? = some y := Av (by omega)
 have hyg := hgd y hy (by omega)
 refine Bc [] (by kernel_rfl) (by kernel_rfl) (by kernel_rfl) (by decide)<|ym R R<|yp (Di (A5 R R R) (q31))<|ym R R<|ym R R<|ym R R<|yp (Ak R R R F8 hx0)<|yp (Bg R R H7)<|yp (Ae (s' := .d (.agg (Pit.c x0.p))) (At R R Fh lb) (by kernel_rfl))<|ChK.cons R (CStep.call R (Qm _) R)<|ym R R<|ym R R<|yp (Dj R R R (by omega) (by omega))<|?_
 refine yp (F1 R R R (by omega) F8 (hy))<|yp (Bg R R H7)<|yp (Ae (s' := .d (.agg (Pit.c y.p))) (At R R Fh lb) (by kernel_rfl))<|ChK.cons R (CStep.call R (Qm _) R)<|yp (E4 R R R)<|yp (A6 R R (by conv => lhs; whnf))<|?_
 refine ChK.nil ⟨by kernel_rfl, ?_⟩
 refine zd R (fun c47 => ?_) (fun c47 => ?_)
 exact zr<|za R R<|zn<|zt<|z1 R R (rI (by rw [G7 c6 c9, ← hf, if_neg (by rw [Ww c22 c29]; decide), if_pos (by rw [Tj hy (by omega), ← Sv (Nw c22), ← Sv hyg]; exact c47)]))
 refine zi<|Af (by kernel_rfl)<|zm R R<|zp (Aj R R R (by omega) (by omega))<|za R R<|zn<|?_
 have hle : ¬ x0.p.num ≤ I6 (l.take k) := by rw [Tj hy (by omega), ← Sv (Nw c22), ← Sv hyg]; exact c47
 exact Al (k + 1) (⟨by omega, by rw [Iu hx0, ← hf, if_neg (by rw [Ww c22 c29]; decide), if_neg hle], fun y2 hy2 _ => by rw [Nat.add_sub_cancel, hx0] at hy2; cases hy2; exact Nw c22⟩) (by omega) (fz ⟨sr, sr, trivial⟩) (HSub.nil)
 refine Bc [] (by kernel_rfl) (by kernel_rfl) (by kernel_rfl) (by decide)<|ym R R<|yp (F9 (A5 R R R) (q31))<|ym R R<|ChK.skip R<|ChK.skip R<|ChK.skip R<|ChK.skip R<|ChK.skip R<|ChK.skip R<|ChK.skip R<|ChK.skip R<|ChK.skip R<|ChK.skip R<|?_
 refine ChK.skip R<|ChK.skip R<|ChK.skip R<|ChK.skip R<|yp (A6 R R (by conv => lhs; whnf))<|?_
 refine ChK.nil ⟨by kernel_rfl, ?_⟩
 refine A3 (by kernel_rfl) R<|zi<|Af (by kernel_rfl)<|zm R R<|zp (Aj R R R (by omega) (by omega))<|za R R<|zn<|?_
 have hle : ¬ x0.p.num ≤ I6 (l.take k) := by rw [Aii q31]; have := x0.p.num_bd; omega
 exact Al (k + 1) (⟨by omega, by rw [Iu hx0, ← hf, if_neg (by rw [Ww c22 c29]; decide), if_neg hle], fun y2 hy2 _ => by rw [Nat.add_sub_cancel, hx0] at hy2; cases hy2; exact Nw c22⟩) (by omega) (fz ⟨sr, sr, trivial⟩) (HSub.nil)
 have hk0b : k = l.length := by omega
 exact Ap<|zr<|za R R<|zn<|zt<|z1 R R (rI (by rw [G7 c6 c9, ← hf, hk0b, List.drop_length]; rfl))
theorem Sx (l : List Gr) : XC Tryz.prog 81 [.sl 5 (l.map Gr.c)] (fun r => r = dI (E1 l)) := by
 refine An Acc Tryz.func81 R R lb<|zr<|za R R<|zn<|zs<|zr<|zm R R<|XL.len R R R Tryz.underlying57 fun hl5=>zp (A5 R R R)<|zn<|?_
 refine zd R (fun c6 => ?_) (fun c6 => ?_)
 exact zr<|za R R<|zn<|zt<|z1 R R (rI (by rw [E1, if_pos (by omega)]))
 refine zi<|zs<|zr<|za R R<|zn<|Ag<|?_
 refine Au (α := Nat) (fun k => k ≤ l.length ∧ H6 (l.drop k) = H6 l) (fun k => mkF [(0, .d (.sl 5 (l.map Gr.c))), (3, .d (dI k))]) (fun k => mkH []) (fun k => l.length - k) (0) (⟨Nat.zero_le _, by rw [List.drop_zero]⟩) ?_ ?_ ?_
 exact fz ⟨sr, sr, trivial⟩
 exact HSub.nil
 intro k hk0
 obtain ⟨hk, hf⟩ := hk0
 refine zs<|zr<|zm R R<|zm R R<|XL.len R R R Tryz.underlying57 fun hl9=>zp (Aq R R R)<|zn<|?_
 refine zd R (fun c10 => ?_) (fun c10 => ?_)
 have hk0a : k < l.length := by omega
 obtain ⟨x0, hx0⟩ := Av hk0a
 rw [Cj hx0, H6] at hf
 refine zi<|zs<|Ag<|zs<|zr<|zm R R<|zm R R<|zp (Ak R R R O3 hx0)<|zp (Bg R R Vx)<|zp (Ae (s' := .d (.agg (Pit.c x0.p))) (At R R Fh lb) (by kernel_rfl))<|XL.call1 R R (Qm _) R<|zp (Aq R R R)<|zn<|?_
 refine zd R (fun c19 => ?_) (fun c19 => ?_)
 exact zr<|za R R<|zn<|zt<|z1 R R (rI (by rw [Gv c6, ← hf, if_pos (by rw [Yo c19]; decide), Yo c19]))
 refine zi<|zr<|zm R R<|zm R R<|zp (Ak R R R O3 hx0)<|zp (Bg R R P4)<|zp (Ax R R Ai)<|XL.call1 R R (Ea _ _ _) R<|zp (Bp R R)<|zn<|?_
 refine zd R (fun c26 => ?_) (fun c26 => ?_)
 exact zr<|za R R<|zn<|zt<|z1 R R (rI (by rw [Gv c6, ← hf, if_neg (by rw [Tq c19]; decide), if_pos (by omega)]))
 refine zi<|Af (by kernel_rfl)<|zm R R<|zp (Aj R R R (by omega) (by omega))<|za R R<|zn<|?_
 exact Al (k + 1) (⟨by omega, by rw [if_neg (by rw [Tq c19]; decide), if_neg (by omega)] at hf; exact hf⟩) (by omega) (fz ⟨sr, sr, trivial⟩) (HSub.nil)
 have hk0b : k = l.length := by omega
 exact Ap<|zr<|za R R<|zn<|zt<|z1 R R (rI (by rw [Gv c6, ← hf, hk0b, List.drop_length]; rfl))
theorem Afd (s : Sy) : XC Tryz.prog 128 [.agg (Sy.c s)] (fun r => r = dB (decide s.none)) := by
 refine An Aak Tryz.func128 R R lb<|zr<|XL.step R (As 1 (l := [.d (.v (.string ⟨s.text.toArray⟩)), .d (dI s.link)]) R R (by kernel_rfl))<|za R R<|znr<|zp (Aa R R F3)<|zp (Ab R R Kh R R)<|zp (T2 R R R)<|zm R R<|?_
 refine XL.bool 6 R (fun g6 => ?_) (fun g6 => ?_)
 exact zp (Aa R R Jz)<|zp (Ab R R Ai R R)<|zp (Ay R R R)<|zq R R R<|za R R<|zn<|zt<|z1 R R (rB (by rw [Ke] at g6; rw [decide_eq_decide]; exact ⟨fun h => ⟨of_decide_eq_true g6, h⟩, fun h => h.2⟩))
 exact zk 3 R<|zq R R R<|za R R<|zn<|zt<|z1 R R (rB (by rw [Ke] at g6; rw [eq_comm, decide_eq_false_iff_not]; exact fun h => of_decide_eq_false g6 h.1))
theorem Aq2 {s : Sy} (h : ¬ (0 ≤ s.link ∧ s.link ≤ 2)) : Fz s = 2 := by rw [Fz, if_pos (by omega)]
theorem Aq1 {s : Sy} (h : ¬ ¬ (0 ≤ s.link ∧ s.link ≤ 2)) (h2 : 256 < (s.text.length : Int)) : Fz s = 5 := by rw [Fz, if_neg (by omega), if_pos (by omega)]
theorem An9 {s : Sy} {k : Nat} {b : UInt8} (h : ¬ ¬ (0 ≤ s.link ∧ s.link ≤ 2)) (h2 : ¬ 256 < (s.text.length : Int)) (hb : s.text[k]? = some b) (h3 : G3 b) : Fz s = 6 := (Tx (by omega) (by omega) h2 hb h3).symm
theorem Aq0 {s : Sy} (h : ¬ ¬ (0 ≤ s.link ∧ s.link ≤ 2)) (h2 : ¬ 256 < (s.text.length : Int)) (h3 : ∀ j b, j < s.text.length → s.text[j]? = some b → ¬ G3 b) : Fz s = if s.text = [] ∧ s.link = 1 then 3 else 0 := Adw (by omega) (by omega) h2 h3
theorem Nu {l : List Sy} {k : Nat} {x : Sy} {n : Int} (h : l[k]? = some x) (hl : ¬ 4 < (l.length : Int)) (hf : Gz (l.drop k) = Gz l) (hx : Fz x = n) (hn : n ≠ 0) : Gu l = n := by
 have : Gz l = n := by rw [← hf, Vn h (by rw [hx]; exact hn), hx]
 rw [M2 hl, this, if_pos hn]
theorem Sw (l : List Sy) : XC Tryz.prog 82 [.sl 2 (l.map Sy.c)] (fun r => r = dI (Gu l)) := by
 refine An Acb Tryz.func82 R R lb<|zr<|za R R<|zn<|zs<|zr<|zm R R<|XL.len R R R Tryz.underlying58 fun hl7=>zp (A5 R R R)<|zn<|?_
 refine zd R (fun c8 => ?_) (fun c8 => ?_)
 exact zr<|za R R<|zn<|zt<|z1 R R (rI (by rw [Gu, if_pos (by omega)]))
 refine zi<|zs<|zr<|za R R<|zn<|Ag<|?_
 refine Au (α := Nat) (fun k => k ≤ l.length ∧ Gz (l.drop k) = Gz l) (fun k => mkF [(0, .d (.sl 2 (l.map Sy.c))), (3, .d (dI k))]) (fun k => mkH []) (fun k => l.length - k) (0) (⟨Nat.zero_le _, by rw [List.drop_zero]⟩) ?_ ?_ ?_
 exact fz ⟨sr, sr, trivial⟩
 exact HSub.nil
 intro k hk0
 obtain ⟨hk, hf⟩ := hk0
 refine zs<|zr<|zm R R<|zm R R<|XL.len R R R Tryz.underlying58 fun hl11=>zp (Aq R R R)<|zn<|?_
 refine zd R (fun c12 => ?_) (fun c12 => ?_)
 have hk0a : k < l.length := by omega
 obtain ⟨x0, hx0⟩ := Av hk0a
 refine zi<|zs<|Ag<|zr<|zm R R<|zm R R<|zp (Ak R R R Nb hx0)<|zp (Ae (s' := .d (.agg (Sy.c x0))) (At R R Ic lb) (by kernel_rfl))<|XL.step R (A7 4 (l := [.d (.v (.string ⟨#[]⟩)), .d (dI 0)]) R N1 (by kernel_rfl))<|XL.step R (Ah (l' := [.d (.v (.string ⟨x0.text.toArray⟩)), .d (dI x0.link)]) R R R R W8 R lb (by kernel_rfl))<|zn<|zs<|zr<|?_
 refine zp (Aa R R Jz)<|zp (Ab R R Ai R R)<|XL.call1 R R (Ea _ _ _) R<|zp (Bp R R)<|zn<|?_
 refine zd R (fun c22 => ?_) (fun c22 => ?_)
 exact zr<|za R R<|zn<|zt<|z1 R R (rI (Nu hx0 c8 hf (Aq2 c22) (by decide)).symm)
 refine zi<|zs<|zr<|zp (Aa R R F3)<|zp (Ab R R Kh R R)<|zp (M0 R R Tryz.underlying9)<|zp (A5 R R R)<|zn<|?_
 refine zd R (fun c26 => ?_) (fun c26 => ?_)
 exact zr<|za R R<|zn<|zt<|z1 R R (rI (Nu hx0 c8 hf (Aq1 c22 (by have := c26; rw [E0] at this; omega)) (by decide)).symm)
 refine zi<|zs<|zr<|za R R<|zn<|Ag<|?_
 refine Au (α := Nat) (fun m => m ≤ x0.text.length ∧ ∀ j b, j < m → x0.text[j]? = some b → ¬ G3 b) (fun m => mkF [(0, .d (.sl 2 (l.map Sy.c))), (3, .d (dI k)), (4, .ptr 4 0 0), (5, .d (dI m))]) (fun m => mkH [(4, .box ((Sy.c x0).map S.d))]) (fun m => x0.text.length - m) (0) (⟨Nat.zero_le _, fun j b h => absurd h (Nat.not_lt_zero _)⟩) ?_ ?_ ?_
 exact fz ⟨sr, sr, sr, sr, trivial⟩
 exact gz ⟨R, trivial⟩
 intro m hk2
 obtain ⟨hm, hfm⟩ := hk2
 refine zs<|zr<|zm R R<|zp (Aa R R F3)<|zp (Ab R R Kh R R)<|zp (M0 R R Tryz.underlying9)<|zp (Aq R R R)<|zn<|?_
 refine zd R (fun c31 => ?_) (fun c31 => ?_)
 rw [E0] at c31
 have hkl : m < x0.text.length := by omega
 have hsz : (x0.text.length : Int) ≤ 256 := by have := c26; rw [E0] at this; omega
 obtain ⟨b, hb⟩ := Av hkl
 refine zi<|zs<|Ag<|zr<|zp (Aa R R F3)<|zp (Ab R R Kh R R)<|zm R R<|zp (S6 R R R Tryz.underlying9 (N4 hb))<|zp (Aq R R R)<|zm R R<|?_
 refine XL.dec 39 R (fun g39 => ?_) (fun g39 => ?_)
 exact zk 5 R<|zq R R R<|zn<|Ao (by kernel_rfl) R<|zr<|za R R<|zn<|zt<|z1 R R (rI (Nu hx0 c8 hf (An9 c22 (by rw [← E0]; exact c26) hb (Aey g39)) (by decide)).symm)
 refine zp (Aa R R F3)<|zp (Ab R R Kh R R)<|zm R R<|zp (S6 R R R Tryz.underlying9 (N4 hb))<|zp (Ay R R R)<|zq R R R<|zn<|?_
 refine zd R (fun c45 => ?_) (fun c45 => ?_)
 exact zr<|za R R<|zn<|zt<|z1 R R (rI (Nu hx0 c8 hf (An9 c22 (by rw [← E0]; exact c26) hb (Abc c45)) (by decide)).symm)
 refine zi<|Af (by kernel_rfl)<|zm R R<|zp (Aj R R R (by omega) (by omega))<|za R R<|zn<|?_
 exact Al (m + 1) (⟨by omega, fun j b' hj hb' => by by_cases e : j = m; (· subst e; rw [hb] at hb'; cases hb'; exact Aex g39 c45); (· exact hfm j b' (by omega) hb')⟩) (by omega) (fz ⟨sr, sr, sr, sr, trivial⟩) (gz ⟨rfl, trivial⟩)
 rw [E0] at c31
 have hke : m = x0.text.length := by omega
 have he := Aq0 c22 (by rw [← E0]; exact c26) (fun j b hj => hfm j b (by omega))
 refine Ap<|zr<|zp (Aa R R F3)<|zp (Ab R R Kh R R)<|zp (T2 R R R)<|zm R R<|?_
 refine XL.bool 49 R (fun g49 => ?_) (fun g49 => ?_)
 refine zp (Aa R R Jz)<|zp (Ab R R Ai R R)<|zp (Ay R R R)<|zq R R R<|zn<|?_
 refine zd R (fun c53 => ?_) (fun c53 => ?_)
 exact zr<|za R R<|zn<|zt<|z1 R R (rI (by rw [Ke] at g49; exact (Nu hx0 c8 hf (by rw [he, if_pos ⟨of_decide_eq_true g49, c53⟩]) (by decide)).symm))
 refine zi<|Af (by kernel_rfl)<|zm R R<|zp (Aj R R R (by omega) (by omega))<|za R R<|zn<|?_
 have hz0 : Fz x0 = 0 := by rw [he, if_neg (fun h => c53 h.2)]
 exact Al (k + 1) (⟨by omega, by rw [← Ou hx0 (by rw [hz0]; decide)]; exact hf⟩) (by omega) (fz ⟨sr, sr, trivial⟩) (HSub.nil)
 refine zk 3 R<|zq R R R<|zn<|A3 (by kernel_rfl) R<|zi<|Af (by kernel_rfl)<|zm R R<|zp (Aj R R R (by omega) (by omega))<|za R R<|zn<|?_
 rw [Ke] at g49
 have hz0 : Fz x0 = 0 := by rw [he, if_neg (fun h => of_decide_eq_false g49 h.1)]
 exact Al (k + 1) (⟨by omega, by rw [← Ou hx0 (by rw [hz0]; decide)]; exact hf⟩) (by omega) (fz ⟨sr, sr, trivial⟩) (HSub.nil)
 have hk0b : k = l.length := by omega
 have hz : Gz l = 0 := by rw [← hf, hk0b, List.drop_length]; rfl
 have hz2 : Gu l = if H4 l then 3 else 0 := by rw [M2 c8, hz, if_neg (by simp)]
 refine Ap<|zs<|zr<|zm R R<|XL.len R R R Tryz.underlying58 fun hl55=>zp (A5 R R R)<|zm R R<|?_
 refine XL.dec 57 R (fun g57 => ?_) (fun g57 => ?_)
 obtain ⟨s, hs⟩ : ∃ s, l[l.length - 1]? = some s := Av (by omega)
 refine zm R R<|zm R R<|XL.len R R R Tryz.underlying58 fun hl60=>zp (Dj R R R (by omega) (by omega))<|zp (F1 R R R (by omega) Nb (hs))<|zp (Ae (s' := .d (.agg (Sy.c s))) (At R R Ic lb) (by kernel_rfl))<|XL.call1 R R (Afd _) R<|zq R R R<|zn<|?_
 refine zd R (fun c65 => ?_) (fun c65 => ?_)
 exact zr<|za R R<|zn<|zt<|z1 R R (rI (by rw [hz2, if_pos ((Kw hs).2 c65)]))
 exact zi<|zr<|za R R<|zn<|zt<|z1 R R (rI (by rw [hz2, if_neg (fun h => c65 ((Kw hs).1 h))]))
 exact zk 7 R<|zq R R R<|zn<|A3 (by kernel_rfl) R<|zi<|zr<|za R R<|zn<|zt<|z1 R R (rI (by rw [hz2, if_neg (Py g57)]))
end Go.Proofs.YtcihalbakenleaaGreat
namespace Go.Proofs.YtcihalbakenleaaGreat
open Go.RowKit
def Ms (v : Val) : Prop := (-1 ≤ v.log ∧ v.log ≤ 8) ∧ 0 ≤ v.dots ∧ v.dots ≤ 3
instance (v : Val) : Decidable (Ms v) := by unfold Ms; exact inferInstance
theorem valOk_iff {v : Val} : Ms v ↔ C1 v = 0 := by
 unfold Ms C1
 split
 ·rename_i h; exact ⟨fun _ => rfl, fun _ => ⟨⟨h.1, h.2.1⟩, h.2.2⟩⟩
 ·rename_i h; exact ⟨fun k => absurd ⟨k.1.1, k.1.2, k.2⟩ h, fun k => by omega⟩
theorem Akl (v : Val) : XC Tryz.prog 79 [.agg (Val.c v)] (fun r => r = dB (decide (Ms v))) := by
 refine An Ace Tryz.func79 R R lb<|zr<|XL.step R (As 1 (l := [.d (dI v.log), .d (dI v.dots)]) R R (by kernel_rfl))<|za R R<|znr<|zp (Aa R R Ks)<|zp (Ab R R Ai R R)<|XL.call1 R R (Ea _ _ _) R<|zm R R<|?_
 refine XL.dec 6 R (fun g6 => ?_) (fun g6 => ?_)
 exact zp (Aa R R G8)<|zp (Ab R R Ai R R)<|XL.call1 R R (Ea _ _ _) R<|zq R R R<|za R R<|zn<|zt<|z1 R R (rB (by rw [decide_eq_decide]; exact ⟨fun h => ⟨g6, h⟩, fun h => h.2⟩))
 exact zk 3 R<|zq R R R<|za R R<|zn<|zt<|z1 R R (rB (by rw [eq_comm, decide_eq_false_iff_not]; exact fun h => g6 h.1))
def H8 (k : Nat) : Int := 3870720 / 2 ^ k
theorem P3 (k : Nat) : 0 ≤ H8 k ∧ H8 k ≤ 3870720 := by
 have h : (0 : Int) < 2 ^ k := Int.pow_pos (by omega)
 exact ⟨Int.ediv_nonneg (by omega) (by omega), Int.ediv_le_self _ (by omega)⟩
theorem Nm (k : Nat) : H8 k / 2 = H8 (k + 1) := by
 unfold H8
 have h : (0 : Int) < 2 ^ k := Int.pow_pos (by omega)
 rw [Int.pow_succ, Int.ediv_ediv, if_neg (by omega), Int.sub_zero]
theorem Tl {v : Val} {k : Nat} (h : (k : Int) = v.log + 1) : H8 k = Dw v := by rw [H8, Dw, ← h, Int.toNat_natCast]
theorem Ahm (v : Val) (h : C1 v = 0) : XC Tryz.prog 114 [.agg (Val.c v)] (fun r => r = dI (B9 v)) := by
 have hv := M1 (v := v) (by omega)
 have hp := Kv v
 refine An Aay Tryz.func114 R R lb<|zr<|XL.step R (As 1 (l := [.d (dI v.log), .d (dI v.dots)]) R R (by kernel_rfl))<|za R R<|znr<|za R R<|zn<|zs<|zr<|za R R<|zn<|Ag<|?_
 refine Au (α := Nat) (fun k => (k : Int) ≤ v.log + 1) (fun k => mkF [(1, .ptr 1 0 0), (2, .d (dI 0)), (3, .d (dI (H8 k))), (4, .d (dI ((k : Int) - 1)))]) (fun k => mkH [(1, .box ((Val.c v).map S.d))]) (fun k => (v.log + 1).toNat - k) (0) (by omega) ?_ ?_ ?_
 exact fz ⟨sr, sr, .same (sI (by decide)), .same (sI (by decide)), trivial⟩
 exact gz ⟨R, trivial⟩
 intro k hk0
 have hh := P3 k
 refine zs<|zr<|zm R R<|zp (Aa R R Ks)<|zp (Ab R R Ai R R)<|zp (Aq R R R)<|zn<|?_
 refine zd R (fun c11 => ?_) (fun c11 => ?_)
 refine zi<|zs<|Ag<|Af (by kernel_rfl)<|zm R R<|zp (F0 R R R (by omega) (by omega) (by omega))<|za R R<|zn<|Af (by kernel_rfl)<|zm R R<|zp (Aj R R R (by omega) (by omega))<|za R R<|zn<|?_
 exact Al (k + 1) (by omega) (by omega) (fz ⟨sr, sr, .same (sI (Nm k)), .same (sI (by omega)), trivial⟩) (gz ⟨R, trivial⟩)
 have hpl := Tl (v := v) (k := k) (by omega)
 refine Ap<|zr<|zm R R<|zm R R<|za R R<|za R R<|zn<|zs<|zr<|za R R<|zn<|Ag<|?_
 refine Au (α := Nat) (fun m => (m : Int) ≤ v.dots) (fun m => mkF [(1, .ptr 1 0 0), (2, .d (dI 0)), (5, .d (dI (Eh (Dw v) m).2)), (6, .d (dI (Eh (Dw v) m).1)), (7, .d (dI (m : Nat)))]) (fun m => mkH [(1, .box ((Val.c v).map S.d))]) (fun m => v.dots.toNat - m) (0) (hv.2.2.1) ?_ ?_ ?_
 exact fz ⟨sr, sr, .same (sI hpl), .same (sI hpl), sr, trivial⟩
 exact gz ⟨R, trivial⟩
 intro m hk2
 refine zs<|zr<|zm R R<|zp (Aa R R G8)<|zp (Ab R R Ai R R)<|zp (Aq R R R)<|zn<|?_
 refine zd R (fun c21 => ?_) (fun c21 => ?_)
 have hb := J1 hp.1 m
 have hb2 : Dw v * ((m : Int) + 1) ≤ 3870720 * 4 := Int.mul_le_mul hp.2 (by omega) (by omega) (by omega)
 refine zi<|zs<|Ag<|zr<|zm R R<|zp (F0 R R R (by omega) (by omega) (by omega))<|za R R<|zng<|zm R R<|zm R R<|zp (Aj R R R (by omega) (by omega))<|za R R<|zn<|Af (by kernel_rfl)<|?_
 refine zm R R<|zp (Aj R R R (by omega) (by omega))<|za R R<|zn<|?_
 exact Al (m + 1) (by omega) (by omega) (fz ⟨sr, sr, sr, sr, sr, trivial⟩) (gz ⟨R, trivial⟩)
 have hke : v.dots.toNat = m := by omega
 exact Ap<|zr<|zm R R<|za R R<|zn<|zt<|z1 R R (rI (by rw [B9, hke]))
theorem Ca {n : Int} (h : 0 ≤ n) (h2 : n / 16 % 2 = 1) : D7 n = 16 := by rw [D7, if_neg (by omega), if_pos h2]
theorem Cp {n : Int} (h : ¬ (0 ≤ n ∧ n / 16 % 2 = 1)) : D7 n = 0 := by
 by_cases c : n < 0
 ·rw [D7, if_pos c]
 ·rw [D7, if_neg c, if_neg (by omega)]
theorem Et {e : Ev} (h : e.kind = 2) (a : Int) (ha : D7 e.art = a) : (⟨e.site, e.num, e.kind, e.v, [], [], a, 0, e.dyn, [], 0, 0⟩ : Ev) = e.strip := by
 subst ha; rw [Ev.strip, if_neg (by omega), if_pos (by omega), if_pos (by omega)]
theorem Es {e : Ev} (h : e.kind = 3) (a : Int) (ha : D7 e.art = a) : (⟨e.site, e.num, e.kind, ⟨0, 0⟩, [], [], a, 0, e.dyn, [], 0, 0⟩ : Ev) = e.strip := by
 subst ha; rw [Ev.strip, if_neg (by omega), if_neg (by omega), if_pos (by omega)]
theorem Jc {e : Ev} (h : e.kind = 4) : (⟨e.site, e.num, e.kind, e.v, [], [], 0, 0, e.dyn, [], 0, 0⟩ : Ev) = e.strip := by
 rw [Ev.strip, if_neg (by omega), if_pos (by omega), if_neg (by omega)]
theorem Jd {e : Ev} (h2 : ¬ e.kind = 2) (h3 : ¬ e.kind = 3) (h4 : ¬ e.kind = 4) : e = e.strip := by rw [Ev.strip, if_pos (by omega)]
theorem Ahn (e : Ev) (he : e.art ≤ 9223372036854775807) : XC Tryz.prog 78 [.agg (Ev.c e)] (fun r => r = .agg (Ev.c e.strip)) := by
 refine An Acf Tryz.func78 R R lb<|zr<|XL.step R (As 1 (l := [.d (dI e.site), .d (dI e.num), .d (dI e.kind), .d (dI e.v.log), .d (dI e.v.dots), .d (.sl 5 (e.heads.map Hd.c)), .d (.sl 5 (e.graces.map Gr.c)), .d (dI e.art), .d (dI e.orn), .d (dI e.dyn), .d (.sl 2 (e.lyr.map Sy.c)), .d (dI e.stem), .d (dI e.beam)]) R R (by kernel_rfl))<|?_
 refine XL.step R (A7 2 (l := [.d (dI 0), .d (dI 0), .d (dI 0), .d (dI 0), .d (dI 0), .d (.v (.slice none 0 0)), .d (.v (.slice none 0 0)), .d (dI 0), .d (dI 0), .d (dI 0), .d (.v (.slice none 0 0)), .d (dI 0), .d (dI 0)]) R Bs (by kernel_rfl))<|znr<|zp (Aa R R Ez)<|zp (Ae (s' := .d (.agg [dI e.site, dI e.num])) (Ad (Ac R R Jg R lb)) (by kernel_rfl))<|?_
 refine zp (Aa R R Bv)<|zp (Ab R R Ai R R)<|zp (Aa R R B7)<|zp (Ae (s' := .d (.agg (Val.c e.v))) (Ad (Ac R R B8 R lb)) (by kernel_rfl))<|zp (Aa R R Ek)<|zp (Ab R R Ai R R)<|?_
 refine zp (Ae (s' := .d (.agg [dI e.site, dI e.num, dI e.kind, dI e.v.log, dI e.v.dots, .v (.slice none 0 0), .v (.slice none 0 0), dI 0, dI 0, dI e.dyn, .v (.slice none 0 0), dI 0, dI 0])) (Ad (Bo R L7 Bs R)) (by kernel_rfl))<|?_
 refine XL.step R (A7 3 (l := [.d (dI 0), .d (dI 0), .d (dI 0), .d (dI 0), .d (dI 0), .d (.v (.slice none 0 0)), .d (.v (.slice none 0 0)), .d (dI 0), .d (dI 0), .d (dI 0), .d (.v (.slice none 0 0)), .d (dI 0), .d (dI 0)]) R Bs (by kernel_rfl))<|?_
 refine XL.step R (Ah (l' := [.d (dI e.site), .d (dI e.num), .d (dI e.kind), .d (dI e.v.log), .d (dI e.v.dots), .d (.v (.slice none 0 0)), .d (.v (.slice none 0 0)), .d (dI 0), .d (dI 0), .d (dI e.dyn), .d (.v (.slice none 0 0)), .d (dI 0), .d (dI 0)]) R R R R Bw R lb (by kernel_rfl))<|zn<|zs<|zr<|zp (Aa R R Bv)<|zp (Ab R R Ai R R)<|zn<|Ag<|zs<|zr<|zp (Ay R R R)<|?_
 refine za R R<|zn<|?_
 refine zd R (fun c16 => ?_) (fun c16 => ?_)
 refine zi<|?_
 refine zd R (fun c16 => ?_) (fun c16 => ?_)
 refine zs<|zr<|zp (Aa R R C5)<|zp (Ab R R Ai R R)<|zp (D6 R R R)<|zm R R<|?_
 refine XL.dec 22 R (fun g22 => ?_) (fun g22 => ?_)
 refine zp (Aa R R C5)<|zp (Ab R R Ai R R)<|zp (F0 R R R (by omega) (by omega) (by omega))<|zp (Dx R R R (by omega) (by omega))<|zp (Ay R R R)<|zq R R R<|zn<|?_
 refine zd R (fun c28 => ?_) (fun c28 => ?_)
 refine Af (by kernel_rfl)<|zp (Aa R R C5)<|XL.step R (Ah (l' := [.d (dI e.site), .d (dI e.num), .d (dI e.kind), .d (dI e.v.log), .d (dI e.v.dots), .d (.v (.slice none 0 0)), .d (.v (.slice none 0 0)), .d (dI 16), .d (dI 0), .d (dI e.dyn), .d (.v (.slice none 0 0)), .d (dI 0), .d (dI 0)]) R R R R C2 R lb (by kernel_rfl))<|znr<|zp (Aa R R Bv)<|?_
 refine zp (Ab R R Ai R R)<|zp (Ay R R R)<|zn<|?_
 refine zd R (fun c32 => ?_) (fun c32 => ?_)
 refine Af (by kernel_rfl)<|zp (Ae (s' := .d (.agg [dI 0, dI 0])) (Ad (Bo R In C6 R)) (by kernel_rfl))<|zp (Aa R R B7)<|?_
 refine XL.step R (Ah (l' := [.d (dI e.site), .d (dI e.num), .d (dI e.kind), .d (dI 0), .d (dI 0), .d (.v (.slice none 0 0)), .d (.v (.slice none 0 0)), .d (dI 16), .d (dI 0), .d (dI e.dyn), .d (.v (.slice none 0 0)), .d (dI 0), .d (dI 0)]) R R R R Dd R lb (by kernel_rfl))<|zn<|zr<|?_
 refine zp (Ae (s' := .d (.agg [dI e.site, dI e.num, dI e.kind, dI 0, dI 0, .v (.slice none 0 0), .v (.slice none 0 0), dI 16, dI 0, dI e.dyn, .v (.slice none 0 0), dI 0, dI 0])) (Ad (Ac R R Aw R lb)) (by kernel_rfl))<|?_
 refine XL.step R (Ah (l' := [.d (dI e.site), .d (dI e.num), .d (dI e.kind), .d (dI 0), .d (dI 0), .d (.v (.slice none 0 0)), .d (.v (.slice none 0 0)), .d (dI 16), .d (dI 0), .d (dI e.dyn), .d (.v (.slice none 0 0)), .d (dI 0), .d (dI 0)]) R R R R Bw R lb (by kernel_rfl))<|zn<|zt<|?_
 exact Fm R (RV.sub (RV.cells R R R Aw lb R) (.agg (.cons (.same R) (.cons (.same R) (.cons (.same R) (.cons (.same R) (.cons (.same R) (.cons (.nil 5) (.cons (.nil 5) (.cons (.same R) (.cons (.same R) (.cons (.same R) (.cons (.nil 2) (.cons (.same R) (.cons (.same R) (.nil)))))))))))))))) (by first | exact Bl (Et (by omega) 16 (Ca (by omega) (by omega))) | exact Bl (Es (by omega) 16 (Ca (by omega) (by omega))) | exact Bl (Et (by omega) 0 (Cp (by omega))) | exact Bl (Es (by omega) 0 (Cp (by omega))) | exact Bl (Jc (by omega)) | exact Bl (Jd (by omega) (by omega) (by omega)) | (exfalso; omega))
 refine zi<|zr<|zp (Ae (s' := .d (.agg [dI e.site, dI e.num, dI e.kind, dI e.v.log, dI e.v.dots, .v (.slice none 0 0), .v (.slice none 0 0), dI 16, dI 0, dI e.dyn, .v (.slice none 0 0), dI 0, dI 0])) (Ad (Ac R R Aw R lb)) (by kernel_rfl))<|?_
 refine XL.step R (Ah (l' := [.d (dI e.site), .d (dI e.num), .d (dI e.kind), .d (dI e.v.log), .d (dI e.v.dots), .d (.v (.slice none 0 0)), .d (.v (.slice none 0 0)), .d (dI 16), .d (dI 0), .d (dI e.dyn), .d (.v (.slice none 0 0)), .d (dI 0), .d (dI 0)]) R R R R Bw R lb (by kernel_rfl))<|zn<|zt<|?_
 exact Fm R (RV.sub (RV.cells R R R Aw lb R) (.agg (.cons (.same R) (.cons (.same R) (.cons (.same R) (.cons (.same R) (.cons (.same R) (.cons (.nil 5) (.cons (.nil 5) (.cons (.same R) (.cons (.same R) (.cons (.same R) (.cons (.nil 2) (.cons (.same R) (.cons (.same R) (.nil)))))))))))))))) (by first | exact Bl (Et (by omega) 16 (Ca (by omega) (by omega))) | exact Bl (Es (by omega) 16 (Ca (by omega) (by omega))) | exact Bl (Et (by omega) 0 (Cp (by omega))) | exact Bl (Es (by omega) 0 (Cp (by omega))) | exact Bl (Jc (by omega)) | exact Bl (Jd (by omega) (by omega) (by omega)) | (exfalso; omega))
 refine zi<|zr<|zp (Aa R R Bv)<|zp (Ab R R Ai R R)<|zp (Ay R R R)<|zn<|?_
 refine zd R (fun c32 => ?_) (fun c32 => ?_)
 refine Af (by kernel_rfl)<|zp (Ae (s' := .d (.agg [dI 0, dI 0])) (Ad (Bo R In C6 R)) (by kernel_rfl))<|zp (Aa R R B7)<|?_
 refine XL.step R (Ah (l' := [.d (dI e.site), .d (dI e.num), .d (dI e.kind), .d (dI 0), .d (dI 0), .d (.v (.slice none 0 0)), .d (.v (.slice none 0 0)), .d (dI 0), .d (dI 0), .d (dI e.dyn), .d (.v (.slice none 0 0)), .d (dI 0), .d (dI 0)]) R R R R Dd R lb (by kernel_rfl))<|zn<|zr<|?_
 refine zp (Ae (s' := .d (.agg [dI e.site, dI e.num, dI e.kind, dI 0, dI 0, .v (.slice none 0 0), .v (.slice none 0 0), dI 0, dI 0, dI e.dyn, .v (.slice none 0 0), dI 0, dI 0])) (Ad (Ac R R Aw R lb)) (by kernel_rfl))<|?_
 refine XL.step R (Ah (l' := [.d (dI e.site), .d (dI e.num), .d (dI e.kind), .d (dI 0), .d (dI 0), .d (.v (.slice none 0 0)), .d (.v (.slice none 0 0)), .d (dI 0), .d (dI 0), .d (dI e.dyn), .d (.v (.slice none 0 0)), .d (dI 0), .d (dI 0)]) R R R R Bw R lb (by kernel_rfl))<|zn<|zt<|?_
 exact Fm R (RV.sub (RV.cells R R R Aw lb R) (.agg (.cons (.same R) (.cons (.same R) (.cons (.same R) (.cons (.same R) (.cons (.same R) (.cons (.nil 5) (.cons (.nil 5) (.cons (.same R) (.cons (.same R) (.cons (.same R) (.cons (.nil 2) (.cons (.same R) (.cons (.same R) (.nil)))))))))))))))) (by first | exact Bl (Et (by omega) 16 (Ca (by omega) (by omega))) | exact Bl (Es (by omega) 16 (Ca (by omega) (by omega))) | exact Bl (Et (by omega) 0 (Cp (by omega))) | exact Bl (Es (by omega) 0 (Cp (by omega))) | exact Bl (Jc (by omega)) | exact Bl (Jd (by omega) (by omega) (by omega)) | (exfalso; omega))
 refine zi<|zr<|zp (Ae (s' := .d (.agg [dI e.site, dI e.num, dI e.kind, dI e.v.log, dI e.v.dots, .v (.slice none 0 0), .v (.slice none 0 0), dI 0, dI 0, dI e.dyn, .v (.slice none 0 0), dI 0, dI 0])) (Ad (Ac R R Aw R lb)) (by kernel_rfl))<|?_
 refine XL.step R (Ah (l' := [.d (dI e.site), .d (dI e.num), .d (dI e.kind), .d (dI e.v.log), .d (dI e.v.dots), .d (.v (.slice none 0 0)), .d (.v (.slice none 0 0)), .d (dI 0), .d (dI 0), .d (dI e.dyn), .d (.v (.slice none 0 0)), .d (dI 0), .d (dI 0)]) R R R R Bw R lb (by kernel_rfl))<|zn<|zt<|?_
 exact Fm R (RV.sub (RV.cells R R R Aw lb R) (.agg (.cons (.same R) (.cons (.same R) (.cons (.same R) (.cons (.same R) (.cons (.same R) (.cons (.nil 5) (.cons (.nil 5) (.cons (.same R) (.cons (.same R) (.cons (.same R) (.cons (.nil 2) (.cons (.same R) (.cons (.same R) (.nil)))))))))))))))) (by first | exact Bl (Et (by omega) 16 (Ca (by omega) (by omega))) | exact Bl (Es (by omega) 16 (Ca (by omega) (by omega))) | exact Bl (Et (by omega) 0 (Cp (by omega))) | exact Bl (Es (by omega) 0 (Cp (by omega))) | exact Bl (Jc (by omega)) | exact Bl (Jd (by omega) (by omega) (by omega)) | (exfalso; omega))
 refine zk 5 R<|zq R R R<|zn<|A3 (by kernel_rfl) R<|zi<|zr<|zp (Aa R R Bv)<|zp (Ab R R Ai R R)<|zp (Ay R R R)<|zn<|?_
 refine zd R (fun c32 => ?_) (fun c32 => ?_)
 refine Af (by kernel_rfl)<|zp (Ae (s' := .d (.agg [dI 0, dI 0])) (Ad (Bo R In C6 R)) (by kernel_rfl))<|zp (Aa R R B7)<|?_
 refine XL.step R (Ah (l' := [.d (dI e.site), .d (dI e.num), .d (dI e.kind), .d (dI 0), .d (dI 0), .d (.v (.slice none 0 0)), .d (.v (.slice none 0 0)), .d (dI 0), .d (dI 0), .d (dI e.dyn), .d (.v (.slice none 0 0)), .d (dI 0), .d (dI 0)]) R R R R Dd R lb (by kernel_rfl))<|zn<|zr<|?_
 refine zp (Ae (s' := .d (.agg [dI e.site, dI e.num, dI e.kind, dI 0, dI 0, .v (.slice none 0 0), .v (.slice none 0 0), dI 0, dI 0, dI e.dyn, .v (.slice none 0 0), dI 0, dI 0])) (Ad (Ac R R Aw R lb)) (by kernel_rfl))<|?_
 refine XL.step R (Ah (l' := [.d (dI e.site), .d (dI e.num), .d (dI e.kind), .d (dI 0), .d (dI 0), .d (.v (.slice none 0 0)), .d (.v (.slice none 0 0)), .d (dI 0), .d (dI 0), .d (dI e.dyn), .d (.v (.slice none 0 0)), .d (dI 0), .d (dI 0)]) R R R R Bw R lb (by kernel_rfl))<|zn<|zt<|?_
 exact Fm R (RV.sub (RV.cells R R R Aw lb R) (.agg (.cons (.same R) (.cons (.same R) (.cons (.same R) (.cons (.same R) (.cons (.same R) (.cons (.nil 5) (.cons (.nil 5) (.cons (.same R) (.cons (.same R) (.cons (.same R) (.cons (.nil 2) (.cons (.same R) (.cons (.same R) (.nil)))))))))))))))) (by first | exact Bl (Et (by omega) 16 (Ca (by omega) (by omega))) | exact Bl (Es (by omega) 16 (Ca (by omega) (by omega))) | exact Bl (Et (by omega) 0 (Cp (by omega))) | exact Bl (Es (by omega) 0 (Cp (by omega))) | exact Bl (Jc (by omega)) | exact Bl (Jd (by omega) (by omega) (by omega)) | (exfalso; omega))
 refine zi<|zr<|zp (Ae (s' := .d (.agg [dI e.site, dI e.num, dI e.kind, dI e.v.log, dI e.v.dots, .v (.slice none 0 0), .v (.slice none 0 0), dI 0, dI 0, dI e.dyn, .v (.slice none 0 0), dI 0, dI 0])) (Ad (Ac R R Aw R lb)) (by kernel_rfl))<|?_
 refine XL.step R (Ah (l' := [.d (dI e.site), .d (dI e.num), .d (dI e.kind), .d (dI e.v.log), .d (dI e.v.dots), .d (.v (.slice none 0 0)), .d (.v (.slice none 0 0)), .d (dI 0), .d (dI 0), .d (dI e.dyn), .d (.v (.slice none 0 0)), .d (dI 0), .d (dI 0)]) R R R R Bw R lb (by kernel_rfl))<|zn<|zt<|?_
 exact Fm R (RV.sub (RV.cells R R R Aw lb R) (.agg (.cons (.same R) (.cons (.same R) (.cons (.same R) (.cons (.same R) (.cons (.same R) (.cons (.nil 5) (.cons (.nil 5) (.cons (.same R) (.cons (.same R) (.cons (.same R) (.cons (.nil 2) (.cons (.same R) (.cons (.same R) (.nil)))))))))))))))) (by first | exact Bl (Et (by omega) 16 (Ca (by omega) (by omega))) | exact Bl (Es (by omega) 16 (Ca (by omega) (by omega))) | exact Bl (Et (by omega) 0 (Cp (by omega))) | exact Bl (Es (by omega) 0 (Cp (by omega))) | exact Bl (Jc (by omega)) | exact Bl (Jd (by omega) (by omega) (by omega)) | (exfalso; omega))
 refine zr<|zp (Ay R R R)<|za R R<|zn<|?_
 refine zd R (fun c35 => ?_) (fun c35 => ?_)
 refine zi<|zr<|zp (Ae (s' := .d (.agg [dI e.site, dI e.num, dI e.kind, dI e.v.log, dI e.v.dots, .v (.slice none 0 0), .v (.slice none 0 0), dI 0, dI 0, dI e.dyn, .v (.slice none 0 0), dI 0, dI 0])) (Ad (Ac R R Aw R lb)) (by kernel_rfl))<|?_
 refine XL.step R (Ah (l' := [.d (dI e.site), .d (dI e.num), .d (dI e.kind), .d (dI e.v.log), .d (dI e.v.dots), .d (.v (.slice none 0 0)), .d (.v (.slice none 0 0)), .d (dI 0), .d (dI 0), .d (dI e.dyn), .d (.v (.slice none 0 0)), .d (dI 0), .d (dI 0)]) R R R R Bw R lb (by kernel_rfl))<|zn<|zt<|?_
 exact Fm R (RV.sub (RV.cells R R R Aw lb R) (.agg (.cons (.same R) (.cons (.same R) (.cons (.same R) (.cons (.same R) (.cons (.same R) (.cons (.nil 5) (.cons (.nil 5) (.cons (.same R) (.cons (.same R) (.cons (.same R) (.cons (.nil 2) (.cons (.same R) (.cons (.same R) (.nil)))))))))))))))) (by first | exact Bl (Et (by omega) 16 (Ca (by omega) (by omega))) | exact Bl (Es (by omega) 16 (Ca (by omega) (by omega))) | exact Bl (Et (by omega) 0 (Cp (by omega))) | exact Bl (Es (by omega) 0 (Cp (by omega))) | exact Bl (Jc (by omega)) | exact Bl (Jd (by omega) (by omega) (by omega)) | (exfalso; omega))
 refine zr<|zp (Ae (s' := .d (.agg (Ev.c e))) (Ad (Ac R R Aw R lb)) (by kernel_rfl))<|?_
 refine XL.step R (Ah (l' := [.d (dI e.site), .d (dI e.num), .d (dI e.kind), .d (dI e.v.log), .d (dI e.v.dots), .d (.sl 5 (e.heads.map Hd.c)), .d (.sl 5 (e.graces.map Gr.c)), .d (dI e.art), .d (dI e.orn), .d (dI e.dyn), .d (.sl 2 (e.lyr.map Sy.c)), .d (dI e.stem), .d (dI e.beam)]) R R R R Bw R lb (by kernel_rfl))<|zn<|zt<|?_
 exact Fm R (RV.cells R R R Aw lb R) (by first | exact Bl (Et (by omega) 16 (Ca (by omega) (by omega))) | exact Bl (Es (by omega) 16 (Ca (by omega) (by omega))) | exact Bl (Et (by omega) 0 (Cp (by omega))) | exact Bl (Es (by omega) 0 (Cp (by omega))) | exact Bl (Jc (by omega)) | exact Bl (Jd (by omega) (by omega) (by omega)) | (exfalso; omega))
 refine Af (by kernel_rfl)<|zp (Ay R R R)<|za R R<|zn<|?_
 refine zd R (fun c16 => ?_) (fun c16 => ?_)
 refine zs<|zr<|zp (Aa R R C5)<|zp (Ab R R Ai R R)<|zp (D6 R R R)<|zm R R<|?_
 refine XL.dec 22 R (fun g22 => ?_) (fun g22 => ?_)
 refine zp (Aa R R C5)<|zp (Ab R R Ai R R)<|zp (F0 R R R (by omega) (by omega) (by omega))<|zp (Dx R R R (by omega) (by omega))<|zp (Ay R R R)<|zq R R R<|zn<|?_
 refine zd R (fun c28 => ?_) (fun c28 => ?_)
 refine Af (by kernel_rfl)<|zp (Aa R R C5)<|XL.step R (Ah (l' := [.d (dI e.site), .d (dI e.num), .d (dI e.kind), .d (dI e.v.log), .d (dI e.v.dots), .d (.v (.slice none 0 0)), .d (.v (.slice none 0 0)), .d (dI 16), .d (dI 0), .d (dI e.dyn), .d (.v (.slice none 0 0)), .d (dI 0), .d (dI 0)]) R R R R C2 R lb (by kernel_rfl))<|znr<|zp (Aa R R Bv)<|?_
 refine zp (Ab R R Ai R R)<|zp (Ay R R R)<|zn<|?_
 refine zd R (fun c32 => ?_) (fun c32 => ?_)
 refine Af (by kernel_rfl)<|zp (Ae (s' := .d (.agg [dI 0, dI 0])) (Ad (Bo R In C6 R)) (by kernel_rfl))<|zp (Aa R R B7)<|?_
 refine XL.step R (Ah (l' := [.d (dI e.site), .d (dI e.num), .d (dI e.kind), .d (dI 0), .d (dI 0), .d (.v (.slice none 0 0)), .d (.v (.slice none 0 0)), .d (dI 16), .d (dI 0), .d (dI e.dyn), .d (.v (.slice none 0 0)), .d (dI 0), .d (dI 0)]) R R R R Dd R lb (by kernel_rfl))<|zn<|zr<|?_
 refine zp (Ae (s' := .d (.agg [dI e.site, dI e.num, dI e.kind, dI 0, dI 0, .v (.slice none 0 0), .v (.slice none 0 0), dI 16, dI 0, dI e.dyn, .v (.slice none 0 0), dI 0, dI 0])) (Ad (Ac R R Aw R lb)) (by kernel_rfl))<|?_
 refine XL.step R (Ah (l' := [.d (dI e.site), .d (dI e.num), .d (dI e.kind), .d (dI 0), .d (dI 0), .d (.v (.slice none 0 0)), .d (.v (.slice none 0 0)), .d (dI 16), .d (dI 0), .d (dI e.dyn), .d (.v (.slice none 0 0)), .d (dI 0), .d (dI 0)]) R R R R Bw R lb (by kernel_rfl))<|zn<|zt<|?_
 exact Fm R (RV.sub (RV.cells R R R Aw lb R) (.agg (.cons (.same R) (.cons (.same R) (.cons (.same R) (.cons (.same R) (.cons (.same R) (.cons (.nil 5) (.cons (.nil 5) (.cons (.same R) (.cons (.same R) (.cons (.same R) (.cons (.nil 2) (.cons (.same R) (.cons (.same R) (.nil)))))))))))))))) (by first | exact Bl (Et (by omega) 16 (Ca (by omega) (by omega))) | exact Bl (Es (by omega) 16 (Ca (by omega) (by omega))) | exact Bl (Et (by omega) 0 (Cp (by omega))) | exact Bl (Es (by omega) 0 (Cp (by omega))) | exact Bl (Jc (by omega)) | exact Bl (Jd (by omega) (by omega) (by omega)) | (exfalso; omega))
 refine zi<|zr<|zp (Ae (s' := .d (.agg [dI e.site, dI e.num, dI e.kind, dI e.v.log, dI e.v.dots, .v (.slice none 0 0), .v (.slice none 0 0), dI 16, dI 0, dI e.dyn, .v (.slice none 0 0), dI 0, dI 0])) (Ad (Ac R R Aw R lb)) (by kernel_rfl))<|?_
 refine XL.step R (Ah (l' := [.d (dI e.site), .d (dI e.num), .d (dI e.kind), .d (dI e.v.log), .d (dI e.v.dots), .d (.v (.slice none 0 0)), .d (.v (.slice none 0 0)), .d (dI 16), .d (dI 0), .d (dI e.dyn), .d (.v (.slice none 0 0)), .d (dI 0), .d (dI 0)]) R R R R Bw R lb (by kernel_rfl))<|zn<|zt<|?_
 exact Fm R (RV.sub (RV.cells R R R Aw lb R) (.agg (.cons (.same R) (.cons (.same R) (.cons (.same R) (.cons (.same R) (.cons (.same R) (.cons (.nil 5) (.cons (.nil 5) (.cons (.same R) (.cons (.same R) (.cons (.same R) (.cons (.nil 2) (.cons (.same R) (.cons (.same R) (.nil)))))))))))))))) (by first | exact Bl (Et (by omega) 16 (Ca (by omega) (by omega))) | exact Bl (Es (by omega) 16 (Ca (by omega) (by omega))) | exact Bl (Et (by omega) 0 (Cp (by omega))) | exact Bl (Es (by omega) 0 (Cp (by omega))) | exact Bl (Jc (by omega)) | exact Bl (Jd (by omega) (by omega) (by omega)) | (exfalso; omega))
 refine zi<|zr<|zp (Aa R R Bv)<|zp (Ab R R Ai R R)<|zp (Ay R R R)<|zn<|?_
 refine zd R (fun c32 => ?_) (fun c32 => ?_)
 refine Af (by kernel_rfl)<|zp (Ae (s' := .d (.agg [dI 0, dI 0])) (Ad (Bo R In C6 R)) (by kernel_rfl))<|zp (Aa R R B7)<|?_
 refine XL.step R (Ah (l' := [.d (dI e.site), .d (dI e.num), .d (dI e.kind), .d (dI 0), .d (dI 0), .d (.v (.slice none 0 0)), .d (.v (.slice none 0 0)), .d (dI 0), .d (dI 0), .d (dI e.dyn), .d (.v (.slice none 0 0)), .d (dI 0), .d (dI 0)]) R R R R Dd R lb (by kernel_rfl))<|zn<|zr<|?_
 refine zp (Ae (s' := .d (.agg [dI e.site, dI e.num, dI e.kind, dI 0, dI 0, .v (.slice none 0 0), .v (.slice none 0 0), dI 0, dI 0, dI e.dyn, .v (.slice none 0 0), dI 0, dI 0])) (Ad (Ac R R Aw R lb)) (by kernel_rfl))<|?_
 refine XL.step R (Ah (l' := [.d (dI e.site), .d (dI e.num), .d (dI e.kind), .d (dI 0), .d (dI 0), .d (.v (.slice none 0 0)), .d (.v (.slice none 0 0)), .d (dI 0), .d (dI 0), .d (dI e.dyn), .d (.v (.slice none 0 0)), .d (dI 0), .d (dI 0)]) R R R R Bw R lb (by kernel_rfl))<|zn<|zt<|?_
 exact Fm R (RV.sub (RV.cells R R R Aw lb R) (.agg (.cons (.same R) (.cons (.same R) (.cons (.same R) (.cons (.same R) (.cons (.same R) (.cons (.nil 5) (.cons (.nil 5) (.cons (.same R) (.cons (.same R) (.cons (.same R) (.cons (.nil 2) (.cons (.same R) (.cons (.same R) (.nil)))))))))))))))) (by first | exact Bl (Et (by omega) 16 (Ca (by omega) (by omega))) | exact Bl (Es (by omega) 16 (Ca (by omega) (by omega))) | exact Bl (Et (by omega) 0 (Cp (by omega))) | exact Bl (Es (by omega) 0 (Cp (by omega))) | exact Bl (Jc (by omega)) | exact Bl (Jd (by omega) (by omega) (by omega)) | (exfalso; omega))
 refine zi<|zr<|zp (Ae (s' := .d (.agg [dI e.site, dI e.num, dI e.kind, dI e.v.log, dI e.v.dots, .v (.slice none 0 0), .v (.slice none 0 0), dI 0, dI 0, dI e.dyn, .v (.slice none 0 0), dI 0, dI 0])) (Ad (Ac R R Aw R lb)) (by kernel_rfl))<|?_
 refine XL.step R (Ah (l' := [.d (dI e.site), .d (dI e.num), .d (dI e.kind), .d (dI e.v.log), .d (dI e.v.dots), .d (.v (.slice none 0 0)), .d (.v (.slice none 0 0)), .d (dI 0), .d (dI 0), .d (dI e.dyn), .d (.v (.slice none 0 0)), .d (dI 0), .d (dI 0)]) R R R R Bw R lb (by kernel_rfl))<|zn<|zt<|?_
 exact Fm R (RV.sub (RV.cells R R R Aw lb R) (.agg (.cons (.same R) (.cons (.same R) (.cons (.same R) (.cons (.same R) (.cons (.same R) (.cons (.nil 5) (.cons (.nil 5) (.cons (.same R) (.cons (.same R) (.cons (.same R) (.cons (.nil 2) (.cons (.same R) (.cons (.same R) (.nil)))))))))))))))) (by first | exact Bl (Et (by omega) 16 (Ca (by omega) (by omega))) | exact Bl (Es (by omega) 16 (Ca (by omega) (by omega))) | exact Bl (Et (by omega) 0 (Cp (by omega))) | exact Bl (Es (by omega) 0 (Cp (by omega))) | exact Bl (Jc (by omega)) | exact Bl (Jd (by omega) (by omega) (by omega)) | (exfalso; omega))
 refine zk 5 R<|zq R R R<|zn<|A3 (by kernel_rfl) R<|zi<|zr<|zp (Aa R R Bv)<|zp (Ab R R Ai R R)<|zp (Ay R R R)<|zn<|?_
 refine zd R (fun c32 => ?_) (fun c32 => ?_)
 refine Af (by kernel_rfl)<|zp (Ae (s' := .d (.agg [dI 0, dI 0])) (Ad (Bo R In C6 R)) (by kernel_rfl))<|zp (Aa R R B7)<|?_
 refine XL.step R (Ah (l' := [.d (dI e.site), .d (dI e.num), .d (dI e.kind), .d (dI 0), .d (dI 0), .d (.v (.slice none 0 0)), .d (.v (.slice none 0 0)), .d (dI 0), .d (dI 0), .d (dI e.dyn), .d (.v (.slice none 0 0)), .d (dI 0), .d (dI 0)]) R R R R Dd R lb (by kernel_rfl))<|zn<|zr<|?_
 refine zp (Ae (s' := .d (.agg [dI e.site, dI e.num, dI e.kind, dI 0, dI 0, .v (.slice none 0 0), .v (.slice none 0 0), dI 0, dI 0, dI e.dyn, .v (.slice none 0 0), dI 0, dI 0])) (Ad (Ac R R Aw R lb)) (by kernel_rfl))<|?_
 refine XL.step R (Ah (l' := [.d (dI e.site), .d (dI e.num), .d (dI e.kind), .d (dI 0), .d (dI 0), .d (.v (.slice none 0 0)), .d (.v (.slice none 0 0)), .d (dI 0), .d (dI 0), .d (dI e.dyn), .d (.v (.slice none 0 0)), .d (dI 0), .d (dI 0)]) R R R R Bw R lb (by kernel_rfl))<|zn<|zt<|?_
 exact Fm R (RV.sub (RV.cells R R R Aw lb R) (.agg (.cons (.same R) (.cons (.same R) (.cons (.same R) (.cons (.same R) (.cons (.same R) (.cons (.nil 5) (.cons (.nil 5) (.cons (.same R) (.cons (.same R) (.cons (.same R) (.cons (.nil 2) (.cons (.same R) (.cons (.same R) (.nil)))))))))))))))) (by first | exact Bl (Et (by omega) 16 (Ca (by omega) (by omega))) | exact Bl (Es (by omega) 16 (Ca (by omega) (by omega))) | exact Bl (Et (by omega) 0 (Cp (by omega))) | exact Bl (Es (by omega) 0 (Cp (by omega))) | exact Bl (Jc (by omega)) | exact Bl (Jd (by omega) (by omega) (by omega)) | (exfalso; omega))
 refine zi<|zr<|zp (Ae (s' := .d (.agg [dI e.site, dI e.num, dI e.kind, dI e.v.log, dI e.v.dots, .v (.slice none 0 0), .v (.slice none 0 0), dI 0, dI 0, dI e.dyn, .v (.slice none 0 0), dI 0, dI 0])) (Ad (Ac R R Aw R lb)) (by kernel_rfl))<|?_
 refine XL.step R (Ah (l' := [.d (dI e.site), .d (dI e.num), .d (dI e.kind), .d (dI e.v.log), .d (dI e.v.dots), .d (.v (.slice none 0 0)), .d (.v (.slice none 0 0)), .d (dI 0), .d (dI 0), .d (dI e.dyn), .d (.v (.slice none 0 0)), .d (dI 0), .d (dI 0)]) R R R R Bw R lb (by kernel_rfl))<|zn<|zt<|?_
 exact Fm R (RV.sub (RV.cells R R R Aw lb R) (.agg (.cons (.same R) (.cons (.same R) (.cons (.same R) (.cons (.same R) (.cons (.same R) (.cons (.nil 5) (.cons (.nil 5) (.cons (.same R) (.cons (.same R) (.cons (.same R) (.cons (.nil 2) (.cons (.same R) (.cons (.same R) (.nil)))))))))))))))) (by first | exact Bl (Et (by omega) 16 (Ca (by omega) (by omega))) | exact Bl (Es (by omega) 16 (Ca (by omega) (by omega))) | exact Bl (Et (by omega) 0 (Cp (by omega))) | exact Bl (Es (by omega) 0 (Cp (by omega))) | exact Bl (Jc (by omega)) | exact Bl (Jd (by omega) (by omega) (by omega)) | (exfalso; omega))
 refine zr<|zp (Ay R R R)<|za R R<|zn<|?_
 refine zd R (fun c35 => ?_) (fun c35 => ?_)
 refine zi<|zr<|zp (Ae (s' := .d (.agg [dI e.site, dI e.num, dI e.kind, dI e.v.log, dI e.v.dots, .v (.slice none 0 0), .v (.slice none 0 0), dI 0, dI 0, dI e.dyn, .v (.slice none 0 0), dI 0, dI 0])) (Ad (Ac R R Aw R lb)) (by kernel_rfl))<|?_
 refine XL.step R (Ah (l' := [.d (dI e.site), .d (dI e.num), .d (dI e.kind), .d (dI e.v.log), .d (dI e.v.dots), .d (.v (.slice none 0 0)), .d (.v (.slice none 0 0)), .d (dI 0), .d (dI 0), .d (dI e.dyn), .d (.v (.slice none 0 0)), .d (dI 0), .d (dI 0)]) R R R R Bw R lb (by kernel_rfl))<|zn<|zt<|?_
 exact Fm R (RV.sub (RV.cells R R R Aw lb R) (.agg (.cons (.same R) (.cons (.same R) (.cons (.same R) (.cons (.same R) (.cons (.same R) (.cons (.nil 5) (.cons (.nil 5) (.cons (.same R) (.cons (.same R) (.cons (.same R) (.cons (.nil 2) (.cons (.same R) (.cons (.same R) (.nil)))))))))))))))) (by first | exact Bl (Et (by omega) 16 (Ca (by omega) (by omega))) | exact Bl (Es (by omega) 16 (Ca (by omega) (by omega))) | exact Bl (Et (by omega) 0 (Cp (by omega))) | exact Bl (Es (by omega) 0 (Cp (by omega))) | exact Bl (Jc (by omega)) | exact Bl (Jd (by omega) (by omega) (by omega)) | (exfalso; omega))
 refine zr<|zp (Ae (s' := .d (.agg (Ev.c e))) (Ad (Ac R R Aw R lb)) (by kernel_rfl))<|?_
 refine XL.step R (Ah (l' := [.d (dI e.site), .d (dI e.num), .d (dI e.kind), .d (dI e.v.log), .d (dI e.v.dots), .d (.sl 5 (e.heads.map Hd.c)), .d (.sl 5 (e.graces.map Gr.c)), .d (dI e.art), .d (dI e.orn), .d (dI e.dyn), .d (.sl 2 (e.lyr.map Sy.c)), .d (dI e.stem), .d (dI e.beam)]) R R R R Bw R lb (by kernel_rfl))<|zn<|zt<|?_
 exact Fm R (RV.cells R R R Aw lb R) (by first | exact Bl (Et (by omega) 16 (Ca (by omega) (by omega))) | exact Bl (Es (by omega) 16 (Ca (by omega) (by omega))) | exact Bl (Et (by omega) 0 (Cp (by omega))) | exact Bl (Es (by omega) 0 (Cp (by omega))) | exact Bl (Jc (by omega)) | exact Bl (Jd (by omega) (by omega) (by omega)) | (exfalso; omega))
theorem Xj (a b : Ev) : XC Tryz.prog 56 [.agg (Ev.c a), .agg (Ev.c b)] (fun r => r = dB (decide (a.same b))) := by
 refine An Acz Tryz.func56 R R lb<|zr<|XL.step R (As 2 (l := [.d (dI a.site), .d (dI a.num), .d (dI a.kind), .d (dI a.v.log), .d (dI a.v.dots), .d (.sl 5 (a.heads.map Hd.c)), .d (.sl 5 (a.graces.map Gr.c)), .d (dI a.art), .d (dI a.orn), .d (dI a.dyn), .d (.sl 2 (a.lyr.map Sy.c)), .d (dI a.stem), .d (dI a.beam)]) R R (by kernel_rfl))<|?_
 refine XL.step R (As 3 (l := [.d (dI b.site), .d (dI b.num), .d (dI b.kind), .d (dI b.v.log), .d (dI b.v.dots), .d (.sl 5 (b.heads.map Hd.c)), .d (.sl 5 (b.graces.map Gr.c)), .d (dI b.art), .d (dI b.orn), .d (dI b.dyn), .d (.sl 2 (b.lyr.map Sy.c)), .d (dI b.stem), .d (dI b.beam)]) R R (by kernel_rfl))<|za R R<|zn<|zs<|zr<|zp (Aa R R Bv)<|zp (Ab R R Ai R R)<|?_
 refine zp (Aa R R Bv)<|zp (Ab R R Ai R R)<|zp (Bh R R R)<|zm R R<|?_
 refine XL.dec 13 R (fun g13 => ?_) (fun g13 => ?_)
 refine zk 5 R<|zq R R R<|zm R R<|zk 5 R<|zq R R R<|zm R R<|zk 5 R<|zq R R R<|zm R R<|zk 5 R<|zq R R R<|zm R R<|zk 5 R<|zq R R R<|?_
 refine zm R R<|zk 5 R<|zq R R R<|zm R R<|zk 7 R<|zq R R R<|zm R R<|zk 7 R<|zq R R R<|zm R R<|zk 7 R<|zq R R R<|zn<|Ao (by kernel_rfl) R<|?_
 exact zr<|za R R<|zn<|zt<|z1 R R (rB (Dv fun h => g13 h.1))
 refine zp (Aa R R B7)<|zp (Ae (s' := .d (.agg (Val.c a.v))) (Ad (Ac R R B8 R lb)) (by kernel_rfl))<|zp (Aa R R B7)<|zp (Ae (s' := .d (.agg (Val.c b.v))) (Ad (Ac R R B8 R lb)) (by kernel_rfl))<|zp (Aj2 R R R)<|zq R R R<|zm R R<|?_
 refine XL.dec 20 R (fun g20 => ?_) (fun g20 => ?_)
 refine zk 5 R<|zq R R R<|zm R R<|zk 5 R<|zq R R R<|zm R R<|zk 5 R<|zq R R R<|zm R R<|zk 5 R<|zq R R R<|zm R R<|zk 5 R<|zq R R R<|?_
 refine zm R R<|zk 7 R<|zq R R R<|zm R R<|zk 7 R<|zq R R R<|zm R R<|zk 7 R<|zq R R R<|zn<|Ao (by kernel_rfl) R<|zr<|za R R<|zn<|?_
 exact zt<|z1 R R (rB (Dv fun h => g20 (by rw [h.2.1]; exact ⟨rfl, rfl⟩)))
 refine zp (Aa R R C5)<|zp (Ab R R Ai R R)<|zp (Aa R R C5)<|zp (Ab R R Ai R R)<|zp (Bh R R R)<|zq R R R<|zm R R<|?_
 refine XL.dec 27 R (fun g27 => ?_) (fun g27 => ?_)
 refine zk 5 R<|zq R R R<|zm R R<|zk 5 R<|zq R R R<|zm R R<|zk 5 R<|zq R R R<|zm R R<|zk 5 R<|zq R R R<|zm R R<|zk 7 R<|zq R R R<|?_
 exact zm R R<|zk 7 R<|zq R R R<|zm R R<|zk 7 R<|zq R R R<|zn<|Ao (by kernel_rfl) R<|zr<|za R R<|zn<|zt<|z1 R R (rB (Dv fun h => g27 h.2.2.1))
 refine zp (Aa R R Gc)<|zp (Ab R R Ai R R)<|zp (Aa R R Gc)<|zp (Ab R R Ai R R)<|zp (Bh R R R)<|zq R R R<|zm R R<|?_
 refine XL.dec 34 R (fun g34 => ?_) (fun g34 => ?_)
 refine zk 5 R<|zq R R R<|zm R R<|zk 5 R<|zq R R R<|zm R R<|zk 5 R<|zq R R R<|zm R R<|zk 7 R<|zq R R R<|zm R R<|zk 7 R<|zq R R R<|?_
 exact zm R R<|zk 7 R<|zq R R R<|zn<|Ao (by kernel_rfl) R<|zr<|za R R<|zn<|zt<|z1 R R (rB (Dv fun h => g34 h.2.2.2.1))
 refine zp (Aa R R Ek)<|zp (Ab R R Ai R R)<|zp (Aa R R Ek)<|zp (Ab R R Ai R R)<|zp (Bh R R R)<|zq R R R<|zm R R<|?_
 refine XL.dec 41 R (fun g41 => ?_) (fun g41 => ?_)
 refine zk 5 R<|zq R R R<|zm R R<|zk 5 R<|zq R R R<|zm R R<|zk 7 R<|zq R R R<|zm R R<|zk 7 R<|zq R R R<|zm R R<|zk 7 R<|zq R R R<|?_
 exact zn<|Ao (by kernel_rfl) R<|zr<|za R R<|zn<|zt<|z1 R R (rB (Dv fun h => g41 h.2.2.2.2.1))
 refine zp (Aa R R D4)<|zp (Ab R R Ai R R)<|zp (Aa R R D4)<|zp (Ab R R Ai R R)<|zp (Bh R R R)<|zq R R R<|zm R R<|?_
 refine XL.dec 48 R (fun g48 => ?_) (fun g48 => ?_)
 refine zk 5 R<|zq R R R<|zm R R<|zk 7 R<|zq R R R<|zm R R<|zk 7 R<|zq R R R<|zm R R<|zk 7 R<|zq R R R<|zn<|Ao (by kernel_rfl) R<|zr<|?_
 exact za R R<|zn<|zt<|z1 R R (rB (Dv fun h => g48 h.2.2.2.2.2.1))
 refine zp (Aa R R Fl)<|zp (Ab R R Ai R R)<|zp (Aa R R Fl)<|zp (Ab R R Ai R R)<|zp (Bh R R R)<|zq R R R<|zm R R<|?_
 refine XL.dec 55 R (fun g55 => ?_) (fun g55 => ?_)
 exact zk 7 R<|zq R R R<|zm R R<|zk 7 R<|zq R R R<|zm R R<|zk 7 R<|zq R R R<|zn<|Ao (by kernel_rfl) R<|zr<|za R R<|zn<|zt<|z1 R R (rB (Dv fun h => g55 h.2.2.2.2.2.2.1))
 refine zp (Aa R R Bk)<|zp (Ab R R C9 R R)<|XL.len R R R Tryz.underlying48 fun hl58=>zp (Aa R R Bk)<|zp (Ab R R C9 R R)<|XL.len R R R Tryz.underlying48 fun hl61=>zp (Bh R R R)<|zq R R R<|zm R R<|?_
 refine XL.dec 64 R (fun g64 => ?_) (fun g64 => ?_)
 exact zk 7 R<|zq R R R<|zm R R<|zk 7 R<|zq R R R<|zn<|Ao (by kernel_rfl) R<|zr<|za R R<|zn<|zt<|z1 R R (rB (Dv fun h => g64 (by rw [h.2.2.2.2.2.2.2.1])))
 refine zp (Aa R R El)<|zp (Ab R R Ie R R)<|XL.len R R R Tryz.underlying57 fun hl67=>zp (Aa R R El)<|zp (Ab R R Ie R R)<|XL.len R R R Tryz.underlying57 fun hl70=>zp (Bh R R R)<|zq R R R<|zm R R<|?_
 refine XL.dec 73 R (fun g73 => ?_) (fun g73 => ?_)
 exact zk 7 R<|zq R R R<|zn<|Ao (by kernel_rfl) R<|zr<|za R R<|zn<|zt<|z1 R R (rB (Dv fun h => g73 (by rw [h.2.2.2.2.2.2.2.2.1])))
 refine zp (Aa R R Ej)<|zp (Ab R R Id R R)<|XL.len R R R Tryz.underlying58 fun hl76=>zp (Aa R R Ej)<|zp (Ab R R Id R R)<|XL.len R R R Tryz.underlying58 fun hl79=>zp (Bh R R R)<|zq R R R<|zn<|?_
 refine zd R (fun c81 => ?_) (fun c81 => ?_)
 exact zr<|za R R<|zn<|zt<|z1 R R (rB (Dv fun h => c81 (by rw [h.2.2.2.2.2.2.2.2.2])))
 refine zi<|zs<|zr<|za R R<|zn<|Ag<|?_
 refine Au (α := Nat) (fun k => k ≤ a.heads.length ∧ ∀ j x y, j < k → a.heads[j]? = some x → b.heads[j]? = some y → x = y) (fun k => mkF [(2, .ptr 2 0 0), (3, .ptr 3 0 0), (5, .d (dI k))]) (fun k => mkH [(2, .box ((Ev.c a).map S.d)), (3, .box ((Ev.c b).map S.d))]) (fun k => a.heads.length - k) (0) (⟨Nat.zero_le _, fun j x y h => absurd h (Nat.not_lt_zero _)⟩) ?_ ?_ ?_
 exact fz ⟨sr, sr, sr, trivial⟩
 exact gz ⟨R, R, trivial⟩
 intro k hk0
 obtain ⟨hk, hf0⟩ := hk0
 refine zs<|zr<|zm R R<|zp (Aa R R Bk)<|zp (Ab R R C9 R R)<|XL.len R R R Tryz.underlying48 fun hl85=>zp (Aq R R R)<|zn<|?_
 refine zd R (fun c86 => ?_) (fun c86 => ?_)
 have hk0a : k < a.heads.length := by omega
 obtain ⟨x, hx0⟩ := Av hk0a
 obtain ⟨y, hy0⟩ : ∃ y, b.heads[k]? = some y := Av (by omega)
 refine zi<|zs<|Ag<|zs<|Bc [] (by kernel_rfl) (by kernel_rfl) (by kernel_rfl) (by decide)<|yp (Aa R R Bk)<|yp (Ab R R C9 R R)<|ym R R<|yp (Ak R R R F8 hx0)<|yp (Ae (s' := .d (.agg (Hd.c x))) (At R R Mr lb) (by kernel_rfl))<|yp (Aa R R Bk)<|yp (Ab R R C9 R R)<|ym R R<|yp (Ak R R R F8 (hy0))<|?_
 refine yp (Ae (s' := .d (.agg (Hd.c y))) (At R R Mr lb) (by kernel_rfl))<|yp (Xw R R R)<|?_
 refine ChK.nil ⟨by kernel_rfl, ?_⟩
 refine zd R (fun c99 => ?_) (fun c99 => ?_)
 exact zr<|za R R<|zn<|zt<|z1 R R (rB (Dv fun h => Hd.ne_of c99 (by have e := h.2.2.2.2.2.2.2.1; rw [e] at hx0; rw [hx0] at hy0; cases hy0; rfl)))
 refine zi<|Af (by kernel_rfl)<|zm R R<|zp (Aj R R R (by omega) (by omega))<|za R R<|zn<|?_
 exact Al (k + 1) (⟨by omega, fun j x' y' hj hx' hy' => by by_cases e : j = k; (· subst e; rw [hx0] at hx'; rw [hy0] at hy'; cases hx'; cases hy'; exact Hd.eq_of c99); (· exact hf0 j x' y' (by omega) hx' hy')⟩) (by omega) (fz ⟨sr, sr, sr, trivial⟩) (gz ⟨rfl, rfl, trivial⟩)
 have hk0b : k = a.heads.length := by omega
 have hq0 : a.heads = b.heads := Hs (by omega) (fun j x y hj => hf0 j x y (by omega))
 refine Ap<|zs<|zr<|za R R<|zn<|Ag<|?_
 refine Au (α := Nat) (fun m => m ≤ a.graces.length ∧ ∀ j x y, j < m → a.graces[j]? = some x → b.graces[j]? = some y → x = y) (fun m => mkF [(2, .ptr 2 0 0), (3, .ptr 3 0 0), (6, .d (dI m))]) (fun m => mkH [(2, .box ((Ev.c a).map S.d)), (3, .box ((Ev.c b).map S.d))]) (fun m => a.graces.length - m) (0) (⟨Nat.zero_le _, fun j x y h => absurd h (Nat.not_lt_zero _)⟩) ?_ ?_ ?_
 exact fz ⟨sr, sr, sr, trivial⟩
 exact gz ⟨R, R, trivial⟩
 intro m hk2
 obtain ⟨hk, hf2⟩ := hk2
 refine zs<|zr<|zm R R<|zp (Aa R R El)<|zp (Ab R R Ie R R)<|XL.len R R R Tryz.underlying57 fun hl103=>zp (Aq R R R)<|zn<|?_
 refine zd R (fun c104 => ?_) (fun c104 => ?_)
 have hk2a : m < a.graces.length := by omega
 obtain ⟨x, hx2⟩ := Av hk2a
 obtain ⟨y, hy2⟩ : ∃ y, b.graces[m]? = some y := Av (by omega)
 refine zi<|zs<|Ag<|zs<|Bc [] (by kernel_rfl) (by kernel_rfl) (by kernel_rfl) (by decide)<|yp (Aa R R El)<|yp (Ab R R Ie R R)<|ym R R<|yp (Ak R R R O3 hx2)<|yp (Ae (s' := .d (.agg (Gr.c x))) (At R R N0 lb) (by kernel_rfl))<|yp (Aa R R El)<|yp (Ab R R Ie R R)<|ym R R<|yp (Ak R R R O3 (hy2))<|?_
 refine yp (Ae (s' := .d (.agg (Gr.c y))) (At R R N0 lb) (by kernel_rfl))<|yp (U4 R R R)<|?_
 refine ChK.nil ⟨by kernel_rfl, ?_⟩
 refine zd R (fun c117 => ?_) (fun c117 => ?_)
 exact zr<|za R R<|zn<|zt<|z1 R R (rB (Dv fun h => Gr.ne_of c117 (by have e := h.2.2.2.2.2.2.2.2.1; rw [e] at hx2; rw [hx2] at hy2; cases hy2; rfl)))
 refine zi<|Af (by kernel_rfl)<|zm R R<|zp (Aj R R R (by omega) (by omega))<|za R R<|zn<|?_
 exact Al (m + 1) (⟨by omega, fun j x' y' hj hx' hy' => by by_cases e : j = m; (· subst e; rw [hx2] at hx'; rw [hy2] at hy'; cases hx'; cases hy'; exact Gr.eq_of c117); (· exact hf2 j x' y' (by omega) hx' hy')⟩) (by omega) (fz ⟨sr, sr, sr, trivial⟩) (gz ⟨rfl, rfl, trivial⟩)
 have hk2b : m = a.graces.length := by omega
 have hq2 : a.graces = b.graces := Hs (by omega) (fun j x y hj => hf2 j x y (by omega))
 refine Ap<|zs<|zr<|za R R<|zn<|Ag<|?_
 refine Au (α := Nat) (fun n => n ≤ a.lyr.length ∧ ∀ j x y, j < n → a.lyr[j]? = some x → b.lyr[j]? = some y → x = y) (fun n => mkF [(2, .ptr 2 0 0), (3, .ptr 3 0 0), (7, .d (dI n))]) (fun n => mkH [(2, .box ((Ev.c a).map S.d)), (3, .box ((Ev.c b).map S.d))]) (fun n => a.lyr.length - n) (0) (⟨Nat.zero_le _, fun j x y h => absurd h (Nat.not_lt_zero _)⟩) ?_ ?_ ?_
 exact fz ⟨sr, sr, sr, trivial⟩
 exact gz ⟨R, R, trivial⟩
 intro n hk4
 obtain ⟨hk, hf4⟩ := hk4
 refine zs<|zr<|zm R R<|zp (Aa R R Ej)<|zp (Ab R R Id R R)<|XL.len R R R Tryz.underlying58 fun hl121=>zp (Aq R R R)<|zn<|?_
 refine zd R (fun c122 => ?_) (fun c122 => ?_)
 have hk4a : n < a.lyr.length := by omega
 obtain ⟨x, hx4⟩ := Av hk4a
 obtain ⟨y, hy4⟩ : ∃ y, b.lyr[n]? = some y := Av (by omega)
 refine zi<|zs<|Ag<|zs<|Bc [] (by kernel_rfl) (by kernel_rfl) (by kernel_rfl) (by decide)<|yp (Aa R R Ej)<|yp (Ab R R Id R R)<|ym R R<|yp (Ak R R R Nb hx4)<|yp (Ae (s' := .d (.agg (Sy.c x))) (At R R Ic lb) (by kernel_rfl))<|yp (Aa R R Ej)<|yp (Ab R R Id R R)<|ym R R<|yp (Ak R R R Nb (hy4))<|?_
 refine yp (Ae (s' := .d (.agg (Sy.c y))) (At R R Ic lb) (by kernel_rfl))<|yp (U3 R R R)<|?_
 refine ChK.nil ⟨by kernel_rfl, ?_⟩
 refine zd R (fun c135 => ?_) (fun c135 => ?_)
 exact zr<|za R R<|zn<|zt<|z1 R R (rB (Dv fun h => Sy.ne_of c135 (by have e := h.2.2.2.2.2.2.2.2.2; rw [e] at hx4; rw [hx4] at hy4; cases hy4; rfl)))
 refine zi<|Af (by kernel_rfl)<|zm R R<|zp (Aj R R R (by omega) (by omega))<|za R R<|zn<|?_
 exact Al (n + 1) (⟨by omega, fun j x' y' hj hx' hy' => by by_cases e : j = n; (· subst e; rw [hx4] at hx'; rw [hy4] at hy'; cases hx'; cases hy'; exact Sy.eq_of c135); (· exact hf4 j x' y' (by omega) hx' hy')⟩) (by omega) (fz ⟨sr, sr, sr, trivial⟩) (gz ⟨rfl, rfl, trivial⟩)
 have hk4b : n = a.lyr.length := by omega
 have hq4 : a.lyr = b.lyr := Hs (by omega) (fun j x y hj => hf4 j x y (by omega))
 exact Ap<|zr<|za R R<|zn<|zt<|z1 R R (rB (by rw [eq_comm, decide_eq_true_iff]; exact ⟨Decidable.not_not.1 g13, Val.eq_of (Decidable.not_not.1 g20), Decidable.not_not.1 g27, Decidable.not_not.1 g34, Decidable.not_not.1 g41, Decidable.not_not.1 g48, Decidable.not_not.1 g55, hq0, hq2, hq4⟩))
theorem Ii {n m : Int} (h : ¬ (0 ≤ n ∧ n ≤ m)) : Bn n m = 2 := by rw [Bn, if_pos (by omega)]
theorem Ih {n m : Int} (h : 0 ≤ n ∧ n ≤ m) : Bn n m = 0 := by rw [Bn, if_neg (by omega)]
theorem Aem {l : List Int} (h : ∀ x ∈ l, x = 0 ∨ x = 2) (h2 : ∃ x ∈ l, x = 2) : Cq l = 2 := by
 induction l with
 | nil => obtain ⟨_, h, _⟩ := h2; cases h
 | cons x l ih =>
  rw [Cq]
  rcases h x List.mem_cons_self with e | e
  ·rw [if_neg (by omega)]
   refine ih (fun y hy => h y (List.mem_cons_of_mem _ hy)) ?_
   obtain ⟨y, hy, hy2⟩ := h2
   rcases List.mem_cons.1 hy with k | k
   ·omega
   ·exact ⟨y, k, hy2⟩
  ·rw [if_pos (by omega), e]
theorem Uk (n m : Int) : Bn n m = 0 ∨ Bn n m = 2 := by unfold Bn; split <;> simp
theorem Apm {e : Ev} (h : ¬ (0 ≤ e.site ∧ e.site ≤ 99) ∨ ¬ (0 ≤ e.num ∧ e.num ≤ 1073741824)) : e.err = 2 := by
 have : e.e1 = 2 := by
  unfold Ev.e1
  refine Aem (fun x hx => ?_) ?_
  ·simp only [List.mem_cons, List.not_mem_nil, or_false] at hx
   rcases hx with rfl | rfl <;> exact Uk _ _
  ·rcases h with h | h
   ·exact ⟨_, by simp, Ii h⟩
   ·exact ⟨_, by simp, Ii h⟩
 rw [Ev.err, this, if_pos (by decide)]
theorem Em {e : Ev} (h : 0 ≤ e.site ∧ e.site ≤ 99) (h2 : 0 ≤ e.num ∧ e.num ≤ 1073741824) : ¬ e.e1 ≠ 0 := by
 refine fun k => k (first_zero.2 fun x hx => ?_)
 simp only [List.mem_cons, List.not_mem_nil, or_false] at hx
 rcases hx with rfl | rfl
 ·exact Ih h
 ·exact Ih h2
def Ev.okE (e : Ev) : Prop := (0 ≤ e.art ∧ e.art ≤ 31) ∧ (0 ≤ e.orn ∧ e.orn ≤ 4) ∧ (0 ≤ e.dyn ∧ e.dyn ≤ 9) ∧ (0 ≤ e.stem ∧ e.stem ≤ 2) ∧ (0 ≤ e.beam ∧ e.beam ≤ 2)
theorem Hn {e : Ev} (h : ¬ e.okE) : e.e3 = 2 := by
 unfold Ev.e3
 refine Aem (fun x hx => ?_) ?_
 ·simp only [List.mem_cons, List.not_mem_nil, or_false] at hx
  rcases hx with rfl | rfl | rfl | rfl | rfl <;> exact Uk _ _
 ·by_cases a : 0 ≤ e.art ∧ e.art ≤ 31
  ·by_cases b : 0 ≤ e.orn ∧ e.orn ≤ 4
   ·by_cases c : 0 ≤ e.dyn ∧ e.dyn ≤ 9
    ·by_cases d : 0 ≤ e.stem ∧ e.stem ≤ 2
     ·by_cases f : 0 ≤ e.beam ∧ e.beam ≤ 2
      ·exact absurd ⟨a, b, c, d, f⟩ h
      ·exact ⟨_, by simp, Ii f⟩
     ·exact ⟨_, by simp, Ii d⟩
    ·exact ⟨_, by simp, Ii c⟩
   ·exact ⟨_, by simp, Ii b⟩
  ·exact ⟨_, by simp, Ii a⟩
theorem Agk {e : Ev} (h : e.okE) : e.e3 = 0 := by
 refine first_zero.2 fun x hx => ?_
 simp only [List.mem_cons, List.not_mem_nil, or_false] at hx
 obtain ⟨a, b, c, d, f⟩ := h
 rcases hx with rfl | rfl | rfl | rfl | rfl
 ·exact Ih a
 ·exact Ih b
 ·exact Ih c
 ·exact Ih d
 ·exact Ih f
theorem Apl {e : Ev} (h : Cg e.heads ≠ 0) : e.e2 = Cg e.heads := by rw [Ev.e2, Cq, if_pos h]
theorem Apk {e : Ev} (h : ¬ Cg e.heads ≠ 0) (h2 : E1 e.graces ≠ 0) : e.e2 = E1 e.graces := by rw [Ev.e2, Cq, if_neg h, Cq, if_pos h2]
theorem Apj {e : Ev} (h : ¬ Cg e.heads ≠ 0) (h2 : ¬ E1 e.graces ≠ 0) (h3 : Gu e.lyr ≠ 0) : e.e2 = Gu e.lyr := by rw [Ev.e2, Cq, if_neg h, Cq, if_neg h2, Cq, if_pos h3]
theorem Gl {e : Ev} (h : ¬ Cg e.heads ≠ 0) (h2 : ¬ E1 e.graces ≠ 0) (h3 : ¬ Gu e.lyr ≠ 0) : e.e2 = 0 := by rw [Ev.e2, Cq, if_neg h, Cq, if_neg h2, Cq, if_neg h3]; rfl
theorem Arf {e : Ev} (h : ¬ e.e1 ≠ 0) (h2 : 1 ≤ e.kind ∧ e.kind ≤ 4) (h3 : ¬ e.same e.strip) : e.err = 3 := (Alr h (fun k => k h2) h3).symm
theorem Aql {e : Ev} (h : ¬ e.e1 ≠ 0) (h2 : 1 ≤ e.kind ∧ e.kind ≤ 4) (h3 : ¬ ¬ e.same e.strip) (h4 : e.kind ≠ 3) (h5 : ¬ Ms e.v) : e.err = 17 := (Alq h (fun k => k h2) h3 h4 (fun k => h5 (valOk_iff.2 k))).symm
theorem Qw {e : Ev} (h : ¬ e.e1 ≠ 0) (h2 : 1 ≤ e.kind ∧ e.kind ≤ 4) (h3 : ¬ ¬ e.same e.strip) (h4 : e.kind ≠ 3 → Ms e.v) (h5 : e.kind = 1) {n : Int} (h6 : e.e2 = n) (h7 : n ≠ 0) : e.err = n := by
 subst h6; exact (Alp h (fun k => k h2) h3 (fun k => k.2 (valOk_iff.1 (h4 k.1))) h5 h7).symm
theorem E5 {e : Ev} (h : ¬ e.e1 ≠ 0) (h2 : 1 ≤ e.kind ∧ e.kind ≤ 4) (h3 : ¬ ¬ e.same e.strip) (h4 : e.kind ≠ 3 → Ms e.v) (h5 : e.kind = 1 → e.e2 = 0) {n : Int} (h6 : e.e3 = n) : e.err = n := by
 subst h6; exact (Ws h (fun k => k h2) h3 (fun k => k.2 (valOk_iff.1 (h4 k.1))) (fun k => k.2 (h5 k.1))).symm
theorem Abq (e : Ev) (he : e.art ≤ 9223372036854775807) : XC Tryz.prog 38 [.agg (Ev.c e)] (fun r => r = dI e.err) := by
 refine An Ada Tryz.func38 R R lb<|zr<|XL.step R (As 1 (l := [.d (dI e.site), .d (dI e.num), .d (dI e.kind), .d (dI e.v.log), .d (dI e.v.dots), .d (.sl 5 (e.heads.map Hd.c)), .d (.sl 5 (e.graces.map Gr.c)), .d (dI e.art), .d (dI e.orn), .d (dI e.dyn), .d (.sl 2 (e.lyr.map Sy.c)), .d (dI e.stem), .d (dI e.beam)]) R R (by kernel_rfl))<|za R R<|zn<|zs<|zr<|zp (Aa R R Ez)<|?_
 refine zp (Aa R R Ym)<|zp (Ab R R Ai R R)<|XL.call1 R R (Ea _ _ _) R<|zp (Bp R R)<|zm R R<|?_
 refine XL.dec 11 R (fun g11 => ?_) (fun g11 => ?_)
 exact zk 5 R<|zq R R R<|zn<|Ao (by kernel_rfl) R<|zr<|za R R<|zn<|zt<|z1 R R (rI (Apm (.inl g11)).symm)
 refine zp (Aa R R Ez)<|zp (Aa R R Yl)<|zp (Ab R R Ai R R)<|XL.call1 R R (Ea _ _ _) R<|zp (Bp R R)<|zq R R R<|zn<|?_
 refine zd R (fun c17 => ?_) (fun c17 => ?_)
 exact zr<|za R R<|zn<|zt<|z1 R R (rI (Apm (.inr c17)).symm)
 refine zi<|zs<|zr<|zp (Aa R R Bv)<|zp (Ab R R Ai R R)<|XL.call1 R R (Ea _ _ _) R<|zp (Bp R R)<|zn<|?_
 refine zd R (fun c21 => ?_) (fun c21 => ?_)
 exact zr<|za R R<|zn<|zt<|z1 R R (rI (Als (Em (Decidable.not_not.1 g11) (Decidable.not_not.1 c17)) c21))
 refine zi<|zs<|zs<|Bc [] (by kernel_rfl) (by kernel_rfl) (by kernel_rfl) (by decide)<|yp (Ae (s' := .d (.agg (Ev.c e))) (Ad (Ac R R Aw R lb)) (by kernel_rfl))<|yp (Ae (s' := .d (.agg (Ev.c e))) (Ad (Ac R R Aw R lb)) (by kernel_rfl))<|ChK.cons R (CStep.call R (Ahn _ (by assumption)) R)<|ChK.cons R (CStep.call R (Xj _ _) R)<|?_
 refine yp (Bp R R)<|?_
 refine ChK.nil ⟨by kernel_rfl, ?_⟩
 refine zd R (fun c26 => ?_) (fun c26 => ?_)
 exact zr<|za R R<|zn<|zt<|z1 R R (rI (Arf (Em (Decidable.not_not.1 g11) (Decidable.not_not.1 c17)) (Decidable.not_not.1 c21) c26).symm)
 refine zi<|zs<|zr<|zp (Aa R R Bv)<|zp (Ab R R Ai R R)<|zp (Bh R R R)<|zm R R<|?_
 refine XL.dec 30 R (fun g30 => ?_) (fun g30 => ?_)
 refine zp (Aa R R B7)<|zp (Ae (s' := .d (.agg (Val.c e.v))) (Ad (Ac R R B8 R lb)) (by kernel_rfl))<|XL.call1 R R (Akl _) R<|zp (Bp R R)<|zq R R R<|zn<|?_
 refine zd R (fun c35 => ?_) (fun c35 => ?_)
 exact zr<|za R R<|zn<|zt<|z1 R R (rI (Aql (Em (Decidable.not_not.1 g11) (Decidable.not_not.1 c17)) (Decidable.not_not.1 c21) c26 g30 c35).symm)
 refine zi<|zs<|zr<|zp (Aa R R Bv)<|zp (Ab R R Ai R R)<|zp (Ay R R R)<|zn<|?_
 refine zd R (fun c38 => ?_) (fun c38 => ?_)
 refine zs<|zr<|zp (Aa R R Bk)<|zp (Ab R R C9 R R)<|XL.call1 R R (Uw _) R<|za R R<|znr<|zm R R<|zp (Bh R R R)<|zn<|?_
 refine zd R (fun c43 => ?_) (fun c43 => ?_)
 exact zr<|zm R R<|za R R<|zn<|zt<|z1 R R (rI (Qw (Em (Decidable.not_not.1 g11) (Decidable.not_not.1 c17)) (Decidable.not_not.1 c21) c26 (by first | exact fun _ => Decidable.not_not.1 c35 | exact fun k => absurd k g30) c38 (Apl c43) c43).symm)
 refine zi<|zs<|zr<|zp (Aa R R El)<|zp (Ab R R Ie R R)<|XL.call1 R R (Sx _) R<|za R R<|znr<|zm R R<|zp (Bh R R R)<|zn<|?_
 refine zd R (fun c49 => ?_) (fun c49 => ?_)
 exact zr<|zm R R<|za R R<|zn<|zt<|z1 R R (rI (Qw (Em (Decidable.not_not.1 g11) (Decidable.not_not.1 c17)) (Decidable.not_not.1 c21) c26 (by first | exact fun _ => Decidable.not_not.1 c35 | exact fun k => absurd k g30) c38 (Apk c43 c49) c49).symm)
 refine zi<|zr<|zp (Aa R R Ej)<|zp (Ab R R Id R R)<|XL.call1 R R (Sw _) R<|za R R<|znr<|zm R R<|zp (Bh R R R)<|zn<|?_
 refine zd R (fun c55 => ?_) (fun c55 => ?_)
 exact zr<|zm R R<|za R R<|zn<|zt<|z1 R R (rI (Qw (Em (Decidable.not_not.1 g11) (Decidable.not_not.1 c17)) (Decidable.not_not.1 c21) c26 (by first | exact fun _ => Decidable.not_not.1 c35 | exact fun k => absurd k g30) c38 (Apj c43 c49 c55) c55).symm)
 refine zi<|zs<|zr<|zp (Aa R R C5)<|zp (Ab R R Ai R R)<|XL.call1 R R (Ea _ _ _) R<|zp (Bp R R)<|zm R R<|?_
 refine XL.dec 61 R (fun g61 => ?_) (fun g61 => ?_)
 refine zk 4 R<|zq R R R<|zm R R<|zk 4 R<|zq R R R<|zm R R<|zk 4 R<|zq R R R<|zm R R<|zk 4 R<|zq R R R<|zn<|Ao (by kernel_rfl) R<|zr<|?_
 exact za R R<|zn<|zt<|z1 R R (rI (E5 (Em (Decidable.not_not.1 g11) (Decidable.not_not.1 c17)) (Decidable.not_not.1 c21) c26 (by first | exact fun _ => Decidable.not_not.1 c35 | exact fun k => absurd k g30) (by first | exact fun _ => Gl c43 c49 c55 | exact fun k => absurd k c38) (Hn (by unfold Ev.okE; omega))).symm)
 refine zp (Aa R R Gc)<|zp (Ab R R Ai R R)<|XL.call1 R R (Ea _ _ _) R<|zp (Bp R R)<|zq R R R<|zm R R<|?_
 refine XL.dec 67 R (fun g67 => ?_) (fun g67 => ?_)
 exact zk 4 R<|zq R R R<|zm R R<|zk 4 R<|zq R R R<|zm R R<|zk 4 R<|zq R R R<|zn<|Ao (by kernel_rfl) R<|zr<|za R R<|zn<|zt<|z1 R R (rI (E5 (Em (Decidable.not_not.1 g11) (Decidable.not_not.1 c17)) (Decidable.not_not.1 c21) c26 (by first | exact fun _ => Decidable.not_not.1 c35 | exact fun k => absurd k g30) (by first | exact fun _ => Gl c43 c49 c55 | exact fun k => absurd k c38) (Hn (by unfold Ev.okE; omega))).symm)
 refine zp (Aa R R Ek)<|zp (Ab R R Ai R R)<|XL.call1 R R (Ea _ _ _) R<|zp (Bp R R)<|zq R R R<|zm R R<|?_
 refine XL.dec 73 R (fun g73 => ?_) (fun g73 => ?_)
 exact zk 4 R<|zq R R R<|zm R R<|zk 4 R<|zq R R R<|zn<|Ao (by kernel_rfl) R<|zr<|za R R<|zn<|zt<|z1 R R (rI (E5 (Em (Decidable.not_not.1 g11) (Decidable.not_not.1 c17)) (Decidable.not_not.1 c21) c26 (by first | exact fun _ => Decidable.not_not.1 c35 | exact fun k => absurd k g30) (by first | exact fun _ => Gl c43 c49 c55 | exact fun k => absurd k c38) (Hn (by unfold Ev.okE; omega))).symm)
 refine zp (Aa R R D4)<|zp (Ab R R Ai R R)<|XL.call1 R R (Ea _ _ _) R<|zp (Bp R R)<|zq R R R<|zm R R<|?_
 refine XL.dec 79 R (fun g79 => ?_) (fun g79 => ?_)
 exact zk 4 R<|zq R R R<|zn<|Ao (by kernel_rfl) R<|zr<|za R R<|zn<|zt<|z1 R R (rI (E5 (Em (Decidable.not_not.1 g11) (Decidable.not_not.1 c17)) (Decidable.not_not.1 c21) c26 (by first | exact fun _ => Decidable.not_not.1 c35 | exact fun k => absurd k g30) (by first | exact fun _ => Gl c43 c49 c55 | exact fun k => absurd k c38) (Hn (by unfold Ev.okE; omega))).symm)
 refine zp (Aa R R Fl)<|zp (Ab R R Ai R R)<|XL.call1 R R (Ea _ _ _) R<|zp (Bp R R)<|zq R R R<|zn<|?_
 refine zd R (fun c84 => ?_) (fun c84 => ?_)
 exact zr<|za R R<|zn<|zt<|z1 R R (rI (E5 (Em (Decidable.not_not.1 g11) (Decidable.not_not.1 c17)) (Decidable.not_not.1 c21) c26 (by first | exact fun _ => Decidable.not_not.1 c35 | exact fun k => absurd k g30) (by first | exact fun _ => Gl c43 c49 c55 | exact fun k => absurd k c38) (Hn (by unfold Ev.okE; omega))).symm)
 exact zi<|zr<|za R R<|zn<|zt<|z1 R R (rI (E5 (Em (Decidable.not_not.1 g11) (Decidable.not_not.1 c17)) (Decidable.not_not.1 c21) c26 (by first | exact fun _ => Decidable.not_not.1 c35 | exact fun k => absurd k g30) (by first | exact fun _ => Gl c43 c49 c55 | exact fun k => absurd k c38) (Agk (by unfold Ev.okE; omega))).symm)
 refine zi<|zs<|zr<|zp (Aa R R C5)<|zp (Ab R R Ai R R)<|XL.call1 R R (Ea _ _ _) R<|zp (Bp R R)<|zm R R<|?_
 refine XL.dec 61 R (fun g61 => ?_) (fun g61 => ?_)
 refine zk 4 R<|zq R R R<|zm R R<|zk 4 R<|zq R R R<|zm R R<|zk 4 R<|zq R R R<|zm R R<|zk 4 R<|zq R R R<|zn<|Ao (by kernel_rfl) R<|zr<|?_
 exact za R R<|zn<|zt<|z1 R R (rI (E5 (Em (Decidable.not_not.1 g11) (Decidable.not_not.1 c17)) (Decidable.not_not.1 c21) c26 (by first | exact fun _ => Decidable.not_not.1 c35 | exact fun k => absurd k g30) (by first | exact fun _ => Gl c43 c49 c55 | exact fun k => absurd k c38) (Hn (by unfold Ev.okE; omega))).symm)
 refine zp (Aa R R Gc)<|zp (Ab R R Ai R R)<|XL.call1 R R (Ea _ _ _) R<|zp (Bp R R)<|zq R R R<|zm R R<|?_
 refine XL.dec 67 R (fun g67 => ?_) (fun g67 => ?_)
 exact zk 4 R<|zq R R R<|zm R R<|zk 4 R<|zq R R R<|zm R R<|zk 4 R<|zq R R R<|zn<|Ao (by kernel_rfl) R<|zr<|za R R<|zn<|zt<|z1 R R (rI (E5 (Em (Decidable.not_not.1 g11) (Decidable.not_not.1 c17)) (Decidable.not_not.1 c21) c26 (by first | exact fun _ => Decidable.not_not.1 c35 | exact fun k => absurd k g30) (by first | exact fun _ => Gl c43 c49 c55 | exact fun k => absurd k c38) (Hn (by unfold Ev.okE; omega))).symm)
 refine zp (Aa R R Ek)<|zp (Ab R R Ai R R)<|XL.call1 R R (Ea _ _ _) R<|zp (Bp R R)<|zq R R R<|zm R R<|?_
 refine XL.dec 73 R (fun g73 => ?_) (fun g73 => ?_)
 exact zk 4 R<|zq R R R<|zm R R<|zk 4 R<|zq R R R<|zn<|Ao (by kernel_rfl) R<|zr<|za R R<|zn<|zt<|z1 R R (rI (E5 (Em (Decidable.not_not.1 g11) (Decidable.not_not.1 c17)) (Decidable.not_not.1 c21) c26 (by first | exact fun _ => Decidable.not_not.1 c35 | exact fun k => absurd k g30) (by first | exact fun _ => Gl c43 c49 c55 | exact fun k => absurd k c38) (Hn (by unfold Ev.okE; omega))).symm)
 refine zp (Aa R R D4)<|zp (Ab R R Ai R R)<|XL.call1 R R (Ea _ _ _) R<|zp (Bp R R)<|zq R R R<|zm R R<|?_
 refine XL.dec 79 R (fun g79 => ?_) (fun g79 => ?_)
 exact zk 4 R<|zq R R R<|zn<|Ao (by kernel_rfl) R<|zr<|za R R<|zn<|zt<|z1 R R (rI (E5 (Em (Decidable.not_not.1 g11) (Decidable.not_not.1 c17)) (Decidable.not_not.1 c21) c26 (by first | exact fun _ => Decidable.not_not.1 c35 | exact fun k => absurd k g30) (by first | exact fun _ => Gl c43 c49 c55 | exact fun k => absurd k c38) (Hn (by unfold Ev.okE; omega))).symm)
 refine zp (Aa R R Fl)<|zp (Ab R R Ai R R)<|XL.call1 R R (Ea _ _ _) R<|zp (Bp R R)<|zq R R R<|zn<|?_
 refine zd R (fun c84 => ?_) (fun c84 => ?_)
 exact zr<|za R R<|zn<|zt<|z1 R R (rI (E5 (Em (Decidable.not_not.1 g11) (Decidable.not_not.1 c17)) (Decidable.not_not.1 c21) c26 (by first | exact fun _ => Decidable.not_not.1 c35 | exact fun k => absurd k g30) (by first | exact fun _ => Gl c43 c49 c55 | exact fun k => absurd k c38) (Hn (by unfold Ev.okE; omega))).symm)
 exact zi<|zr<|za R R<|zn<|zt<|z1 R R (rI (E5 (Em (Decidable.not_not.1 g11) (Decidable.not_not.1 c17)) (Decidable.not_not.1 c21) c26 (by first | exact fun _ => Decidable.not_not.1 c35 | exact fun k => absurd k g30) (by first | exact fun _ => Gl c43 c49 c55 | exact fun k => absurd k c38) (Agk (by unfold Ev.okE; omega))).symm)
 refine zk 4 R<|zq R R R<|zn<|A3 (by kernel_rfl) R<|zi<|zs<|zr<|zp (Aa R R Bv)<|zp (Ab R R Ai R R)<|zp (Ay R R R)<|zn<|?_
 refine zd R (fun c38 => ?_) (fun c38 => ?_)
 refine zs<|zr<|zp (Aa R R Bk)<|zp (Ab R R C9 R R)<|XL.call1 R R (Uw _) R<|za R R<|znr<|zm R R<|zp (Bh R R R)<|zn<|?_
 refine zd R (fun c43 => ?_) (fun c43 => ?_)
 exact zr<|zm R R<|za R R<|zn<|zt<|z1 R R (rI (Qw (Em (Decidable.not_not.1 g11) (Decidable.not_not.1 c17)) (Decidable.not_not.1 c21) c26 (by first | exact fun _ => Decidable.not_not.1 c35 | exact fun k => absurd k g30) c38 (Apl c43) c43).symm)
 refine zi<|zs<|zr<|zp (Aa R R El)<|zp (Ab R R Ie R R)<|XL.call1 R R (Sx _) R<|za R R<|znr<|zm R R<|zp (Bh R R R)<|zn<|?_
 refine zd R (fun c49 => ?_) (fun c49 => ?_)
 exact zr<|zm R R<|za R R<|zn<|zt<|z1 R R (rI (Qw (Em (Decidable.not_not.1 g11) (Decidable.not_not.1 c17)) (Decidable.not_not.1 c21) c26 (by first | exact fun _ => Decidable.not_not.1 c35 | exact fun k => absurd k g30) c38 (Apk c43 c49) c49).symm)
 refine zi<|zr<|zp (Aa R R Ej)<|zp (Ab R R Id R R)<|XL.call1 R R (Sw _) R<|za R R<|znr<|zm R R<|zp (Bh R R R)<|zn<|?_
 refine zd R (fun c55 => ?_) (fun c55 => ?_)
 exact zr<|zm R R<|za R R<|zn<|zt<|z1 R R (rI (Qw (Em (Decidable.not_not.1 g11) (Decidable.not_not.1 c17)) (Decidable.not_not.1 c21) c26 (by first | exact fun _ => Decidable.not_not.1 c35 | exact fun k => absurd k g30) c38 (Apj c43 c49 c55) c55).symm)
 refine zi<|zs<|zr<|zp (Aa R R C5)<|zp (Ab R R Ai R R)<|XL.call1 R R (Ea _ _ _) R<|zp (Bp R R)<|zm R R<|?_
 refine XL.dec 61 R (fun g61 => ?_) (fun g61 => ?_)
 refine zk 4 R<|zq R R R<|zm R R<|zk 4 R<|zq R R R<|zm R R<|zk 4 R<|zq R R R<|zm R R<|zk 4 R<|zq R R R<|zn<|Ao (by kernel_rfl) R<|zr<|?_
 exact za R R<|zn<|zt<|z1 R R (rI (E5 (Em (Decidable.not_not.1 g11) (Decidable.not_not.1 c17)) (Decidable.not_not.1 c21) c26 (by first | exact fun _ => Decidable.not_not.1 c35 | exact fun k => absurd k g30) (by first | exact fun _ => Gl c43 c49 c55 | exact fun k => absurd k c38) (Hn (by unfold Ev.okE; omega))).symm)
 refine zp (Aa R R Gc)<|zp (Ab R R Ai R R)<|XL.call1 R R (Ea _ _ _) R<|zp (Bp R R)<|zq R R R<|zm R R<|?_
 refine XL.dec 67 R (fun g67 => ?_) (fun g67 => ?_)
 exact zk 4 R<|zq R R R<|zm R R<|zk 4 R<|zq R R R<|zm R R<|zk 4 R<|zq R R R<|zn<|Ao (by kernel_rfl) R<|zr<|za R R<|zn<|zt<|z1 R R (rI (E5 (Em (Decidable.not_not.1 g11) (Decidable.not_not.1 c17)) (Decidable.not_not.1 c21) c26 (by first | exact fun _ => Decidable.not_not.1 c35 | exact fun k => absurd k g30) (by first | exact fun _ => Gl c43 c49 c55 | exact fun k => absurd k c38) (Hn (by unfold Ev.okE; omega))).symm)
 refine zp (Aa R R Ek)<|zp (Ab R R Ai R R)<|XL.call1 R R (Ea _ _ _) R<|zp (Bp R R)<|zq R R R<|zm R R<|?_
 refine XL.dec 73 R (fun g73 => ?_) (fun g73 => ?_)
 exact zk 4 R<|zq R R R<|zm R R<|zk 4 R<|zq R R R<|zn<|Ao (by kernel_rfl) R<|zr<|za R R<|zn<|zt<|z1 R R (rI (E5 (Em (Decidable.not_not.1 g11) (Decidable.not_not.1 c17)) (Decidable.not_not.1 c21) c26 (by first | exact fun _ => Decidable.not_not.1 c35 | exact fun k => absurd k g30) (by first | exact fun _ => Gl c43 c49 c55 | exact fun k => absurd k c38) (Hn (by unfold Ev.okE; omega))).symm)
 refine zp (Aa R R D4)<|zp (Ab R R Ai R R)<|XL.call1 R R (Ea _ _ _) R<|zp (Bp R R)<|zq R R R<|zm R R<|?_
 refine XL.dec 79 R (fun g79 => ?_) (fun g79 => ?_)
 exact zk 4 R<|zq R R R<|zn<|Ao (by kernel_rfl) R<|zr<|za R R<|zn<|zt<|z1 R R (rI (E5 (Em (Decidable.not_not.1 g11) (Decidable.not_not.1 c17)) (Decidable.not_not.1 c21) c26 (by first | exact fun _ => Decidable.not_not.1 c35 | exact fun k => absurd k g30) (by first | exact fun _ => Gl c43 c49 c55 | exact fun k => absurd k c38) (Hn (by unfold Ev.okE; omega))).symm)
 refine zp (Aa R R Fl)<|zp (Ab R R Ai R R)<|XL.call1 R R (Ea _ _ _) R<|zp (Bp R R)<|zq R R R<|zn<|?_
 refine zd R (fun c84 => ?_) (fun c84 => ?_)
 exact zr<|za R R<|zn<|zt<|z1 R R (rI (E5 (Em (Decidable.not_not.1 g11) (Decidable.not_not.1 c17)) (Decidable.not_not.1 c21) c26 (by first | exact fun _ => Decidable.not_not.1 c35 | exact fun k => absurd k g30) (by first | exact fun _ => Gl c43 c49 c55 | exact fun k => absurd k c38) (Hn (by unfold Ev.okE; omega))).symm)
 exact zi<|zr<|za R R<|zn<|zt<|z1 R R (rI (E5 (Em (Decidable.not_not.1 g11) (Decidable.not_not.1 c17)) (Decidable.not_not.1 c21) c26 (by first | exact fun _ => Decidable.not_not.1 c35 | exact fun k => absurd k g30) (by first | exact fun _ => Gl c43 c49 c55 | exact fun k => absurd k c38) (Agk (by unfold Ev.okE; omega))).symm)
 refine zi<|zs<|zr<|zp (Aa R R C5)<|zp (Ab R R Ai R R)<|XL.call1 R R (Ea _ _ _) R<|zp (Bp R R)<|zm R R<|?_
 refine XL.dec 61 R (fun g61 => ?_) (fun g61 => ?_)
 refine zk 4 R<|zq R R R<|zm R R<|zk 4 R<|zq R R R<|zm R R<|zk 4 R<|zq R R R<|zm R R<|zk 4 R<|zq R R R<|zn<|Ao (by kernel_rfl) R<|zr<|?_
 exact za R R<|zn<|zt<|z1 R R (rI (E5 (Em (Decidable.not_not.1 g11) (Decidable.not_not.1 c17)) (Decidable.not_not.1 c21) c26 (by first | exact fun _ => Decidable.not_not.1 c35 | exact fun k => absurd k g30) (by first | exact fun _ => Gl c43 c49 c55 | exact fun k => absurd k c38) (Hn (by unfold Ev.okE; omega))).symm)
 refine zp (Aa R R Gc)<|zp (Ab R R Ai R R)<|XL.call1 R R (Ea _ _ _) R<|zp (Bp R R)<|zq R R R<|zm R R<|?_
 refine XL.dec 67 R (fun g67 => ?_) (fun g67 => ?_)
 exact zk 4 R<|zq R R R<|zm R R<|zk 4 R<|zq R R R<|zm R R<|zk 4 R<|zq R R R<|zn<|Ao (by kernel_rfl) R<|zr<|za R R<|zn<|zt<|z1 R R (rI (E5 (Em (Decidable.not_not.1 g11) (Decidable.not_not.1 c17)) (Decidable.not_not.1 c21) c26 (by first | exact fun _ => Decidable.not_not.1 c35 | exact fun k => absurd k g30) (by first | exact fun _ => Gl c43 c49 c55 | exact fun k => absurd k c38) (Hn (by unfold Ev.okE; omega))).symm)
 refine zp (Aa R R Ek)<|zp (Ab R R Ai R R)<|XL.call1 R R (Ea _ _ _) R<|zp (Bp R R)<|zq R R R<|zm R R<|?_
 refine XL.dec 73 R (fun g73 => ?_) (fun g73 => ?_)
 exact zk 4 R<|zq R R R<|zm R R<|zk 4 R<|zq R R R<|zn<|Ao (by kernel_rfl) R<|zr<|za R R<|zn<|zt<|z1 R R (rI (E5 (Em (Decidable.not_not.1 g11) (Decidable.not_not.1 c17)) (Decidable.not_not.1 c21) c26 (by first | exact fun _ => Decidable.not_not.1 c35 | exact fun k => absurd k g30) (by first | exact fun _ => Gl c43 c49 c55 | exact fun k => absurd k c38) (Hn (by unfold Ev.okE; omega))).symm)
 refine zp (Aa R R D4)<|zp (Ab R R Ai R R)<|XL.call1 R R (Ea _ _ _) R<|zp (Bp R R)<|zq R R R<|zm R R<|?_
 refine XL.dec 79 R (fun g79 => ?_) (fun g79 => ?_)
 exact zk 4 R<|zq R R R<|zn<|Ao (by kernel_rfl) R<|zr<|za R R<|zn<|zt<|z1 R R (rI (E5 (Em (Decidable.not_not.1 g11) (Decidable.not_not.1 c17)) (Decidable.not_not.1 c21) c26 (by first | exact fun _ => Decidable.not_not.1 c35 | exact fun k => absurd k g30) (by first | exact fun _ => Gl c43 c49 c55 | exact fun k => absurd k c38) (Hn (by unfold Ev.okE; omega))).symm)
 refine zp (Aa R R Fl)<|zp (Ab R R Ai R R)<|XL.call1 R R (Ea _ _ _) R<|zp (Bp R R)<|zq R R R<|zn<|?_
 refine zd R (fun c84 => ?_) (fun c84 => ?_)
 exact zr<|za R R<|zn<|zt<|z1 R R (rI (E5 (Em (Decidable.not_not.1 g11) (Decidable.not_not.1 c17)) (Decidable.not_not.1 c21) c26 (by first | exact fun _ => Decidable.not_not.1 c35 | exact fun k => absurd k g30) (by first | exact fun _ => Gl c43 c49 c55 | exact fun k => absurd k c38) (Hn (by unfold Ev.okE; omega))).symm)
 exact zi<|zr<|za R R<|zn<|zt<|z1 R R (rI (E5 (Em (Decidable.not_not.1 g11) (Decidable.not_not.1 c17)) (Decidable.not_not.1 c21) c26 (by first | exact fun _ => Decidable.not_not.1 c35 | exact fun k => absurd k g30) (by first | exact fun _ => Gl c43 c49 c55 | exact fun k => absurd k c38) (Agk (by unfold Ev.okE; omega))).symm)
end Go.Proofs.YtcihalbakenleaaGreat
namespace Go.Proofs.YtcihalbakenleaaGreat
open Go.RowKit
theorem Rw {P : Program} {o : Oper} {e : Operand → S} {h : Xh} {d : D} (d' : D) (hp : Bm P o e h (.d d)) (hs : DSub d d') : Bm P o e h (.d d') := fun E H β ρ w hsim hop => by
 obtain ⟨u, r1, r2⟩ := hp E H β ρ w hsim hop
 exact ⟨u, r1, .d (hs.vd (Er r2))⟩
end Go.Proofs.YtcihalbakenleaaGreat
namespace Go.Proofs.YtcihalbakenleaaGreat
open Go.RowKit
theorem dno {p : Prop} [Decidable p] (h : ¬ p) : false = decide p := (decide_eq_false h).symm
theorem Arg {p : Prop} [Decidable p] (h : p) : true = decide p := (decide_eq_true h).symm
theorem Ev.eqv_iff {a b : Ev} : a.eqv b ↔ a = b := by
 constructor
 ·rintro ⟨⟨h1, h2⟩, h3, h4, h5, h6, h7, h8, h9, h10, h11, h12⟩
  obtain ⟨a1, a2, a3, a4, a5, a6, a7, a8, a9, a10, a11, a12⟩ := a
  obtain ⟨b1, b2, b3, b4, b5, b6, b7, b8, b9, b10, b11, b12⟩ := b
  simp only at h1 h2 h3 h4 h5 h6 h7 h8 h9 h10 h11 h12
  subst h1 h2 h3 h4 h5 h6 h7 h8 h9 h10 h11 h12; rfl
 ·rintro rfl
  exact ⟨⟨rfl, rfl⟩, rfl, rfl, rfl, rfl, rfl, rfl, rfl, rfl, rfl, rfl⟩
instance : DecidableEq Ev := fun a b => decidable_of_iff _ Ev.eqv_iff
instance : DecidableEq Vo := fun a b => decidable_of_iff (a.evs = b.evs ∧ a.tups = b.tups) ⟨fun h => by obtain ⟨x, y⟩ := a; obtain ⟨z, t⟩ := b; obtain ⟨rfl, rfl⟩ := h; rfl, fun h => by rw [h]; exact ⟨rfl, rfl⟩⟩
theorem Vo.ext {a b : Vo} (h : a.evs = b.evs) (h2 : a.tups = b.tups) : a = b := by obtain ⟨x, y⟩ := a; obtain ⟨z, t⟩ := b; simp only at h h2; subst h h2; rfl
theorem Tp.eq_of {x y : Tp} (h : ¬ ¬ (x.first = y.first ∧ x.count = y.count ∧ x.actual = y.actual ∧ x.normal = y.normal)) : x = y := by
 obtain ⟨a, b, c, d⟩ := x; obtain ⟨a', b', c', d'⟩ := y; simp only [Decidable.not_not] at h; obtain ⟨rfl, rfl, rfl, rfl⟩ := h; rfl
theorem Tp.ne_of {x y : Tp} (h : ¬ (x.first = y.first ∧ x.count = y.count ∧ x.actual = y.actual ∧ x.normal = y.normal)) : x ≠ y := by rintro rfl; exact h ⟨rfl, rfl, rfl, rfl⟩
def Aor (l : List Hd) : List Pit := l.map Hd.p
theorem X9 (a b : Vo) : XC Tryz.prog 18 [.agg (Vo.c a), .agg (Vo.c b)] (fun r => r = dB (decide (a = b))) := by
 refine An Adk Tryz.func18 R R lb<|zr<|XL.step R (As 2 (l := [.d (.sl 13 (a.evs.map Ev.c)), .d (.sl 4 (a.tups.map Tp.c))]) R R (by kernel_rfl))<|XL.step R (As 3 (l := [.d (.sl 13 (b.evs.map Ev.c)), .d (.sl 4 (b.tups.map Tp.c))]) R R (by kernel_rfl))<|za R R<|zn<|zs<|zr<|zp (Aa R R A0)<|zp (Ab R R Bq R R)<|XL.len R R R Tryz.underlying22 fun hl9=>?_
 refine zp (Aa R R A0)<|zp (Ab R R Bq R R)<|XL.len R R R Tryz.underlying22 fun hl12=>zp (Bh R R R)<|zm R R<|?_
 refine XL.dec 14 R (fun g14 => ?_) (fun g14 => ?_)
 exact zk 7 R<|zq R R R<|zn<|Ao (by kernel_rfl) R<|zr<|za R R<|zn<|zt<|z1 R R (rB (dno (fun h => g14 (by rw [h]))))
 refine zp (Aa R R B5)<|zp (Ab R R B3 R R)<|XL.len R R R Tryz.underlying23 fun hl17=>zp (Aa R R B5)<|zp (Ab R R B3 R R)<|XL.len R R R Tryz.underlying23 fun hl20=>zp (Bh R R R)<|zq R R R<|zn<|?_
 refine zd R (fun c22 => ?_) (fun c22 => ?_)
 exact zr<|za R R<|zn<|zt<|z1 R R (rB (dno (fun h => c22 (by rw [h]))))
 refine zi<|zs<|zr<|za R R<|zn<|Ag<|?_
 refine Au (α := Nat) (fun k => k ≤ a.evs.length ∧ ∀ j x y, j < k → a.evs[j]? = some x → b.evs[j]? = some y → x = y) (fun k => mkF [(2, .ptr 2 0 0), (3, .ptr 3 0 0), (5, .d (dI k))]) (fun k => mkH [(2, .box ((Vo.c a).map S.d)), (3, .box ((Vo.c b).map S.d))]) (fun k => a.evs.length - k) (0) (⟨Nat.zero_le _, fun j x y h => absurd h (Nat.not_lt_zero _)⟩) ?_ ?_ ?_
 exact fz ⟨sr, sr, sr, trivial⟩
 exact gz ⟨R, R, trivial⟩
 intro k hk0
 obtain ⟨hk, hf0⟩ := hk0
 refine zs<|zr<|zm R R<|zp (Aa R R A0)<|zp (Ab R R Bq R R)<|XL.len R R R Tryz.underlying22 fun hl26=>zp (Aq R R R)<|zn<|?_
 refine zd R (fun c27 => ?_) (fun c27 => ?_)
 have hk0a : k < a.evs.length := by omega
 obtain ⟨x, hx0⟩ := Av hk0a
 obtain ⟨y, hy0⟩ : ∃ y, b.evs[k]? = some y := Av (by omega)
 refine zi<|zs<|Ag<|zs<|?_
 by_cases q42 : ¬ (x.site = y.site ∧ x.num = y.num)
 refine Bc [] (by kernel_rfl) (by kernel_rfl) (by kernel_rfl) (by decide)<|yp (Aa R R A0)<|yp (Ab R R Bq R R)<|ym R R<|yp (Ak R R R Ct (hx0))<|yp (Bg R R Ez)<|yp (At R R Jg lb)<|yp (Aa R R A0)<|yp (Ab R R Bq R R)<|ym R R<|yp (Ak R R R Ct (hy0))<|yp (Bg R R Ez)<|yp (At R R Jg lb)<|?_
 refine yp (Di (Xx R R R) (q42))<|ym R R<|ChK.skip R<|ChK.skip R<|ChK.skip R<|ChK.skip R<|ChK.skip R<|ChK.skip R<|ChK.skip R<|ChK.skip R<|ChK.skip R<|ChK.skip R<|ChK.skip R<|ChK.skip R<|?_
 refine yp (A6 R R (by conv => lhs; whnf))<|?_
 refine ChK.nil ⟨by kernel_rfl, ?_⟩
 exact Ao (by kernel_rfl) R<|zr<|za R R<|zn<|zt<|z1 R R (rB (dno (fun h => by subst h; rw [hx0] at hy0; cases hy0; first | exact q42 ⟨rfl, rfl⟩ | exact c56 (Ev.eqv_iff.2 rfl).2)))
 refine Bc [] (by kernel_rfl) (by kernel_rfl) (by kernel_rfl) (by decide)<|yp (Aa R R A0)<|yp (Ab R R Bq R R)<|ym R R<|yp (Ak R R R Ct (hx0))<|yp (Bg R R Ez)<|yp (At R R Jg lb)<|yp (Aa R R A0)<|yp (Ab R R Bq R R)<|ym R R<|yp (Ak R R R Ct (hy0))<|yp (Bg R R Ez)<|yp (At R R Jg lb)<|?_
 refine yp (F9 (Xx R R R) (q42))<|ym R R<|yp (Aa R R A0)<|yp (Ab R R Bq R R)<|ym R R<|yp (Ak R R R Ct (hx0))<|yp (Ae (s' := .d (.agg (Ev.c x))) (At R R Aw lb) (by kernel_rfl))<|yp (Aa R R A0)<|yp (Ab R R Bq R R)<|ym R R<|yp (Ak R R R Ct (hy0))<|?_
 refine yp (Ae (s' := .d (.agg (Ev.c y))) (At R R Aw lb) (by kernel_rfl))<|ChK.cons R (CStep.call R (Xj _ _) R)<|yp (Bp R R)<|yp (A6 R R (by conv => lhs; whnf))<|?_
 refine ChK.nil ⟨by kernel_rfl, ?_⟩
 refine zd R (fun c56 => ?_) (fun c56 => ?_)
 exact zr<|za R R<|zn<|zt<|z1 R R (rB (dno (fun h => by subst h; rw [hx0] at hy0; cases hy0; first | exact q42 ⟨rfl, rfl⟩ | exact c56 (Ev.eqv_iff.2 rfl).2)))
 refine zi<|Af (by kernel_rfl)<|zm R R<|zp (Aj R R R (by omega) (by omega))<|za R R<|zn<|?_
 exact Al (k + 1) (⟨by omega, fun j x' y' hj hx' hy' => by by_cases e : j = k; (· subst e; rw [hx0] at hx'; rw [hy0] at hy'; cases hx'; cases hy'; exact Ev.eqv_iff.1 ⟨Decidable.not_not.1 q42, Decidable.not_not.1 c56⟩); (· exact hf0 j x' y' (by omega) hx' hy')⟩) (by omega) (fz ⟨sr, sr, sr, trivial⟩) (gz ⟨rfl, rfl, trivial⟩)
 have hk0b : k = a.evs.length := by omega
 have hq0 : a.evs = b.evs := Hs (by omega) (fun j x y hj => hf0 j x y (by omega))
 refine Ap<|zs<|zr<|za R R<|zn<|Ag<|?_
 refine Au (α := Nat) (fun m => m ≤ a.tups.length ∧ ∀ j x y, j < m → a.tups[j]? = some x → b.tups[j]? = some y → x = y) (fun m => mkF [(2, .ptr 2 0 0), (3, .ptr 3 0 0), (6, .d (dI m))]) (fun m => mkH [(2, .box ((Vo.c a).map S.d)), (3, .box ((Vo.c b).map S.d))]) (fun m => a.tups.length - m) (0) (⟨Nat.zero_le _, fun j x y h => absurd h (Nat.not_lt_zero _)⟩) ?_ ?_ ?_
 exact fz ⟨sr, sr, sr, trivial⟩
 exact gz ⟨R, R, trivial⟩
 intro m hk2
 obtain ⟨hk, hf2⟩ := hk2
 refine zs<|zr<|zm R R<|zp (Aa R R B5)<|zp (Ab R R B3 R R)<|XL.len R R R Tryz.underlying23 fun hl60=>zp (Aq R R R)<|zn<|?_
 refine zd R (fun c61 => ?_) (fun c61 => ?_)
 have hk2a : m < a.tups.length := by omega
 obtain ⟨x, hx2⟩ := Av hk2a
 obtain ⟨y, hy2⟩ : ∃ y, b.tups[m]? = some y := Av (by omega)
 refine zi<|zs<|Ag<|zs<|Bc [] (by kernel_rfl) (by kernel_rfl) (by kernel_rfl) (by decide)<|yp (Aa R R B5)<|yp (Ab R R B3 R R)<|ym R R<|yp (Ak R R R Ey hx2)<|yp (Ae (s' := .d (.agg (Tp.c x))) (At R R Ci lb) (by kernel_rfl))<|yp (Aa R R B5)<|yp (Ab R R B3 R R)<|ym R R<|yp (Ak R R R Ey (hy2))<|?_
 refine yp (Ae (s' := .d (.agg (Tp.c y))) (At R R Ci lb) (by kernel_rfl))<|yp (Ahz R R R)<|?_
 refine ChK.nil ⟨by kernel_rfl, ?_⟩
 refine zd R (fun c74 => ?_) (fun c74 => ?_)
 exact zr<|za R R<|zn<|zt<|z1 R R (rB (dno (fun h => by subst h; rw [hx2] at hy2; cases hy2; exact Tp.ne_of c74 rfl)))
 refine zi<|Af (by kernel_rfl)<|zm R R<|zp (Aj R R R (by omega) (by omega))<|za R R<|zn<|?_
 exact Al (m + 1) (⟨by omega, fun j x' y' hj hx' hy' => by by_cases e : j = m; (· subst e; rw [hx2] at hx'; rw [hy2] at hy'; cases hx'; cases hy'; exact Tp.eq_of c74); (· exact hf2 j x' y' (by omega) hx' hy')⟩) (by omega) (fz ⟨sr, sr, sr, trivial⟩) (gz ⟨rfl, rfl, trivial⟩)
 have hk2b : m = a.tups.length := by omega
 have hq2 : a.tups = b.tups := Hs (by omega) (fun j x y hj => hf2 j x y (by omega))
 exact Ap<|zr<|za R R<|zn<|zt<|z1 R R (rB (Arg (Vo.ext hq0 hq2)))
def Vo.few (v : Vo) : Prop := (∀ e ∈ v.evs, e.heads.length ≤ 12 ∧ e.graces.length ≤ 12 ∧ e.lyr.length ≤ 12) ∧ v.evs.length ≤ 130 ∧ v.tups.length ≤ 20
instance (v : Vo) : Decidable v.few := by unfold Vo.few; exact inferInstance
theorem Vo.few.fit {v : Vo} (h : v.few) : v.fit := ⟨by have := h.2.1; omega, by have := h.2.2; omega, fun e he => by have := h.1 e he; exact ⟨by omega, by omega, by omega⟩⟩
theorem Anq {v : Vo} (h : ∀ (j : Nat) e, j < v.evs.length → v.evs[j]? = some e → e.heads.length ≤ 12 ∧ e.graces.length ≤ 12 ∧ e.lyr.length ≤ 12) : ∀ e ∈ v.evs, e.heads.length ≤ 12 ∧ e.graces.length ≤ 12 ∧ e.lyr.length ≤ 12 := fun e he => by
 obtain ⟨j, hj⟩ := List.getElem?_of_mem he
 exact h j e (List.getElem?_eq_some_iff.1 hj).1 hj
theorem Ape (v : Vo) : XC Tryz.prog 14 [.agg (Vo.c v)] (fun r => r = dB (decide v.few)) := by
 refine An Ado Tryz.func14 R R lb<|zr<|XL.step R (As 1 (l := [.d (.sl 13 (v.evs.map Ev.c)), .d (.sl 4 (v.tups.map Tp.c))]) R R (by kernel_rfl))<|za R R<|zn<|zs<|zr<|za R R<|zn<|Ag<|?_
 refine Au (α := Nat) (fun k => k ≤ v.evs.length ∧ ∀ (j : Nat) e, j < k → v.evs[j]? = some e → e.heads.length ≤ 12 ∧ e.graces.length ≤ 12 ∧ e.lyr.length ≤ 12) (fun k => mkF [(1, .ptr 1 0 0), (3, .d (dI k))]) (fun k => mkH [(1, .box ((Vo.c v).map S.d))]) (fun k => v.evs.length - k) (0) (⟨Nat.zero_le _, fun j x h => absurd h (Nat.not_lt_zero _)⟩) ?_ ?_ ?_
 exact fz ⟨sr, sr, trivial⟩
 exact gz ⟨R, trivial⟩
 intro k hk0
 obtain ⟨hk, hf⟩ := hk0
 refine zs<|zr<|zm R R<|zp (Aa R R A0)<|zp (Ab R R Bq R R)<|XL.len R R R Tryz.underlying22 fun hl8=>zp (Aq R R R)<|zn<|?_
 refine zd R (fun c9 => ?_) (fun c9 => ?_)
 have hk0a : k < v.evs.length := by omega
 obtain ⟨x0, hx0⟩ := Av hk0a
 refine zi<|zs<|Ag<|zr<|zp (Aa R R A0)<|zp (Ab R R Bq R R)<|zm R R<|zp (Ak R R R Ct hx0)<|zp (Ae (s' := .d (.agg (Ev.c x0))) (At R R Aw lb) (by kernel_rfl))<|?_
 refine XL.step R (A7 4 (l := [.d (dI 0), .d (dI 0), .d (dI 0), .d (dI 0), .d (dI 0), .d (.v (.slice none 0 0)), .d (.v (.slice none 0 0)), .d (dI 0), .d (dI 0), .d (dI 0), .d (.v (.slice none 0 0)), .d (dI 0), .d (dI 0)]) R Bs (by kernel_rfl))<|?_
 refine XL.step R (Ah (l' := [.d (dI x0.site), .d (dI x0.num), .d (dI x0.kind), .d (dI x0.v.log), .d (dI x0.v.dots), .d (.sl 5 (x0.heads.map Hd.c)), .d (.sl 5 (x0.graces.map Gr.c)), .d (dI x0.art), .d (dI x0.orn), .d (dI x0.dyn), .d (.sl 2 (x0.lyr.map Sy.c)), .d (dI x0.stem), .d (dI x0.beam)]) R R R R Bw R lb (by kernel_rfl))<|znr<|zp (Aa R R Bk)<|zp (Ab R R C9 R R)<|?_
 refine XL.len R R R Tryz.underlying48 fun hl19=>zp (A5 R R R)<|zm R R<|?_
 refine XL.dec 21 R (fun g21 => ?_) (fun g21 => ?_)
 exact zk 4 R<|zq R R R<|zm R R<|zk 4 R<|zq R R R<|zn<|Ao (by kernel_rfl) R<|zr<|za R R<|zn<|zt<|z1 R R (rB (by rw [eq_comm, decide_eq_false_iff_not]; intro h; have := h.1 x0 (List.mem_of_getElem? hx0); omega))
 refine zp (Aa R R El)<|zp (Ab R R Ie R R)<|XL.len R R R Tryz.underlying57 fun hl24=>zp (A5 R R R)<|zq R R R<|zm R R<|?_
 refine XL.dec 27 R (fun g27 => ?_) (fun g27 => ?_)
 exact zk 4 R<|zq R R R<|zn<|Ao (by kernel_rfl) R<|zr<|za R R<|zn<|zt<|z1 R R (rB (by rw [eq_comm, decide_eq_false_iff_not]; intro h; have := h.1 x0 (List.mem_of_getElem? hx0); omega))
 refine zp (Aa R R Ej)<|zp (Ab R R Id R R)<|XL.len R R R Tryz.underlying58 fun hl30=>zp (A5 R R R)<|zq R R R<|zn<|?_
 refine zd R (fun c32 => ?_) (fun c32 => ?_)
 exact zr<|za R R<|zn<|zt<|z1 R R (rB (by rw [eq_comm, decide_eq_false_iff_not]; intro h; have := h.1 x0 (List.mem_of_getElem? hx0); omega))
 refine zi<|Af (by kernel_rfl)<|zm R R<|zp (Aj R R R (by omega) (by omega))<|za R R<|zn<|?_
 exact Al (k + 1) (⟨by omega, fun j e hj he => by by_cases q : j = k; (· subst q; rw [hx0] at he; cases he; omega); (· exact hf j e (by omega) he)⟩) (by omega) (fz ⟨sr, sr, trivial⟩) (gz ⟨rfl, trivial⟩)
 have hk0b : k = v.evs.length := by omega
 have hfa := Anq (v := v) (fun j e hj => hf j e (by omega))
 refine Ap<|zr<|zp (Aa R R A0)<|zp (Ab R R Bq R R)<|XL.len R R R Tryz.underlying22 fun hl35=>zp (E4 R R R)<|zm R R<|?_
 refine XL.dec 37 R (fun g37 => ?_) (fun g37 => ?_)
 exact zp (Aa R R B5)<|zp (Ab R R B3 R R)<|XL.len R R R Tryz.underlying23 fun hl40=>zp (E4 R R R)<|zq R R R<|za R R<|zn<|zt<|z1 R R (rB (by rw [decide_eq_decide]; exact ⟨fun h => ⟨hfa, by omega, by omega⟩, fun h => by have := h.2.2; omega⟩))
 exact zk 4 R<|zq R R R<|za R R<|zn<|zt<|z1 R R (rB (by rw [eq_comm, decide_eq_false_iff_not]; intro h; have := h.2.1; omega))
theorem Anc : XC Tryz.prog 15 [.agg (Vo.c kV), .agg (Pl.c kP), dI 483840] (fun r => r = .tup [.agg (Vo.c kW), dI 0]) := by
 have := V8 kV kP 483840 (fun e he => by have := List.mem_singleton.1 he; subst this; decide) (Vo.few.fit (by decide))
 rw [Ao8] at this; exact this
theorem Anb : XC Tryz.prog 20 [.agg (Vo.c kW), .agg (Pl.c kP)] (fun r => r = .tup [.agg (Vo.c kV), dI 0]) := by
 have := Abn kW kP (fun e he => by simp [kW] at he; rcases he with rfl | rfl | rfl <;> decide) (Vo.few.fit (by decide))
 rw [Ao7] at this; exact this
theorem R6  : XC Tryz.prog 13 [] (fun r => r = dB true) := by
 refine An Adp Tryz.func13 R R lb<|zr<|za R R<|znr<|zp (Ae (s' := .d (.agg [dI 1, dI 1])) (Ad (Bo R Aob Alv R)) (by kernel_rfl))<|zp (Ae (s' := .d (.agg [dI 0, dI 0, dI 5])) (Ad (Bo R Aoa Alu R)) (by kernel_rfl))<|zp (Ae (s' := .d (.agg [dI 0, dI 0, dI 5, dB false, dI 0])) (Ad (Bo R W9 I1 R)) (by kernel_rfl))<|?_
 refine XL.step R (Ju (l := [kH false].map Hd.c) R Tryz.underlying48 Qh I1 (by kernel_rfl) R (by omega) (by omega))<|?_
 refine zp (Rw (.agg (Ev.c (kE 1 ⟨0, 0⟩ false))) (Ae (s' := .d (.agg [dI 1, dI 1, dI 1, dI 0, dI 0, .sl 5 ([kH false].map Hd.c), .v (.slice none 0 0), dI 0, dI 0, dI 0, .v (.slice none 0 0), dI 0, dI 0])) (Ad (Bo R L7 Bs R)) (by kernel_rfl)) (.agg (.cons (.same R) (.cons (.same R) (.cons (.same R) (.cons (.same R) (.cons (.same R) (.cons (.same R) (.cons (.nil 5) (.cons (.same R) (.cons (.same R) (.cons (.same R) (.cons (.nil 2) (.cons (.same R) (.cons (.same R) (.nil))))))))))))))))<|?_
 refine XL.step R (A7 1 (l := [.d (dI 0), .d (dI 0), .d (dI 0), .d (dI 0), .d (dI 0), .d (.v (.slice none 0 0)), .d (.v (.slice none 0 0)), .d (dI 0), .d (dI 0), .d (dI 0), .d (.v (.slice none 0 0)), .d (dI 0), .d (dI 0)]) R Bs (by kernel_rfl))<|?_
 refine XL.step R (Ah (l' := [.d (dI (kE 1 ⟨0, 0⟩ false).site), .d (dI (kE 1 ⟨0, 0⟩ false).num), .d (dI (kE 1 ⟨0, 0⟩ false).kind), .d (dI (kE 1 ⟨0, 0⟩ false).v.log), .d (dI (kE 1 ⟨0, 0⟩ false).v.dots), .d (.sl 5 ((kE 1 ⟨0, 0⟩ false).heads.map Hd.c)), .d (.sl 5 ((kE 1 ⟨0, 0⟩ false).graces.map Gr.c)), .d (dI (kE 1 ⟨0, 0⟩ false).art), .d (dI (kE 1 ⟨0, 0⟩ false).orn), .d (dI (kE 1 ⟨0, 0⟩ false).dyn), .d (.sl 2 ((kE 1 ⟨0, 0⟩ false).lyr.map Sy.c)), .d (dI (kE 1 ⟨0, 0⟩ false).stem), .d (dI (kE 1 ⟨0, 0⟩ false).beam)]) R R R R Bw R lb (by kernel_rfl))<|?_
 refine znr<|zp (Ae (s' := .d (.agg (Ev.c (kE 1 ⟨0, 0⟩ false)))) (Ad (Ac R R Aw R lb)) (by kernel_rfl))<|XL.step R (Ju (l := [kE 1 ⟨0, 0⟩ false].map Ev.c) R Tryz.underlying22 Bw Bs (by kernel_rfl) R (by omega) (by omega))<|?_
 refine zp (Rw (.agg (Vo.c kV)) (Ae (s' := .d (.agg [.sl 13 ([kE 1 ⟨0, 0⟩ false].map Ev.c), .v (.slice none 0 0)])) (Ad (Bo R Dq By R)) (by kernel_rfl)) (.agg (.cons (.same R) (.cons (.nil 4) (.nil)))))<|XL.step R (A7 2 (l := [.d (.v (.slice none 0 0)), .d (.v (.slice none 0 0))]) R By (by kernel_rfl))<|?_
 refine XL.step R (Ah (l' := [.d (.sl 13 (kV.evs.map Ev.c)), .d (.sl 4 (kV.tups.map Tp.c))]) R R R R Cr R lb (by kernel_rfl))<|znr<|zp (Ae (s' := .d (.agg (Me.c kP.m))) (Ad (Bo R Aod Alw R)) (by kernel_rfl))<|zp (Ae (s' := .d (.agg (Pl.c kP))) (Ad (Bo R Aoc Adq R)) (by kernel_rfl))<|?_
 refine XL.step R (A7 3 (l := [.d (dI 0), .d (dI 0), .d (dI 0), .d (dI 0), .d (dI 0), .d (dI 0), .d (dI 0), .d (dI 0), .d (dI 0), .d (dI 0)]) R Adq (by kernel_rfl))<|?_
 refine XL.step R (Ah (l' := [.d (dI kP.m.count), .d (dI kP.m.unit), .d (dI kP.m.g0), .d (dI kP.m.g1), .d (dI kP.m.g2), .d (dI kP.m.g3), .d (dI kP.m.g4), .d (dI kP.m.g5), .d (dI kP.off), .d (dI kP.len)]) R R R R Ap2 R lb (by kernel_rfl))<|znr<|zp (Ae (s' := .d (.agg (Vo.c kV))) (Ad (Ac R R A8 R lb)) (by kernel_rfl))<|?_
 refine zp (Ae (s' := .d (.agg (Pl.c kP))) (Ad (Ac R R Kc R lb)) (by kernel_rfl))<|XL.call1 R R (Anc) R<|zm R R<|zp (Be R R R)<|zp (Be R R R)<|XL.step R (A7 4 (l := [.d (.v (.slice none 0 0)), .d (.v (.slice none 0 0))]) R By (by kernel_rfl))<|?_
 refine XL.step R (Ah (l' := [.d (.sl 13 (kW.evs.map Ev.c)), .d (.sl 4 (kW.tups.map Tp.c))]) R R R R Cr R lb (by kernel_rfl))<|za R R<|znr<|zp (Ae (s' := .d (.agg (Vo.c kW))) (Ad (Ac R R A8 R lb)) (by kernel_rfl))<|zp (Ae (s' := .d (.agg (Pl.c kP))) (Ad (Ac R R Kc R lb)) (by kernel_rfl))<|XL.call1 R R (Anb) R<|zm R R<|zp (Be R R R)<|?_
 refine zp (Be R R R)<|XL.step R (A7 6 (l := [.d (.v (.slice none 0 0)), .d (.v (.slice none 0 0))]) R By (by kernel_rfl))<|XL.step R (Ah (l' := [.d (.sl 13 (kV.evs.map Ev.c)), .d (.sl 4 (kV.tups.map Tp.c))]) R R R R Cr R lb (by kernel_rfl))<|za R R<|znr<|zm R R<|zp (Di (Ay R R R) (R))<|zm R R<|zp (Aa R R A0)<|zp (Ab R R Bq R R)<|?_
 refine XL.len R R R Tryz.underlying22 fun hl35=>zp (Di (Ay R R R) (by decide))<|zq R R R<|zm R R<|zp (Aa R R A0)<|zp (Ab R R Bq R R)<|zp (Ak (k := 0) R R R Ct ((R : kW.evs[0]? = some (kE 1 ⟨2, 0⟩ true))))<|zp (Bg R R B7)<|zp (Ae (s' := .d (.agg (Val.c (kE 1 ⟨2, 0⟩ true).v))) (At R R B8 lb) (by kernel_rfl))<|?_
 refine zp (Ae (s' := .d (.agg [dI 2, dI 0])) (Ad (Bo R In C6 R)) (by kernel_rfl))<|zp (Di (Oj R R R) (by decide))<|zq R R R<|zm R R<|zp (Aa R R A0)<|zp (Ab R R Bq R R)<|zp (Ak (k := 2) R R R Ct ((R : kW.evs[2]? = some (kE 0 ⟨1, 0⟩ false))))<|zp (Bg R R B7)<|?_
 refine zp (Ae (s' := .d (.agg (Val.c (kE 0 ⟨1, 0⟩ false).v))) (At R R B8 lb) (by kernel_rfl))<|zp (Ae (s' := .d (.agg [dI 1, dI 0])) (Ad (Bo R In C6 R)) (by kernel_rfl))<|zp (Di (Oj R R R) (by decide))<|zq R R R<|zm R R<|zp (Aa R R A0)<|zp (Ab R R Bq R R)<|?_
 refine zp (Ak (k := 1) R R R Ct ((R : kW.evs[1]? = some (kE 0 ⟨2, 0⟩ true))))<|zp (Bg R R Bk)<|zp (Ax R R C9)<|zp (Ak (k := 0) R R R F8 ((R : (kE 0 ⟨2, 0⟩ true).heads[0]? = some (kH true))))<|zp (Bg R R Jn)<|zp (Ae (s' := .d (dB true)) (Ax R R Ob) (by kernel_rfl))<|zq R R R<|zm R R<|zm R R<|zp (Di (Ay R R R) (R))<|zq R R R<|?_
 refine zm R R<|zp (Aa R R A0)<|zp (Ab R R Bq R R)<|XL.len R R R Tryz.underlying22 fun hl73=>zp (Di (Ay R R R) (by decide))<|zq R R R<|zm R R<|zp (Aa R R A0)<|zp (Ab R R Bq R R)<|zp (Ak (k := 0) R R R Ct ((R : kV.evs[0]? = some (kE 1 ⟨0, 0⟩ false))))<|zp (Bg R R B7)<|?_
 exact zp (Ae (s' := .d (.agg (Val.c (kE 1 ⟨0, 0⟩ false).v))) (At R R B8 lb) (by kernel_rfl))<|zp (Ae (s' := .d (.agg [dI 0, dI 0])) (Ad (Bo R In C6 R)) (by kernel_rfl))<|zp (Di (Oj R R R) (by decide))<|zq R R R<|za R R<|zn<|zt<|z1 R R (R)
end Go.Proofs.YtcihalbakenleaaGreat
