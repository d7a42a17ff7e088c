/- Part 8 of what the statements need: lemmas and walks. -/
import Derived.Lib.AppendZeros
import Derived.Test.YtcihalbakenleaaGreatRs7
set_option linter.unusedVariables false
set_option linter.unusedSimpArgs false
set_option linter.unusedSectionVars false
set_option maxRecDepth 20000
set_option maxHeartbeats 8000000
namespace Go.Proofs.YtcihalbakenleaaGreat
open Go.RowKit
section
variable {P:Program} {o:Oper} {e:Operand→S} {h:Xh}
theorem V1 {t el:TypeId} {x:Operand} (ho:o.op= .call {callee:= .builtin .cap,args:= #[x],argTypes:= #[t]}) (hx:e x= .d (.v (.slice none 0 0))) (hu:P.underlying t=some (.slice el)):Bf P o e h (.d (.v (.int .i64 0))):=fun E H β ρ w _ hop=>by
  have g:=hop x (by rw [ho];simp [Op.operands,Call.operands])
  rw [hx] at g
  refine ⟨_, ?_, .d (.v (.int .i64 0))⟩
  unfold execOp
  simp only [ho,resolve,invoke,builtin,Sem.run_bind,Sem.run_pure,Result.andThen_ok,List.map_toArray,List.map_cons,List.map_nil,Dy g]
  unfold Builtin.cap_
  simp only [List.getElem?_toArray,List.getElem?_cons_zero,Sem.run_bind,run_underlying hu,Result.andThen_ok,Sem.run_pure,goInt]
  rfl
theorem Ab9 {t sz:Nat} {x y:Operand} {k:IntKind} (ho:o.op= .slice t x none (some y) none) (hx:e x= .d (.v (.slice none 0 0))) (hy:e y= .d (.v (.int k 0))) (hf:elB P t sz=true):Bf P o e h (.d (.v (.slice none 0 0))):=fun E H β ρ w _ hop=>by
  have g:=hop x (by rw [ho];simp [Op.operands])
  have g2:=hop y (by rw [ho];simp [Op.operands])
  rw [hx] at g
  rw [hy] at g2
  obtain ⟨el,hu,hpos,hsz⟩:=elB.parts hf
  have hb:(Instr.sliceBounds true 0 0 (none:Option Value) (some (ρ y)) none).run P w= .ok (0,0,0) w:=by
    rw [Dy g2]
    exact Mc none (some (.int k 0)) 0 0 0 0 (.inl ⟨rfl,rfl⟩) (.inr ⟨k,rfl⟩) (Nat.le_refl _) (Nat.le_refl _) w
  refine ⟨_, ?_, .d (.v _)⟩
  unfold execOp
  simp only [ho,Dy g,Instr.sliceAt,Option.map_none,Option.map_some,Sem.run_bind,run_underlying hu,Result.andThen_ok,Instr.slice,hb,hsz,Sem.run_pure,Nat.sub_zero,if_true]
end
section
variable {P:Program} {n:Nat} {o:Oper} {f:Fr} {h:Xh}
theorem Afm (i:Nat) {t tn ty:TypeId} {sz bytes:Nat} {x y:Operand} {z:Value} {zs:List D} {k:Nat} {kq kn:IntKind} (ho:o.op= .call {callee:= .builtin .append,args:= #[x,y],argTypes:= #[t,tn]})
    (hx:ev f x= .d (.v (.slice none 0 0))) (hy:ev f y= .d (.v (.int kq k))) (hu:P.underlying t=some (.slice ty)) (hun:P.underlying tn=some (.int kn)) (hinf:(P.info? ty).map (fun i=>(i.zero,i.size,i.bytes))=some (some z,sz,bytes))
    (hzs:z.cells.toList.map D.v=zs) (hzl:z.cells.size=sz) (hz1:∀u∈z.cells,u.oneCell'=true) (hpos:0<sz) (hk:0<k) (hcm:k≤maxLen) (hby:k*bytes≤140737488355328):
    Step P n o f h (.own i) (Hb f i) ((h.kill i).set i (.row ty sz (List.replicate k zs))):=by
  intro E H β a w hs hf hop
  have g1:=hop x (by rw [ho];simp [Op.operands,Call.operands])
  have g2:=hop y (by rw [ho];simp [Op.operands,Call.operands])
  rw [hx] at g1
  rw [hy] at g2
  obtain ⟨inf,hi,hi1,hi2,hi3⟩:=info_parts hinf
  have hcm':k≤9223372036854775807:=Aiq hcm
  have hrun0:=Lib.run_append_nil_zeros (P:=P) w t tn o.type ty inf z kq kn hu hun hi hi1 k hk (by omega) (by omega) (by rw [hi3];omega)
  have hrun:(execOp a.eval o).run P w= .ok (.value (.slice (some ⟨w.heap.size,0,none⟩) (List.replicate k zs).length (grownCap w k 0 ty))) (w.drew.alloc (.cells (Builtin.zeroCells z.cells k++Builtin.zeroCells z.cells (grownCap w k 0 ty - k)) ty)):=by
    unfold execOp
    simp only [ho,Dy g1,Dy g2,resolve,invoke,builtin,Sem.run_bind,Sem.run_pure,Result.andThen_ok,List.map_toArray,List.map_cons,List.map_nil,hrun0,List.length_replicate]
  unfold Oper.wp
  rw [hrun]
  have hge:=grownCap_ge w k 0 ty
  have hle:=grownCap_le_maxLen w k 0 ty hcm
  have hzsl:zs.length=sz:=by rw [←hzs,List.length_map,Array.length_toList,hzl]
  have hzget : ∀ m q, q < m * sz → (Builtin.zeroCells z.cells m)[q]? = some (z.cells[q % z.cells.size]'(Nat.mod_lt _ (by omega))) := by
    intro m q hq
    unfold Builtin.zeroCells
    rw [Array.getElem?_map]
    have:(Array.range (m*z.cells.size))[q]? =some q:=by rw [hzl];simp [hq]
    rw [this,Option.map_some]
    congr 1
    exact getElem!_pos z.cells (q % z.cells.size) (Nat.mod_lt _ (by omega))
  have hzsz:∀m,(Builtin.zeroCells z.cells m).size=m*sz:=fun m=>by unfold Builtin.zeroCells;simp [hzl]
  have hzone:∀m,∀u∈Builtin.zeroCells z.cells m,u.oneCell'=true:=fun m u hu=>by
    obtain ⟨q,hq⟩:=Array.getElem?_of_mem hu
    have hql:=(Array.getElem?_eq_some_iff.1 hq).1
    rw [hzget m q (by rw [←hzsz];exact hql)] at hq
    cases hq
    exact hz1 _ (Array.getElem_mem _)
  have hsim := hs.drew.add_row i (ty := ty) (sz := sz) (cap := grownCap w k 0 ty) (l := List.replicate k zs) (Builtin.zeroCells z.cells k ++ Builtin.zeroCells z.cells (grownCap w k 0 ty - k)) (fun x hx => by rw [List.eq_of_mem_replicate hx]; exact hzsl) (by rw [List.length_replicate]; exact hge) hle (by
      rw [Array.size_append, hzsz, hzsz, ← Nat.add_mul]; congr 1; omega) (fun u hu => by
      rcases Array.mem_append.1 hu with h|h
      · exact hzone _ u h
      · exact hzone _ u h) (fun k' j x d hk' hj => by
      have hkl:=(List.getElem?_eq_some_iff.1 hk').1
      rw [List.length_replicate] at hkl
      have hx:=List.eq_of_mem_replicate (List.mem_of_getElem? hk')
      subst hx
      have hjl:=(List.getElem?_eq_some_iff.1 hj).1
      rw [hzsl] at hjl
      have h1:(k'+1)*sz≤k*sz:=Nat.mul_le_mul_right _ hkl
      rw [Nat.add_mul] at h1
      refine ⟨_,by rw [Array.getElem?_append_left (by rw [hzsz];omega)];exact hzget k (k'*sz+j) (by omega), ?_⟩
      have e2:(k'*sz+j) % sz=j:=by rw [Nat.mul_comm,Nat.mul_add_mod,Nat.mod_eq_of_lt hjl]
      rw [←hzs,List.getElem?_map,Array.getElem?_toList,Array.getElem?_eq_getElem (by omega)] at hj
      cases hj
      have e3 : z.cells[(k' * sz + j) % z.cells.size]'(Nat.mod_lt _ (by omega)) = z.cells[j]'(by omega) := by congr 1; rw [hzl, e2]
      rw [e3]
      exact .v _)
  exact ⟨H,_,_,rfl,hsim,hf.kill i _,Qj H β i ⟨_,w.heap.size,sz⟩⟩
end
inductive DSubs:List D→List D→Prop where
  |nil:DSubs [] []
  |cons {d d':D} {l l':List D} (h:DSub d d') (hl:DSubs l l'):DSubs (d::l) (d'::l')
mutual
theorem S.frz_kill (i:Nat) (x:D):∀s:S,(s.kill i).frz i x=s.kill i
  | .any=>by simp only [S.kill,S.frz]
  | .d y=>by simp only [S.kill,S.frz]
  | .ptr j k off=>by
    simp only [S.kill]
    by_cases e:i=j
    · subst e;rw [B1];simp only [cond_true,S.frz]
    · rw [B9 e];simp only [cond_false,S.frz]
  | .own j=>by
    simp only [S.kill]
    by_cases e:i=j
    · subst e;rw [B1];simp only [cond_true,S.frz]
    · rw [B9 e];simp only [cond_false,S.frz,B9 e]
  | .sub j a b=>by
    simp only [S.kill]
    by_cases e:i=j
    · subst e;rw [B1];simp only [cond_true,S.frz]
    · rw [B9 e];simp only [cond_false,S.frz,B9 e]
  | .agg l=>by simp only [S.kill,S.frz,S.frzL_kill i x l]
  | .fn f a c=>by simp only [S.kill,S.frz,S.frzL_kill i x a,S.frzL_kill i x c]
  | .tup l=>by simp only [S.kill,S.frz,S.frzL_kill i x l]
theorem S.frzL_kill (i:Nat) (x:D):∀l:List S,S.frzL i x (S.killL i l)=S.killL i l
  | []=>by simp only [S.killL,S.frzL]
  |s::l=>by simp only [S.killL,S.frzL,S.frz_kill i x s,S.frzL_kill i x l]
end
theorem S.frzG_kill (i:Nat) (x:D):∀l:List (Nat × S),S.frzG i x (S.killG i l)=S.killG i l
  | []=>rfl
  |(t,s)::l=>by simp only [S.killG,S.frzG,S.frz_kill i x s,S.frzG_kill i x l]
theorem XO.frz_kill (i:Nat) (x:D) (o:XO):(o.kill i).frz i x=o.kill i:=by
  cases o with
  |box l=>simp only [XO.kill,XO.frz,S.frzL_kill]
  |row e sz l=>rfl
  |rowS e sz l=>
    simp only [XO.kill,XO.frz,List.map_map]
    congr 1
    exact List.map_congr_left fun y _=>S.frzL_kill i x y
  |ghost u l=>simp only [XO.kill,XO.frz,S.frzG_kill]
def Pg (i:Nat):Nat→Option XO→Option XO:=fun k y=>bif Nat.beq i k then none else y.map (XO.kill i)
theorem Wc {i:Nat} (z z':Option XO):Pg i i z=Pg i i z':=by simp only [Pg,B1,cond_true]
section
variable {P:Program} {n:Nat} {o:Oper} {f:Fr} {h:Xh}
theorem Wb {i:Nat} {t ty:TypeId} {sz bytes:Nat} {x y:Operand} {l l' l2:List (List D)} (ho:o.op= .call {callee:= .builtin .append,args:= #[x,y],argTypes:= #[t,t]}) (T:ElemTy P t ty sz bytes)
    (hx:Dest h (ev f x) i ty sz l) (hy:Src h (ev f y) sz l') (h63:l.length+l'.length≤maxLen) (hby:(l.length+l'.length)*bytes≤140737488355328) (hl2:l++l'=l2):
    ∀hF,HLe h hF→Rr P n o f hF i (.d (.sl sz l2)) (S.kill i) (hF.by (Pg i)):=by
  intro hF hle f' he E H β a w hs hf hop
  refine Hm (Ys ho T hx hy h63 hby hl2 hF hle f' he E H β a w hs hf hop) ?_
  rintro a' w' ⟨H',β',u,rfl,k1,k2,k3,k4⟩
  obtain ⟨H2,g1,g2,g3⟩:=k1.freeze (i:=i) (e:=ty) (sz:=sz) (l:=l2) (by show Yt i _ i _=_;simp only [Yt,B1,cond_true])
  obtain ⟨L,hL,hu⟩:=Ij k4
  refine ⟨H2,β',u,rfl,g3.drop (fun k o e=> ?_),k2.mono g1 (fun _ _ h=>h),k3, .d (by rw [hu];exact g2 L hL)⟩
  unfold Xh.by Pg at e
  unfold Xh.frz Xh.by Yt
  by_cases e':i=k
  · subst e';simp only [B1,cond_true] at e;cases e
  · simp only [B9 e',cond_false] at e ⊢
    cases hk:hF k with
    |none=>rw [hk] at e;cases e
    |some o1=>rw [hk] at e;cases e;simp only [Option.map_some,XO.frz_kill]
end
section
variable {P:Program} {n:Nat} {c:Code} {K:Do} {f:Fr} {h:Xh}
theorem Aml (t:Nat) {b:Bool} (ht:f t= .d (.v (.bool b))) (h1:b=true→XW P n c K (Db f t (.d (.v (.bool true)))) h) (h2:b=false→XW P n c K (Db f t (.d (.v (.bool false)))) h):XW P n c K f h:=by
  have e:∀b',b=b'→Db f t (.d (.v (.bool b')))=f:=fun b' hb=>by
    funext j
    by_cases e:t=j
    · subst e;simp only [Db,B1,cond_true];rw [ht,hb]
    · simp only [Db,B9 e,cond_false]
  cases hb:b with
  |true=>have:=h1 hb;rwa [e true hb] at this
  |false=>have:=h2 hb;rwa [e false hb] at this
theorem Ajn (t:Nat) {p:Prop} [Decidable p] (ht:f t= .d (.v (.bool (decide p)))) (h1:p→XW P n c K (Db f t (.d (.v (.bool true)))) h) (h2:¬p→XW P n c K (Db f t (.d (.v (.bool false)))) h):XW P n c K f h:=
  Aml t ht (fun e=>h1 (of_decide_eq_true e)) (fun e=>h2 (of_decide_eq_false e))
end
end Go.Proofs.YtcihalbakenleaaGreat
namespace Go.Proofs.YtcihalbakenleaaGreat
open Go.RowKit
theorem RVS.cells {P:Program} {n:Nat} {f:Fr} {h:Xh} {a t m i:Nat} {l:List S} (ha:Nat.blt a n=true) (hf:f a= .ptr i 0 0) (hi:h i=some (.box l)) (hs:aggB P t m=true) (hm:m≤l.length):RVS P n f h (.cell a t) (.agg ((l.drop 0).take m)):=fun E H β act w hsim hfv=>by
 have g:=hfv.slot a (Gj ha)
 rw [hf] at g
 obtain ⟨L,h1,h2⟩:=Gh g
 rw [Nat.zero_mul,Nat.zero_add] at h2
 have hp : Bf P ⟨none, .load t (.tmp 0), t, "", #[], none⟩ (fun _ => .ptr i 0 0) h (.agg ((l.drop 0).take m)) := Ad rfl rfl hs hi (by omega)
 obtain ⟨u,r1,r2⟩:=hp E H β (fun _=>act.tmps.getD a undef) w hsim (fun x _=>by rw [h2];have:=VS.ptr (H:=H) 0 0 h1;rw [Nat.zero_mul,Nat.zero_add] at this;exact this)
 rw [If rfl h2] at r1
 refine ⟨u, ?_,r2⟩
 unfold Tq
 simp only [Sem.run_bind,h2,asAddr,Sem.run_pure,Result.andThen_ok]
 generalize (loadVar t ⟨L.b,0,none⟩).run P w=r at r1
 cases r with
 |ok v w'=>simp only [Result.andThen_ok,Result.ok.injEq,Next.value.injEq] at r1;obtain ⟨rfl,rfl⟩:=r1;rfl
 |halt x w'=>simp [Result.andThen] at r1
end Go.Proofs.YtcihalbakenleaaGreat
namespace Go.Proofs.YtcihalbakenleaaGreat
open Go.RowKit
theorem X8 {P:Program} {o:Oper} {e:Operand→S} {h:Xh} {d:D} (d':D) (hp:Bf P o e h (.d d)) (hs:DSub d d'):Bf P o e h (.d d'):=fun E H β ρ w hsim hop=>by
 obtain ⟨u,r1,r2⟩:=hp E H β ρ w hsim hop
 exact ⟨u,r1, .d (hs.vd (D5 r2))⟩
end Go.Proofs.YtcihalbakenleaaGreat
namespace Go.Proofs.YtcihalbakenleaaGreat
open Go.RowKit
theorem XL.rowq {P:Program} {n:Nat} {ops:Array Oper} {rest:List Oper} {K:Do} {f:Fr} {h:Xh} {i:Nat} {e:TypeId} {sz:Nat} {l l':List (List D)} (hi:h i=some (.row e sz l)) (he:l=l') (hr:XL P n ops rest K f (h.set i (.row e sz l'))):XL P n ops rest K f h:=by
 subst he
 have:h.set i (.row e sz l)=h:=by
  funext j
  by_cases k:i=j
  ·subst k;rw [Xh.set_same,hi]
  ·rw [Xh.set_ne _ _ k]
 rwa [this] at hr
end Go.Proofs.YtcihalbakenleaaGreat
namespace Go.Proofs.YtcihalbakenleaaGreat
open Go.RowKit
section
variable {E:Env} {H:Hp} {β:Bt} {h:Xh} {w:World}
theorem Sim.redo (s:Sim E H β h w) {i:Nat} {o o':XO} (hi:h i=some o) (hb:∀L,o'.blk L=o.blk L) (hg:o'.isG=o.isG) (hok:∀L,OKo E.w.heap.size w H β L o→OKo E.w.heap.size w H β L o'):Sim E H β (h.set i o') w:=by
 have aux:∀j o1 L,h.set i o' j=some o1→β j=some L→∃o2,h j=some o2∧o1.blk L=o2.blk L∧(OKo E.w.heap.size w H β L o2→OKo E.w.heap.size w H β L o1):=by
  intro j o1 L ho hL
  by_cases e':i=j
  ·subst e'
   rw [Xh.set_same] at ho
   cases ho
   exact ⟨_,hi,hb L,hok L⟩
  ·rw [Xh.set_ne _ _ e'] at ho
   exact ⟨o1,ho,rfl,fun hk=>hk⟩
 refine ⟨s.below,s.ext,s.new,s.imm,fun j o L ho hL=> ?_,fun j o L ho hL b hb=> ?_,fun j j' o o' L L' b hjj ho ho' hL hL' hb=> ?_,fun j o ho hg'=> ?_⟩
 rotate_left 3
 ·by_cases e':i=j
  ·subst e';rw [Xh.set_same] at ho;cases ho;exact s.dom i _ hi (by rw [←hg];exact hg')
  ·rw [Xh.set_ne _ _ e'] at ho;exact s.dom j o ho hg'
 ·obtain ⟨o',h1,_,h3⟩:=aux j o L ho hL
  exact h3 (s.obj j o' L h1 hL)
 ·obtain ⟨o',h1,h2,_⟩:=aux j o L ho hL
  rw [h2] at hb
  exact s.sep j o' L h1 hL b hb
 ·obtain ⟨o1,h1,h2,_⟩:=aux j o L ho hL
  obtain ⟨o2,h3,h4,_⟩:=aux j' o' L' ho' hL'
  rw [h2] at hb
  rw [h4]
  exact s.inj j j' o1 o2 L L' b hjj h1 h3 hL hL' hb
theorem OKo.toS {base:Nat} {L:Loc} {e:TypeId} {sz:Nat} {l:List (List D)} (hk:OKo base w H β L (.row e sz l)):OKo base w H β L (.rowS e sz (l.map (·.map S.d))):=by
 obtain ⟨h0,hz,hv,us,h2,h3,h4⟩:=hk
 refine ⟨h0,fun x hx=> ?_,hv,us,by rw [List.length_map];exact h2,h3,fun k j x s hx hs=> ?_⟩
 ·obtain ⟨y,hy,rfl⟩:=List.mem_map.1 hx
  rw [List.length_map];exact hz y hy
 ·rw [List.getElem?_map] at hx
  cases hl:l[k]? with
  |none=>rw [hl] at hx;cases hx
  |some y=>
   rw [hl] at hx;cases hx
   rw [List.getElem?_map] at hs
   cases hy:y[j]? with
   |none=>rw [hy] at hs;cases hs
   |some d=>
    rw [hy] at hs;cases hs
    obtain ⟨u,hu,hd⟩:=h4 k j y d hl hy
    exact ⟨u,hu, .d hd⟩
theorem OKo.ofS {base:Nat} {L:Loc} {e:TypeId} {sz:Nat} {l:List (List D)} (hk:OKo base w H β L (.rowS e sz (l.map (·.map S.d)))):OKo base w H β L (.row e sz l):=by
 obtain ⟨h0,hz,hv,us,h2,h3,h4⟩:=hk
 refine ⟨h0,fun x hx=> ?_,hv,us,by rw [List.length_map] at h2;exact h2,h3,fun k j x d hx hd=> ?_⟩
 ·have:=hz _ (List.mem_map.2 ⟨x,hx,rfl⟩)
  rwa [List.length_map] at this
 ·obtain ⟨u,hu,hs⟩:=h4 k j (x.map S.d) (.d d) (by rw [List.getElem?_map,hx];rfl) (by rw [List.getElem?_map,hd];rfl)
  exact ⟨u,hu,D5 hs⟩
theorem Tr (hs:Sim E H β h w) {i:Nat} {ty:TypeId} {sz:Nat} {l:List (List S)} {L:Loc} (hi:h i=some (.rowS ty sz l)) (hL:β i=some L) {k j:Nat} {x:List S} {s:S} (hk:l[k]? =some x) (hj:x[j]? =some s):
  ∃u,w.cell? ⟨L.b,k*L.sz+j,none⟩=some u∧VS H β u s:=by
 obtain ⟨hsz,_,hvb,us,h1,h2,h3⟩:=hs.obj i _ L hi hL
 obtain ⟨u,hu,hv⟩:=h3 k j x s hk hj
 have hpos:0<l.length:=by have:=(List.getElem?_eq_some_iff.1 hk).1;omega
 obtain ⟨g,cap,hLv,_,_⟩:=h1.form hpos
 have hg:=hvb g (by rw [hLv];rfl)
 subst hg
 have:=h1.cells (g:=L.b) (by rw [hLv];rfl) (k*sz+j) u hu
 rw [Go.WideShapes.add_plain,Nat.zero_add] at this
 rw [hsz]
 exact ⟨u,this,hv⟩
theorem Sim.set_rowS (hs:Sim E H β h w) {i k off:Nat} {ty:TypeId} {sz:Nat} {l:List (List S)} {y:List S} {L:Loc} (hi:h i=some (.rowS ty sz l)) (hL:β i=some L) (hk:l[k]? =some y) (hoff:off<y.length) {u:Value} {d:S} (hu:VS H β u d) (h1:u.oneCell'=true):
  (w.cell? ⟨L.b,k*L.sz+off,none⟩).isSome=true∧w.frozen? ⟨L.b,k*L.sz+off,none⟩=false∧Sim E H β (h.set i (.rowS ty sz (l.set k (y.set off d)))) (w.setCell ⟨L.b,k*L.sz+off,none⟩ u):=by
 obtain ⟨hsz,hz,hvb,us,hown,hone,hcells⟩:=hs.obj i _ L hi hL
 have hkl:=(List.getElem?_eq_some_iff.1 hk).1
 have hyl:y.length=sz:=hz y (List.mem_of_getElem? hk)
 obtain ⟨g,cap,hLv,hbase,_⟩:=hown.form (by omega)
 have hg:=hvb g (by rw [hLv];rfl)
 subst hg
 obtain ⟨d0,hd0⟩:∃d0,y[off]? =some d0:=⟨_,List.getElem?_eq_getElem hoff⟩
 obtain ⟨u0,hc0,_⟩:=Tr hs hi hL hk hd0
 have hown':=hown
 rw [hLv] at hown'
 have hfr:w.frozen? ⟨L.b,k*L.sz+off,none⟩=false:=by
  rcases hown'.2 with ⟨e,_⟩|⟨g,cap',cur,e,_,hh,_⟩
  ·cases e
  ·injection e with e1
   injection e1 with e1
   injection e1 with e1
   subst e1
   simp [World.frozen?,hh]
 obtain ⟨h2,h3⟩:=hown'.stored (k*L.sz+off) u
 refine ⟨by simp [hc0],hfr,hs.turn hi hL rfl (hs.below.setCell hbase u) (fun b hb=>Below.heap_setCell _ _ _ _ (fun e=>hb (by simp [XO.blk,hLv,Value.ownBlock,e]))) ?_⟩
 refine ⟨hsz,fun x hx=> ?_,hvb,us.set (k*L.sz+off) u,by rw [hLv,List.length_set];exact h2,fun x hx=> ?_,fun k' j' x d' hx hd=> ?_⟩
 ·rcases List.mem_or_eq_of_mem_set hx with h|h
  ·exact hz x h
  ·subst h;simpa using hyl
 ·rcases List.mem_or_eq_of_mem_set hx with h|h
  ·exact hone x h
  ·subst h;exact h1
 ·have huslen:us.length=l.length*sz:=hown.1
  have hmul:(k+1)*sz≤l.length*sz:=Nat.mul_le_mul_right _ hkl
  rw [Nat.add_mul] at hmul
  by_cases ek:k=k'
  ·subst ek
   rw [List.getElem?_set_self hkl] at hx
   cases hx
   by_cases ej:off=j'
   ·subst ej
    rw [List.getElem?_set_self hoff] at hd
    cases hd
    exact ⟨u,by rw [hsz,List.getElem?_set_self (by omega)],hu⟩
   ·rw [List.getElem?_set_ne ej] at hd
    obtain ⟨v,hv,hd'⟩:=hcells k j' y d' hk hd
    exact ⟨v,by rw [hsz,List.getElem?_set_ne (by omega)];exact hv,hd'⟩
  ·rw [List.getElem?_set_ne ek] at hx
   obtain ⟨v,hv,hd'⟩:=hcells k' j' x d' hx hd
   have hj':j'<sz:=by have:=(List.getElem?_eq_some_iff.1 hd).1;rw [hz x (List.mem_of_getElem? hx)] at this;exact this
   refine ⟨v, ?_,hd'⟩
   rw [hsz,List.getElem?_set_ne ?_]
   ·exact hv
   ·intro e
    have:k=k':=by
     have h1:(k*sz+off) / sz=k:=by rw [Nat.mul_comm,Nat.mul_add_div (by omega),Nat.div_eq_of_lt (by omega)];rfl
     have h2:(k'*sz+j') / sz=k':=by rw [Nat.mul_comm,Nat.mul_add_div (by omega),Nat.div_eq_of_lt hj'];rfl
     rw [←h1, ←h2,e]
    exact ek this
theorem Py {P:Program} {i k off:Nat} {ty:TypeId} {sz:Nat} {L:Loc} (hL:β i=some L):∀(vs:List Value) (ds:List S) (m:Nat) (l:List (List S)) (y:List S) (h:Xh) (w:World),Sim E H β h w→h i=some (.rowS ty sz l)→l[k]? =some y→vs.length=ds.length→
  (∀(j:Nat) (v:Value) (d:S),vs[j]? =some v→ds[j]? =some d→VS H β v d∧v.oneCell'=true)→
  off+m+vs.length≤y.length→∃w',(storeCells ⟨L.b,k*L.sz+off,none⟩ vs m).run P w= .ok () w'∧Sim E H β (h.set i (.rowS ty sz (l.set k (sets y (off+m) ds)))) w'
 | [], [], m, l, y, h, w, hs, hi, hk, _, _, _ => ⟨w, rfl, by
   have:l.set k y=l:=List.ext_getElem? fun j=>by
    by_cases e:k=j
    ·subst e;rw [List.getElem?_set_self (List.getElem?_eq_some_iff.1 hk).1,hk]
    ·rw [List.getElem?_set_ne e]
   rw [sets, this, Xh.set_self hi]; exact hs⟩
 |v::vs,d::ds,m,l,y,h,w,hs,hi,hk,hlen,hv,hle=>by
  simp only [List.length_cons] at hle
  obtain ⟨g1,g2⟩:=hv 0 v d rfl rfl
  obtain ⟨c1,c2,c3⟩:=hs.set_rowS hi hL hk (off:=off+m) (by omega) g1 g2
  obtain ⟨w',r1,r2⟩:=Py (P:=P) (k:=k) (off:=off) hL vs ds (m+1) (l.set k (y.set (off+m) d)) (y.set (off+m) d) _ _ c3 (Xh.set_same _ _ _) (List.getElem?_set_self (List.getElem?_eq_some_iff.1 hk).1) (by simpa using hlen) (fun j x z hx hy=>hv (j+1) x z hx hy) (by simp;omega)
  refine ⟨w', ?_,by rw [Xh.set_set,List.set_set] at r2;exact r2⟩
  obtain ⟨u0,hu0⟩:=Option.isSome_iff_exists.1 c1
  simp only [storeCells,Sem.run_bind]
  have I9:(⟨L.b,k*L.sz+off,none⟩:Addr).add m=⟨L.b,k*L.sz+(off+m),none⟩:=by rw [Go.WideShapes.add_plain,Nat.add_assoc]
  rw [I9,run_store P w _ v _ g2,hu0]
  simp only [c2,Bool.false_eq_true,if_false,Result.andThen_ok]
  exact r1
end
section
variable {P:Program} {n:Nat} {ops:Array Oper} {rest:List Oper} {K:Do} {f:Fr} {h:Xh} {o:Oper} {e:Operand→S}
theorem XL.redo {i:Nat} {x x':XO} (hi:h i=some x) (hb:∀L,x'.blk L=x.blk L) (hg:x'.isG=x.isG) (hok:∀base w H β L,OKo base w H β L x→OKo base w H β L x') (hr:XL P n ops rest K f (h.set i x')):XL P n ops rest K f h:=fun hin E H β a w h1 h2=>
 hr hin E H β a w (h1.redo hi hb hg fun L=>hok _ w H β L) h2
theorem XL.toS {i:Nat} {t:TypeId} {sz:Nat} {l:List (List D)} (hi:h i=some (.row t sz l)) (hr:XL P n ops rest K f (h.set i (.rowS t sz (l.map (·.map S.d))))):XL P n ops rest K f h:=
 XL.redo (x':= .rowS t sz (l.map (·.map S.d))) hi (fun _=>rfl) rfl (fun _ _ _ _ _=>OKo.toS) hr
theorem E8 {t:TypeId} {x:Operand} {i k off:Nat} {ty:TypeId} {sz:Nat} {l:List (List S)} {y:List S} {s:S} (ho:o.op= .load t x) (hx:e x= .ptr i k off) (hs:scB P t=true) (hi:h i=some (.rowS ty sz l)) (hk:l[k]? =some y) (hj:y[off]? =some s):
  Bf P o e h s:=fun E H β ρ w hsim hop=>by
 have g:=hop x (by rw [ho];simp [Op.operands])
 rw [hx] at g
 obtain ⟨L,h1,h2⟩:=Gh g
 obtain ⟨u,hu,hv⟩:=Tr hsim hi h1 hk hj
 exact ⟨u,by rw [If ho h2,L6 hs hu];rfl,hv⟩
theorem Et {t sz:Nat} {x y:Operand} {i k:Nat} {ik:IntKind} {a:Int} {ty:TypeId} {l:List (List S)} (ho:o.op= .indexAddr t x y) (hx:e x= .own i) (hy:e y= .d (.v (.int ik a))) (ha:a=(k:Int)) (hi:h i=some (.rowS ty sz l)) (hf:elB P t sz=true) (hk:k<l.length):Bf P o e h (.ptr i k 0):=fun E H β ρ w hsim hop=>by
 subst ha
 have g:=hop x (by rw [ho];simp [Op.operands])
 have g2:=hop y (by rw [ho];simp [Op.operands])
 rw [hx] at g
 rw [hy] at g2
 obtain ⟨L,h1,h2⟩:=Ij g
 obtain ⟨hsz,_,hvb,us,h3,_,_⟩:=hsim.obj i _ L hi h1
 obtain ⟨gb,cap,hLv,_,_⟩:=h3.form (by omega)
 have hg:=hvb gb (by rw [hLv];rfl)
 subst hg
 refine ⟨_,by unfold execOp;simp only [ho,h2,hLv,Dy g2,Sem.run_bind,Ob hf hk,Result.andThen_ok,Sem.run_pure];rfl, ?_⟩
 rw [Nat.zero_add]
 have:=VS.ptr (H:=H) k 0 h1
 rw [hsz,Nat.add_zero] at this
 exact this
theorem Px {t m:Nat} {x y:Operand} {i k off:Nat} {ty:TypeId} {sz:Nat} {l:List (List S)} {z:List S} {cs:List S} (ho:o.op= .store t x y) (hx:ev f x= .ptr i k off) (hi:h i=some (.rowS ty sz l)) (hk:l[k]? =some z) (hc:E3 h (ev f y)=some cs)
  (hz:sizeB P t m=true) (hm:cs.length=m) (hoff:off+m≤z.length):
  Step P n o f h (.d (.v undef)) f (h.set i (.rowS ty sz (l.set k (sets z off cs)))):=by
 intro E H β a w hs hf hop
 have g1:=hop x (by rw [ho];simp [Op.operands])
 have g2:=hop y (by rw [ho];simp [Op.operands])
 rw [hx] at g1
 obtain ⟨L,hL,hp⟩:=Gh g1
 obtain ⟨c1,c2⟩:=Ip hs g2 hc
 obtain ⟨w',r1,r2⟩:=Py (P:=P) (k:=k) (off:=off) hL (a.eval y).cells.toList cs 0 l z h w hs hi hk (by simpa using c1) (fun j v d hj hd'=>c2 j v d (by simpa using hj) hd') (by simp [c1,hm];exact hoff)
 have hr:(execOp a.eval o).run P w= .ok .skip w':=by
  unfold execOp
  simp only [ho,Instr.storeAt,hp,Instr.sureAddr,Sem.run_bind,Sem.run_pure,Result.andThen_ok,storeVar,sizeB.run hz,c1,hm,ne_eq,not_true_eq_false,if_false,r1]
 unfold Oper.wp
 rw [hr]
 exact ⟨H,β,_,rfl,r2,hf, .d (.v _)⟩
end
def wH (w:World):Hp:=fun b o=>match w.cell? ⟨b,o,none⟩ with
 |some u=>if u.oneCell'=true then some u else none
 |none=>none
theorem Afg {w:World} {b o:Nat} {u:Value} (h:w.cell? ⟨b,o,none⟩=some u) (h1:u.oneCell'=true):wH w b o=some u:=by simp only [wH,h,h1,if_true]
theorem Aoo (w:World):Imm (wH w) w:=fun b o u h=>by
 unfold wH at h
 split at h
 ·rename_i v hv
  split at h
  ·rename_i h1;cases h;exact ⟨hv,h1⟩
  ·cases h
 ·cases h
theorem Imm.le_wH {H:Hp} {w:World} (h:Imm H w):H.le (wH w):=fun b o u e=>Afg (h b o u e).1 (h b o u e).2
mutual
inductive Snap (h:Xh):S→D→Prop where
 |d (x:D):Snap h (.d x) x
 |own {i:Nat} {e:TypeId} {sz:Nat} {l:List (List D)} (hi:h i=some (.row e sz l)):Snap h (.own i) (.sl sz l)
 |prow {i k off:Nat} {e:TypeId} {sz:Nat} {l:List (List D)} {y:List D} (hi:h i=some (.row e sz l)) (hk:l[k]? =some y):Snap h (.ptr i k off) (.pt (y.drop off))
 |pbox {i:Nat} {cs:List S} {ds:List D} (hi:h i=some (.box cs)) (h1:cs.all (Fn h)=true) (hs:SnapL h cs ds):Snap h (.ptr i 0 0) (.pt ds)
 |fn {F:FuncId} {a c:List S} {a' c':List D} (ha:SnapL h a a') (hc:SnapL h c c'):Snap h (.fn F a c) (.fn F a' c')
inductive SnapL (h:Xh):List S→List D→Prop where
 |nil:SnapL h [] []
 |cons {s:S} {d:D} {l:List S} {l':List D} (hs:Snap h s d) (hl:SnapL h l l'):SnapL h (s::l) (d::l')
end
theorem SnapL.length {h:Xh}:∀{l:List S} {l':List D},SnapL h l l'→l.length=l'.length
 |_,_, .nil=>rfl
 |_,_, .cons _ hl=>by simp [hl.length]
mutual
theorem Snap.mono {h h':Xh} (hle:HLe h h') (hone:∀s,Fn h s=true→Fn h' s=true):∀{s:S} {d:D},Snap h s d→Snap h' s d
 |_,_, .d x=> .d x
 |_,_, .own hi=> .own (hle _ _ hi)
 |_,_, .prow hi hk=> .prow (hle _ _ hi) hk
 |_,_, .pbox hi h1 hs=> .pbox (hle _ _ hi) (List.all_eq_true.2 fun x hx=>hone x (List.all_eq_true.1 h1 x hx)) (SnapL.mono hle hone hs)
 |_,_, .fn ha hc=> .fn (SnapL.mono hle hone ha) (SnapL.mono hle hone hc)
theorem SnapL.mono {h h':Xh} (hle:HLe h h') (hone:∀s,Fn h s=true→Fn h' s=true):∀{l:List S} {l':List D},SnapL h l l'→SnapL h' l l'
 |_,_, .nil=> .nil
 |_,_, .cons hs hl=> .cons (hs.mono hle hone) (SnapL.mono hle hone hl)
end
theorem Aie {h h':Xh} (hle:HLe h h'):∀x,Fn h x=true→Fn h' x=true:=by
 intro x hx
 cases x with
 |own i=>
  unfold Fn at hx ⊢
  simp only at hx ⊢
  split at hx
  ·rename_i hi;rw [hle _ _ hi]
  ·cases hx
 |_=>exact hx
section
variable {E:Env} {H:Hp} {β:Bt} {h:Xh} {w:World} (hs:Sim E H β h w)
include hs
mutual
theorem Snap.vd:∀{s:S} {d:D},Snap h s d→∀{u:Value},VS H β u s→VD (wH w) u d
 |_,_, .d x,_,hv=>(D5 hv).mono hs.imm.le_wH
 |_,_, .own hi,_,hv=>by
  obtain ⟨L,hL,rfl⟩:=Ij hv
  obtain ⟨H',_,k2,k3⟩:=hs.freeze hi
  exact (k2 L hL).mono k3.imm.le_wH
 |_,_, .prow (i:=i) (k:=k) (off:=off) (l:=l) (y:=y) hi hk,_,hv=>by
  obtain ⟨L,hL,rfl⟩:=Gh hv
  have hc:∀(j:Nat) (d:D),(y.drop off)[j]? =some d→∃u,wH w L.b (k*L.sz+off+j)=some u∧VD H u d:=by
   intro j d hj
   rw [List.getElem?_drop] at hj
   obtain ⟨u,h1,h2⟩:=Nh hs hi hL hk hj
   obtain ⟨_,_,hvb,us,k1,k2,k3⟩:=hs.obj i _ L hi hL
   obtain ⟨u',hu',hd'⟩:=k3 k (off+j) y d hk hj
   have hpos:0<l.length:=by have:=(List.getElem?_eq_some_iff.1 hk).1;omega
   obtain ⟨g,cap,hLv,_,_⟩:=k1.form hpos
   have hg:=hvb g (by rw [hLv];rfl)
   subst hg
   have k4:=k1.cells (g:=L.b) (by rw [hLv];rfl) _ u' hu'
   rw [Go.WideShapes.add_plain,Nat.zero_add] at k4
   have hsz:=(hs.obj i _ L hi hL).1
   refine ⟨u',Afg ?_ (k2 u' (List.mem_of_getElem? hu')),hd'⟩
   rw [hsz,Nat.add_assoc];exact k4
  refine .pt L.b (k*L.sz+off) _ (fun j=>((wH w L.b (k*L.sz+off+j)).getD undef)) (fun j d hj=> ?_) (fun j d hj=> ?_)
  ·obtain ⟨u,h1,_⟩:=hc j d hj
   rw [h1];rfl
  ·obtain ⟨u,h1,h2⟩:=hc j d hj
   rw [h1];exact h2.mono hs.imm.le_wH
 |_,_, .pbox (i:=i) (cs:=cs) (ds:=ds) hi h1 hsn,_,hv=>by
  obtain ⟨L,hL,rfl⟩:=Gh hv
  rw [Nat.zero_mul,Nat.zero_add]
  have hlen:=hsn.length
  have hc:∀(j:Nat) (d:D),ds[j]? =some d→∃u,wH w L.b (0+j)=some u∧VD (wH w) u d:=by
   intro j d hj
   have hjl:j<cs.length:=by rw [hlen];exact (List.getElem?_eq_some_iff.1 hj).1
   obtain ⟨u,k1,k2⟩:=Q2 hs hi hL j cs[j] (List.getElem?_eq_getElem hjl)
   refine ⟨u, ?_,SnapL.vd hsn (List.getElem?_eq_getElem hjl) hj k2⟩
   rw [Nat.zero_add]
   exact Afg k1 (S8 hs k2 (List.all_eq_true.1 h1 _ (List.getElem_mem hjl)))
  refine .pt L.b 0 _ (fun j=>((wH w L.b (0+j)).getD undef)) (fun j d hj=> ?_) (fun j d hj=> ?_)
  ·obtain ⟨u,k1,_⟩:=hc j d hj
   rw [k1];rfl
  ·obtain ⟨u,k1,k2⟩:=hc j d hj
   rw [k1];exact k2
 |_,_, .fn ha hc,_,hv=>by
  obtain ⟨A,C,rfl,e1,e2,e3,e4⟩:=Afh hv
  refine .fn _ A C _ _ (e1.trans ha.length) (e2.trans hc.length) (fun i x d hx hd=> ?_) (fun i x d hx hd=> ?_)
  ·have hl:=ha.length
   have hil:=(List.getElem?_eq_some_iff.1 hd).1
   exact SnapL.vd ha (List.getElem?_eq_getElem (by omega)) hd (e3 i x _ hx (List.getElem?_eq_getElem (by omega)))
  ·have hl:=hc.length
   have hil:=(List.getElem?_eq_some_iff.1 hd).1
   exact SnapL.vd hc (List.getElem?_eq_getElem (by omega)) hd (e4 i x _ hx (List.getElem?_eq_getElem (by omega)))
theorem SnapL.vd:∀{l:List S} {l':List D},SnapL h l l'→∀{i:Nat} {s:S} {d:D},l[i]? =some s→l'[i]? =some d→∀{u:Value},VS H β u s→VD (wH w) u d
 |_,_, .cons hsn _,0,_,_,e1,e2,_,hv=>by
  simp only [List.getElem?_cons_zero,Option.some.injEq] at e1 e2
  subst e1 e2;exact Snap.vd hsn hv
 |_,_, .cons _ hl,i+1,_,_,e1,e2,_,hv=>SnapL.vd hl (i:=i) (by simpa using e1) (by simpa using e2) hv
end
end
section
variable {P:Program} {n:Nat} {ops:Array Oper} {rest:List Oper} {K:Do} {f:Fr} {h:Xh} {o:Oper} {F:FuncId} {ds:List D} {args:Array Operand} {tys:Array TypeId} {x:Value}
theorem CStep.lend (ho:o.op= .call {callee:= .value (.func F),args:=args,argTypes:=tys}) (hx:XC P F ds (fun d=>d= .v x)) (ha:SnapL h (args.toList.map (ev f)) ds):CStep P o f h [] (.d (.v x)) h:=
 ⟨HLe.refl _, fun _ _ e => .inl e, fun hF hle E H β a w hs _ hop => by
  have hop':∀x∈args,VS H β (a.eval x) (ev f x):=fun x hx=>hop x (by rw [ho];simp [Op.operands,Call.operands,hx])
  have ha:=ha.mono hle (Aie hle)
  have hl:=ha.length
  rw [List.length_map,Array.length_toList] at hl
  have hrun:(execOp a.eval o).run P w= .ok (.enter F (args.map a.eval)) w:=by
   have:=hx.callable.run (args.map a.eval) w
   unfold execOp
   simp only [ho,resolve,Act.eval,Deferred.ofValue,Sem.run_bind,Sem.run_pure,Result.andThen_ok,invoke,Array.append_empty,Array.empty_append]
   exact this
  unfold Oper.wp
  rw [hrun]
  refine (hx.calls (wH w) w _ (Aoo w) (by simpa using hl) (fun i y d hy hd=> ?_)).mono ?_
  ·have hi:i<args.size:=by have:=(List.getElem?_eq_some_iff.1 hd).1;omega
   have hy':y=a.eval args[i]:=by
    rw [Array.getElem?_map,Array.getElem?_eq_getElem hi] at hy
    simpa using hy.symm
   rw [hy']
   exact SnapL.vd hs ha (by rw [List.getElem?_map,Array.getElem?_toList,Array.getElem?_eq_getElem hi];rfl) hd (hop' _ (Array.getElem_mem hi))
  ·rintro e w' ⟨H',u,r,rfl,rfl,hle',hnew,him,hb,hu⟩
   have hux:=R9 hu
   subst hux
   exact ⟨H, β, u, rfl, hs.call hb (Hp.le.refl _) (fun b o u e => .inl e) (hs.imm.below hb), Hp.le.refl _, fun _ _ h => h, fun _ _ => rfl, .d (.v _)⟩⟩
end
section
variable {P:Program} {n:Nat} {ops:Array Oper} {rest:List Oper} {K:Do} {f F:Fr} {h G:Xh} {o:Oper} {c:Code}
theorem XL.sub (hf:FSub n f F) (hh:HSub h G) (hc:XL P n ops rest K F G):XL P n ops rest K f h:=
 fun hin E H β a w hs hfv=>hc hin E H β a w (hs.drop hh) (hf.fv hfv)
def Agc (P:Program) (n:Nat) (F:Fr) (G:Xh) (dst:Option Tmp) (fn:Func) (n' g:Nat) (u:Array Value):Do
 | .normal,f,h=>∃s l,h g=some (.ghost u l)∧Ks P n' fn f h s∧FSub n (Bv (mkF l) dst s) F∧HSub h G
 | .ret,f,h=>∃s l,h g=some (.ghost u l)∧Ks P n' fn f h s∧FSub n (Bv (mkF l) dst s) F∧HSub h G
 |_,_,_=>False
theorem Aew {dst:Option Tmp} {fn:Func} {n' g:Nat} {u:Array Value} {f':Fr} {h':Xh} {s:S} {l:List (Nat × S)} (hG:h' g=some (.ghost u l)) (hr:Ks P n' fn f' h' s) (h1:FSub n (Bv (mkF l) dst s) F) (h2:HSub h' G):
  Agc P n F G dst fn n' g u .normal f' h':=⟨s,l,hG,hr,h1,h2⟩
theorem Rh {dst:Option Tmp} {fn:Func} {n' g:Nat} {u:Array Value} {f':Fr} {h':Xh} {s:S} {l:List (Nat × S)} (hG:h' g=some (.ghost u l)) (hr:Ks P n' fn f' h' s) (h1:FSub n (Bv (mkF l) dst s) F) (h2:HSub h' G):
  Agc P n F G dst fn n' g u .ret f' h':=⟨s,l,hG,hr,h1,h2⟩
theorem XL.inlM {x:Operand} {args:Array Operand} {tys:Array TypeId} {Fi:FuncId} {ps cs:List S} {fn:Func} {n':Nat} (g:Nat) (l:List (Nat × S)) (F:Fr) (G:Xh) (ho:o.op= .call {callee:= .value x,args:=args,argTypes:=tys})
  (hw:Cc ops f n o.guard=some true) (hx:FnS (ev f x) Fi ps cs) (hcl:Callable P Fi) (hf:P.funcs[Fi]? =some fn) (hb:fn.body=some c) (hn:fn.ntmps=n') (hlen:ps.length+args.size+cs.length≤n')
  (hl:∀p∈l,p.1<n∧f p.1=p.2) (hr:XL P n ops rest K F G)
  (hc:∀u,XW P n' c (Agc P n F G o.dst fn n' g u) (Hb (Agz (ps++args.toList.map (ev f)++cs)) g) ((h.kill g).set g (.ghost u (S.killG g l)))):XL P n ops (o::rest) K f h:=
 XL.inl g l ho hw hx hcl hf hb hn hlen hl fun u=>Amj (hc u) fun e f' h' hk=>by
  cases e with
  |normal=>obtain ⟨s,l',k1,k2,k3,k4⟩:=hk;exact ⟨s,l',k1,k2,XL.sub k3 k4 hr⟩
  |ret=>obtain ⟨s,l',k1,k2,k3,k4⟩:=hk;exact ⟨s,l',k1,k2,XL.sub k3 k4 hr⟩
  |_=>exact hk.elim
end
section
variable {P:Program} {n:Nat} {K:Do} {f:Fr} {h:Xh} {c:Code}
theorem Ad4 {i:Nat} {x x':XO} (hi:h i=some x) (hb:∀L,x'.blk L=x.blk L) (hg:x'.isG=x.isG) (hok:∀base w H β L,OKo base w H β L x→OKo base w H β L x') (hr:XW P n c K f (h.set i x')):XW P n c K f h:=fun E H β a w h1 h2=>
 hr E H β a w (h1.redo hi hb hg fun L=>hok _ w H β L) h2
theorem Ag4 {i:Nat} {t:TypeId} {sz:Nat} {l:List (List D)} {l':List (List S)} (hi:h i=some (.rowS t sz l')) (he:l'=l.map (·.map S.d)) (hr:XW P n c K f (h.set i (.row t sz l))):XW P n c K f h:=by
 subst he;exact Ad4 (x':= .row t sz l) hi (fun _=>rfl) rfl (fun _ _ _ _ _=>OKo.ofS) hr
theorem Xi {i:Nat} {t:TypeId} {sz:Nat} {l l':List (List S)} (hi:h i=some (.rowS t sz l)) (he:l=l') (hr:XW P n c K f (h.set i (.rowS t sz l'))):XW P n c K f h:=by
 subst he;exact Ad4 (x':= .rowS t sz l) hi (fun _=>rfl) rfl (fun _ _ _ _ _ h=>h) hr
theorem Anu (i:Nat) (l:List D):S.killL i (l.map S.d)=l.map S.d:=by
 induction l with
 |nil=>rfl
 |cons a l ih=>rw [List.map_cons,S.killL,ih];rfl
theorem Ap6 (i:Nat) (x:D) (l:List D):S.frzL i x (l.map S.d)=l.map S.d:=by
 induction l with
 |nil=>rfl
 |cons a l ih=>rw [List.map_cons,S.frzL,ih];rfl
theorem XS.xc {F:FuncId} {ds:List D} {s:S} {i:Nat} {e:TypeId} {sz:Nat} {l:List (List D)} {d:D} (hx:XS P F ds s [(i, .row e sz l)]) (hd:norm (s.frz i (.sl sz l))= .d d):XC P F ds (fun r=>r=d):=
 ⟨hx.callable, fun H w vs h1 h2 h3 => (hx.calls H w vs h1 h2 h3).mono fun e w' ⟨H', β, u, he, k1, k2, k3⟩ => by
  obtain ⟨H2,q1,q2,q3⟩:=k1.freeze (i:=i) (by simp only [mkH];exact Xh.set_same _ _ _)
  have hv:=VS.norm ((k2.mono q1 fun _ _ h=>h).frz i _ q2)
  rw [hd] at hv
  exact ⟨H2, u, d, he, rfl, q3.ext, fun b o u e => q3.new b o u e, q3.imm, q3.below, D5 hv⟩⟩
end
end Go.Proofs.YtcihalbakenleaaGreat
namespace Go.Proofs.YtcihalbakenleaaGreat
open Go.RowKit
def Tp.mv (by_:Int) (t:Tp):Tp:={t with first:=t.first+by_}
def B5 (p:Tp→Bool) (by_:Int) (l:List Tp):List Tp:=(l.filter p).map (Tp.mv by_)
theorem Aij {p:Tp→Bool} {b:Int} {l:List Tp} {k:Nat} {t:Tp} (h:l[k]? =some t) (hp:p t=true):B5 p b (l.take (k+1))=B5 p b (l.take k)++ [t.mv b]:=by
 rw [Bp h,B5,List.filter_append,List.filter_cons_of_pos hp,List.filter_nil,List.map_append];rfl
theorem Af5 {p:Tp→Bool} {b:Int} {l:List Tp} {k:Nat} {t:Tp} (h:l[k]? =some t) (hp:¬p t=true):B5 p b (l.take (k+1))=B5 p b (l.take k):=by
 rw [Bp h,B5,List.filter_append,List.filter_cons_of_neg hp,List.filter_nil,List.append_nil];rfl
theorem I4 (p:Tp→Bool) (b:Int) (l:List Tp):(B5 p b l).length≤l.length:=by rw [B5,List.length_map];exact List.length_filter_le _ _
theorem Aoi {b:Bool} (h:b=false):¬b=true:=by rw [h];exact Bool.false_ne_true
theorem Pf (l:List Tp) (F:Nat) (cs:List D) (p:Tp→Bool) (b:Int) (hF:∀t∈l,XC Tryz.prog F (.agg (Tp.c t)::cs) (fun r=>r=dB (p t))) (hl:l.length≤1000) (hb:∀t∈l,p t=true→ -1000000≤t.first+b∧t.first+b≤1000000):XC Tryz.prog 84 [.sl 4 (l.map Tp.c), .fn F [] cs, .v (.int .i64 b)] (fun r=>r= .sl 4 ((B5 p b l).map Tp.c)):=by
 refine Ao Acp Tryz.func84 R R lb<|zr<|za R R<|znr<|za R R<|zn<|zs<|zr<|zm R R<|XL.len R R R Tryz.underlying23 fun hl11=>zm R R<|zn<|Ai<|Fj 900 7 102 4 R<|?_
 refine Av (α:=Nat) (fun k=>k≤l.length) (fun k=>mkF [(1, .d (.fn F [] cs)),(2, .d (dI b)),(6, .d (.v (.slice none 0 0))),(7, .own 900),(10, .d (.sl 4 (l.map Tp.c))),(11, .d (dI l.length)),(12, .d (dI k))]) (fun k=>mkH [(900, .row 102 4 ((B5 p b (l.take k)).map Tp.c))]) (fun k=>l.length - k) (0) (Nat.zero_le _) ?_ ?_ ?_
 exact fz ⟨sr,sr,sr,sr,sr,sr,sr,trivial⟩
 exact gz ⟨R,trivial⟩
 intro k hk0
 refine zr<|zp (Aq R R R)<|zn<|zs<|?_
 refine zd R (fun c13=> ?_) (fun c13=> ?_)
 have hk0a:k<l.length:=by omega
 obtain ⟨x0,hx0⟩:=Ap hk0a
 have hml:=I4 p b (l.take k)
 have htl:(l.take k).length≤l.length:=List.length_take_le' _ _
 refine zi<|zs<|Ai<|zr<|zp (Am R R R Ex hx0)<|zp (Ae (s':= .d (.agg (Tp.c x0))) (Ar R R B8 lb) (by kernel_rfl))<|XL.step R (A0 9 (l:= [.d (dI 0), .d (dI 0), .d (dI 0), .d (dI 0)]) R Dx (by kernel_rfl))<|XL.step R (Ag (l':= [.d (dI x0.first), .d (dI x0.count), .d (dI x0.actual), .d (dI x0.normal)]) R R R R Fs R lb (by kernel_rfl))<|znr<|zm R R<|?_
 refine zp (Ae (s':= .d (.agg (Tp.c x0))) (Ac (Ad R R B8 R lb)) (by kernel_rfl))<|XL.callv1 (ds:= [_]) R R R (hF x0 (List.mem_of_getElem? hx0)) R<|zn<|?_
 refine Dc (by kernel_rfl) R (fun c18=> ?_) (fun c18=> ?_)
 have hb0:=hb x0 (List.mem_of_getElem? hx0) c18
 refine zr<|zp (Ab R R By)<|zp (Aa R R Ah R R)<|zm R R<|zp (Ak R R R (by omega) (by omega))<|zp (Ab R R By)<|XL.step R (Ag (l':= [.d (dI (x0.first+b)), .d (dI x0.count), .d (dI x0.actual), .d (dI x0.normal)]) R R R R Df R lb (by kernel_rfl))<|zng<|zp (A3 R (by conv=>lhs;whnf))<|?_
 refine zp (Ae (s':= .d (.agg [dI (x0.first+b),dI x0.count,dI x0.actual,dI x0.normal])) (Ac (Ad R R B8 R lb)) (by kernel_rfl))<|XL.step R (B6 26 R Tryz.underlying23 Fs Dx R R (by omega) (by omega))<|XL.step R (Bw R Hs (.own R) (Src.own R) (by unfold maxLen;simp;omega) (by simp;omega))<|zp (A4 R (by conv=>lhs;whnf))<|?_
 refine zn<|Af (by kernel_rfl)<|zp (Ak R R R (by omega) (by omega))<|zm R R<|zn<|?_
 exact Al (k+1) (by omega) (by omega) (fz ⟨sr,sr,sr,sr,sr,sr,sr,trivial⟩) (gz ⟨Kz R (Aij hx0 c18),trivial⟩)
 refine zi<|Af (by kernel_rfl)<|zp (Ak R R R (by omega) (by omega))<|zm R R<|zn<|?_
 exact Al (k+1) (by omega) (by omega) (fz ⟨sr,sr,sr,sr,sr,sr,sr,trivial⟩) (gz ⟨Us (Af5 hx0 (Aoi c18)).symm,trivial⟩)
 have hk0b:k=l.length:=by omega
 have ht:l.take k=l:=by rw [hk0b,List.take_length]
 refine At<|zr<|zp (A3 R (by conv=>lhs;whnf))<|?_
 refine zp (A4 R (by conv=>lhs;whnf))<|?_
 exact zn<|zt<|Cp (i:=900) R<|z1 R R (rSl (by rw [ht]))
theorem An6 (n:Nat) (h:n≤100000):XS Tryz.prog 145 [.v (.slice none 0 0), .v (.int .i64 (n:Nat))] (.own 7001) [(7001, .row 60 13 ((([]:List Ev)).map Ev.c))]:=by
 refine Je Aak Tryz.func145 R R lb (by kernel_rfl) (by kernel_rfl)<|zr<|za R R<|zn<|zs<|zr<|zm R R<|zp (Aq R R R)<|zn<|?_
 refine zd R (fun c6=> ?_) (fun c6=> ?_)
 exfalso;omega
 refine zi<|zs<|zr<|zm R R<|zm R R<|zp (V1 R R Tryz.underlying22)<|zm R R<|zp (Vz R R Tryz.underlying22)<|zp (Di R R R (by omega) (by omega))<|zp (Ae (s':= .d (dI (n:Nat))) (Di R R R (by omega) (by omega)) (sI (by omega)))<|za R R<|znr<|zm R R<|zp (A5 R R R)<|?_
 refine zn<|?_
 refine zd R (fun c16=> ?_) (fun c16=> ?_)
 refine Af (by kernel_rfl)<|zm R R<|zm R R<|zp (V1 R R Tryz.underlying22)<|zp (Ab9 R R R B7)<|zm R R<|?_
 refine XL.step R (Afm 7001 (z:=(.agg #[.int .i64 0, .int .i64 0, .int .i64 0, .int .i64 0, .int .i64 0, .slice none 0 0, .slice none 0 0, .int .i64 0, .int .i64 0, .int .i64 0, .slice none 0 0, .int .i64 0, .int .i64 0])) (zs:= [dI 0,dI 0,dI 0,dI 0,dI 0, .v (.slice none 0 0), .v (.slice none 0 0),dI 0,dI 0,dI 0, .v (.slice none 0 0),dI 0,dI 0]) (sz:=13) (bytes:=152) R R R Tryz.underlying22 Tryz.underlying3 (by kernel_rfl) (by kernel_rfl) (by kernel_rfl) (by decide) (by decide) (by omega) (by unfold maxLen;omega) (by omega))<|?_
 refine zm R R<|zp (Vz R R Tryz.underlying22)<|XL.step R (Tl R R R B7 (.at R) (Nat.zero_le _))<|zp (A4 R (by conv=>lhs;whnf))<|?_
 refine znr<|zp (A3 R (by conv=>lhs;whnf))<|?_
 refine zp (A4 R (by conv=>lhs;whnf))<|?_
 refine zn<|zt<|?_
 exact ⟨Em R (RVS.tmp R R),HSub.cons (R) (HSub.nil)⟩
 refine zi<|zr<|zm R R<|za R R<|zn<|Fj 7001 4 60 13 R<|zt<|?_
 exact ⟨Em R (RVS.tmp R R),HSub.cons (R) (HSub.nil)⟩
def Y6 (l:List Ev):List D:= [.sl 13 (l.map Ev.c)]
theorem S5 {ls:List (List Ev)} {k:Nat} {x:List Ev} (h:ls[k]? =some x):(ls.take (k+1)).flatten=(ls.take k).flatten++x:=by rw [Bp h,List.flatten_append,List.flatten_singleton]
theorem Zi {ls:List (List Ev)} (k:Nat):(ls.take k).flatten.length≤ls.flatten.length:=by
 have:ls.flatten=(ls.take k).flatten++(ls.drop k).flatten:=by rw [←List.flatten_append,List.take_append_drop]
 rw [this,List.length_append];omega
theorem Ajd (ls:List (List Ev)) (h:ls.flatten.length≤100000):XS Tryz.prog 106 [.sl 1 (ls.map Y6)] (.own 7001) [(7001, .row 60 13 ((ls.flatten).map Ev.c))]:=by
 refine Je Abg Tryz.func106 R R lb (by kernel_rfl) (by kernel_rfl)<|zr<|za R R<|znr<|za R R<|zn<|zs<|zr<|zm R R<|XL.len R R R Tryz.underlying177 fun hl10=>zm R R<|zn<|Ai<|?_
 refine Av (α:=Nat) (fun k=>k≤ls.length) (fun k=>mkF [(0, .d (.sl 1 (ls.map Y6))),(2, .d (.v (.slice none 0 0))),(3, .d (dI ((ls.take k).flatten.length:Nat))),(9, .d (.sl 1 (ls.map Y6))),(10, .d (dI ls.length)),(11, .d (dI k))]) (fun k=>mkH []) (fun k=>ls.length - k) (0) (Nat.zero_le _) ?_ ?_ ?_
 exact fz ⟨sr,sr,sr,sr,sr,sr,trivial⟩
 exact HSub.nil
 intro k hk0
 refine zr<|zp (Aq R R R)<|zn<|zs<|?_
 refine zd R (fun c12=> ?_) (fun c12=> ?_)
 have hk0a:k<ls.length:=by omega
 obtain ⟨x0,hx0⟩:=Ap hk0a
 have h1:=Zi (ls:=ls) (k+1)
 have h2:(ls.take (k+1)).flatten.length=(ls.take k).flatten.length+x0.length:=by rw [S5 hx0,List.length_append]
 refine zi<|zs<|Ai<|zr<|zp (Am R R R Ai8 hx0)<|zp (Aw R R Br)<|za R R<|znr<|zm R R<|zm R R<|XL.len R R R Tryz.underlying22 fun hl17=>zp (Ak R R R (by omega) (by omega))<|za R R<|znr<|?_
 refine zm R R<|zp (Aq R R R)<|zn<|?_
 refine zd R (fun c20=> ?_) (fun c20=> ?_)
 exfalso;omega
 refine zi<|Af (by kernel_rfl)<|zp (Ak R R R (by omega) (by omega))<|zm R R<|zn<|?_
 exact Al (k+1) (by omega) (by omega) (fz ⟨sr,sr, .same (sI (by rw [h2];omega)),sr,sr,sr,trivial⟩) (HSub.nil)
 have hk0b:k=ls.length:=by omega
 have h3:=Zi (ls:=ls) k
 refine At<|zr<|zm R R<|XL.callS R R ((An6 _ (by omega)).lab 7001) R<|zp (A4 R (by conv=>lhs;whnf))<|?_
 refine zn<|zs<|zr<|zm R R<|XL.len R R R Tryz.underlying177 fun hl26=>zm R R<|zn<|Ai<|?_
 refine Av (α:=Nat) (fun j=>j≤ls.length) (fun j=>mkF [(2, .d (.v (.slice none 0 0))),(6, .own 7001),(25, .d (.sl 1 (ls.map Y6))),(26, .d (dI ls.length)),(27, .d (dI j))]) (fun j=>mkH [(7001, .row 60 13 (((ls.take j).flatten).map Ev.c))]) (fun j=>ls.length - j) (0) (Nat.zero_le _) ?_ ?_ ?_
 exact fz ⟨sr,sr,sr,sr,sr,trivial⟩
 exact gz ⟨R,trivial⟩
 intro j hk2
 refine zr<|zp (Aq R R R)<|zn<|zs<|?_
 refine zd R (fun c28=> ?_) (fun c28=> ?_)
 have hk2a:j<ls.length:=by omega
 obtain ⟨x2,hx2⟩:=Ap hk2a
 have h4:=Zi (ls:=ls) (j+1)
 have h5:(ls.take (j+1)).flatten.length=(ls.take j).flatten.length+x2.length:=by rw [S5 hx2,List.length_append]
 refine zi<|zs<|Ai<|zr<|zp (Am R R R Ai8 hx2)<|zp (Aw R R Br)<|za R R<|zng<|zp (A3 R (by conv=>lhs;whnf))<|?_
 refine zm R R<|XL.step R (Bw R Jt (.own R) (Src.sl (by omega)) (by simp only [List.length_map];unfold maxLen;omega) (by simp only [List.length_map];omega))<|zp (A4 R (by conv=>lhs;whnf))<|?_
 refine zn<|Af (by kernel_rfl)<|zp (Ak R R R (by omega) (by omega))<|zm R R<|zn<|?_
 exact Al (j+1) (by omega) (by omega) (fz ⟨sr,sr,sr,sr,sr,trivial⟩) (gz ⟨G8 (S5 hx2),trivial⟩)
 have hk2b:j=ls.length:=by omega
 have ht:ls.take j=ls:=by rw [hk2b,List.take_length]
 refine At<|zr<|zp (A3 R (by conv=>lhs;whnf))<|?_
 refine zp (A4 R (by conv=>lhs;whnf))<|?_
 refine zn<|zt<|?_
 exact ⟨Em R (RVS.tmp R R),HSub.cons (by rw [ht];rfl) (HSub.nil)⟩
def A8 (v:Vo) (a n:Nat) (x:Vo):Vo:=
 ⟨v.evs.take a++x.evs++v.evs.drop (a+n),B5 (fun t=>decide (t.first<a)) 0 v.tups++B5 (fun _=>true) a x.tups++B5 (fun t=>decide ((a:Int)+n≤t.first)) (x.evs.length - n) v.tups⟩
structure Sml (v:Vo):Prop where
 evs:v.evs.length≤10000
 tups:v.tups.length≤100
 bd:∀t∈v.tups, -10000≤t.first∧t.first≤10000
theorem Aj4 (v:Vo) (a n:Nat) (x:Vo): [(v.evs.take a).drop 0,x.evs,(v.evs.take v.evs.length).drop (a+n)].flatten=(A8 v a n x).evs:=by
 simp [A8,List.flatten_cons]
theorem Tw (v:Vo) (a n:Nat) (x:Vo) (hv:Sml v) (hx:Sml x) (h:a+n≤v.evs.length):XS Tryz.prog 65 [.agg (Vo.c v), .v (.int .i64 (a:Nat)), .v (.int .i64 (n:Nat)), .agg (Vo.c x)] (.agg [.own 7001, .d (.sl 4 ((A8 v a n x).tups.map Tp.c))]) [(7001, .row 60 13 (((A8 v a n x).evs).map Ev.c))]:=by
 have hve:=hv.evs
 have hxe:=hx.evs
 have hvt:=hv.tups
 have hxt:=hx.tups
 have m1:=I4 (fun t=>decide (t.first<(a:Int))) 0 v.tups
 have m2:=I4 (fun _=>true) a x.tups
 have m3:=I4 (fun t=>decide ((a:Int)+n≤t.first)) (x.evs.length - n) v.tups
 refine Je Ac6 Tryz.func65 R R lb (by kernel_rfl) (by kernel_rfl)<|zr<|XL.step R (As 4 (l:= [.d (.sl 13 (v.evs.map Ev.c)), .d (.sl 4 (v.tups.map Tp.c))]) R R (by kernel_rfl))<|XL.step R (As 5 (l:= [.d (dI (a:Nat))]) R R (by kernel_rfl))<|XL.step R (As 6 (l:= [.d (dI (n:Nat))]) R R (by kernel_rfl))<|?_
 refine XL.step R (As 7 (l:= [.d (.sl 13 (x.evs.map Ev.c)), .d (.sl 4 (x.tups.map Tp.c))]) R R (by kernel_rfl))<|XL.step R (A0 8 (l:= [.d (.v (.slice none 0 0)), .d (.v (.slice none 0 0))]) R Ba (by kernel_rfl))<|zn<|zs<|C3 16 [7001,9] (by kernel_rfl) (by kernel_rfl) (by kernel_rfl) (by kernel_rfl) (by decide)<|yp (Ab R R A1)<|yp (Aa R R Br R R)<|?_
 refine yp (Aa R R Ah R R)<|yp (Js R R B7 Bd.no (Bd.at R) (Nat.zero_le _) (by omega))<|yp (Ab R R A1)<|yp (Aa R R Br R R)<|yp (Ab R R A1)<|yp (Aa R R Br R R)<|yp (Aa R R Ah R R)<|yp (Aa R R Ah R R)<|yp (Ae (s':= .d (dI (a+n:Nat))) (Ak R R R (by omega) (by omega)) (sI (by omega)))<|?_
 refine yp (Js R R B7 (Bd.at R) Bd.no (by omega) (Nat.le_refl _))<|ChK.cons R (CStep.slice (l:= [((v.evs.take (a:Nat)).drop 0),x.evs,((v.evs.take v.evs.length).drop (a+n:Nat))].map Y6) R Tryz.underlying177 Alw Amg (by kernel_rfl) R (by omega) (by omega))<|?_
 refine ChK.cons R (CStep.callS R ((Ajd _ (by simp only [List.flatten_cons,List.flatten_nil,List.length_append,List.length_nil,List.length_take,List.length_drop];omega)).lab 7001) R (Ft (by kernel_rfl)))<|yp (Ac (Be R Cg Ba R))<|ChK.cons R (CStep.allocN 9 (l:= [.d (.v (.slice none 0 0)), .d (.v (.slice none 0 0))]) R Ba R R)<|?_
 refine ChK.nil ⟨by kernel_rfl, ?_⟩
 refine XL.step R (Ag (l':= [.own 7001, .d (.v (.slice none 0 0))]) R R R R Bu R lb (by kernel_rfl))<|znr<|XL.freezeP 5 (ds:= [dI (a:Nat)]) R (by kernel_rfl) (by kernel_rfl)<|zp (O8 (pd:= []) (cd:= [_]) R R R)<|za R R<|znr<|XL.freezeP 6 (ds:= [dI (n:Nat)]) R (by kernel_rfl) (by kernel_rfl)<|zp (O8 (pd:= []) (cd:= [_,_]) R R R)<|za R R<|zn<|zs<|?_
 refine C3 6 [] (by kernel_rfl) (by kernel_rfl) (by kernel_rfl) (by kernel_rfl) (by decide)<|yp (Ab R R B3)<|yp (Aa R R B0 R R)<|yp (Ab R R B3)<|yp (Aa R R B0 R R)<|ym R R<|?_
 refine ChK.cons R (CStep.call R (Pf v.tups 107 [.pt [dI a]] (fun t=>decide (t.first<(a:Int))) (0) (fun t _=>Ana t a) (by omega) (fun t ht _=>by have:=hv.bd t ht;omega)) rfl)<|?_
 refine ChK.nil ⟨by kernel_rfl, ?_⟩
 refine XL.step R (Bw R Hs (.nil 35 _ _) (Src.sl (by omega)) (by simp only [List.length_map,List.length_nil];unfold maxLen;omega) (by simp only [List.length_map,List.length_nil];omega))<|zp (Ab R R B3)<|XL.step R (Ag (l':= [.own 7001, .own 35]) R R R R H9 R lb (by kernel_rfl))<|zn<|zs<|?_
 refine C3 6 [] (by kernel_rfl) (by kernel_rfl) (by kernel_rfl) (by kernel_rfl) (by decide)<|yp (Ab R R B3)<|yp (Aa R R B0 R R)<|yp (Ab R R B3)<|yp (Aa R R B0 R R)<|yp (Aw R R Ah)<|ChK.cons R (CStep.call R (Pf x.tups 109 [] (fun _=>true) (a) (fun t _=>Am8 t) (by omega) (fun t ht _=>by have:=hx.bd t ht;omega)) rfl)<|?_
 refine ChK.nil ⟨by kernel_rfl, ?_⟩
 refine XL.step R (Bw R Hs (.own R) (Src.sl (by omega)) (by simp only [List.length_append,List.length_map,List.length_nil];unfold maxLen;omega) (by simp only [List.length_append,List.length_map,List.length_nil];omega))<|zp (Ab R R B3)<|XL.step R (Ag (l':= [.own 7001, .own 35]) R R R R H9 R lb (by kernel_rfl))<|zn<|zs<|?_
 refine C3 11 [] (by kernel_rfl) (by kernel_rfl) (by kernel_rfl) (by kernel_rfl) (by decide)<|yp (Ab R R B3)<|yp (Aa R R B0 R R)<|yp (Ab R R B3)<|yp (Aa R R B0 R R)<|ym R R<|yp (Ab R R A1)<|yp (Aa R R Br R R)<|yp (Apk R R Tryz.underlying22)<|yp (Aw R R Ah)<|yp (Di R R R (by omega) (by omega))<|?_
 refine ChK.cons R (CStep.call R (Pf v.tups 108 [.pt [dI a], .pt [dI n]] (fun t=>decide ((a:Int)+n≤t.first)) (x.evs.length - n) (fun t _=>Am9 t a n (by omega) (by omega)) (by omega) (fun t ht _=>by have:=hv.bd t ht;omega)) rfl)<|?_
 refine ChK.nil ⟨by kernel_rfl, ?_⟩
 refine XL.step R (Bw R Hs (.own R) (Src.sl (by omega)) (by simp only [List.length_append,List.length_map,List.length_nil];unfold maxLen;omega) (by simp only [List.length_append,List.length_map,List.length_nil];omega))<|?_
 refine XL.rowq (i:=35) (l':=(B5 (fun t=>decide (t.first<(a:Int))) 0 v.tups++B5 (fun _=>true) a x.tups++B5 (fun t=>decide ((a:Int)+n≤t.first)) (x.evs.length - n) v.tups).map Tp.c) R (by simp only [List.map_append,List.nil_append])<|zp (Ab R R B3)<|XL.step R (Ag (l':= [.own 7001, .own 35]) R R R R H9 R lb (by kernel_rfl))<|znr<|?_
 refine XL.freeze (i:=35) R<|zp (Ac (Ad R R Au R lb))<|XL.step R (Ag (l':= [.own 7001, .d (.sl 4 ((B5 (fun t=>decide (t.first<(a:Int))) 0 v.tups++B5 (fun _=>true) a x.tups++B5 (fun t=>decide ((a:Int)+n≤t.first)) (x.evs.length - n) v.tups).map Tp.c))]) R R R R Bu R lb (by kernel_rfl))<|zn<|zt<|?_
 exact ⟨Em R (RVS.eq (RVS.cells (i:=8) R R R Au lb) R),HSub.cons (by rw [Aj4];rfl) (HSub.nil)⟩
theorem O5 (v:Vo) (a n:Nat) (x:Vo) (hv:Sml v) (hx:Sml x) (h:a+n≤v.evs.length):XC Tryz.prog 65 [.agg (Vo.c v),dI (a:Nat),dI (n:Nat), .agg (Vo.c x)] (fun r=>r= .agg (Vo.c (A8 v a n x))):=(Tw v a n x hv hx h).xc rfl
end Go.Proofs.YtcihalbakenleaaGreat
namespace Go.Proofs.YtcihalbakenleaaGreat
def Tp.bef (a b:Tp):Prop:=a.first<b.first∨(a.first=b.first∧b.count≤a.count)
instance (a b:Tp):Decidable (a.bef b):=by unfold Tp.bef;exact inferInstance
theorem U6 (a b:Tp):a.bef b↔¬0<Ki a b:=by
 unfold Tp.bef Ki
 split
 ·split<;>omega
 ·split
  ·split<;>omega
  ·omega
theorem Tp.bef.trans {a b c:Tp} (h1:a.bef b) (h2:b.bef c):a.bef c:=by unfold Tp.bef at*;omega
theorem Tp.bef.first {a b:Tp} (h1:a.bef b):a.first≤b.first:=by unfold Tp.bef at*;omega
structure TV (l:List Tp) (n:Int):Prop where
 inR:∀t∈l,t.inR n
 ord:l.Pairwise Tp.bef
 nest:l.Pairwise (fun a b=>b.first<a.e→b.e≤a.e)
 dep:∀e,hits l e≤3
theorem M4 (A B:List Tp) (e:Int):hits (A++B) e=hits A e+hits B e:=by unfold hits;rw [List.filter_append,List.length_append]
theorem TV.nil (n:Int):TV [] n:=⟨fun t h=>(by cases h),List.Pairwise.nil,List.Pairwise.nil,fun e=>Nat.zero_le _⟩
theorem TV.snoc {P:List Tp} {t:Tp} {n:Int}:TV (P++ [t]) n↔TV P n∧t.inR n∧(∀a∈P,a.bef t)∧(∀a∈P,t.first<a.e→t.e≤a.e)∧∀e,t.has e→hits P e≤2:=by
 constructor
 ·intro h
  have ho:=List.pairwise_append.1 h.ord
  have hn:=List.pairwise_append.1 h.nest
  refine ⟨⟨fun x hx=>h.inR x (List.mem_append_left _ hx),ho.1,hn.1,fun e=> ?_⟩,h.inR t (List.mem_append_right _ (List.mem_singleton.2 rfl)),fun a ha=>ho.2.2 a ha t (List.mem_singleton.2 rfl),fun a ha=>hn.2.2 a ha t (List.mem_singleton.2 rfl),fun e he=> ?_⟩
  ·have:=h.dep e;rw [M4] at this;omega
  ·have:=h.dep e;rw [H1,if_pos he] at this;omega
 ·rintro ⟨h,h1,h2,h3,h4⟩
  refine ⟨fun x hx=> ?_,List.pairwise_append.2 ⟨h.ord,List.pairwise_singleton _ _,fun a ha b hb=>by rw [List.mem_singleton.1 hb];exact h2 a ha⟩,List.pairwise_append.2 ⟨h.nest,List.pairwise_singleton _ _,fun a ha b hb=>by rw [List.mem_singleton.1 hb];exact h3 a ha⟩,fun e=> ?_⟩
  ·rcases List.mem_append.1 hx with k|k
   ·exact h.inR x k
   ·rw [List.mem_singleton.1 k];exact h1
  ·rw [H1]
   have:=h.dep e
   split
   ·rename_i k;have:=h4 e k;omega
   ·omega
def G1 (x:Int) (P:List Tp):List Tp:=P.filter fun o=>decide (x<o.e)
structure Rep (P s:List Tp):Prop where
 fil:∀x,(∀q∈P,q.first≤x)→G1 x s=(G1 x P).reverse
 mono:s.Pairwise fun a b=>a.e≤b.e
theorem My {t:Tp}:∀{s:List Tp},(s.Pairwise fun a b=>a.e≤b.e)→Ck t s=G1 t.first s
 | [],_=>rfl
 |o::r,h=>by
  have h2:=List.pairwise_cons.1 h
  rw [Ck]
  split
  ·rename_i k
   rw [My h2.2,G1,G1,List.filter_cons_of_neg (by simp;omega)]
  ·rename_i k
   refine (List.filter_eq_self.2 fun a ha=> ?_).symm
   rcases List.mem_cons.1 ha with e|e
   ·rw [e];simp;omega
   ·have:=h2.1 a e;simp;omega
theorem Tx {x:Int} {s:List Tp} (h:s.Pairwise fun a b=>a.e≤b.e):(G1 x s).Pairwise fun a b=>a.e≤b.e:=h.sublist List.filter_sublist
theorem V2 {t:Tp} {s:List Tp} (h:s.Pairwise fun a b=>a.e≤b.e):Dk t s↔s.length=3∨∃o∈s,o.e<t.e:=by
 unfold Dk
 cases s with
 |nil=>simp
 |cons o r=>
  have h2:=List.pairwise_cons.1 h
  constructor
  ·rintro (k|k)
   ·exact .inl k
   ·exact .inr ⟨o,List.mem_cons_self,k⟩
  ·rintro (k|⟨a,ha,k⟩)
   ·exact .inl k
   ·rcases List.mem_cons.1 ha with e|e
    ·exact .inr (e ▸ k)
    ·have:=h2.1 a e;exact .inr (by show o.e<t.e;omega)
theorem Rep.pop {P s:List Tp} {t:Tp} (h:Rep P s) (hb:∀a∈P,a.first≤t.first):Ck t s=(G1 t.first P).reverse:=by rw [My h.mono,h.fil _ hb]
theorem Afp {x:Int} {P:List Tp} (hb:∀a∈P,a.first≤x):(G1 x P).length=hits P x:=by
 unfold G1 hits
 congr 1
 refine List.filter_congr fun o ho=> ?_
 have:=hb o ho
 rw [decide_eq_decide]
 unfold Tp.e Tp.has
 omega
theorem Rep.over {P s:List Tp} {t:Tp} {n:Int} (h:Rep P s) (hv:TV P n) (hb:∀a∈P,a.first≤t.first):Dk t (Ck t s)↔(∃o∈P,t.first<o.e∧o.e<t.e)∨3≤hits P t.first:=by
 rw [V2 (by rw [My h.mono];exact Tx h.mono),h.pop hb,List.length_reverse,Afp hb]
 have:=hv.dep t.first
 constructor
 ·rintro (k|⟨o,ho,k⟩)
  ·exact .inr (by omega)
  ·have:=List.mem_filter.1 (List.mem_reverse.1 ho)
   exact .inl ⟨o,this.1,by simpa using this.2,k⟩
 ·rintro (⟨o,ho,k1,k2⟩|k)
  ·exact .inr ⟨o,List.mem_reverse.2 (List.mem_filter.2 ⟨ho,by simpa using k1⟩),k2⟩
  ·exact .inl (by omega)
theorem Rep.nil:Rep [] []:=⟨fun x _=>rfl,List.Pairwise.nil⟩
theorem Rep.snoc {P s:List Tp} {t:Tp} (h:Rep P s) (hb:∀a∈P,a.first≤t.first) (hno:¬Dk t (Ck t s)):Rep (P++ [t]) (t::Ck t s):=by
 have hm:(Ck t s).Pairwise fun a b=>a.e≤b.e:=by rw [My h.mono];exact Tx h.mono
 rw [V2 hm] at hno
 refine ⟨fun x hx=> ?_,List.pairwise_cons.2 ⟨fun a ha=>Int.not_lt.1 fun k=>hno (.inr ⟨a,ha,k⟩),hm⟩⟩
 have hx1:t.first≤x:=hx t (List.mem_append_right _ (List.mem_singleton.2 rfl))
 have h1:G1 x (Ck t s)=(G1 x P).reverse:=by
  rw [My h.mono, ←h.fil x (fun q hq=>hx q (List.mem_append_left _ hq)),G1,G1,List.filter_filter]
  refine List.filter_congr fun o _=> ?_
  by_cases k:x<o.e
  ·simp [k];omega
  ·simp [k]
 have h2:G1 x (P++ [t])=G1 x P++G1 x [t]:=List.filter_append _ _
 rw [h2,List.reverse_append, ←h1]
 show List.filter _ (t::Ck t s)=_
 rw [List.filter_cons]
 by_cases k:x<t.e
 ·have h3:G1 x [t]= [t]:=List.filter_cons_of_pos (by simpa using k)
  rw [if_pos (by simpa using k),h3];rfl
 ·have h3:G1 x [t]= []:=List.filter_cons_of_neg (by simpa using k)
  rw [if_neg (by simpa using k),h3];rfl
theorem TV.pre {A B:List Tp} {n:Int} (h:TV (A++B) n):TV A n:=
 ⟨fun t ht=>h.inR t (List.mem_append_left _ ht),(List.pairwise_append.1 h.ord).1,(List.pairwise_append.1 h.nest).1,fun e=>by have:=h.dep e;rw [M4] at this;omega⟩
theorem Ps {P:List Tp} {t:Tp} (ho:P.Pairwise Tp.bef):Hy P.getLast? t↔¬ ∀a∈P,a.bef t:=by
 rcases List.eq_nil_or_concat P with e|⟨Q,q,e⟩
 ·subst e;simp [Hy]
 ·rw [List.concat_eq_append] at e;subst e
  rw [List.getLast?_concat]
  show 0<Ki q t↔_
  rw [←Decidable.not_not (p:=0<Ki q t), ←U6]
  refine not_congr ⟨fun k a ha=> ?_,fun k=>k q (List.mem_append_right _ (List.mem_singleton.2 rfl))⟩
  rcases List.mem_append.1 ha with j|j
  ·exact ((List.pairwise_append.1 ho).2.2 a j q (List.mem_singleton.2 rfl)).trans k
  ·rw [List.mem_singleton.1 j];exact k
theorem TV.step {P:List Tp} {t:Tp} {n:Int} (h:TV P n) (hi:t.inR n) (hb:∀a∈P,a.bef t):TV (P++ [t]) n↔¬((∃o∈P,t.first<o.e∧o.e<t.e)∨3≤hits P t.first):=by
 rw [TV.snoc]
 constructor
 ·rintro ⟨_,_,_,h3,h4⟩ (⟨o,ho,k1,k2⟩|k)
  ·have:=h3 o ho k1;omega
  ·have:=h4 t.first (by unfold Tp.inR at hi;unfold Tp.has;omega);omega
 ·intro k
  refine ⟨h,hi,hb,fun a ha k1=>Int.not_lt.1 fun k2=>k (.inl ⟨a,ha,k1,k2⟩),fun e he=> ?_⟩
  have h5:¬3≤hits P t.first:=fun j=>k (.inr j)
  have h6:hits P e≤hits P t.first:=by
   unfold hits
   rw [←List.countP_eq_length_filter, ←List.countP_eq_length_filter]
   refine List.countP_mono_left fun o ho hh=> ?_
   have h7:=(hb o ho).first
   simp only [decide_eq_true_eq] at hh ⊢
   unfold Tp.has at hh he ⊢
   omega
  omega
theorem Aha (n:Int) (l:List Tp):∀(P s:List Tp),TV P n→Rep P s→(Ei n P.getLast? s l=0↔TV (P++l) n):=by
 induction l with
 |nil=>intro P s h _;rw [List.append_nil];exact ⟨fun _=>h,fun _=>rfl⟩
 |cons t l ih=>
  intro P s h hr
  have ha:P++t::l=(P++ [t])++l:=by simp
  rw [Ei]
  split
  ·rename_i k
   exact ⟨fun e=>by omega,fun e=>absurd (e.inR t (by simp)) k⟩
  ·rename_i hi
   have hi:=Decidable.not_not.1 hi
   split
   ·rename_i k
    refine ⟨fun e=>by omega,fun e=>absurd ?_ ((Ps h.ord).1 k)⟩
    rw [ha] at e
    exact (TV.snoc.1 e.pre).2.2.1
   ·rename_i k
    have hb:∀a∈P,a.bef t:=Decidable.not_not.1 fun j=>k ((Ps h.ord).2 j)
    have hb1:∀a∈P,a.first≤t.first:=fun a ha=>(hb a ha).first
    split
    ·rename_i k2
     refine ⟨fun e=>by omega,fun e=> ?_⟩
     rw [ha] at e
     exact absurd ((hr.over h hb1).1 k2) ((h.step hi hb).1 e.pre)
    ·rename_i k2
     have h2:TV (P++ [t]) n:=(h.step hi hb).2 fun j=>k2 ((hr.over h hb1).2 j)
     have:=ih (P++ [t]) (t::Ck t s) h2 (hr.snoc hb1 k2)
     rw [List.getLast?_concat] at this
     rw [ha];exact this
theorem tupErr_iff {l:List Tp} {n:Int}:D2 l n=0↔0≤n∧n≤128∧l.length≤16∧TV l n:=by
 have:=Aha n l [] [] (TV.nil n) Rep.nil
 rw [List.nil_append] at this
 rw [←this]
 unfold D2
 split
 ·omega
 ·split
  ·omega
  ·show Ei n none [] l=0↔_∧_∧_∧Ei n none [] l=0
   omega
theorem Vn {T:List Tp}:∀{ws:List Int} {i:Nat},Ia T i ws=0↔∀j w,ws[j]? =some w→Dq T ((i+j:Nat):Int) w=0
 | [],i=>⟨fun _ j w h=>by simp at h,fun _=>rfl⟩
 |w::r,i=>by
  rw [Ia]
  split
  ·rename_i k
   exact ⟨fun h=>absurd h k,fun h=>absurd (h 0 w rfl) k⟩
  ·rename_i k
   rw [Vn]
   constructor
   ·intro h j x hj
    cases j with
    |zero=>cases hj;exact Decidable.not_not.1 k
    |succ j=>have:=h j x hj;rwa [show i+1+j=i+(j+1) by omega] at this
   ·intro h j x hj
    have:=h (j+1) x hj;rwa [show i+(j+1)=i+1+j by omega] at this
structure TL (T:List Tp) (ws ls:List Int):Prop where
 wl:ws.length≤128
 tl:T.length≤16
 tv:TV T ws.length
 sc:∀(i:Nat) w,ws[i]? =some w→Dq T i w=0
 un:∀(k:Nat) t,T[k]? =some t→(Fa (T.drop (k+1)) t ws).isSome=true
 ls:ls=Cw T 0 ws
theorem Sd (l:List Tp) (i:Nat):Ke l i=l.drop (i+1):=by unfold Ke;rw [List.take_length]
theorem unitAll_iff {T:List Tp} {ws:List Int}:J5 T ws↔∀(k:Nat) t,T[k]? =some t→(Fa (T.drop (k+1)) t ws).isSome=true:=by
 constructor
 ·intro h k t ht
  have:=h k (List.getElem?_eq_some_iff.1 ht).1
  rwa [Kt ht,Sd] at this
 ·intro h k hk
  have ht:T[k]? =some T[k]:=List.getElem?_eq_getElem hk
  rw [Kt ht,Sd]
  exact h k _ ht
theorem TL_iff {T:List Tp} {ws ls:List Int}:TL T ws ls↔Cr T ws=0∧Fc T ws=0∧ls=G7 T ws:=by
 have hsc:Ia T 0 ws=0↔∀(i:Nat) w,ws[i]? =some w→Dq T i w=0:=by
  rw [Vn]
  exact ⟨fun h i w hw=>by have:=h i w hw;rwa [Nat.zero_add] at this,fun h i w hw=>by rw [Nat.zero_add];exact h i w hw⟩
 constructor
 ·intro h
  have h1:D2 T ws.length=0:=tupErr_iff.2 ⟨by omega,by have:=h.wl;omega,h.tl,h.tv⟩
  have h2:Cr T ws=0:=by rw [Cr,if_neg (by omega)];exact hsc.2 h.sc
  refine ⟨h2, ?_, ?_⟩
  ·rw [Fc,if_neg (by omega),if_pos (unitAll_iff.2 h.un)]
  ·rw [G7,if_pos h2];exact h.ls
 ·rintro ⟨h1,h2,h3⟩
  have h4:D2 T ws.length=0∧Ia T 0 ws=0:=by
   rw [Cr] at h1
   split at h1
   ·rename_i k;exact absurd h1 k
   ·rename_i k;exact ⟨by omega,h1⟩
  obtain ⟨_,h5,h6,h7⟩:=tupErr_iff.1 h4.1
  refine ⟨by omega,h6,h7,hsc.1 h4.2, ?_, ?_⟩
  ·rw [Fc,if_neg (by omega)] at h2
   split at h2
   ·rename_i k;exact unitAll_iff.1 k
   ·omega
  ·rw [h3,G7,if_pos h1]
theorem Pk {i:Int}:∀{B:List Tp} (p:Int × Int),(∀t∈B,¬t.has i)→B.foldl (Fx i) p=p
 | [],p,_=>rfl
 |t::B,p,h=>by
  rw [List.foldl_cons,Fx,if_neg (h t List.mem_cons_self)]
  exact Pk p fun x hx=>h x (List.mem_cons_of_mem _ hx)
theorem Aft {A B:List Tp} {i:Int} (h:∀t∈B,¬t.has i):Ay (A++B) i=Ay A i:=by
 unfold Ay;rw [List.foldl_append,Pk _ h]
theorem Ab8 {A B:List Tp} {i:Int} (h:∀t∈A,¬t.has i):Ay (A++B) i=Ay B i:=by
 unfold Ay;rw [List.foldl_append,Pk _ h]
theorem Yp (t:Tp) (d i:Int):(t.mv d).has (i+d)↔t.has i:=by unfold Tp.has Tp.mv;simp only;omega
theorem X9 (B:List Tp) (d i:Int):Ay (B.map (Tp.mv d)) (i+d)=Ay B i:=by
 unfold Ay
 rw [List.foldl_map]
 congr 1
 funext p t
 unfold Fx
 by_cases h:t.has i
 ·rw [if_pos h,if_pos ((Yp t d i).2 h)];rfl
 ·rw [if_neg h,if_neg (fun k=>h ((Yp t d i).1 k))]
theorem I0 {A B:List Tp} {i j w:Int} (h:Ay A i=Ay B j):Dq A i w=Dq B j w:=by unfold Dq;rw [h]
theorem Qa {A B:List Tp} {i j w:Int} (h:Ay A i=Ay B j):Dp A i w=Dp B j w:=by unfold Dp;rw [h]
theorem N6 {A B:List Tp}:∀{seg:List Int} {i i':Nat} {acc:Int},(∀j,j<seg.length→Ay A ((i+j:Nat):Int)=Ay B ((i'+j:Nat):Int))→Fb A i seg acc=Fb B i' seg acc
 | [],i,i',acc,h=>rfl
 |w::r,i,i',acc,h=>by
  have h0:=h 0 (by simp)
  rw [Nat.add_zero,Nat.add_zero] at h0
  rw [Fb,Fb,I0 h0,Qa h0]
  split
  ·rfl
  ·refine N6 fun j hj=> ?_
   have:=h (j+1) (by simp;omega)
   rwa [show i+(j+1)=i+1+j by omega,show i'+(j+1)=i'+1+j by omega] at this
theorem M1 {A B:List Tp}:∀{ws:List Int} {i i':Nat},(∀j,j<ws.length→Ay A ((i+j:Nat):Int)=Ay B ((i'+j:Nat):Int))→Cw A i ws=Cw B i' ws
 | [],i,i',h=>rfl
 |w::r,i,i',h=>by
  have h0:=h 0 (by simp)
  rw [Nat.add_zero,Nat.add_zero] at h0
  rw [Cw,Cw,Qa h0,M1 (i':=i'+1)]
  intro j hj
  have:=h (j+1) (by simp;omega)
  rwa [show i+(j+1)=i+1+j by omega,show i'+(j+1)=i'+1+j by omega] at this
theorem Rw (T:List Tp) (b:List Int):∀(a:List Int) (i:Nat),Cw T i (a++b)=Cw T i a++Cw T (i+a.length) b
 | [],i=>rfl
 |w::a,i=>by rw [List.cons_append,Cw,Cw,Rw T b a (i+1),List.cons_append,List.length_cons,show i+1+a.length=i+(a.length+1) by omega]
theorem Aez (B:List Tp) (d e:Int):hits (B.map (Tp.mv d)) (e+d)=hits B e:=by
 unfold hits
 rw [List.filter_map,List.length_map]
 congr 1
 refine List.filter_congr fun t _=> ?_
 show decide ((t.mv d).has (e+d))=decide (t.has e)
 rw [decide_eq_decide];exact Yp t d e
theorem Wj {B:List Tp} {e:Int} (h:∀t∈B,¬t.has e):hits B e=0:=by
 unfold hits
 rw [List.filter_eq_nil_iff.2 fun t ht=>by simpa using h t ht];rfl
theorem Af3 (t:Tp) (d:Int):(t.mv d).e=t.e+d:=by unfold Tp.mv Tp.e;simp only;omega
theorem Jy (t:Tp) (d:Int):(t.mv d).first=t.first+d:=rfl
theorem mv_bef {a b:Tp} {d:Int}:(a.mv d).bef (b.mv d)↔a.bef b:=by unfold Tp.bef Tp.mv;simp only;omega
theorem Xa (t:Tp) (a b:Int):(t.mv a).mv b=t.mv (a+b):=by unfold Tp.mv;simp only [Int.add_assoc]
theorem Re (t:Tp):t.mv 0=t:=by unfold Tp.mv;simp
theorem V6 {A:List Tp} {n i:Int} (h:∀t∈A,t.e≤n) (hi:n≤i):∀t∈A,¬t.has i:=fun t ht k=>by have:=h t ht;unfold Tp.e at this;unfold Tp.has at k;omega
theorem T7 {B:List Tp} {n i:Int} (h:∀t∈B,0≤t.first) (hi:i<n):∀t∈B.map (Tp.mv n),¬t.has i:=fun t ht k=>by
 obtain ⟨b,hb,rfl⟩:=List.mem_map.1 ht
 have:=h b hb;unfold Tp.has Tp.mv at k;simp only at k;omega
theorem Ajl {A B:List Tp} {n1 n2:Int} (h1:0≤n1) (h2:0≤n2) (hA:∀t∈A,t.e≤n1) (hB:∀t∈B,0≤t.first):TV (A++B.map (Tp.mv n1)) (n1+n2)↔TV A n1∧TV B n2:=by
 constructor
 ·intro h
  have ho:=List.pairwise_append.1 h.ord
  have hn:=List.pairwise_append.1 h.nest
  refine ⟨⟨fun t ht=> ?_,ho.1,hn.1,fun e=>by have:=h.dep e;rw [M4] at this;omega⟩,⟨fun t ht=> ?_, ?_, ?_,fun e=> ?_⟩⟩
  ·have k1:=h.inR t (List.mem_append_left _ ht);have k2:=hA t ht;unfold Tp.inR at*;unfold Tp.e at k2;omega
  ·have k1:=h.inR (t.mv n1) (List.mem_append_right _ (List.mem_map.2 ⟨t,ht,rfl⟩));have k2:=hB t ht;unfold Tp.inR Tp.mv at k1;unfold Tp.inR;simp only at k1;omega
  ·exact (List.pairwise_map.1 ho.2.1).imp fun k=>mv_bef.1 k
  ·refine (List.pairwise_map.1 hn.2.1).imp fun {a b} k k2=> ?_
   rw [Af3,Af3,Jy] at k;omega
  ·have:=h.dep (e+n1);rw [M4,Aez] at this;omega
 ·rintro ⟨a,b⟩
  refine ⟨fun t ht=> ?_,List.pairwise_append.2 ⟨a.ord,List.pairwise_map.2 (b.ord.imp fun k=>mv_bef.2 k),fun x hx y hy=> ?_⟩,List.pairwise_append.2 ⟨a.nest,List.pairwise_map.2 (b.nest.imp fun {x y} k=> ?_),fun x hx y hy k=> ?_⟩,fun e=> ?_⟩
  ·rcases List.mem_append.1 ht with k|k
   ·have k1:=a.inR t k;unfold Tp.inR at*;omega
   ·obtain ⟨s,hs,rfl⟩:=List.mem_map.1 k
    have k1:=b.inR s hs;unfold Tp.inR at k1;unfold Tp.inR Tp.mv;simp only;omega
  ·obtain ⟨s,hs,rfl⟩:=List.mem_map.1 hy
   have k1:=a.inR x hx;have k2:=hA x hx;have k3:=hB s hs
   left;unfold Tp.inR at k1;unfold Tp.e at k2;rw [Jy];omega
  ·rw [Af3,Af3,Jy];omega
  ·obtain ⟨s,hs,rfl⟩:=List.mem_map.1 hy
   have k2:=hA x hx;have k3:=hB s hs
   rw [Jy] at k;omega
  ·rw [M4]
   by_cases k:e<n1
   ·rw [Wj (T7 hB k)];exact a.dep e
   ·rw [Wj (V6 hA (by omega)),Nat.zero_add]
    have:=b.dep (e - n1)
    have k2:=Aez B n1 (e - n1)
    rw [Int.sub_add_cancel] at k2
    omega
theorem W6 {A B:List Tp} {n1:Nat} (hB:∀t∈B,0≤t.first) {i:Nat} (hi:i<n1):Ay (A++B.map (Tp.mv n1)) i=Ay A i:=Aft (T7 hB (by omega))
theorem Afu {A B:List Tp} {n1:Nat} (hA:∀t∈A,t.e≤n1) (i:Nat):Ay (A++B.map (Tp.mv n1)) ((n1+i:Nat):Int)=Ay B i:=by
 rw [Ab8 (V6 hA (by omega))]
 have:=X9 B n1 i
 rwa [show (i:Int)+(n1:Int)=((n1+i:Nat):Int) by omega] at this
theorem Yv {A B:List Tp} {w1 w2:List Int} (hA:∀t∈A,t.e≤w1.length) (hB:∀t∈B,0≤t.first):Cw (A++B.map (Tp.mv w1.length)) 0 (w1++w2)=Cw A 0 w1++Cw B 0 w2:=by
 rw [Rw]
 congr 1
 ·exact M1 fun j hj=>by rw [Nat.zero_add];exact W6 hB hj
 ·refine M1 fun j hj=> ?_
  rw [Nat.zero_add,Nat.zero_add];exact Afu hA j
theorem Aj0 {t:Tp} {w1 w2:List Int} (h0:0≤t.first) (h:t.e≤w1.length) (hc:1≤t.count):Fv t (w1++w2)=Fv t w1:=by
 unfold Fv
 unfold Tp.e at h
 rw [List.drop_append_of_le_length (by omega),List.take_append_of_le_length (by rw [List.length_drop];omega)]
theorem Ahs {t:Tp} {w1 w2:List Int} (h0:0≤t.first):Fv (t.mv w1.length) (w1++w2)=Fv t w2:=by
 unfold Fv
 rw [Jy,show (t.first+(w1.length:Int)).toNat=w1.length+t.first.toNat by omega, ←List.drop_drop,List.drop_left]
 rfl
theorem Vf {A B:List Tp} {t:Tp} {w1 w2:List Int} (h0:0≤t.first) (h:t.e≤w1.length) (hc:1≤t.count) (hB:∀t∈B,0≤t.first):Fa (A++B.map (Tp.mv w1.length)) t (w1++w2)=Fa A t w1:=by
 unfold Fa
 rw [Aj0 h0 h hc,N6 (B:=A) (i':=t.first.toNat)]
 intro j hj
 have:(Fv t w1).length≤t.count.toNat:=by unfold Fv;rw [List.length_take];omega
 unfold Tp.e at h
 exact W6 hB (by omega)
theorem Te {B:List Tp} {t:Tp} {w1 w2:List Int} (h0:0≤t.first):Fa (B.map (Tp.mv w1.length)) (t.mv w1.length) (w1++w2)=Fa B t w2:=by
 unfold Fa
 rw [Ahs h0,N6 (B:=B) (i':=t.first.toNat)]
 ·rfl
 ·intro j hj
  have:=X9 B w1.length ((t.first.toNat+j:Nat):Int)
  rw [←this]
  congr 1
  rw [Jy]
  omega
theorem TL.app {A B:List Tp} {w1 w2 l1 l2:List Int} (h1:TL A w1 l1) (h2:TL B w2 l2) (hw:w1.length+w2.length≤128) (ht:A.length+B.length≤16):TL (A++B.map (Tp.mv w1.length)) (w1++w2) (l1++l2):=by
 have hA:∀t∈A,t.e≤w1.length:=fun t ht=>by have:=h1.tv.inR t ht;unfold Tp.inR at this;unfold Tp.e;omega
 have hB:∀t∈B,0≤t.first:=fun t ht=>by have:=h2.tv.inR t ht;unfold Tp.inR at this;omega
 refine ⟨by rw [List.length_append];exact hw,by rw [List.length_append,List.length_map];exact ht, ?_,fun i w hi=> ?_,fun k t hk=> ?_, ?_⟩
 ·rw [List.length_append,Int.natCast_add];exact (Ajl (by omega) (by omega) hA hB).2 ⟨h1.tv,h2.tv⟩
 ·by_cases c:i<w1.length
  ·rw [List.getElem?_append_left c] at hi
   rw [I0 (W6 hB c)];exact h1.sc i w hi
  ·rw [List.getElem?_append_right (by omega)] at hi
   have:=Afu (B:=B) hA (i - w1.length)
   rw [show w1.length+(i - w1.length)=i by omega] at this
   rw [I0 this];exact h2.sc _ w hi
 ·by_cases c:k<A.length
  ·rw [List.getElem?_append_left c] at hk
   have hm:=List.mem_of_getElem? hk
   have:=h1.tv.inR t hm
   rw [List.drop_append_of_le_length (by omega),Vf (by unfold Tp.inR at this;omega) (hA t hm) (by unfold Tp.inR at this;omega) hB]
   exact h1.un k t hk
  ·rw [List.getElem?_append_right (by omega),List.getElem?_map] at hk
   cases hb:B[k - A.length]? with
   |none=>rw [hb] at hk;cases hk
   |some s=>
    rw [hb] at hk;cases hk
    have hd:(A++B.map (Tp.mv w1.length)).drop (k+1)=(B.drop (k - A.length+1)).map (Tp.mv w1.length):=by
     rw [List.drop_append,List.drop_eq_nil_of_le (by omega),List.nil_append,List.map_drop,show k+1 - A.length=k - A.length+1 by omega]
    rw [hd,Te (hB s (List.mem_of_getElem? hb))]
    exact h2.un _ s hb
 ·rw [Yv hA hB,h1.ls,h2.ls]
theorem TL.split {A B:List Tp} {w1 w2 ls:List Int} (h:TL (A++B.map (Tp.mv w1.length)) (w1++w2) ls) (hA:∀t∈A,t.e≤w1.length) (hB:∀t∈B,0≤t.first):TL A w1 (ls.take w1.length)∧TL B w2 (ls.drop w1.length):=by
 have hl:=h.wl
 have ht:=h.tl
 rw [List.length_append] at hl ht
 rw [List.length_map] at ht
 have hv:TV A w1.length∧TV B w2.length:=by
  have:=h.tv
  rw [List.length_append,Int.natCast_add] at this
  exact (Ajl (by omega) (by omega) hA hB).1 this
 have hls:=h.ls
 rw [Yv hA hB] at hls
 have hlg:=Ig A w1 0
 refine ⟨⟨by omega,by omega,hv.1,fun i w hi=> ?_,fun k t hk=> ?_, ?_⟩,⟨by omega,by omega,hv.2,fun i w hi=> ?_,fun k t hk=> ?_, ?_⟩⟩
 ·have c:=(List.getElem?_eq_some_iff.1 hi).1
  have:=h.sc i w (by rw [List.getElem?_append_left c];exact hi)
  rwa [I0 (W6 hB c)] at this
 ·have c:=(List.getElem?_eq_some_iff.1 hk).1
  have hm:=List.mem_of_getElem? hk
  have hr:=hv.1.inR t hm
  have:=h.un k t (by rw [List.getElem?_append_left c];exact hk)
  rwa [List.drop_append_of_le_length (by omega),Vf (by unfold Tp.inR at hr;omega) (hA t hm) (by unfold Tp.inR at hr;omega) hB] at this
 ·rw [hls,List.take_left' hlg]
 ·have:=h.sc (w1.length+i) w (by rw [List.getElem?_append_right (by omega),Nat.add_sub_cancel_left];exact hi)
  rwa [I0 (Afu hA i)] at this
 ·have:=h.un (A.length+k) (t.mv w1.length) (by rw [List.getElem?_append_right (by omega),Nat.add_sub_cancel_left,List.getElem?_map,hk];rfl)
  have hd:(A++B.map (Tp.mv w1.length)).drop (A.length+k+1)=(B.drop (k+1)).map (Tp.mv w1.length):=by
   rw [List.drop_append,List.drop_eq_nil_of_le (by omega),List.nil_append,List.map_drop,show A.length+k+1 - A.length=k+1 by omega]
  rwa [hd,Te (hB t (List.mem_of_getElem? hk))] at this
 ·rw [hls,List.drop_left' hlg]
theorem Ub:∀(ws:List Int) (i:Nat),(∀w∈ws,0≤w∧w≤7741440)→Cw [] i ws=ws
 | [],i,_=>rfl
 |w::r,i,h=>by
  have:=h w List.mem_cons_self
  rw [Cw,Ub r (i+1) fun x hx=>h x (List.mem_cons_of_mem _ hx),Dp,if_neg (by omega)]
  simp [Ay]
theorem TL.nil {ws:List Int} (hl:ws.length≤128) (h:∀w∈ws,0≤w∧w≤7741440):TL [] ws ws:=
 ⟨hl,Nat.zero_le _,TV.nil _,fun i w hi=>by have:=h w (List.mem_of_getElem? hi);rw [Dq,if_neg (by omega)];simp [Ay],fun k t hk=>by simp at hk,(Ub ws 0 h).symm⟩
theorem Mq {l:List Tp} (h:l.Pairwise Tp.bef) (a:Int):l=l.filter (fun t=>decide (t.first<a))++l.filter (fun t=>decide (a≤t.first)):=by
 induction l with
 |nil=>rfl
 |cons t l ih=>
  have h2:=List.pairwise_cons.1 h
  have ih:=ih h2.2
  by_cases c:t.first<a
  ·rw [List.filter_cons_of_pos (by simpa using c),List.filter_cons_of_neg (by simp;omega),List.cons_append, ←ih]
  ·have:l.filter (fun t=>decide (t.first<a))= []:=List.filter_eq_nil_iff.2 fun x hx=>by have:=(h2.1 x hx).first;simp;omega
   rw [this,List.nil_append] at ih
   rw [List.filter_cons_of_neg (by simpa using c),List.filter_cons_of_pos (by simp;omega),this,List.nil_append, ←ih]
def M9 (l:List Tp) (a:Int):Prop:=∀t∈l,t.e≤a∨a≤t.first
theorem TL.cut {T:List Tp} {ws ls:List Int} (h:TL T ws ls) {a:Nat} (ha:a≤ws.length) (hf:M9 T a):
  TL (T.filter fun t=>decide (t.first<(a:Int))) (ws.take a) (ls.take a)∧TL ((T.filter fun t=>decide ((a:Int)≤t.first)).map (Tp.mv (-a))) (ws.drop a) (ls.drop a):=by
 have hl:(ws.take a).length=a:=by rw [List.length_take];omega
 have e1:T=(T.filter fun t=>decide (t.first<(a:Int)))++(((T.filter fun t=>decide ((a:Int)≤t.first)).map (Tp.mv (-a))).map (Tp.mv (ws.take a).length)):=by
  rw [List.map_map,hl]
  have:(Tp.mv (a:Int))∘(Tp.mv (-(a:Int)))=id:=by funext t;show (t.mv _).mv _=t;rw [Xa,Int.add_left_neg,Re]
  rw [this,List.map_id];exact Mq h.tv.ord a
 have h':TL ((T.filter fun t=>decide (t.first<(a:Int)))++(((T.filter fun t=>decide ((a:Int)≤t.first)).map (Tp.mv (-a))).map (Tp.mv (ws.take a).length))) (ws.take a++ws.drop a) ls:=by
  rw [←e1,List.take_append_drop];exact h
 have:=h'.split (fun t ht=> ?_) (fun t ht=> ?_)
 ·rw [hl] at this;exact this
 ·have k:=List.mem_filter.1 ht
  have k2:=k.2
  simp only [decide_eq_true_eq] at k2
  rcases hf t k.1 with j|j
  ·rw [hl];exact j
  ·omega
 ·obtain ⟨s,hs,rfl⟩:=List.mem_map.1 ht
  have k:=(List.mem_filter.1 hs).2
  simp only [decide_eq_true_eq] at k
  rw [Jy];omega
end Go.Proofs.YtcihalbakenleaaGreat
namespace Go.Proofs.YtcihalbakenleaaGreat
open Go.RowKit
def Aq2:Ev:=⟨0,0,2,⟨0,0⟩, [], [],0,0,0, [],0,0⟩
theorem P4 (m:Me) (a b:Int):(m.split a b).length≤2049:=by
 unfold Me.split
 split
 ·rename_i h
  unfold Me.splitE at h
  split at h
  ·rename_i h1;exact absurd h h1
  ·split at h
   ·cases h
   ·split at h
    ·cases h
    ·split at h
     ·cases h
     ·have:=Du (m:=m) (Dz a b+1) a b ⟨by omega,by omega,by omega,by omega,Nat.le_refl _⟩
      unfold Dz at*
      omega
 ·exact Nat.zero_le _
def Apa (m:Me) (a b:Int):List Ev:=Bj Aq2 (m.split a b) false
def Apo (x:Ev) (m:Me) (a b:Int):Int:=if x.err≠0 then x.err else if x.kind=3 then 11 else m.splitE a b
def notesL (x:Ev) (m:Me) (a b:Int):List Ev:=if Apo x m a b=0 then Bj x (m.split a b) false else []
end Go.Proofs.YtcihalbakenleaaGreat
namespace Go.Proofs.YtcihalbakenleaaGreat
open Go.RowKit
theorem Oq {v:Vo} {L:Int} (h:ckE v L=0):Ca v L=0∧ckL v L=D6 v L:=by
 have h1:Ca v L=0:=by
  unfold ckE at h
  split at h
  ·cases h
  ·exact h
 exact ⟨h1,by rw [ckL,h,if_neg (by decide)]⟩
theorem U1 {v:Vo} (h:D1 v=0):(Fo v).length=v.evs.length∧Cr v.tups (wrS v.evs)=0:=by
 have h1:Cr v.tups (wrS v.evs)=0:=by
  unfold D1 at h
  split at h
  ·rename_i k;exact absurd h k
  ·split at h
   ·rename_i k;exact absurd h k
   ·rename_i k;exact Decidable.not_not.1 k
 refine ⟨?_,h1⟩
 rw [Fo,if_pos h,G7,if_pos h1,Ig,wrS,List.length_map]
theorem Uz {v:Vo} {L:Int} (h:Ca v L=0):(D6 v L).length=v.evs.length:=by
 rw [D6,if_neg (by rw [h];decide)]
 split
 ·rename_i k;rw [k.2];rfl
 ·rename_i k
  have:D1 v=0:=by
   by_cases c1:L<1∨15482880<L
   ·rw [Ca,if_pos c1] at h;cases h
   ·by_cases c2:128<v.evs.length
    ·rw [Ca,if_neg c1,if_pos c2] at h;cases h
    ·rw [Ca,if_neg c1,if_neg c2,if_neg k] at h;exact h
  exact (U1 this).1
theorem Io {v:Vo} {L:Int} (h:ckE v L=0):(ckL v L).length=v.evs.length:=by
 obtain ⟨h1,h2⟩:=Oq h
 rw [h2];exact Uz h1
theorem Afd (l:List Int) (t:Int):∀n,∃k:Nat,atS l t n=((k:Int),tot (l.take k))∧(k<n∨k=0)
 |0=>⟨0,rfl, .inr rfl⟩
 |n+1=>by
  obtain ⟨k,h1,h2⟩:=Afd l t n
  cases hl:l[n]? with
  |none=>exact ⟨k,by simp only [atS,hl];exact h1,by omega⟩
  |some x=>
   by_cases c:tot (l.take n)≤t∧0<x
   ·exact ⟨n,Ul hl c.1 c.2,by omega⟩
   ·exact ⟨k,by rw [Mm hl c];exact h1,by omega⟩
theorem Rp (v:Vo) (L t:Int):∃(k:Nat) (a:Int),atV v L t=((k:Int),a)∧0≤a∧a≤32469952757760∧(atE v L t=0→k<(ckL v L).length∧a=tot ((ckL v L).take k)):=by
 have hN:=Jw v L
 by_cases h:atE v L t≠0
 ·exact ⟨0,0,by rw [atV,if_pos h];rfl,by omega,by omega,fun k=>absurd k h⟩
 ·obtain ⟨k,h1,h2⟩:=Afd (ckL v L) t (ckL v L).length
  have hb:=(hN.take k).tot
  refine ⟨k,_,by rw [atV,if_neg h];exact h1,hb.1,hb.2,fun h0=>⟨?_,rfl⟩⟩
  have:(ckL v L).length≠0:=fun e=>by
   by_cases c:ckE v L≠0
   ·rw [Abr c] at h0;exact c h0
   ·rw [Abq c (by omega)] at h0;cases h0
  omega
theorem Abp {v:Vo} {L t:Int} (h:atE v L t=0):ckE v L=0∧0≤t∧t<L:=by
 unfold atE at h
 split at h
 ·rename_i c;exact absurd h c
 ·rename_i c
  split at h
  ·cases h
  ·split at h
   ·cases h
   ·omega
theorem Arw {v:Vo} {L t a:Int} {k:Nat} (hE:Evs v.evs) (h:atV v L t=((k:Int),a)):XC Tryz.prog 22 [.agg (Vo.c v),dI L,dI t] (fun r=>r= .tup [dI k,dI a,dI (atE v L t)]):=by
 have:=Arz v L t hE
 rw [h] at this
 exact this
theorem Ds {p:Pl} {v:Vo} (h:p.chk v=0):p.m.err=0∧¬p.bad∧ckE v p.len=0:=by
 unfold Pl.chk at h
 split at h
 ·rename_i c;exact absurd h c
 ·rename_i c
  split at h
  ·cases h
  ·exact ⟨Decidable.not_not.1 c,by assumption,h⟩
theorem len_ok {v:Vo} {L:Int} (h:Ca v L=0):v.evs.length≤128∧(v.tups.length=0∨Cr v.tups (wrS v.evs)=0)∧1≤L∧L≤15482880:=by
 by_cases c1:L<1∨15482880<L
 ·rw [Ca,if_pos c1] at h;cases h
 ·by_cases c2:128<v.evs.length
  ·rw [Ca,if_neg c1,if_pos c2] at h;cases h
  ·refine ⟨by omega, ?_,by omega,by omega⟩
   by_cases k:v.whole∧v.evs.length=1
   ·left
    obtain ⟨e,he⟩:∃e,v.evs[0]? =some e:=Ap (by omega)
    have:=Xb (L:=L) (by omega) (by omega) (by omega) k.1 (by omega) he
    rw [h] at this
    by_cases c3:e.err≠0
    ·rw [if_pos c3] at this;exact absurd this.symm c3
    ·rw [if_neg c3] at this
     by_cases c4:0<v.tups.length
     ·rw [if_pos c4] at this;cases this
     ·omega
   ·rw [Ca,if_neg c1,if_neg c2,if_neg k] at h
    exact .inr (U1 h).2
theorem Kp {v:Vo} {L:Int} (h:ckE v L=0):Sml v∧v.evs.length≤128:=by
 obtain ⟨h1,_⟩:=Oq h
 obtain ⟨h2,h3,_⟩:=len_ok h1
 refine ⟨⟨by omega, ?_, ?_⟩,h2⟩
 ·rcases h3 with h3|h3
  ·omega
  ·have:=(Iy (fun k=>k h3)).len;omega
 ·rcases h3 with h3|h3
  ·have:v.tups= []:=List.eq_nil_of_length_eq_zero h3
   rw [this];exact fun t ht=>by cases ht
  ·intro t ht
   have:=(Iy (fun k=>k h3)).ok t ht
   unfold Tp.ok at this
   omega
theorem Ew (x:Ev) (vs:List Val) (f:Bool):(Bj x vs f).length=vs.length:=by rw [Bj,List.length_mapIdx]
def Ev.asRest (x:Ev):Ev:=⟨x.site,x.num,2,x.v,x.heads,x.graces,x.art,x.orn,x.dyn,x.lyr,x.stem,x.beam⟩
def Ev.unrest (x:Ev):Ev:=if x.kind=3 then x.asRest else x
def Ev.tiedE (x:Ev):Ev:=⟨x.site,x.num,x.kind,x.v,x.heads.map Hd.tie,x.graces,x.art,x.orn,x.dyn,x.lyr,x.stem,x.beam⟩
theorem Ev.fit.rest {x:Ev} (h:x.fit):x.asRest.fit:=h
theorem Ev.fit.tied {x:Ev} (h:x.fit):x.tiedE.fit:=⟨by show (x.heads.map Hd.tie).length≤1000;rw [List.length_map];exact h.1,h.2⟩
theorem Ev.fit.put {x:Ev} (h:x.fit) (v:Val) (t:Bool):(x.put v t).fit:=⟨by cases t<;>simp only [Ev.put,if_true,Bool.false_eq_true,if_false,List.length_map]<;>exact h.1,h.2⟩
theorem Ev.fit.further {x:Ev} (h:x.fit):x.further.fit:=⟨by show (x.heads.map Hd.plain).length≤1000;rw [List.length_map];exact h.1,Nat.zero_le _,Nat.zero_le _⟩
theorem Pe {x:Ev} (h:x.fit) (vs:List Val) (f:Bool):∀e∈Bj x vs f,e.fit:=by
 intro e he
 obtain ⟨i,hi⟩:=List.getElem?_of_mem he
 rw [Bj,List.getElem?_mapIdx] at hi
 cases hv:vs[i]? with
 |none=>rw [hv] at hi;cases hi
 |some v=>
  rw [hv] at hi;cases hi
  unfold Ep
  split
  ·exact h.further.put _ _
  ·exact h.put _ _
theorem Up {l:List Ev} (h:l.length≤10000):Sml ⟨l, []⟩:=⟨h,Nat.zero_le _,fun t ht=>by cases ht⟩
def C2 (p:Pl) (t:Int) (a w:Int) (x:Ev):List Ev:=Bj x.unrest.tiedE (p.m.split (p.off+a) (p.off+t)) false++Bj x.unrest (p.m.split (p.off+t) (p.off+(a+w))) true
def Ko (v:Vo) (p:Pl) (t:Int) (k:Nat) (a w:Int) (x:Ev):Vo × Int:=
 if 0<Hu v.tups k then (⟨[], []⟩,27) else if p.m.splitE (p.off+a) (p.off+t)≠0 then (⟨[], []⟩,p.m.splitE (p.off+a) (p.off+t)) else if p.m.splitE (p.off+t) (p.off+(a+w))≠0 then (⟨[], []⟩,p.m.splitE (p.off+t) (p.off+(a+w))) else
 if 128<(A8 v k 1 ⟨C2 p t a w x, []⟩).evs.length then (⟨[], []⟩,9) else (A8 v k 1 ⟨C2 p t a w x, []⟩,0)
def Aj (v:Vo) (p:Pl) (t:Int):Vo × Int:=
 if atE v p.len t≠0∨(atV v p.len t).2=t then (v,0) else
 match v.evs[(atV v p.len t).1.toNat]?,(ckL v p.len)[(atV v p.len t).1.toNat]? with
 |some x,some w=>Ko v p t (atV v p.len t).1.toNat (atV v p.len t).2 w x
 |_,_=>(⟨[], []⟩,0)
theorem N2 {v:Vo} {p:Pl} {t a:Int} {k:Nat} (hat:atV v p.len t=((k:Int),a)) (h:atE v p.len t≠0∨a=t):Aj v p t=(v,0):=by rw [Aj,hat,if_pos h]
theorem Jl {v:Vo} {p:Pl} {t a w:Int} {k:Nat} {x:Ev} (hat:atV v p.len t=((k:Int),a)) (h:¬(atE v p.len t≠0∨a=t)) (hx:v.evs[k]? =some x) (hw:(ckL v p.len)[k]? =some w):Aj v p t=Ko v p t k a w x:=by
 rw [Aj,hat,if_neg h]
 simp only [Int.toNat_natCast,hx,hw]
theorem Aso {v:Vo} {p:Pl} {t a w:Int} {k:Nat} {x:Ev} (h:0<Hu v.tups k):Ko v p t k a w x=(⟨[], []⟩,27):=by rw [Ko,if_pos h]
theorem Asn {v:Vo} {p:Pl} {t a w:Int} {k:Nat} {x:Ev} (h:¬0<Hu v.tups k) (h2:p.m.splitE (p.off+a) (p.off+t)≠0):Ko v p t k a w x=(⟨[], []⟩,p.m.splitE (p.off+a) (p.off+t)):=by rw [Ko,if_neg h,if_pos h2]
theorem Asm {v:Vo} {p:Pl} {t a w:Int} {k:Nat} {x:Ev} (h:¬0<Hu v.tups k) (h2:¬p.m.splitE (p.off+a) (p.off+t)≠0) (h3:p.m.splitE (p.off+t) (p.off+(a+w))≠0):Ko v p t k a w x=(⟨[], []⟩,p.m.splitE (p.off+t) (p.off+(a+w))):=by rw [Ko,if_neg h,if_neg h2,if_pos h3]
theorem Aql {v:Vo} {p:Pl} {t a w:Int} {k:Nat} {x:Ev} {l:List Ev} (h:¬0<Hu v.tups k) (h2:¬p.m.splitE (p.off+a) (p.off+t)≠0) (h3:¬p.m.splitE (p.off+t) (p.off+(a+w))≠0) (hl:l=C2 p t a w x) (h4:128<((A8 v k 1 ⟨l, []⟩).evs.length:Int)):Ko v p t k a w x=(⟨[], []⟩,9):=by
 subst hl;rw [Ko,if_neg h,if_neg h2,if_neg h3,if_pos (by omega)]
theorem Aqk {v:Vo} {p:Pl} {t a w:Int} {k:Nat} {x:Ev} {l:List Ev} (h:¬0<Hu v.tups k) (h2:¬p.m.splitE (p.off+a) (p.off+t)≠0) (h3:¬p.m.splitE (p.off+t) (p.off+(a+w))≠0) (hl:l=C2 p t a w x) (h4:¬128<((A8 v k 1 ⟨l, []⟩).evs.length:Int)):Ko v p t k a w x=(A8 v k 1 ⟨l, []⟩,0):=by
 subst hl;rw [Ko,if_neg h,if_neg h2,if_neg h3,if_neg (by omega)]
theorem Qw {p:Pl} {t a w:Int} {x:Ev} (h:x.kind=3):Bj x.asRest.tiedE (p.m.split (p.off+a) (p.off+t)) false++Bj x.asRest (p.m.split (p.off+t) (p.off+(a+w))) true=C2 p t a w x:=by rw [C2,Ev.unrest,if_pos h]
theorem Qx {p:Pl} {t a w:Int} {x:Ev} (h:¬x.kind=3):Bj x.tiedE (p.m.split (p.off+a) (p.off+t)) false++Bj x (p.m.split (p.off+t) (p.off+(a+w))) true=C2 p t a w x:=by rw [C2,Ev.unrest,if_neg h]
theorem Td {x:Ev} (h:x.fit):x.unrest.fit:=by unfold Ev.unrest;split<;>exact h
theorem Sn {v:Vo} {k:Nat} {l:List Ev} (hv:v.fit) (hl:∀e∈l,e.fit) (hs:Sml v) (h:¬128<((A8 v k 1 ⟨l, []⟩).evs.length:Int)):(A8 v k 1 ⟨l, []⟩).fit:=by
 refine ⟨by omega, ?_,fun e he=> ?_⟩
 ·have h1:=I4 (fun t=>decide (t.first<(k:Int))) 0 v.tups
  have h2:=I4 (fun t=>decide ((k:Int)+(1:Nat)≤t.first)) ((l.length:Int) - (1:Nat)) v.tups
  have h3:=hs.tups
  simp only [A8,List.length_append]
  have h4:(B5 (fun _=>true) (k:Int) []).length=0:=rfl
  omega
 ·simp only [A8] at he
  rcases List.mem_append.1 he with he|he
  ·rcases List.mem_append.1 he with he|he
   ·exact hv.ev e (List.mem_of_mem_take he)
   ·exact hl e he
  ·exact hv.ev e (List.mem_of_mem_drop he)
theorem S3 {p:Pl} {t a w:Int} {x:Ev} (h:x.fit):∀e∈C2 p t a w x,e.fit:=by
 intro e he
 rcases List.mem_append.1 he with he|he
 ·exact Pe (Td h).tied _ _ e he
 ·exact Pe (Td h) _ _ e he
theorem r2v {v:Vo} {a:Int} {q:Vo × Int} (h:q=(v,a)):D.tup [.agg (Vo.c v),dI a]= .tup [.agg (Vo.c q.1),dI q.2]:=by rw [h]
theorem Qy (v:Vo) (p:Pl) (t:Int) (hE:Evs v.evs) (hF:v.fit) (hc:p.chk v=0):XC Tryz.prog 48 [.agg (Vo.c v), .agg (Pl.c p), .v (.int .i64 t)] (fun r=>r= .tup [.agg (Vo.c (Aj v p t).1),dI (Aj v p t).2]):=by
 obtain ⟨k,a,hat,ha0,ha1,hak⟩:=Rp v p.len t
 obtain ⟨hme,hpb,hck⟩:=Ds hc
 obtain ⟨hsv,hev⟩:=Kp hck
 have hcl:=Io hck
 have hN:=Jw v p.len
 unfold Pl.bad at hpb
 refine Ao Adh Tryz.func48 R R lb<|zr<|XL.step R (As 3 (l:= [.d (.sl 13 (v.evs.map Ev.c)), .d (.sl 4 (v.tups.map Tp.c))]) R R (by kernel_rfl))<|XL.step R (As 4 (l:= [.d (dI p.m.count), .d (dI p.m.unit), .d (dI p.m.g0), .d (dI p.m.g1), .d (dI p.m.g2), .d (dI p.m.g3), .d (dI p.m.g4), .d (dI p.m.g5), .d (dI p.off), .d (dI p.len)]) R R (by kernel_rfl))<|?_
 refine XL.step R (A0 6 (l:= [.d (.v (.slice none 0 0)), .d (.v (.slice none 0 0))]) R Ba (by kernel_rfl))<|za R R<|znr<|zp (Ae (s':= .d (.agg (Vo.c v))) (Ac (Ad R R Au R lb)) (by kernel_rfl))<|zp (Ab R R Hg)<|zp (Aa R R Ah R R)<|XL.call1 R R (Kq _ _ (by assumption)) R<|zm R R<|zp (A6 R R R)<|zp (A6 R R R)<|za R R<|za R R<|znr<|?_
 refine zp (Ae (s':= .d (.agg (Vo.c v))) (Ac (Ad R R Au R lb)) (by kernel_rfl))<|zp (Ab R R Hg)<|zp (Aa R R Ah R R)<|zm R R<|XL.call1 R R (Arw hE hat) R<|zm R R<|zp (A6 R R R)<|zp (A6 R R R)<|zp (A6 R R R)<|za R R<|za R R<|za R R<|zn<|zs<|?_
 refine zr<|zm R R<|zp (A9 R R R)<|zm R R<|?_
 refine XL.dec 37 R (fun g37=> ?_) (fun g37=> ?_)
 refine zk 3 R<|zq R R R<|zn<|An (by kernel_rfl) R<|zr<|zp (Ae (s':= .d (.agg (Vo.c v))) (Ac (Ad R R Au R lb)) (by kernel_rfl))<|XL.call1 R R (Gp _ (by assumption)) R<|XL.step R (Ag (l':= [.d (.sl 13 (v.evs.map Ev.c)), .d (.sl 4 (v.tups.map Tp.c))]) R R R R Bu R lb (by kernel_rfl))<|za R R<|zn<|zt<|?_
 exact Bl R (RV.cells R R R Au lb R) (RV.tmp R R) (r2v (N2 hat (by omega)))
 refine zm R R<|zm R R<|zp (Az R R R)<|zq R R R<|zn<|?_
 refine zd R (fun c41=> ?_) (fun c41=> ?_)
 refine zr<|zp (Ae (s':= .d (.agg (Vo.c v))) (Ac (Ad R R Au R lb)) (by kernel_rfl))<|XL.call1 R R (Gp _ (by assumption)) R<|XL.step R (Ag (l':= [.d (.sl 13 (v.evs.map Ev.c)), .d (.sl 4 (v.tups.map Tp.c))]) R R R R Bu R lb (by kernel_rfl))<|za R R<|zn<|zt<|?_
 exact Bl R (RV.cells R R R Au lb R) (RV.tmp R R) (r2v (N2 hat (by omega)))
 refine zi<|zs<|?_
 have hne:¬(atE v p.len t≠0∨a=t):=by omega
 have he0:atE v p.len t=0:=by omega
 obtain ⟨hk,hak2⟩:=hak he0
 obtain ⟨w,hw⟩:∃w,(ckL v p.len)[k]? =some w:=Ap hk
 obtain ⟨x,hx⟩:∃x,v.evs[k]? =some x:=Ap (by omega)
 have hwb:=hN.bd w (List.mem_of_getElem? hw)
 obtain ⟨_,ht0,ht1⟩:=Abp he0
 have hxf:x.fit:=hF.ev x (List.mem_of_getElem? hx)
 have hs1:=P4 p.m (p.off+a) (p.off+t)
 have hs2:=P4 p.m (p.off+t) (p.off+(a+w))
 have hxh:=hxf.1
 refine Af (by kernel_rfl)<|zm R R<|zm R R<|zm R R<|zp (Am R R R C9 (hw))<|zp (Aw R R Ah)<|zp (Ak R R R (by omega) (by omega))<|za R R<|zn<|zs<|zr<|zp (Ab R R B3)<|zp (Aa R R B0 R R)<|zm R R<|?_
 refine XL.call1 R R (Zc _ _ (by omega) (by omega)) R<|zp (A5 R R R)<|zn<|?_
 refine zd R (fun c54=> ?_) (fun c54=> ?_)
 refine zr<|zp (Ae (s':= .d (.agg [.v (.slice none 0 0), .v (.slice none 0 0)])) (Ac (Be R Cg Ba R)) (by kernel_rfl))<|XL.step R (Ag (l':= [.d (.v (.slice none 0 0)), .d (.v (.slice none 0 0))]) R R R R Bu R lb (by kernel_rfl))<|za R R<|zn<|zt<|?_
 exact Bl R (RV.sub (RV.cells R R R Au lb R) (.agg (.cons (.nil 13) (.cons (.nil 4) (.nil))))) (RV.tmp R R) (r2v ((Jl hat hne hx hw).trans (Aso c54)))
 refine zi<|zr<|zp (Ab R R Pm)<|zp (Ae (s':= .d (.agg (Me.c p.m))) (Ac (Ad R R Ci R lb)) (by kernel_rfl))<|zp (Ab R R Hh)<|zp (Aa R R Ah R R)<|zm R R<|zp (Ak R R R (by omega) (by omega))<|zp (Ab R R Hh)<|zp (Aa R R Ah R R)<|zm R R<|zp (Ak R R R (by omega) (by omega))<|XL.call1 R R (Qo _ _ _) R<|zm R R<|?_
 refine zp (A6 R R R)<|zp (A6 R R R)<|za R R<|za R R<|zn<|zs<|zr<|zm R R<|zp (A9 R R R)<|zn<|?_
 refine zd R (fun c71=> ?_) (fun c71=> ?_)
 refine zr<|zp (Ae (s':= .d (.agg [.v (.slice none 0 0), .v (.slice none 0 0)])) (Ac (Be R Cg Ba R)) (by kernel_rfl))<|zm R R<|XL.step R (Ag (l':= [.d (.v (.slice none 0 0)), .d (.v (.slice none 0 0))]) R R R R Bu R lb (by kernel_rfl))<|za R R<|zn<|zt<|?_
 exact Bl R (RV.sub (RV.cells R R R Au lb R) (.agg (.cons (.nil 13) (.cons (.nil 4) (.nil))))) (RV.tmp R R) (r2v ((Jl hat hne hx hw).trans (Asn c54 c71)))
 refine zi<|zr<|zp (Ab R R Pm)<|zp (Ae (s':= .d (.agg (Me.c p.m))) (Ac (Ad R R Ci R lb)) (by kernel_rfl))<|zp (Ab R R Hh)<|zp (Aa R R Ah R R)<|zm R R<|zp (Ak R R R (by omega) (by omega))<|zp (Ab R R Hh)<|zp (Aa R R Ah R R)<|zm R R<|zp (Ak R R R (by omega) (by omega))<|XL.call1 R R (Qo _ _ _) R<|zm R R<|?_
 refine zp (A6 R R R)<|zp (A6 R R R)<|za R R<|za R R<|zn<|zs<|zr<|zm R R<|zp (A9 R R R)<|zn<|?_
 refine zd R (fun c89=> ?_) (fun c89=> ?_)
 refine zr<|zp (Ae (s':= .d (.agg [.v (.slice none 0 0), .v (.slice none 0 0)])) (Ac (Be R Cg Ba R)) (by kernel_rfl))<|zm R R<|XL.step R (Ag (l':= [.d (.v (.slice none 0 0)), .d (.v (.slice none 0 0))]) R R R R Bu R lb (by kernel_rfl))<|za R R<|zn<|zt<|?_
 exact Bl R (RV.sub (RV.cells R R R Au lb R) (.agg (.cons (.nil 13) (.cons (.nil 4) (.nil))))) (RV.tmp R R) (r2v ((Jl hat hne hx hw).trans (Asm c54 c71 c89)))
 refine zi<|zr<|zp (Ab R R A1)<|zp (Aa R R Br R R)<|zm R R<|zp (Am R R R B7 (hx))<|zp (Ae (s':= .d (.agg (Ev.c x))) (Ar R R Ax lb) (by kernel_rfl))<|?_
 refine XL.step R (A0 16 (l:= [.d (dI 0), .d (dI 0), .d (dI 0), .d (dI 0), .d (dI 0), .d (.v (.slice none 0 0)), .d (.v (.slice none 0 0)), .d (dI 0), .d (dI 0), .d (dI 0), .d (.v (.slice none 0 0)), .d (dI 0), .d (dI 0)]) R Cm (by kernel_rfl))<|?_
 refine XL.step R (Ag (l':= [.d (dI x.site), .d (dI x.num), .d (dI x.kind), .d (dI x.v.log), .d (dI x.v.dots), .d (.sl 5 (x.heads.map Hd.c)), .d (.sl 5 (x.graces.map Gr.c)), .d (dI x.art), .d (dI x.orn), .d (dI x.dyn), .d (.sl 2 (x.lyr.map Sy.c)), .d (dI x.stem), .d (dI x.beam)]) R R R R Cd R lb (by kernel_rfl))<|zn<|zs<|zr<|zp (Ab R R Bn)<|zp (Aa R R Ah R R)<|?_
 refine zp (Az R R R)<|zn<|?_
 refine zd R (fun c99=> ?_) (fun c99=> ?_)
 refine Af (by kernel_rfl)<|zp (Ab R R Bn)<|XL.step R (Ag (l':= [.d (dI x.site), .d (dI x.num), .d (dI 2), .d (dI x.v.log), .d (dI x.v.dots), .d (.sl 5 (x.heads.map Hd.c)), .d (.sl 5 (x.graces.map Gr.c)), .d (dI x.art), .d (dI x.orn), .d (dI x.dyn), .d (.sl 2 (x.lyr.map Sy.c)), .d (dI x.stem), .d (dI x.beam)]) R R R R Df R lb (by kernel_rfl))<|znr<|?_
 refine zp (Ae (s':= .d (.agg [dI x.site,dI x.num,dI 2,dI x.v.log,dI x.v.dots, .sl 5 (x.heads.map Hd.c), .sl 5 (x.graces.map Gr.c),dI x.art,dI x.orn,dI x.dyn, .sl 2 (x.lyr.map Sy.c),dI x.stem,dI x.beam])) (Ac (Ad R R Ax R lb)) (by kernel_rfl))<|?_
 refine XL.step R (A0 17 (l:= [.d (dI 0), .d (dI 0), .d (dI 0), .d (dI 0), .d (dI 0), .d (.v (.slice none 0 0)), .d (.v (.slice none 0 0)), .d (dI 0), .d (dI 0), .d (dI 0), .d (.v (.slice none 0 0)), .d (dI 0), .d (dI 0)]) R Cm (by kernel_rfl))<|?_
 refine XL.step R (Ag (l':= [.d (dI x.site), .d (dI x.num), .d (dI 2), .d (dI x.v.log), .d (dI x.v.dots), .d (.sl 5 (x.heads.map Hd.c)), .d (.sl 5 (x.graces.map Gr.c)), .d (dI x.art), .d (dI x.orn), .d (dI x.dyn), .d (.sl 2 (x.lyr.map Sy.c)), .d (dI x.stem), .d (dI x.beam)]) R R R R Cd R lb (by kernel_rfl))<|znr<|zp (Ab R R Bi)<|zp (Aa R R Cx R R)<|?_
 refine XL.call1 R R (P2 _ (hxf.1)) R<|zp (Ab R R Bi)<|XL.step R (Ag (l':= [.d (dI x.site), .d (dI x.num), .d (dI 2), .d (dI x.v.log), .d (dI x.v.dots), .d (.sl 5 ((x.heads.map Hd.tie).map Hd.c)), .d (.sl 5 (x.graces.map Gr.c)), .d (dI x.art), .d (dI x.orn), .d (dI x.dyn), .d (.sl 2 (x.lyr.map Sy.c)), .d (dI x.stem), .d (dI x.beam)]) R R R R Ly R lb (by kernel_rfl))<|zn<|zs<|?_
 refine Mn 8 12 [7001,7002,18] (S.kill 7001) 7001 (Pg 7001) (by kernel_rfl) (by kernel_rfl) (by kernel_rfl) (by kernel_rfl) (by decide)<|ChMK.fr R R (CStep.pure (Ae (s':= .d (.agg (Vo.c v))) (Ac (Ad R R Au R lb)) (by kernel_rfl))) (CStep.pure (Ae (s':= .d (.agg (Vo.c v))) (Ac (Ad R R Au R lb)) (by kernel_rfl))) (by exact rfl)<|?_
 refine ChMK.fr R R (CStep.pure (A3 R (by conv=>lhs;whnf))) (CStep.pure (A3 R (by conv=>lhs;whnf))) (by exact rfl)<|?_
 refine ChMK.bf R (CStep.pure (Ae (s':= .d (.agg [dI x.site,dI x.num,dI 2,dI x.v.log,dI x.v.dots, .sl 5 ((x.heads.map Hd.tie).map Hd.c), .sl 5 (x.graces.map Gr.c),dI x.art,dI x.orn,dI x.dyn, .sl 2 (x.lyr.map Sy.c),dI x.stem,dI x.beam])) (Ac (Ad R R Ax R lb)) (by kernel_rfl))) (by conv=>lhs;whnf)<|?_
 refine ChMK.bf R (CStep.pure (A3 R (by conv=>lhs;whnf))) (by conv=>lhs;whnf)<|?_
 refine ChMK.bfO R (CStep.callS R ((M0 (x.asRest.tiedE) _ false hxf.rest.tied (by omega)).lab 7001) R (Ft (by kernel_rfl))) (by conv=>lhs;whnf) (fun _ _=>Wc _ _)<|?_
 refine ChMK.bf R (CStep.pure (Ae (s':= .d (.agg [dI x.site,dI x.num,dI 2,dI x.v.log,dI x.v.dots, .sl 5 (x.heads.map Hd.c), .sl 5 (x.graces.map Gr.c),dI x.art,dI x.orn,dI x.dyn, .sl 2 (x.lyr.map Sy.c),dI x.stem,dI x.beam])) (Ac (Ad R R Ax R lb)) (by kernel_rfl))) (by conv=>lhs;whnf)<|?_
 refine ChMK.bf R (CStep.pure (A3 R (by conv=>lhs;whnf))) (by conv=>lhs;whnf)<|?_
 refine ChMK.bfN R (CStep.callS R ((M0 (x.asRest) _ true hxf.rest (by omega)).lab 7002) R (Ft (by kernel_rfl))) (by conv=>lhs;whnf) R R<|?_
 refine ChMK.mu R (Wb (l2:=((Bj x.asRest.tiedE ((p.m.split (p.off+a) (p.off+t))) false)++(Bj x.asRest ((p.m.split (p.off+t) (p.off+(a+w)))) true)).map Ev.c) R Jt (.own R) (Src.own R) (by simp only [List.length_map,Ew];unfold maxLen;omega) (by simp only [List.length_map,Ew];omega) (Aet))<|?_
 refine ChMK.af R (CStep.pure (Ae (s':= .d (.agg [.sl 13 (((Bj x.asRest.tiedE ((p.m.split (p.off+a) (p.off+t))) false)++(Bj x.asRest ((p.m.split (p.off+t) (p.off+(a+w)))) true)).map Ev.c), .v (.slice none 0 0)])) (Ac (Be R Cg Ba R)) (by kernel_rfl)))<|?_
 refine ChMK.af R (CStep.calls R (O5 v k 1 ⟨((Bj x.asRest.tiedE ((p.m.split (p.off+a) (p.off+t))) false)++(Bj x.asRest ((p.m.split (p.off+t) (p.off+(a+w)))) true)), []⟩ hsv (Up (by simp only [List.length_append,Ew];omega)) (by omega)) (.cons R (.same R) (.cons R (.same R) (.cons R (.same R) (.cons R (.agg (.cons (.same R) (.cons (.nil 4) (.nil)))) (.nil))))))<|?_
 refine ChMK.frN R R (CStep.allocN 18 (l:= [.d (.v (.slice none 0 0)), .d (.v (.slice none 0 0))]) R Ba R R) (CStep.allocN 18 (l:= [.d (.v (.slice none 0 0)), .d (.v (.slice none 0 0))]) R Ba R R) (by exact rfl) (by exact rfl) R<|?_
 refine ChMK.nil ⟨⟨by kernel_rfl,by kernel_rfl,by kernel_rfl⟩, ?_⟩
 refine XL.step R (Ag (l':= [.d (.sl 13 ((A8 v k 1 ⟨((Bj x.asRest.tiedE ((p.m.split (p.off+a) (p.off+t))) false)++(Bj x.asRest ((p.m.split (p.off+t) (p.off+(a+w)))) true)), []⟩).evs.map Ev.c)), .d (.sl 4 ((A8 v k 1 ⟨((Bj x.asRest.tiedE ((p.m.split (p.off+a) (p.off+t))) false)++(Bj x.asRest ((p.m.split (p.off+t) (p.off+(a+w)))) true)), []⟩).tups.map Tp.c))]) R R R R Bu R lb (by kernel_rfl))<|?_
 refine zn<|zs<|zr<|zp (Ab R R A1)<|zp (Aa R R Br R R)<|XL.len R R R Tryz.underlying22 fun hl119=>zp (A5 R R R)<|zn<|?_
 refine zd R (fun c120=> ?_) (fun c120=> ?_)
 refine zr<|zp (Ae (s':= .d (.agg [.v (.slice none 0 0), .v (.slice none 0 0)])) (Ac (Be R Cg Ba R)) (by kernel_rfl))<|XL.step R (Ag (l':= [.d (.v (.slice none 0 0)), .d (.v (.slice none 0 0))]) R R R R Bu R lb (by kernel_rfl))<|za R R<|zn<|zt<|?_
 exact Bl R (RV.sub (RV.cells R R R Au lb R) (.agg (.cons (.nil 13) (.cons (.nil 4) (.nil))))) (RV.tmp R R) (r2v ((Jl hat hne hx hw).trans (Aql c54 c71 c89 (by first|exact Qw c99|exact Qx c99) c120)))
 have hof:=Sn (k:=k) (l:=_) hF (S3 (p:=p) (t:=t) (a:=a) (w:=w) hxf) hsv (by first|(rw [←Qw c99];exact c120)|(rw [←Qx c99];exact c120))
 first|rw [←Qw c99] at hof|rw [←Qx c99] at hof
 refine zi<|zr<|zp (Ae (s':= .d (.agg (Vo.c (A8 v k 1 ⟨((Bj x.asRest.tiedE ((p.m.split (p.off+a) (p.off+t))) false)++(Bj x.asRest ((p.m.split (p.off+t) (p.off+(a+w)))) true)), []⟩)))) (Ac (Ad R R Au R lb)) (by kernel_rfl))<|XL.call1 R R (Gp _ (by assumption)) R<|?_
 refine XL.step R (Ag (l':= [.d (.sl 13 ((A8 v k 1 ⟨((Bj x.asRest.tiedE ((p.m.split (p.off+a) (p.off+t))) false)++(Bj x.asRest ((p.m.split (p.off+t) (p.off+(a+w)))) true)), []⟩).evs.map Ev.c)), .d (.sl 4 ((A8 v k 1 ⟨((Bj x.asRest.tiedE ((p.m.split (p.off+a) (p.off+t))) false)++(Bj x.asRest ((p.m.split (p.off+t) (p.off+(a+w)))) true)), []⟩).tups.map Tp.c))]) R R R R Bu R lb (by kernel_rfl))<|?_
 refine za R R<|zn<|zt<|?_
 exact Bl R (RV.cells R R R Au lb R) (RV.tmp R R) (r2v ((Jl hat hne hx hw).trans (Aqk c54 c71 c89 (by first|exact Qw c99|exact Qx c99) c120)))
 refine zi<|zr<|zp (Ae (s':= .d (.agg (Ev.c x))) (Ac (Ad R R Ax R lb)) (by kernel_rfl))<|XL.step R (A0 17 (l:= [.d (dI 0), .d (dI 0), .d (dI 0), .d (dI 0), .d (dI 0), .d (.v (.slice none 0 0)), .d (.v (.slice none 0 0)), .d (dI 0), .d (dI 0), .d (dI 0), .d (.v (.slice none 0 0)), .d (dI 0), .d (dI 0)]) R Cm (by kernel_rfl))<|?_
 refine XL.step R (Ag (l':= [.d (dI x.site), .d (dI x.num), .d (dI x.kind), .d (dI x.v.log), .d (dI x.v.dots), .d (.sl 5 (x.heads.map Hd.c)), .d (.sl 5 (x.graces.map Gr.c)), .d (dI x.art), .d (dI x.orn), .d (dI x.dyn), .d (.sl 2 (x.lyr.map Sy.c)), .d (dI x.stem), .d (dI x.beam)]) R R R R Cd R lb (by kernel_rfl))<|znr<|zp (Ab R R Bi)<|zp (Aa R R Cx R R)<|?_
 refine XL.call1 R R (P2 _ (hxf.1)) R<|zp (Ab R R Bi)<|XL.step R (Ag (l':= [.d (dI x.site), .d (dI x.num), .d (dI x.kind), .d (dI x.v.log), .d (dI x.v.dots), .d (.sl 5 ((x.heads.map Hd.tie).map Hd.c)), .d (.sl 5 (x.graces.map Gr.c)), .d (dI x.art), .d (dI x.orn), .d (dI x.dyn), .d (.sl 2 (x.lyr.map Sy.c)), .d (dI x.stem), .d (dI x.beam)]) R R R R Ly R lb (by kernel_rfl))<|zn<|?_
 refine zs<|Mn 8 12 [7001,7002,18] (S.kill 7001) 7001 (Pg 7001) (by kernel_rfl) (by kernel_rfl) (by kernel_rfl) (by kernel_rfl) (by decide)<|ChMK.fr R R (CStep.pure (Ae (s':= .d (.agg (Vo.c v))) (Ac (Ad R R Au R lb)) (by kernel_rfl))) (CStep.pure (Ae (s':= .d (.agg (Vo.c v))) (Ac (Ad R R Au R lb)) (by kernel_rfl))) (by exact rfl)<|?_
 refine ChMK.fr R R (CStep.pure (A3 R (by conv=>lhs;whnf))) (CStep.pure (A3 R (by conv=>lhs;whnf))) (by exact rfl)<|?_
 refine ChMK.bf R (CStep.pure (Ae (s':= .d (.agg [dI x.site,dI x.num,dI x.kind,dI x.v.log,dI x.v.dots, .sl 5 ((x.heads.map Hd.tie).map Hd.c), .sl 5 (x.graces.map Gr.c),dI x.art,dI x.orn,dI x.dyn, .sl 2 (x.lyr.map Sy.c),dI x.stem,dI x.beam])) (Ac (Ad R R Ax R lb)) (by kernel_rfl))) (by conv=>lhs;whnf)<|?_
 refine ChMK.bf R (CStep.pure (A3 R (by conv=>lhs;whnf))) (by conv=>lhs;whnf)<|?_
 refine ChMK.bfO R (CStep.callS R ((M0 (x.tiedE) _ false hxf.tied (by omega)).lab 7001) R (Ft (by kernel_rfl))) (by conv=>lhs;whnf) (fun _ _=>Wc _ _)<|?_
 refine ChMK.bf R (CStep.pure (Ae (s':= .d (.agg (Ev.c x))) (Ac (Ad R R Ax R lb)) (by kernel_rfl))) (by conv=>lhs;whnf)<|?_
 refine ChMK.bf R (CStep.pure (A3 R (by conv=>lhs;whnf))) (by conv=>lhs;whnf)<|?_
 refine ChMK.bfN R (CStep.callS R ((M0 (x) _ true hxf (by omega)).lab 7002) R (Ft (by kernel_rfl))) (by conv=>lhs;whnf) R R<|?_
 refine ChMK.mu R (Wb (l2:=((Bj x.tiedE ((p.m.split (p.off+a) (p.off+t))) false)++(Bj x ((p.m.split (p.off+t) (p.off+(a+w)))) true)).map Ev.c) R Jt (.own R) (Src.own R) (by simp only [List.length_map,Ew];unfold maxLen;omega) (by simp only [List.length_map,Ew];omega) (Aet))<|?_
 refine ChMK.af R (CStep.pure (Ae (s':= .d (.agg [.sl 13 (((Bj x.tiedE ((p.m.split (p.off+a) (p.off+t))) false)++(Bj x ((p.m.split (p.off+t) (p.off+(a+w)))) true)).map Ev.c), .v (.slice none 0 0)])) (Ac (Be R Cg Ba R)) (by kernel_rfl)))<|?_
 refine ChMK.af R (CStep.calls R (O5 v k 1 ⟨((Bj x.tiedE ((p.m.split (p.off+a) (p.off+t))) false)++(Bj x ((p.m.split (p.off+t) (p.off+(a+w)))) true)), []⟩ hsv (Up (by simp only [List.length_append,Ew];omega)) (by omega)) (.cons R (.same R) (.cons R (.same R) (.cons R (.same R) (.cons R (.agg (.cons (.same R) (.cons (.nil 4) (.nil)))) (.nil))))))<|?_
 refine ChMK.frN R R (CStep.allocN 18 (l:= [.d (.v (.slice none 0 0)), .d (.v (.slice none 0 0))]) R Ba R R) (CStep.allocN 18 (l:= [.d (.v (.slice none 0 0)), .d (.v (.slice none 0 0))]) R Ba R R) (by exact rfl) (by exact rfl) R<|?_
 refine ChMK.nil ⟨⟨by kernel_rfl,by kernel_rfl,by kernel_rfl⟩, ?_⟩
 refine XL.step R (Ag (l':= [.d (.sl 13 ((A8 v k 1 ⟨((Bj x.tiedE ((p.m.split (p.off+a) (p.off+t))) false)++(Bj x ((p.m.split (p.off+t) (p.off+(a+w)))) true)), []⟩).evs.map Ev.c)), .d (.sl 4 ((A8 v k 1 ⟨((Bj x.tiedE ((p.m.split (p.off+a) (p.off+t))) false)++(Bj x ((p.m.split (p.off+t) (p.off+(a+w)))) true)), []⟩).tups.map Tp.c))]) R R R R Bu R lb (by kernel_rfl))<|?_
 refine zn<|zs<|zr<|zp (Ab R R A1)<|zp (Aa R R Br R R)<|XL.len R R R Tryz.underlying22 fun hl119=>zp (A5 R R R)<|zn<|?_
 refine zd R (fun c120=> ?_) (fun c120=> ?_)
 refine zr<|zp (Ae (s':= .d (.agg [.v (.slice none 0 0), .v (.slice none 0 0)])) (Ac (Be R Cg Ba R)) (by kernel_rfl))<|XL.step R (Ag (l':= [.d (.v (.slice none 0 0)), .d (.v (.slice none 0 0))]) R R R R Bu R lb (by kernel_rfl))<|za R R<|zn<|zt<|?_
 exact Bl R (RV.sub (RV.cells R R R Au lb R) (.agg (.cons (.nil 13) (.cons (.nil 4) (.nil))))) (RV.tmp R R) (r2v ((Jl hat hne hx hw).trans (Aql c54 c71 c89 (by first|exact Qw c99|exact Qx c99) c120)))
 have hof:=Sn (k:=k) (l:=_) hF (S3 (p:=p) (t:=t) (a:=a) (w:=w) hxf) hsv (by first|(rw [←Qw c99];exact c120)|(rw [←Qx c99];exact c120))
 first|rw [←Qw c99] at hof|rw [←Qx c99] at hof
 refine zi<|zr<|zp (Ae (s':= .d (.agg (Vo.c (A8 v k 1 ⟨((Bj x.tiedE ((p.m.split (p.off+a) (p.off+t))) false)++(Bj x ((p.m.split (p.off+t) (p.off+(a+w)))) true)), []⟩)))) (Ac (Ad R R Au R lb)) (by kernel_rfl))<|XL.call1 R R (Gp _ (by assumption)) R<|?_
 refine XL.step R (Ag (l':= [.d (.sl 13 ((A8 v k 1 ⟨((Bj x.tiedE ((p.m.split (p.off+a) (p.off+t))) false)++(Bj x ((p.m.split (p.off+t) (p.off+(a+w)))) true)), []⟩).evs.map Ev.c)), .d (.sl 4 ((A8 v k 1 ⟨((Bj x.tiedE ((p.m.split (p.off+a) (p.off+t))) false)++(Bj x ((p.m.split (p.off+t) (p.off+(a+w)))) true)), []⟩).tups.map Tp.c))]) R R R R Bu R lb (by kernel_rfl))<|?_
 refine za R R<|zn<|zt<|?_
 exact Bl R (RV.cells R R R Au lb R) (RV.tmp R R) (r2v ((Jl hat hne hx hw).trans (Aqk c54 c71 c89 (by first|exact Qw c99|exact Qx c99) c120)))
def J3 (v:Vo) (p:Pl) (t:Int):Vo × Int:=if p.chk v≠0 then (⟨[], []⟩,p.chk v) else if v.absent then (⟨[], []⟩,10) else if t<0∨p.len<t then (⟨[], []⟩,2) else Aj v p t
theorem Asv {v:Vo} {p:Pl} {t:Int} (h:p.chk v≠0):J3 v p t=(⟨[], []⟩,p.chk v):=by rw [J3,if_pos h]
theorem Asu {v:Vo} {p:Pl} {t:Int} (h:¬p.chk v≠0) (h2:v.absent):J3 v p t=(⟨[], []⟩,10):=by rw [J3,if_neg h,if_pos h2]
theorem Aqx {v:Vo} {p:Pl} {t:Int} (h:¬p.chk v≠0) (h2:¬v.absent) (h3:t<0∨p.len<t):J3 v p t=(⟨[], []⟩,2):=by rw [J3,if_neg h,if_neg h2,if_pos h3]
theorem Aqw {v:Vo} {p:Pl} {t:Int} (h:¬p.chk v≠0) (h2:¬v.absent) (h3:¬(t<0∨p.len<t)):J3 v p t=Aj v p t:=by rw [J3,if_neg h,if_neg h2,if_neg h3]
theorem Wx (v:Vo) (p:Pl) (t:Int) (hE:Evs v.evs) (hF:v.fit):XC Tryz.prog 15 [.agg (Vo.c v), .agg (Pl.c p), .v (.int .i64 t)] (fun r=>r= .tup [.agg (Vo.c (J3 v p t).1),dI (J3 v p t).2]):=by
 refine Ao Ady Tryz.func15 R R lb<|zr<|XL.step R (As 3 (l:= [.d (.sl 13 (v.evs.map Ev.c)), .d (.sl 4 (v.tups.map Tp.c))]) R R (by kernel_rfl))<|XL.step R (As 4 (l:= [.d (dI p.m.count), .d (dI p.m.unit), .d (dI p.m.g0), .d (dI p.m.g1), .d (dI p.m.g2), .d (dI p.m.g3), .d (dI p.m.g4), .d (dI p.m.g5), .d (dI p.off), .d (dI p.len)]) R R (by kernel_rfl))<|?_
 refine XL.step R (A0 6 (l:= [.d (.v (.slice none 0 0)), .d (.v (.slice none 0 0))]) R Ba (by kernel_rfl))<|za R R<|zn<|zs<|zr<|zp (Ae (s':= .d (.agg (Pl.c p))) (Ac (Ad R R Fu R lb)) (by kernel_rfl))<|zp (Ae (s':= .d (.agg (Vo.c v))) (Ac (Ad R R Au R lb)) (by kernel_rfl))<|XL.call1 R R (O7 _ _ (by assumption)) R<|za R R<|znr<|?_
 refine zm R R<|zp (A9 R R R)<|zn<|?_
 refine zd R (fun c13=> ?_) (fun c13=> ?_)
 refine zr<|zp (Ae (s':= .d (.agg [.v (.slice none 0 0), .v (.slice none 0 0)])) (Ac (Be R Cg Ba R)) (by kernel_rfl))<|zm R R<|XL.step R (Ag (l':= [.d (.v (.slice none 0 0)), .d (.v (.slice none 0 0))]) R R R R Bu R lb (by kernel_rfl))<|za R R<|zn<|zt<|?_
 exact Bl R (RV.sub (RV.cells R R R Au lb R) (.agg (.cons (.nil 13) (.cons (.nil 4) (.nil))))) (RV.tmp R R) (r2v (Asv c13))
 refine zi<|zs<|Ai<|zr<|zp (Ae (s':= .d (.agg (Vo.c v))) (Ac (Ad R R Au R lb)) (by kernel_rfl))<|XL.call1 R R (Tc _) R<|za R R<|zn<|?_
 refine zd R (fun c16=> ?_) (fun c16=> ?_)
 refine zr<|zp (Ae (s':= .d (.agg [.v (.slice none 0 0), .v (.slice none 0 0)])) (Ac (Be R Cg Ba R)) (by kernel_rfl))<|XL.step R (Ag (l':= [.d (.v (.slice none 0 0)), .d (.v (.slice none 0 0))]) R R R R Bu R lb (by kernel_rfl))<|za R R<|zn<|zt<|?_
 exact Bl R (RV.sub (RV.cells R R R Au lb R) (.agg (.cons (.nil 13) (.cons (.nil 4) (.nil))))) (RV.tmp R R) (r2v (Asu c13 c16))
 refine zr<|zm R R<|zp (Aq R R R)<|zm R R<|?_
 refine XL.dec 23 R (fun g23=> ?_) (fun g23=> ?_)
 refine zk 4 R<|zq R R R<|za R R<|zn<|An (by kernel_rfl) R<|zr<|zp (Ae (s':= .d (.agg [.v (.slice none 0 0), .v (.slice none 0 0)])) (Ac (Be R Cg Ba R)) (by kernel_rfl))<|XL.step R (Ag (l':= [.d (.v (.slice none 0 0)), .d (.v (.slice none 0 0))]) R R R R Bu R lb (by kernel_rfl))<|za R R<|zn<|zt<|?_
 exact Bl R (RV.sub (RV.cells R R R Au lb R) (.agg (.cons (.nil 13) (.cons (.nil 4) (.nil))))) (RV.tmp R R) (r2v (Aqx c13 c16 (by omega)))
 refine zm R R<|zp (Ab R R Hg)<|zp (Aa R R Ah R R)<|zp (A5 R R R)<|zq R R R<|za R R<|zn<|?_
 refine zd R (fun c20=> ?_) (fun c20=> ?_)
 refine zr<|zp (Ae (s':= .d (.agg [.v (.slice none 0 0), .v (.slice none 0 0)])) (Ac (Be R Cg Ba R)) (by kernel_rfl))<|XL.step R (Ag (l':= [.d (.v (.slice none 0 0)), .d (.v (.slice none 0 0))]) R R R R Bu R lb (by kernel_rfl))<|za R R<|zn<|zt<|?_
 exact Bl R (RV.sub (RV.cells R R R Au lb R) (.agg (.cons (.nil 13) (.cons (.nil 4) (.nil))))) (RV.tmp R R) (r2v (Aqx c13 c16 (by omega)))
 refine zi<|zs<|?_
 have hc0:p.chk v=0:=by omega
 refine Af (by kernel_rfl)<|zp (Ae (s':= .d (.agg (Vo.c v))) (Ac (Ad R R Au R lb)) (by kernel_rfl))<|zp (Ae (s':= .d (.agg (Pl.c p))) (Ac (Ad R R Fu R lb)) (by kernel_rfl))<|zm R R<|XL.call1 R R (Qy _ _ _ (by assumption) (by assumption) (by assumption)) R<|zp (A6 R R R)<|zp (A6 R R R)<|?_
 refine XL.step R (Ag (l':= [.d (.sl 13 (((Aj v p t).1).evs.map Ev.c)), .d (.sl 4 (((Aj v p t).1).tups.map Tp.c))]) R R R R Bu R lb (by kernel_rfl))<|za R R<|zn<|zt<|?_
 exact Bl R (RV.cells R R R Au lb R) (RV.tmp R R) (by rw [←Aqw c13 c16 (by omega)];rfl)
end Go.Proofs.YtcihalbakenleaaGreat
namespace Go.Proofs.YtcihalbakenleaaGreat
theorem H8 (x:Int) (l:List Int):tot (x::l)=x+tot l:=by
 have h:∀(l:List Int) (a:Int),l.foldl (· + ·) a=a+tot l:=by
  intro l
  induction l with
  |nil=>intro a;show a=a+0;omega
  |cons y l ih=>
   intro a
   rw [List.foldl_cons,ih]
   show a+y+tot l=a+List.foldl (· + ·) 0 (y::l)
   rw [List.foldl_cons,ih];omega
 unfold tot
 rw [List.foldl_cons,h]
 show 0+x+tot l=x+tot l
 omega
theorem Ku:tot []=0:=rfl
theorem Hn (a b:List Int):tot (a++b)=tot a+tot b:=by
 induction a with
 |nil=>rw [List.nil_append,Ku];omega
 |cons x a ih=>rw [List.cons_append,H8,H8,ih];omega
theorem Oe (a b:List Ev):wrS (a++b)=wrS a++wrS b:=List.map_append
theorem Gc (a:List Ev):(wrS a).length=a.length:=List.length_map _
theorem Xj (a:List Ev) (k:Nat):wrS (a.take k)=(wrS a).take k:=List.map_take
theorem Xk (a:List Ev) (k:Nat):wrS (a.drop k)=(wrS a).drop k:=List.map_drop
structure VL (v:Vo) (ls:List Int):Prop where
 tl:TL v.tups (wrS v.evs) ls
 ev:∀e∈v.evs,e.err=0∧e.kind≠3
def Vo.rest (v:Vo):Prop:=v.whole∧v.evs.length=1
instance (v:Vo):Decidable v.rest:=by unfold Vo.rest;exact inferInstance
theorem inGo_zero {n:Nat}:∀{l:List Ev} {k:Nat},D7 n k l=0↔∀j e,l[j]? =some e→e.err=0∧¬(e.kind=3∧(0<k+j∨1<n))
 | [],k=>⟨fun _ j e h=>by simp at h,fun _=>rfl⟩
 |e::r,k=>by
  rw [D7]
  split
  ·rename_i c
   exact ⟨fun h=>absurd h c,fun h=>absurd (h 0 e rfl).1 c⟩
  ·rename_i c
   split
   ·rename_i c2
    exact ⟨fun h=>by omega,fun h=>absurd c2 (h 0 e rfl).2⟩
   ·rename_i c2
    rw [inGo_zero]
    constructor
    ·intro h j x hj
     cases j with
     |zero=>cases hj;exact ⟨Decidable.not_not.1 c,c2⟩
     |succ j=>have:=h j x hj;exact ⟨this.1,fun k=>this.2 ⟨k.1,by omega⟩⟩
    ·intro h j x hj
     have:=h (j+1) x hj;exact ⟨this.1,fun k=>this.2 ⟨k.1,by omega⟩⟩
theorem innE_zero {v:Vo}:D1 v=0↔D7 v.evs.length 0 v.evs=0∧Cr v.tups (wrS v.evs)=0∧Fc v.tups (wrS v.evs)=0:=by
 unfold D1
 split
 ·omega
 ·split
  ·omega
  ·split<;>omega
theorem Aex {v:Vo} {ls:List Int} (h:¬v.rest):(D1 v=0∧ls=Fo v)↔VL v ls:=by
 rw [innE_zero]
 constructor
 ·rintro ⟨⟨h1,h2,h3⟩,h4⟩
  have h0:D1 v=0:=innE_zero.2 ⟨h1,h2,h3⟩
  rw [Fo,if_pos h0] at h4
  refine ⟨TL_iff.2 ⟨h2,h3,h4⟩,fun e he=> ?_⟩
  obtain ⟨j,hj⟩:=List.getElem?_of_mem he
  have h5:=inGo_zero.1 h1 j e hj
  refine ⟨h5.1,fun k=> ?_⟩
  have h6:=fun q=>h5.2 ⟨k,q⟩
  have hl:=(List.getElem?_eq_some_iff.1 hj).1
  have:j=0∧v.evs.length=1:=by omega
  rw [this.1] at hj
  exact h ⟨(Gu hj).2 k,this.2⟩
 ·intro hv
  obtain ⟨h2,h3,h4⟩:=TL_iff.1 hv.tl
  have h1:D7 v.evs.length 0 v.evs=0:=inGo_zero.2 fun j e hj=>by
   have:=hv.ev e (List.mem_of_getElem? hj)
   exact ⟨this.1,fun k=>this.2 k.1⟩
  refine ⟨⟨h1,h2,h3⟩, ?_⟩
  rw [Fo,if_pos (innE_zero.2 ⟨h1,h2,h3⟩)];exact h4
theorem VL.norest {v:Vo} {ls:List Int} (h:VL v ls):¬v.rest:=fun k=>by
 obtain ⟨e,he⟩:∃e,v.evs[0]? =some e:=Ap (by rw [k.2];omega)
 exact (h.ev e (List.mem_of_getElem? he)).2 ((Gu he).1 k.1)
theorem VL.len {v:Vo} {ls:List Int} (h:VL v ls):ls.length=v.evs.length:=by rw [h.tl.ls,Ig,Gc]
theorem VL.evs {v:Vo} {ls:List Int} (h:VL v ls):v.evs.length≤128:=by have:=h.tl.wl;rwa [Gc] at this
theorem VL.inn {v:Vo} {ls:List Int} (h:VL v ls):D1 v=0∧Fo v=ls:=by have:=(Aex h.norest).2 h;exact ⟨this.1,this.2.symm⟩
theorem Jo {v:Vo} {L:Int} {ls:List Int} (h:¬v.rest):(ckE v L=0∧ls=ckL v L)↔1≤L∧L≤15482880∧VL v ls∧(v.evs≠ []→tot ls=L):=by
 have hz:∀l:List Ev,l= []↔l.length=0:=fun l=>by cases l<;>simp
 constructor
 ·rintro ⟨h1,h2⟩
  obtain ⟨h3,h4⟩:=Oq h1
  obtain ⟨h5,_,h6,h7⟩:=len_ok h3
  have h8:Ca v L=D1 v:=by rw [Ca,if_neg (by omega),if_neg (by omega),if_neg (show ¬(v.whole∧v.evs.length=1) from h)]
  have h9:D6 v L=Fo v:=by rw [D6,if_neg (by omega),if_neg (show ¬(v.whole∧v.evs.length=1) from h)]
  have hv:VL v ls:=(Aex h).1 ⟨by omega,by rw [h2,h4,h9]⟩
  refine ⟨h6,h7,hv,fun hne=> ?_⟩
  rw [h2,h4]
  unfold ckE at h1
  split at h1
  ·omega
  ·rename_i c
   refine Decidable.not_not.1 fun k=>c ⟨h3, ?_,k⟩
   rw [h9,hv.inn.2,hv.len]
   have:=(not_congr (hz v.evs)).1 hne;omega
 ·rintro ⟨h6,h7,hv,ht⟩
  obtain ⟨h1,h2⟩:=hv.inn
  have h5:=hv.evs
  have h8:Ca v L=0:=by rw [Ca,if_neg (by omega),if_neg (by omega),if_neg (show ¬(v.whole∧v.evs.length=1) from h)];exact h1
  have h9:D6 v L=ls:=by rw [D6,if_neg (by omega),if_neg (show ¬(v.whole∧v.evs.length=1) from h)];exact h2
  have h10:ckE v L=0:=by
   rw [ckE,if_neg]
   ·exact h8
   ·rintro ⟨_,k1,k2⟩
    rw [h9] at k1 k2
    rw [hv.len] at k1
    exact k2 (ht fun e=>by rw [hz] at e;omega)
  exact ⟨h10,by rw [ckL,if_neg (by omega),h9]⟩
theorem Kc {v:Vo} {L:Int} (h:v.rest) (h1:ckE v L=0):v.tups= []∧ckL v L= [L]∧∃e,v.evs= [e]∧e.err=0∧e.kind=3:=by
 obtain ⟨h3,h4⟩:=Oq h1
 obtain ⟨h5,h2,h6,h7⟩:=len_ok h3
 have h':=h
 obtain ⟨hw,hl⟩:=h
 cases hv:v.evs with
 |nil=>rw [hv] at hl;cases hl
 |cons e l=>
  have hl2:l= []:=by rw [hv] at hl;exact List.eq_nil_of_length_eq_zero (by simpa using hl)
  subst hl2
  have he:v.evs[0]? =some e:=by rw [hv];rfl
  have:=Xb (L:=L) (by omega) (by omega) (by omega) hw (by omega) he
  rw [h3] at this
  refine ⟨?_,by rw [h4,D6,if_neg (by omega),if_pos (show v.whole∧v.evs.length=1 from h')],e,rfl, ?_,(Gu he).1 hw⟩
  ·by_cases c:e.err≠0
   ·rw [if_pos c] at this;exact absurd this.symm c
   ·rw [if_neg c] at this
    by_cases c2:0<v.tups.length
    ·rw [if_pos c2] at this;omega
    ·exact List.eq_nil_of_length_eq_zero (by omega)
  ·by_cases c:e.err≠0
   ·rw [if_pos c] at this;exact absurd this.symm c
   ·exact Decidable.not_not.1 c
def partV (v:Vo) (a n:Nat):Vo:=⟨(v.evs.drop a).take n,(v.tups.filter fun t=>decide ((a:Int)≤t.first∧t.first<(a:Int)+n)).map (Tp.mv (-a))⟩
theorem VL.repl {v x:Vo} {ls lx:List Int} {a n:Nat} (h:VL v ls) (ha:a+n≤v.evs.length) (h1:M9 v.tups a) (h2:M9 v.tups ((a:Int)+n)) (hx:VL x lx) (hc:v.evs.length - n+x.evs.length≤128)
  (ht:(A8 v a n x).tups.length≤16):VL (A8 v a n x) (ls.take a++lx++ls.drop (a+n)):=by
 have hwl:=Gc v.evs
 obtain ⟨hA,_⟩:=h.tl.cut (a:=a) (by rw [hwl];omega) h1
 obtain ⟨_,hC⟩:=h.tl.cut (a:=a+n) (by rw [hwl];exact ha) (by rw [Int.natCast_add];exact h2)
 have hXC:=TL.app hx.tl hC (by rw [List.length_drop,hwl,Gc];omega)
 have e0:B5 (fun t=>decide (t.first<(a:Int))) 0 v.tups=v.tups.filter fun t=>decide (t.first<(a:Int)):=by
  unfold B5
  rw [show Tp.mv 0=id from funext Re,List.map_id]
 have e1:(B5 (fun t=>decide ((a:Int)+n≤t.first)) (x.evs.length - n) v.tups)=((((v.tups.filter fun t=>decide (((a+n:Nat):Int)≤t.first)).map (Tp.mv (-((a+n:Nat):Int)))).map (Tp.mv (wrS x.evs).length)).map (Tp.mv ((wrS v.evs).take a).length)):=by
  unfold B5
  rw [List.map_map,List.map_map,show (((wrS v.evs).take a).length)=a from by rw [List.length_take,hwl];omega,Gc]
  have:(Tp.mv (a:Int))∘((Tp.mv (x.evs.length:Int))∘Tp.mv (-((a+n:Nat):Int)))=Tp.mv (x.evs.length - n):=by
   funext t
   show ((t.mv _).mv _).mv _=_
   rw [Xa,Xa];congr 1;omega
  rw [show ((Tp.mv (a:Int))∘(Tp.mv (x.evs.length:Int)))∘Tp.mv (-((a+n:Nat):Int))=Tp.mv (x.evs.length - n) from this,Int.natCast_add]
 have e2:B5 (fun _=>true) a x.tups=x.tups.map (Tp.mv ((wrS v.evs).take a).length):=by
  unfold B5
  rw [List.filter_eq_self.2 (fun _ _=>rfl),show (((wrS v.evs).take a).length)=a from by rw [List.length_take,hwl];omega]
 have et:(A8 v a n x).tups=(v.tups.filter fun t=>decide (t.first<(a:Int)))++(x.tups++((v.tups.filter fun t=>decide (((a+n:Nat):Int)≤t.first)).map (Tp.mv (-((a+n:Nat):Int)))).map (Tp.mv (wrS x.evs).length)).map (Tp.mv ((wrS v.evs).take a).length):=by
  show B5 _ 0 v.tups++B5 _ a x.tups++B5 _ _ v.tups=_
  rw [e0,e1,e2,List.map_append,List.append_assoc]
 have ht2:=ht
 rw [et,List.length_append,List.length_map] at ht2
 have hXC:=hXC (by rw [List.length_append,List.length_map] at ht2;omega)
 have hall:=TL.app hA hXC (by rw [List.length_take,List.length_append,List.length_drop,hwl,Gc];omega) ht2
 refine ⟨?_,fun e he=> ?_⟩
 ·rw [et]
  have:wrS (A8 v a n x).evs=(wrS v.evs).take a++(wrS x.evs++(wrS v.evs).drop (a+n)):=by
   show wrS (v.evs.take a++x.evs++v.evs.drop (a+n))=_
   rw [Oe,Oe,Xj,Xk,List.append_assoc]
  rw [this,List.append_assoc];exact hall
 ·rcases List.mem_append.1 he with k|k
  ·rcases List.mem_append.1 k with k|k
   ·exact h.ev e (List.mem_of_mem_take k)
   ·exact hx.ev e k
  ·exact h.ev e (List.mem_of_mem_drop k)
theorem Alb {d:Int} (h:Km d=0):C1 (Ej d)=0∧Ct (Ej d)=d:=by
 unfold Km at h
 split at h
 ·omega
 ·rename_i c
  cases hf:Jj d U8 with
  |none=>exact absurd hf c
  |some v=>
   have e:Ej d=v:=by rw [Ej,hf];rfl
   rw [e]
   have h1:=List.mem_of_find?_eq_some hf
   have h2:=List.find?_some hf
   obtain ⟨q,_,rfl⟩:=List.mem_map.1 h1
   exact ⟨(Vd (Xp q.2)).symm,by simpa using h2⟩
theorem Ai2:Km 7560=0:=by decide+kernel
theorem Ahg {m:Me} {a:Int}:∀k,0<k→(Fd m a k).2.2=true
 |k+1,_=>by
  by_cases c:(Fd m a k).2.2=false∨m.level (a+7560*(k+1))<(Fd m a k).2.1
  ·rw [Iz c]
  ·rw [Fd,if_neg c]
   cases e:(Fd m a k).2.2 with
   |true=>rfl
   |false=>exact absurd (.inl e) c
theorem Abz {m:Me} {a b:Int} (h:(m.strong a b).2.2=false):Dz a b=0:=by
 by_cases c:Dz a b=0
 ·exact c
 ·have:=Ahg (m:=m) (a:=a) (Dz a b) (by omega)
  rw [show Fd m a (Dz a b)=m.strong a b from rfl,h] at this
  cases this
theorem Oz {m:Me}:∀(f:Nat) (a b:Int),SpP f a b→a % 7560=0→b % 7560=0→tot ((Ec m f a b).map Ct)=b - a∧∀v∈Ec m f a b,C1 v=0
 |0,a,b,h,_,_=>by have:=h.2.2.2.2;omega
 |f+1,a,b,h,ha,hb=>by
  by_cases c:a=b
  ·rw [C6 c];exact ⟨by show (0:Int)=b - a;omega,fun v hv=>by cases hv⟩
  ·by_cases c2:m.simp a b∨(m.strong a b).2.2=false
   ·rw [C5 c c2]
    have h0:Km (b - a)=0:=by
     rcases c2 with k|k
     ·exact k.1
     ·have k2:=Abz k
      have:=h.2.1
      unfold Dz at k2
      have:b - a=7560:=by omega
      rw [this];exact Ai2
    obtain ⟨h1,h2⟩:=Alb h0
    refine ⟨?_,fun v hv=>by rw [List.mem_singleton.1 hv];exact h1⟩
    rw [List.map_singleton,h2,H8,Ku];omega
   ·have hs:¬m.simp a b:=fun k=>c2 (.inl k)
    have hw:(m.strong a b).2.2=true:=by
     cases e:(m.strong a b).2.2 with
     |true=>rfl
     |false=>exact absurd (.inr e) c2
    obtain ⟨h1,h2,_⟩:=Hz h hw
    obtain ⟨j,_,hj⟩:=Vj hw
    obtain ⟨q1,q2⟩:=Oz f _ _ h1 ha (by rw [hj];omega)
    obtain ⟨q3,q4⟩:=Oz f _ _ h2 (by rw [hj];omega) hb
    rw [C7 c hs hw,List.map_append,Hn]
    refine ⟨by rw [q1,q3];omega,fun v hv=> ?_⟩
    rcases List.mem_append.1 hv with k|k
    ·exact q2 v k
    ·exact q4 v k
theorem Ahi {m:Me} {a b:Int} (h:m.splitE a b=0):m.err=0∧0≤a∧a≤b∧b≤4398046511104∧a % 7560=0∧b % 7560=0∧b - a≤15482880∧m.split a b=Ec m (Dz a b+1) a b:=by
 have hs:m.split a b=Ec m (Dz a b+1) a b:=by rw [Me.split,if_pos h]
 unfold Me.splitE at h
 split at h
 ·omega
 ·split at h
  ·omega
  ·split at h
   ·omega
   ·split at h
    ·omega
    ·exact ⟨by omega,by omega,by omega,by omega,by omega,by omega,by omega,hs⟩
theorem Li {m:Me} {a b:Int} (h:m.splitE a b=0):tot ((m.split a b).map Ct)=b - a∧∀v∈m.split a b,C1 v=0:=by
 obtain ⟨_,h1,h2,h3,h4,h5,h6,h7⟩:=Ahi h
 rw [h7]
 exact Oz _ a b ⟨h1,h2,h3,h6,Nat.le_refl _⟩ h4 h5
theorem err_iff {e:Ev}:e.err=0↔e.e1=0∧(1≤e.kind∧e.kind≤4)∧e.same e.strip∧(e.kind≠3→C1 e.v=0)∧(e.kind=1→e.e2=0)∧e.e3=0:=by
 unfold Ev.err
 split
 ·rename_i c;exact ⟨fun h=>absurd h c,fun h=>absurd h.1 c⟩
 ·rename_i c
  split
  ·rename_i c2;exact ⟨fun h=>by omega,fun h=>absurd h.2.1 c2⟩
  ·rename_i c2
   split
   ·rename_i c3;exact ⟨fun h=>by omega,fun h=>absurd h.2.2.1 c3⟩
   ·rename_i c3
    split
    ·rename_i c4;exact ⟨fun h=>by omega,fun h=>absurd (h.2.2.2.1 c4.1) c4.2⟩
    ·rename_i c4
     split
     ·rename_i c5;exact ⟨fun h=>absurd h c5.2,fun h=>absurd (h.2.2.2.2.1 c5.1) c5.2⟩
     ·rename_i c5
      refine ⟨fun h=>⟨Decidable.not_not.1 c,Decidable.not_not.1 c2,Decidable.not_not.1 c3,fun k=>Decidable.not_not.1 fun j=>c4 ⟨k,j⟩,fun k=>Decidable.not_not.1 fun j=>c5 ⟨k,j⟩,h⟩,fun h=>h.2.2.2.2.2⟩
theorem first_zero {l:List Int}:Cq l=0↔∀x∈l,x=0:=by
 induction l with
 |nil=>simp [Cq]
 |cons x l ih=>
  rw [Cq]
  by_cases h:x=0
  ·rw [if_neg (by omega),ih];simp [h]
  ·rw [if_pos h];simp [h]
theorem Abw {n m:Int}:Bk n m=0↔0≤n∧n≤m:=by
 unfold Bk
 split<;>omega
theorem Ry {f:Hd→Hd} (hp:∀h,(f h).p=h.p):∀{l:List Hd} {n:Int},(∀h∈l,Bk h.sh 2=0→Bk (f h).sh 2=0)→Eb n l=0→Eb n (l.map f)=0
 | [],n,_,_=>rfl
 |h::t,n,hf,h0=>by
  rw [Eb] at h0
  rw [List.map_cons,Eb,hp]
  split at h0
  ·rename_i c;exact absurd h0 c
  ·rename_i c
   split at h0
   ·omega
   ·rename_i c2
    have hw:Hj h=0:=Decidable.not_not.1 c
    have hw2:Hj (f h)=0:=by
     unfold Hj at hw ⊢
     rw [first_zero] at hw ⊢
     intro x hx
     have h1:=hw h.p.err (by simp)
     have h2:=hf h List.mem_cons_self (hw _ (by simp))
     rw [hp] at hx
     simp only [List.mem_cons,List.not_mem_nil,or_false] at hx
     rcases hx with e|e
     ·rw [e];exact h1
     ·rw [e];exact h2
    rw [if_neg (by omega),if_neg c2]
    exact Ry hp (fun x hx=>hf x (List.mem_cons_of_mem _ hx)) h0
theorem Qu {f:Hd→Hd} (hp:∀h,(f h).p=h.p) {l:List Hd} (hf:∀h∈l,Bk h.sh 2=0→Bk (f h).sh 2=0) (h:Cf l=0):Cf (l.map f)=0:=by
 unfold Cf at h ⊢
 rw [List.length_map]
 split at h
 ·omega
 ·split at h
  ·omega
  ·rename_i c1 c2
   rw [if_neg c1,if_neg c2];exact Ry hp hf h
theorem Ev.err_put {x:Ev} (h:x.err=0) (hk:x.kind≠3) {v:Val} (hv:C1 v=0) (t:Bool):(x.put v t).err=0:=by
 rw [err_iff] at h ⊢
 obtain ⟨h1,h2,h3,h4,h5,h6⟩:=h
 refine ⟨h1,h2, ?_,fun _=>hv,fun k=> ?_,h6⟩
 ·by_cases c:x.kind=1
  ·have:(x.put v t).strip=x.put v t:=(Q8 (e:=x.put v t) c).symm
   rw [this];exact ⟨rfl,rfl,rfl,rfl,rfl,rfl,rfl,rfl,rfl,rfl⟩
  ·have hs:x.strip=⟨x.site,x.num,x.kind,x.v, [], [],if x.kind≠4 then D3 x.art else 0,0,x.dyn, [],0,0⟩:=by rw [Ev.strip,if_neg (by omega),if_pos hk]
   have hs2:(x.put v t).strip=⟨x.site,x.num,x.kind,v, [], [],if x.kind≠4 then D3 x.art else 0,0,x.dyn, [],0,0⟩:=by
    have:¬((x.put v t).kind=1∨¬(1≤(x.put v t).kind∧(x.put v t).kind≤4)):=by show ¬(x.kind=1∨¬(1≤x.kind∧x.kind≤4));omega
    rw [Ev.strip,if_neg this,if_pos (show (x.put v t).kind≠3 from hk)];rfl
   rw [hs] at h3
   rw [hs2]
   obtain ⟨k1,k2,k3,k4,k5,k6,k7,k8,k9,k10⟩:=h3
   refine ⟨k1,rfl,k3,k4,k5,k6,k7, ?_,k9,k10⟩
   show (if t then x.heads.map Hd.tie else x.heads)= []
   rw [show x.heads= [] from k8];cases t<;>rfl
 ·have:=h5 k
  unfold Ev.e2 at this ⊢
  rw [first_zero] at this ⊢
  intro y hy
  simp only [List.mem_cons,List.not_mem_nil,or_false] at hy
  rcases hy with e|e|e
  ·rw [e]
   have h7:=this (Cf x.heads) (by simp)
   show Cf (if t then x.heads.map Hd.tie else x.heads)=0
   cases t with
   |false=>exact h7
   |true=>exact Qu (f:=Hd.tie) (fun _=>rfl) (fun _ _ j=>j) h7
  ·rw [e];exact this _ (by simp [Ev.put])
  ·rw [e];exact this _ (by simp [Ev.put])
theorem Ev.err_further {x:Ev} (h:x.err=0) (hk:x.kind≠3):x.further.err=0:=by
 rw [err_iff] at h ⊢
 obtain ⟨h1,h2,h3,h4,h5,h6⟩:=h
 have h6':=first_zero.1 h6
 refine ⟨by rfl,h2, ?_,fun _=>by rfl,fun k=> ?_, ?_⟩
 ·by_cases c:x.kind=1
  ·have:x.further.strip=x.further:=(Q8 (e:=x.further) c).symm
   rw [this];exact ⟨rfl,rfl,rfl,rfl,rfl,rfl,rfl,rfl,rfl,rfl⟩
  ·have hs:x.strip=⟨x.site,x.num,x.kind,x.v, [], [],if x.kind≠4 then D3 x.art else 0,0,x.dyn, [],0,0⟩:=by rw [Ev.strip,if_neg (by omega),if_pos hk]
   have hs2:x.further.strip=⟨0,0,x.kind,⟨0,0⟩, [], [],if x.kind≠4 then D3 0 else 0,0,0, [],0,0⟩:=by
    have:¬(x.further.kind=1∨¬(1≤x.further.kind∧x.further.kind≤4)):=by show ¬(x.kind=1∨¬(1≤x.kind∧x.kind≤4));omega
    rw [Ev.strip,if_neg this,if_pos (show x.further.kind≠3 from hk)];rfl
   rw [hs] at h3
   rw [hs2]
   obtain ⟨k1,k2,k3,k4,k5,k6,k7,k8,k9,k10⟩:=h3
   refine ⟨rfl,rfl, ?_,rfl,rfl,k6,rfl, ?_,rfl,rfl⟩
   ·show (0:Int)=if x.kind≠4 then D3 0 else 0
    split<;>rfl
   ·show x.heads.map Hd.plain= []
    rw [show x.heads= [] from k8];rfl
 ·have:=h5 k
  unfold Ev.e2 at this ⊢
  rw [first_zero] at this ⊢
  intro y hy
  simp only [List.mem_cons,List.not_mem_nil,or_false] at hy
  rcases hy with e|e|e
  ·rw [e]
   exact Qu (f:=Hd.plain) (fun _=>rfl) (fun _ _ _=>rfl) (this (Cf x.heads) (by simp))
  ·rw [e];rfl
  ·rw [e];rfl
 ·refine first_zero.2 fun y hy=> ?_
  simp only [List.mem_cons,List.not_mem_nil,or_false] at hy
  rcases hy with e|e|e|e|e
  ·rw [e];rfl
  ·rw [e];rfl
  ·rw [e];rfl
  ·rw [e];exact h6' _ (by simp [Ev.further])
  ·rw [e];rfl
theorem Ev.err_tied {x:Ev} (h:x.err=0) (hk:x.kind≠3):x.tiedE.err=0:=by
 have:=Ev.err_put h hk ((err_iff.1 h).2.2.2.1 hk) true
 exact this
theorem Ev.err_rest {x:Ev} (h:x.err=0) (hk:x.kind=3):x.asRest.err=0:=by
 rw [err_iff] at h ⊢
 obtain ⟨h1,h2,h3,h4,h5,h6⟩:=h
 have hs:x.strip=⟨x.site,x.num,x.kind,⟨0,0⟩, [], [],D3 x.art,0,x.dyn, [],0,0⟩:=by rw [Ev.strip,if_neg (by omega),if_neg (by omega),if_pos (by omega)]
 have hs2:x.asRest.strip=⟨x.site,x.num,2,x.v, [], [],D3 x.art,0,x.dyn, [],0,0⟩:=rfl
 rw [hs] at h3
 obtain ⟨k1,k2,k3,k4,k5,k6,k7,k8,k9,k10⟩:=h3
 refine ⟨h1,(show (1:Int)≤2∧(2:Int)≤4 by decide), ?_,fun _=> ?_,fun k=>absurd (show (2:Int)=1 from k) (by decide),h6⟩
 ·rw [hs2];exact ⟨rfl,rfl,k3,k4,k5,k6,k7,k8,k9,k10⟩
 ·show C1 x.v=0
  rw [show x.v=⟨0,0⟩ from k2];rfl
theorem Ev.err_unrest {x:Ev} (h:x.err=0):x.unrest.err=0∧x.unrest.kind≠3:=by
 unfold Ev.unrest
 split
 ·rename_i c;exact ⟨Ev.err_rest h c,(show (2:Int)≠3 by decide)⟩
 ·rename_i c;exact ⟨h,c⟩
theorem Ev.len_ok {x:Ev} (h:x.err=0) (hk:x.kind≠3):x.len=Ct x.v:=by
 rw [Ev.len,if_neg (by omega),P0,if_pos ((err_iff.1 h).2.2.2.1 hk)]
theorem V5 {x:Ev} (h:x.err=0) (hk:x.kind≠3) {v:Val} (hv:C1 v=0) (n i:Nat) (fu:Bool):(Ep x n fu i v).err=0∧(Ep x n fu i v).kind≠3∧(Ep x n fu i v).v=v:=by
 unfold Ep
 split
 ·exact ⟨Ev.err_put (Ev.err_further h hk) hk hv _,hk,rfl⟩
 ·exact ⟨Ev.err_put h hk hv _,hk,rfl⟩
theorem Nl {x:Ev} (h:x.err=0) (hk:x.kind≠3) {vs:List Val} (hv:∀v∈vs,C1 v=0) (fu:Bool):(∀e∈Bj x vs fu,e.err=0∧e.kind≠3)∧wrS (Bj x vs fu)=vs.map Ct:=by
 constructor
 ·intro e he
  obtain ⟨i,hi⟩:=List.getElem?_of_mem he
  rw [Bj,List.getElem?_mapIdx] at hi
  cases hv2:vs[i]? with
  |none=>rw [hv2] at hi;cases hi
  |some v=>
   rw [hv2] at hi;cases hi
   have:=V5 h hk (hv v (List.mem_of_getElem? hv2)) vs.length i fu
   exact ⟨this.1,this.2.1⟩
 ·unfold wrS
  refine List.ext_getElem? fun i=> ?_
  rw [List.getElem?_map,Bj,List.getElem?_mapIdx,List.getElem?_map]
  cases hv2:vs[i]? with
  |none=>rfl
  |some v=>
   have:=V5 h hk (hv v (List.mem_of_getElem? hv2)) vs.length i fu
   simp only [Option.map_some]
   rw [Ev.len_ok this.1 this.2.1,this.2.2]
theorem Agr {p:Int} (h0:0≤p) (n:Nat):(E2 p n).1+(E2 p n).2≤2*p:=by
 induction n with
 |zero=>simp [E2];omega
 |succ n ih=>have:=(Lo h0 n).1;simp only [E2];omega
theorem Aor {v:Val} (h:C1 v=0):0≤Ct v∧Ct v≤7741440:=by
 have h1:=N5 v
 have h2:=Agr h1.1 v.dots.toNat
 have h3:=Lo h1.1 v.dots.toNat
 unfold Ct
 omega
theorem Alr {l:List Ev} (h:∀e∈l,e.err=0∧e.kind≠3):∀w∈wrS l,0≤w∧w≤7741440:=by
 intro w hw
 obtain ⟨e,he,rfl⟩:=List.mem_map.1 hw
 have:=h e he
 rw [Ev.len_ok this.1 this.2]
 exact Aor ((err_iff.1 this.1).2.2.2.1 this.2)
theorem VL.nil {l:List Ev} (h:∀e∈l,e.err=0∧e.kind≠3) (hl:l.length≤128):VL ⟨l, []⟩ (wrS l):=⟨TL.nil (by rw [Gc];exact hl) (Alr h),h⟩
end Go.Proofs.YtcihalbakenleaaGreat
namespace Go.Proofs.YtcihalbakenleaaGreat
theorem TV.mono {l:List Tp} {n m:Int} (h:TV l n) (hm:n≤m):TV l m:=⟨fun t ht=>by have:=h.inR t ht;unfold Tp.inR at*;omega,h.ord,h.nest,h.dep⟩
theorem TL.err128 {T:List Tp} {ws ls:List Int} (h:TL T ws ls):D2 T 128=0:=tupErr_iff.2 ⟨by omega,by omega,h.tl,h.tv.mono (by have:=h.wl;omega)⟩
theorem Ma {T:List Tp} {ws ls:List Int} (h:TL T ws ls) (k:Int):Hu T k=(hits T k:Int):=by rw [Hu,if_neg (by have:=h.err128;omega)]
theorem Nu {T:List Tp} {k:Int} (h:hits T k=0):∀t∈T,¬t.has k:=by
 intro t ht hh
 unfold hits at h
 have:=List.eq_nil_of_length_eq_zero h
 rw [List.filter_eq_nil_iff] at this
 exact this t ht (by simpa using hh)
theorem U4 {T:List Tp} {k:Int} (h:∀t∈T,¬t.has k):M9 T k∧M9 T (k+1):=by
 refine ⟨fun t ht=> ?_,fun t ht=> ?_⟩<;>(have:=h t ht;unfold Tp.has at this;unfold Tp.e;omega)
theorem Ap9 {l:List Ev} (h:∀e∈l,e.err=0):Evs l:=fun e he=>by
 have:=first_zero.1 (err_iff.1 (h e he)).2.2.2.2.2 (Bk e.art 31) (by simp)
 rw [Abw] at this
 omega
theorem Hv {v:Vo} {L:Int} (h:ckE v L=0):(∀e∈v.evs,e.err=0)∧Evs v.evs:=by
 have h1:∀e∈v.evs,e.err=0:=by
  by_cases c:v.rest
  ·obtain ⟨_,_,e,he,h2,_⟩:=Kc c h
   intro x hx
   rw [he] at hx
   rw [List.mem_singleton.1 hx];exact h2
  ·obtain ⟨_,_,hv,_⟩:=(Jo c).1 ⟨h,rfl⟩
   exact fun e he=>(hv.ev e he).1
 exact ⟨h1,Ap9 h1⟩
theorem Ae9 {v x:Vo} {L:Int} {a n:Nat} {lx:List Int} (h:ckE v L=0) (hr:¬v.rest) (ha:a+n≤v.evs.length) (h1:M9 v.tups a) (h2:M9 v.tups ((a:Int)+n)) (hx:VL x lx)
  (hc:v.evs.length - n+x.evs.length≤128) (ht:(A8 v a n x).tups.length≤16) (ht2:v.evs≠ []→tot lx=tot (((ckL v L).drop a).take n)) (hn:(A8 v a n x).evs≠ []→v.evs≠ []):
  ckE (A8 v a n x) L=0∧ckL (A8 v a n x) L=(ckL v L).take a++lx++(ckL v L).drop (a+n)∧¬(A8 v a n x).rest:=by
 obtain ⟨h3,h4,hv,h5⟩:=(Jo hr).1 ⟨h,rfl⟩
 have hl:=hv.len
 have hR:=hv.repl ha h1 h2 hx hc ht
 have:=(Jo hR.norest).2 ⟨h3,h4,hR,fun hne=> ?_⟩
 ·exact ⟨this.1,this.2.symm,hR.norest⟩
 ·have hne:=hn hne
  rw [Hn,Hn,ht2 hne]
  have e:ckL v L=(ckL v L).take a++((ckL v L).drop a).take n++(ckL v L).drop (a+n):=by
   rw [List.append_assoc, ←List.drop_drop,List.take_append_drop,List.take_append_drop]
  have:=h5 hne
  rw [e,Hn,Hn] at this
  exact this
theorem Nm (p:Tp→Bool) (b:Int):B5 p b []= []:=rfl
theorem Qd {v:Vo} {a n:Nat} {l:List Ev}:(A8 v a n ⟨l, []⟩).tups.length≤v.tups.length:=by
 show (B5 _ 0 v.tups++B5 _ a []++B5 _ _ v.tups).length≤_
 rw [Nm,List.append_nil,List.length_append]
 unfold B5
 rw [List.length_map,List.length_map, ←List.countP_eq_length_filter, ←List.countP_eq_length_filter]
 have:∀l:List Tp,l.countP (fun t=>decide (t.first<(a:Int)))+l.countP (fun t=>decide ((a:Int)+n≤t.first))≤l.length:=by
  intro l
  induction l with
  |nil=>simp
  |cons t l ih=>
   rw [List.countP_cons,List.countP_cons,List.length_cons]
   by_cases c:t.first<(a:Int)
   ·have c2:¬(a:Int)+n≤t.first:=by omega
    simp [c,c2];omega
   ·simp [c];split<;>omega
 exact this _
theorem U5 {p:Pl} {t a w:Int} {x:Ev} (hx:x.err=0) (h1:p.m.splitE (p.off+a) (p.off+t)=0) (h2:p.m.splitE (p.off+t) (p.off+(a+w))=0) (hl:(C2 p t a w x).length≤128):
  VL ⟨C2 p t a w x, []⟩ (wrS (C2 p t a w x))∧tot (wrS (C2 p t a w x))=w:=by
 obtain ⟨q1,q2⟩:=Li h1
 obtain ⟨q3,q4⟩:=Li h2
 obtain ⟨u1,u2⟩:=Ev.err_unrest hx
 obtain ⟨k1,k2⟩:=Nl (Ev.err_tied u1 u2) (show x.unrest.tiedE.kind≠3 from u2) q2 false
 obtain ⟨k3,k4⟩:=Nl u1 u2 q4 true
 refine ⟨VL.nil (fun e he=> ?_) hl, ?_⟩
 ·rcases List.mem_append.1 he with k|k
  ·exact k1 e k
  ·exact k3 e k
 ·rw [C2,Oe,k2,k4,Hn,q1,q3];omega
theorem Anq {l:List Int} {k:Nat} {w:Int} (h:l[k]? =some w):(l.drop k).take 1= [w]:=by rw [Cj h];rfl
inductive DivR (v:Vo) (p:Pl) (t:Int):Prop
 |same (h:Aj v p t=(v,0))
 |err (h:(Aj v p t).2≠0) (h1:(Aj v p t).1=⟨[], []⟩)
 |div (k:Nat) (a w:Int) (x:Ev) (hk:v.evs[k]? =some x) (hw:(ckL v p.len)[k]? =some w) (ha:a=tot ((ckL v p.len).take k)) (hat:atV v p.len t=((k:Int),a)) (hat2:atE v p.len t=0) (hne:a≠t) (hd:∀s∈v.tups,¬s.has k)
   (h1:p.m.splitE (p.off+a) (p.off+t)=0) (h2:p.m.splitE (p.off+t) (p.off+(a+w))=0) (hl:(A8 v k 1 ⟨C2 p t a w x, []⟩).evs.length≤128) (h:Aj v p t=(A8 v k 1 ⟨C2 p t a w x, []⟩,0))
theorem Rn {v:Vo} {L:Int} (h:ckE v L=0):∃ws ls,TL v.tups ws ls:=by
 by_cases c:v.rest
 ·obtain ⟨e,_⟩:=Kc c h
  rw [e];exact ⟨[], [],TL.nil (Nat.zero_le _) fun w hw=>by cases hw⟩
 ·exact ⟨_,_,((Jo c).1 ⟨h,rfl⟩).2.2.1.tl⟩
theorem Alh {v:Vo} {p:Pl} (hc:p.chk v=0) (t:Int):DivR v p t:=by
 obtain ⟨k,a,hat,ha0,ha1,hak⟩:=Rp v p.len t
 obtain ⟨hme,hpb,hck⟩:=Ds hc
 obtain ⟨ws,ls,hT⟩:=Rn hck
 by_cases c:atE v p.len t≠0∨a=t
 ·exact .same (N2 hat c)
 ·have he0:atE v p.len t=0:=by omega
  obtain ⟨hk,hak2⟩:=hak he0
  have hcl:=Io hck
  obtain ⟨w,hw⟩:∃w,(ckL v p.len)[k]? =some w:=Ap hk
  obtain ⟨x,hx⟩:∃x,v.evs[k]? =some x:=Ap (by omega)
  have hd:=Jl hat c hx hw
  unfold Ko at hd
  split at hd
  ·exact .err (by rw [hd];decide) (by rw [hd])
  ·rename_i c1
   split at hd
   ·rename_i c2;exact .err (by rw [hd];exact c2) (by rw [hd])
   ·rename_i c2
    split at hd
    ·rename_i c3;exact .err (by rw [hd];exact c3) (by rw [hd])
    ·rename_i c3
     split at hd
     ·exact .err (by rw [hd];decide) (by rw [hd])
     ·rename_i c4
      rw [Ma hT] at c1
      exact .div k a w x hx hw hak2 hat he0 (by omega) (Nu (by omega)) (by omega) (by omega) (by omega) hd
theorem Aj3 {v:Vo} (h:v.rest) {k:Nat} {x:Ev} (hx:v.evs[k]? =some x):k=0∧v.evs= [x]∧x.kind=3:=by
 have:=(List.getElem?_eq_some_iff.1 hx).1
 rw [h.2] at this
 have hk:k=0:=by omega
 subst hk
 refine ⟨rfl, ?_,(Gu hx).1 h.1⟩
 have h2:=h.2
 cases hv:v.evs with
 |nil=>rw [hv] at hx;cases hx
 |cons y l=>
  rw [hv] at hx h2
  cases hx
  rw [List.eq_nil_of_length_eq_zero (show l.length=0 by simpa using h2)]
theorem Zb {v:Vo} {L:Int} {p:Pl} {t a w:Int} {k:Nat} {x:Ev} (hck:ckE v L=0) (hk:v.evs[k]? =some x) (hw:(ckL v L)[k]? =some w) (hd:∀s∈v.tups,¬s.has k)
  (h1:p.m.splitE (p.off+a) (p.off+t)=0) (h2:p.m.splitE (p.off+t) (p.off+(a+w))=0) (hl:(A8 v k 1 ⟨C2 p t a w x, []⟩).evs.length≤128):
  ckE (A8 v k 1 ⟨C2 p t a w x, []⟩) L=0∧ckL (A8 v k 1 ⟨C2 p t a w x, []⟩) L=(ckL v L).take k++wrS (C2 p t a w x)++(ckL v L).drop (k+1)∧¬(A8 v k 1 ⟨C2 p t a w x, []⟩).rest:=by
 have hxe:=(Hv hck).1 x (List.mem_of_getElem? hk)
 have hkl:=(List.getElem?_eq_some_iff.1 hk).1
 have hlen:(A8 v k 1 ⟨C2 p t a w x, []⟩).evs.length=v.evs.length - 1+(C2 p t a w x).length:=by
  show (v.evs.take k++C2 p t a w x++v.evs.drop (k+1)).length=_
  rw [List.length_append,List.length_append,List.length_take,List.length_drop];omega
 obtain ⟨hN,hs⟩:=U5 hxe h1 h2 (by omega)
 by_cases c:v.rest
 ·obtain ⟨hk0,hv,hx3⟩:=Aj3 c hk
  subst hk0
  obtain ⟨ht,hll,_⟩:=Kc c hck
  obtain ⟨h3,h4⟩:=Oq hck
  obtain ⟨_,_,h5,h6⟩:=len_ok h3
  have e:A8 v 0 1 ⟨C2 p t a w x, []⟩=⟨C2 p t a w x, []⟩:=by
   unfold A8
   rw [hv,ht,Nm,Nm,Nm]
   simp
  rw [hll] at hw
  cases hw
  rw [e,hll]
  have hnr:=hN.norest
  have:=(Jo (L:=L) (ls:=wrS (C2 p t a L x)) hnr).2 ⟨h5,h6,hN,fun _=>hs⟩
  exact ⟨this.1,by rw [←this.2];simp,hnr⟩
 ·obtain ⟨f1,f2⟩:=U4 hd
  have htl:=((Jo c).1 ⟨hck,rfl⟩).2.2.1.tl.tl
  exact Ae9 hck c (by omega) f1 (by exact f2) hN (by rw [←hlen];exact hl) (Nat.le_trans Qd htl) (fun _=>by rw [Anq hw,hs,H8,Ku];omega) (fun _ h=>by rw [h] at hkl;simp at hkl)
theorem Pq {v:Vo} {p:Pl} {t:Int} (hc:p.chk v=0) (h:(Aj v p t).2=0):p.chk (Aj v p t).1=0:=by
 obtain ⟨hme,hpb,hck⟩:=Ds hc
 rcases Alh hc t with h|⟨h',_⟩|⟨k,a,w,x,hk,hw,ha,hat,hat2,hne,hd,h1,h2,hl,he⟩
 ·rw [h];exact hc
 ·exact absurd h h'
 ·rw [he]
  rw [Pl.chk,if_neg (by omega),if_neg hpb]
  exact (Zb hck hk hw hd h1 h2 hl).1
theorem M7 {v:Vo} {p:Pl} {t:Int} (hc:p.chk v=0) (hF:v.fit) (h:(Aj v p t).2=0):(Aj v p t).1.fit:=by
 obtain ⟨hme,hpb,hck⟩:=Ds hc
 rcases Alh hc t with h|⟨h',_⟩|⟨k,a,w,x,hk,hw,ha,hat,hat2,hne,hd,h1,h2,hl,he⟩
 ·rw [h];exact hF
 ·exact absurd h h'
 ·rw [he]
  exact Sn hF (S3 (hF.ev x (List.mem_of_getElem? hk))) (Kp hck).1 (by omega)
theorem Afa {v:Vo} {p:Pl} (hc:p.chk v=0):Evs v.evs:=(Hv (Ds hc).2.2).2
end Go.Proofs.YtcihalbakenleaaGreat
namespace Go.Proofs.YtcihalbakenleaaGreat
open Go.RowKit
def Kl (v:Vo) (k:Int):Prop:=k<v.evs.length∧Hu v.tups k=0
instance (v:Vo) (k:Int):Decidable (Kl v k):=by unfold Kl;exact inferInstance
theorem tiedTo_iff {a b:List Hd}:P1 a b↔∀p∈a.zip b,p.1.tied=true∧p.1.p=p.2.p:=by
 constructor
 ·intro h p hp
  obtain ⟨j,hj⟩:=List.getElem?_of_mem hp
  rw [List.getElem?_zip_eq_some] at hj
  exact h j p.1 p.2 hj.1 hj.2
 ·intro h j x y hx hy
  exact h (x,y) (List.mem_of_getElem? (List.getElem?_zip_eq_some.2 ⟨hx,hy⟩))
instance (a b:List Hd):Decidable (P1 a b):=decidable_of_iff _ tiedTo_iff.symm
instance (x y:Ev) (s:Int):Decidable (x.conts y s):=by unfold Ev.conts;exact inferInstance
theorem Rm {x y:Ev} {s:Int} (h:x.contB y s=true):x.conts y s:=by unfold Ev.contB at h;exact @of_decide_eq_true _ (Classical.propDecidable _) h
theorem Oo {x y:Ev} {s:Int} (h:x.contB y s=false):¬x.conts y s:=by unfold Ev.contB at h;exact @of_decide_eq_false _ (Classical.propDecidable _) h
def Ri (x y:Ev) (s:Int):Prop:=((x.silent∧y.silent)∧x.kind=y.kind)∨x.conts y s
instance (x y:Ev) (s:Int):Decidable (Ri x y s):=by unfold Ri;exact inferInstance
def I7 (v:Vo) (i k:Nat):Prop:=match v.evs[k - 1]?,v.evs[k]?,v.evs[i]? with
 |some x,some y,some z=>Ri x y z.stem
 |_,_,_=>False
instance (v:Vo) (i k:Nat):Decidable (I7 v i k):=by unfold I7;split<;>exact inferInstance
theorem Gl {v:Vo} {i k:Nat} {x y z:Ev} (hx:v.evs[k - 1]? =some x) (hy:v.evs[k]? =some y) (hz:v.evs[i]? =some z):I7 v i k↔Ri x y z.stem:=by unfold I7;rw [hx,hy,hz]
def K1 (v:Vo) (i:Nat):Nat→Nat→Nat
 |0,k=>k
 |f+1,k=>if (Kl v i∧Kl v k)∧I7 v i k then K1 v i f (k+1) else k
def Bc (v:Vo) (i:Nat):Nat:=K1 v i v.evs.length (i+1)
theorem O3 {v:Vo} {i k:Nat} (h1:Kl v i) (h2:Kl v k) (h3:I7 v i k):K1 v i (v.evs.length+(i+1) - k) k=K1 v i (v.evs.length+(i+1) - (k+1)) (k+1):=by
 have h4:=h2.1
 obtain ⟨f,hf⟩:∃f,v.evs.length+(i+1) - k=f+1:=⟨v.evs.length+(i+1) - k - 1,by omega⟩
 have hf2:v.evs.length+(i+1) - (k+1)=f:=by omega
 rw [hf,hf2,K1,if_pos ⟨⟨h1,h2⟩,h3⟩]
theorem Ms {v:Vo} {i k:Nat} (h:¬((Kl v i∧Kl v k)∧I7 v i k)):K1 v i (v.evs.length+(i+1) - k) k=k:=by
 cases v.evs.length+(i+1) - k with
 |zero=>rfl
 |succ f=>rw [K1,if_neg h]
theorem Aeh (v:Vo) (k:Int) (h0:0≤k) (hl:v.evs.length≤128):XC Tryz.prog 99 [.v (.int .i64 k), .pt (Vo.c v)] (fun r=>r=dB (decide (Kl v k))):=by
 refine Ao Ace Tryz.func99 R R lb<|zr<|za R R<|znr<|zm R R<|zp (Bq R R A1)<|zp (Aw R R Br)<|XL.len R R R Tryz.underlying22 fun hl7=>zp (Aq R R R)<|zm R R<|?_
 refine XL.dec 9 R (fun g9=> ?_) (fun g9=> ?_)
 exact zp (Bq R R B3)<|zp (Aw R R B0)<|zm R R<|XL.call1 R R (Zc _ _ (by omega) (by omega)) R<|zp (Az R R R)<|zq R R R<|za R R<|zn<|zt<|z1 R R (rB (by rw [decide_eq_decide];exact ⟨fun h=>⟨g9,h⟩,fun h=>h.2⟩))
 exact zk 5 R<|zq R R R<|za R R<|zn<|zt<|z1 R R (rB (by rw [eq_comm,decide_eq_false_iff_not];exact fun h=>g9 h.1))
theorem Ao5 (v:Vo) (i:Nat) (hv:v.fit) (hl:v.evs.length≤128) (hi:i<v.evs.length):XC Tryz.prog 60 [.agg (Vo.c v), .v (.int .i64 (i:Nat))] (fun r=>r=dI (Bc v i:Nat)):=by
 refine Ao Ada Tryz.func60 R R lb<|zr<|XL.step R (As 2 (l:= [.d (.sl 13 (v.evs.map Ev.c)), .d (.sl 4 (v.tups.map Tp.c))]) R R (by kernel_rfl))<|za R R<|znr<|XL.freezeP 2 (ds:=Vo.c v) R (by kernel_rfl) (by kernel_rfl)<|zp (O8 (pd:= []) (cd:= [_]) R R R)<|za R R<|znr<|zm R R<|zp (Ak R R R (by omega) (by omega))<|za R R<|zn<|zs<|?_
 refine Ai<|?_
 refine Av (α:=Nat) (fun k=>K1 v i (v.evs.length+(i+1) - k) k=Bc v i∧i+1≤k∧(k=i+1∨k≤v.evs.length)) (fun k=>mkF [(1, .d (dI (i:Nat))),(2, .d (.pt (Vo.c v))),(4, .d (dI 0)),(5, .d (.fn 99 [] [.pt (Vo.c v)])),(6, .d (dI (k:Nat)))]) (fun k=>mkH []) (fun k=>v.evs.length - k) (i+1) (⟨by rw [Nat.add_sub_cancel];rfl,Nat.le_refl _, .inl rfl⟩) ?_ ?_ ?_
 exact fz ⟨sr,sr,sr,sr, .same (sI (by omega)),trivial⟩
 exact HSub.nil
 intro k hk0
 obtain ⟨hgo,hk1,hk2⟩:=hk0
 refine zs<|zr<|zm R R<|zm R R<|XL.callv1 (ds:= [_]) R R R (Aeh v i (by omega) hl) R<|zm R R<|?_
 refine XL.dec 16 R (fun g16=> ?_) (fun g16=> ?_)
 refine zm R R<|zm R R<|XL.callv1 (ds:= [_]) R R R (Aeh v k (by omega) hl) R<|zq R R R<|zn<|?_
 refine zd R (fun c20=> ?_) (fun c20=> ?_)
 refine zi<|Ai<|zs<|?_
 have hkl:=c20.1
 obtain ⟨x,hx⟩:∃x,v.evs[k - 1]? =some x:=Ap (by omega)
 obtain ⟨y,hy⟩:∃y,v.evs[k]? =some y:=Ap (by omega)
 obtain ⟨z,hz⟩:∃z,v.evs[i]? =some z:=Ap hi
 have hyf:=hv.ev y (List.mem_of_getElem? hy)
 refine Mn 13 14 [7,8] id 7 (Su 7 (.box [.d (dI x.site), .d (dI x.num), .d (dI x.kind), .d (dI x.v.log), .d (dI x.v.dots), .d (.sl 5 (x.heads.map Hd.c)), .d (.sl 5 (x.graces.map Gr.c)), .d (dI x.art), .d (dI x.orn), .d (dI x.dyn), .d (.sl 2 (x.lyr.map Sy.c)), .d (dI x.stem), .d (dI x.beam)])) (by kernel_rfl) (by kernel_rfl) (by kernel_rfl) (by kernel_rfl) (by decide)<|?_
 refine ChMK.bf R (CStep.pure (Bq R R A1)) (by conv=>lhs;whnf)<|?_
 refine ChMK.bf R (CStep.pure (Aw R R Br)) (by conv=>lhs;whnf)<|?_
 refine ChMK.bf R (CStep.pure (A3 R (by conv=>lhs;whnf))) (by conv=>lhs;whnf)<|?_
 refine ChMK.bf R (CStep.pure (Di R R R (by omega) (by omega))) (by conv=>lhs;whnf)<|?_
 refine ChMK.bf R (CStep.pure (Eu R R R (by omega) B7 (hx))) (by conv=>lhs;whnf)<|?_
 refine ChMK.bf R (CStep.pure (Ae (s':= .d (.agg (Ev.c x))) (Ar R R Ax lb) (by kernel_rfl))) (by conv=>lhs;whnf)<|?_
 refine ChMK.fr R R (CStep.pure (Bq R R A1)) (CStep.pure (Bq R R A1)) (by exact rfl)<|ChMK.fr R R (CStep.pure (Aw R R Br)) (CStep.pure (Aw R R Br)) (by exact rfl)<|ChMK.fr R R (CStep.pure (A3 R (by conv=>lhs;whnf))) (CStep.pure (A3 R (by conv=>lhs;whnf))) (by exact rfl)<|?_
 refine ChMK.fr R R (CStep.pure (Am R R R B7 (hy))) (CStep.pure (Am R R R B7 (hy))) (by exact rfl)<|ChMK.fr R R (CStep.pure (Ae (s':= .d (.agg (Ev.c y))) (Ar R R Ax lb) (by kernel_rfl))) (CStep.pure (Ae (s':= .d (.agg (Ev.c y))) (Ar R R Ax lb) (by kernel_rfl))) (by exact rfl)<|?_
 refine ChMK.bfO R (CStep.allocN 7 (l:= [.d (dI 0), .d (dI 0), .d (dI 0), .d (dI 0), .d (dI 0), .d (.v (.slice none 0 0)), .d (.v (.slice none 0 0)), .d (dI 0), .d (dI 0), .d (dI 0), .d (.v (.slice none 0 0)), .d (dI 0), .d (dI 0)]) R Cm R R) (by conv=>lhs;whnf) (fun _ _=>Akp _ _)<|?_
 refine ChMK.bfN R (CStep.allocN 8 (l:= [.d (dI 0), .d (dI 0), .d (dI 0), .d (dI 0), .d (dI 0), .d (.v (.slice none 0 0)), .d (.v (.slice none 0 0)), .d (dI 0), .d (dI 0), .d (dI 0), .d (.v (.slice none 0 0)), .d (dI 0), .d (dI 0)]) R Cm R R) (by conv=>lhs;whnf) R R<|?_
 refine ChMK.mu R (Ann (l2:= [.d (dI x.site), .d (dI x.num), .d (dI x.kind), .d (dI x.v.log), .d (dI x.v.dots), .d (.sl 5 (x.heads.map Hd.c)), .d (.sl 5 (x.graces.map Gr.c)), .d (dI x.art), .d (dI x.orn), .d (dI x.dyn), .d (.sl 2 (x.lyr.map Sy.c)), .d (dI x.stem), .d (dI x.beam)]) R R R R Cd R lb (by kernel_rfl))<|?_
 refine ChMK.nil ⟨⟨by kernel_rfl,by kernel_rfl,by kernel_rfl⟩, ?_⟩
 refine XL.step R (Ag (l':= [.d (dI y.site), .d (dI y.num), .d (dI y.kind), .d (dI y.v.log), .d (dI y.v.dots), .d (.sl 5 (y.heads.map Hd.c)), .d (.sl 5 (y.graces.map Gr.c)), .d (dI y.art), .d (dI y.orn), .d (dI y.dyn), .d (.sl 2 (y.lyr.map Sy.c)), .d (dI y.stem), .d (dI y.beam)]) R R R R Cd R lb (by kernel_rfl))<|znr<|?_
 refine zp (Ae (s':= .d (.agg (Ev.c x))) (Ac (Ad R R Ax R lb)) (by kernel_rfl))<|XL.call1 R R (Vk _) R<|zm R R<|?_
 refine XL.dec 34 R (fun g34=> ?_) (fun g34=> ?_)
 refine zp (Ae (s':= .d (.agg (Ev.c y))) (Ac (Ad R R Ax R lb)) (by kernel_rfl))<|XL.call1 R R (Vk _) R<|zq R R R<|zm R R<|?_
 refine XL.dec 38 R (fun g38=> ?_) (fun g38=> ?_)
 refine zp (Ab R R Bn)<|zp (Aa R R Ah R R)<|zp (Ab R R Bn)<|zp (Aa R R Ah R R)<|zp (Az R R R)<|zq R R R<|za R R<|zn<|zs<|zs<|?_
 refine Ajn 9 R (fun o9=> ?_) (fun o9=> ?_)
 refine Bg [] (by kernel_rfl) (by kernel_rfl) (by kernel_rfl) (by decide)<|ym R R<|yp (Cu R R)<|ym R R<|ChK.skip R<|ChK.skip R<|ChK.skip R<|ChK.skip R<|ChK.skip R<|ChK.skip R<|ChK.skip R<|ChK.skip R<|ChK.skip R<|ChK.skip R<|?_
 refine yp (A7 R R (by conv=>lhs;whnf))<|?_
 refine ChK.nil ⟨by kernel_rfl, ?_⟩
 refine Bb (by kernel_rfl) R<|zi<|Af (by kernel_rfl)<|zm R R<|zp (Ak R R R (by omega) (by omega))<|za R R<|zn<|Hl<|?_
 exact Al (k+1) (⟨by rw [←O3 g16 c20 ((Gl hx hy hz).2 (by first|exact .inl ⟨⟨g34,g38⟩,o9⟩|exact .inr (Rm (Hx c58))))];exact hgo,by omega,by have:=c20.1;omega⟩) (by have:=c20.1;omega) (fz ⟨sr,sr,sr,sr, .same (sI (by omega)),trivial⟩) (HSub.nil)
 refine Bg [] (by kernel_rfl) (by kernel_rfl) (by kernel_rfl) (by decide)<|ym R R<|yp (Cu R R)<|ym R R<|yp (Ae (s':= .d (.agg (Ev.c x))) (Ac (Ad R R Ax R lb)) (by kernel_rfl))<|yp (Ae (s':= .d (.agg (Ev.c y))) (Ac (Ad R R Ax R lb)) (by kernel_rfl))<|yp (Bq R R A1)<|yp (Aw R R Br)<|ym R R<|yp (Am R R R B7 (hz))<|?_
 refine yp (Bq R R Ea)<|yp (Aw R R Ah)<|ChK.cons R (CStep.call R (S4 _ _ _ (hyf.1)) R)<|yp (Cu R R)<|yp (A7 R R (by conv=>lhs;whnf))<|?_
 refine ChK.nil ⟨by kernel_rfl, ?_⟩
 refine Dc (by kernel_rfl) R (fun c58=> ?_) (fun c58=> ?_)
 exact At<|zr<|zm R R<|za R R<|zn<|zt<|z1 R R (rI (by rw [←hgo,Ms (by first|exact fun h=>g16 h.1.1|exact fun h=>c20 h.1.2|exact fun h=>(fun hj=>hj.elim (fun k=>by first|exact o9 k.2|exact g38 k.1.2|exact g34 k.1.1) (fun k=>Oo (D4 c58) k)) ((Gl hx hy hz).1 h.2))]))
 refine zi<|Af (by kernel_rfl)<|zm R R<|zp (Ak R R R (by omega) (by omega))<|za R R<|zn<|Hl<|?_
 exact Al (k+1) (⟨by rw [←O3 g16 c20 ((Gl hx hy hz).2 (by first|exact .inl ⟨⟨g34,g38⟩,o9⟩|exact .inr (Rm (Hx c58))))];exact hgo,by omega,by have:=c20.1;omega⟩) (by have:=c20.1;omega) (fz ⟨sr,sr,sr,sr, .same (sI (by omega)),trivial⟩) (HSub.nil)
 refine zk 5 R<|zq R R R<|za R R<|zn<|zs<|zs<|Bg [] (by kernel_rfl) (by kernel_rfl) (by kernel_rfl) (by decide)<|ym R R<|yp (Cu R R)<|ym R R<|yp (Ae (s':= .d (.agg (Ev.c x))) (Ac (Ad R R Ax R lb)) (by kernel_rfl))<|yp (Ae (s':= .d (.agg (Ev.c y))) (Ac (Ad R R Ax R lb)) (by kernel_rfl))<|yp (Bq R R A1)<|yp (Aw R R Br)<|?_
 refine ym R R<|yp (Am R R R B7 (hz))<|yp (Bq R R Ea)<|yp (Aw R R Ah)<|ChK.cons R (CStep.call R (S4 _ _ _ (hyf.1)) R)<|yp (Cu R R)<|yp (A7 R R (by conv=>lhs;whnf))<|?_
 refine ChK.nil ⟨by kernel_rfl, ?_⟩
 refine Dc (by kernel_rfl) R (fun c58=> ?_) (fun c58=> ?_)
 exact At<|zr<|zm R R<|za R R<|zn<|zt<|z1 R R (rI (by rw [←hgo,Ms (by first|exact fun h=>g16 h.1.1|exact fun h=>c20 h.1.2|exact fun h=>(fun hj=>hj.elim (fun k=>by first|exact o9 k.2|exact g38 k.1.2|exact g34 k.1.1) (fun k=>Oo (D4 c58) k)) ((Gl hx hy hz).1 h.2))]))
 refine zi<|Af (by kernel_rfl)<|zm R R<|zp (Ak R R R (by omega) (by omega))<|za R R<|zn<|Hl<|?_
 exact Al (k+1) (⟨by rw [←O3 g16 c20 ((Gl hx hy hz).2 (by first|exact .inl ⟨⟨g34,g38⟩,o9⟩|exact .inr (Rm (Hx c58))))];exact hgo,by omega,by have:=c20.1;omega⟩) (by have:=c20.1;omega) (fz ⟨sr,sr,sr,sr, .same (sI (by omega)),trivial⟩) (HSub.nil)
 refine zk 2 R<|zq R R R<|zm R R<|zk 5 R<|zq R R R<|za R R<|zn<|zs<|zs<|Bg [] (by kernel_rfl) (by kernel_rfl) (by kernel_rfl) (by decide)<|ym R R<|yp (Cu R R)<|ym R R<|yp (Ae (s':= .d (.agg (Ev.c x))) (Ac (Ad R R Ax R lb)) (by kernel_rfl))<|?_
 refine yp (Ae (s':= .d (.agg (Ev.c y))) (Ac (Ad R R Ax R lb)) (by kernel_rfl))<|yp (Bq R R A1)<|yp (Aw R R Br)<|ym R R<|yp (Am R R R B7 (hz))<|yp (Bq R R Ea)<|yp (Aw R R Ah)<|ChK.cons R (CStep.call R (S4 _ _ _ (hyf.1)) R)<|yp (Cu R R)<|yp (A7 R R (by conv=>lhs;whnf))<|?_
 refine ChK.nil ⟨by kernel_rfl, ?_⟩
 refine Dc (by kernel_rfl) R (fun c58=> ?_) (fun c58=> ?_)
 exact At<|zr<|zm R R<|za R R<|zn<|zt<|z1 R R (rI (by rw [←hgo,Ms (by first|exact fun h=>g16 h.1.1|exact fun h=>c20 h.1.2|exact fun h=>(fun hj=>hj.elim (fun k=>by first|exact o9 k.2|exact g38 k.1.2|exact g34 k.1.1) (fun k=>Oo (D4 c58) k)) ((Gl hx hy hz).1 h.2))]))
 refine zi<|Af (by kernel_rfl)<|zm R R<|zp (Ak R R R (by omega) (by omega))<|za R R<|zn<|Hl<|?_
 exact Al (k+1) (⟨by rw [←O3 g16 c20 ((Gl hx hy hz).2 (by first|exact .inl ⟨⟨g34,g38⟩,o9⟩|exact .inr (Rm (Hx c58))))];exact hgo,by omega,by have:=c20.1;omega⟩) (by have:=c20.1;omega) (fz ⟨sr,sr,sr,sr, .same (sI (by omega)),trivial⟩) (HSub.nil)
 exact At<|zr<|zm R R<|za R R<|zn<|zt<|z1 R R (rI (by rw [←hgo,Ms (by first|exact fun h=>g16 h.1.1|exact fun h=>c20 h.1.2|exact fun h=>(fun hj=>hj.elim (fun k=>by first|exact o9 k.2|exact g38 k.1.2|exact g34 k.1.1) (fun k=>Oo (D4 c58) k)) ((Gl hx hy hz).1 h.2))]))
 exact zk 3 R<|zq R R R<|zn<|Bb (by kernel_rfl) R<|At<|zr<|zm R R<|za R R<|zn<|zt<|z1 R R (rI (by rw [←hgo,Ms (by first|exact fun h=>g16 h.1.1|exact fun h=>c20 h.1.2|exact fun h=>(fun hj=>hj.elim (fun k=>by first|exact o9 k.2|exact g38 k.1.2|exact g34 k.1.1) (fun k=>Oo (D4 c58) k)) ((Gl hx hy hz).1 h.2))]))
end Go.Proofs.YtcihalbakenleaaGreat
namespace Go.Proofs.YtcihalbakenleaaGreat
open Go.RowKit
theorem Aek (x a b:Int):XC Tryz.prog 129 [.v (.int .i64 x), .pt [dI a], .pt [dI b]] (fun r=>r=dB (decide (a≤x∧x<b))):=by
 refine Ao Aay Tryz.func129 R R lb<|zr<|za R R<|znr<|zm R R<|zp (Aw R R Ah)<|zp (E4 R R R)<|zm R R<|?_
 refine XL.dec 8 R (fun g8=> ?_) (fun g8=> ?_)
 exact zm R R<|zp (Aw R R Ah)<|zp (Aq R R R)<|zq R R R<|za R R<|zn<|zt<|z1 R R (rB (by rw [decide_eq_decide];omega))
 exact zk 3 R<|zq R R R<|za R R<|zn<|zt<|z1 R R (rB (by rw [eq_comm,decide_eq_false_iff_not];omega))
theorem Anb (x a:Int):XC Tryz.prog 131 [.v (.int .i64 x), .pt [dI a]] (fun r=>r=dB (decide (a≤x))):=by
 exact Ao Aax Tryz.func131 R R lb<|zr<|za R R<|znr<|zm R R<|zp (Aw R R Ah)<|zp (E4 R R R)<|za R R<|zn<|zt<|z1 R R (R)
theorem Amt {v:Vo} {L:Int} (h:ckE v L=0):∀t∈v.tups,t.ok:=by
 obtain ⟨ws,ls,hT⟩:=Rn h
 exact fun t ht=>(hT.tv.inR t ht).ok (by have:=hT.wl;omega)
def Oc (p:Int→Bool) (l:List Int):Int:=match l.findIdx? p with|some k=>k|none=> -1
theorem An0 {p:Int→Bool} {l:List Int} {k:Nat} {x:Int} (h:l[k]? =some x) (hx:p x=true) (hb:∀j y,j<k→l[j]? =some y→p y=false):Oc p l=k:=by
 have:l.findIdx? p=some k:=by
  rw [List.findIdx?_eq_some_iff_getElem]
  obtain ⟨h1,h2⟩:=List.getElem?_eq_some_iff.1 h
  exact ⟨h1,by rw [h2];exact hx,fun j hj=>by rw [hb j _ hj (List.getElem?_eq_getElem (by omega))];decide⟩
 rw [Oc,this]
theorem Ak2 {p:Int→Bool} {l:List Int} (hb:∀(j:Nat) y,l[j]? =some y→p y=false):Oc p l= -1:=by
 have:l.findIdx? p=none:=by
  rw [List.findIdx?_eq_none_iff]
  intro x hx
  obtain ⟨j,hj⟩:=List.getElem?_of_mem hx
  exact hb j x hj
 rw [Oc,this]
theorem Aiw (l:List Int) (F:Nat) (cs:List D) (p:Int→Bool) (hF:∀x∈l,XC Tryz.prog F (dI x::cs) (fun r=>r=dB (p x))):XC Tryz.prog 130 [.sl 1 (B4 l), .fn F [] cs] (fun r=>r=dI (Oc p l)):=by
 refine Ao Q1 Tryz.func130 R R lb<|zr<|za R R<|zn<|zs<|zr<|zm R R<|XL.len R R R Tryz.underlying64 fun hl7=>zm R R<|zn<|Ai<|?_
 refine Av (α:=Nat) (fun k=>k≤l.length∧∀j y,j<k→l[j]? =some y→p y=false) (fun k=>mkF [(0, .d (.sl 1 (B4 l))),(1, .d (.fn F [] cs)),(7, .d (dI l.length)),(8, .d (dI k))]) (fun k=>mkH []) (fun k=>l.length - k) (0) (⟨Nat.zero_le _,fun j y hj=>absurd hj (Nat.not_lt_zero _)⟩) ?_ ?_ ?_
 exact fz ⟨sr,sr,sr,sr,trivial⟩
 exact HSub.nil
 intro k hk0
 obtain ⟨hk,hb⟩:=hk0
 refine zr<|zp (Aq R R R)<|zn<|zs<|?_
 refine zd R (fun c9=> ?_) (fun c9=> ?_)
 have hk0a:k<l.length:=by omega
 obtain ⟨x0,hx0⟩:=Ap hk0a
 refine zi<|zs<|Ai<|zr<|zm R R<|za R R<|znr<|zm R R<|zm R R<|zm R R<|zp (Am R R R C9 hx0)<|zp (Aw R R Ah)<|XL.callv1 (ds:= [_]) R R R (hF x0 (List.mem_of_getElem? hx0)) R<|zn<|?_
 refine Dc (by kernel_rfl) R (fun c16=> ?_) (fun c16=> ?_)
 exact zr<|zm R R<|za R R<|zn<|zt<|z1 R R (rI (An0 hx0 c16 hb).symm)
 refine zi<|Af (by kernel_rfl)<|zp (Ak R R R (by omega) (by omega))<|zm R R<|zn<|?_
 exact Al (k+1) (⟨by omega,fun j y hj hy=>by by_cases e:j=k;(· subst e;rw [hx0] at hy;cases hy;exact c16);(· exact hb j y (by omega) hy)⟩) (by omega) (fz ⟨sr,sr,sr,sr,trivial⟩) (HSub.nil)
 have hk0b:k=l.length:=by omega
 exact At<|zr<|za R R<|zn<|zt<|z1 R R (rI (Ak2 (fun j y hy=>hb j y (by have:=(List.getElem?_eq_some_iff.1 hy).1;omega) hy)).symm)
def Bz (on:List Int) (a:Int):Nat:=on.findIdx fun x=>decide (a≤x)
def F6 (on:List Int) (a b:Int):Nat:=Bz on a+((on.drop (Bz on a)).takeWhile fun x=>decide (a≤x∧x<b)).length
def Dh (t:Tp) (f l:Int):Prop:=max t.first f<min (t.first+t.count) l∧(max t.first f≠t.first∨min (t.first+t.count) l≠t.first+t.count)
instance (t:Tp) (f l:Int):Decidable (Dh t f l):=by unfold Dh;exact inferInstance
def Qf (d:Vo) (p:Pl) (a b:Int):Vo × Int × Int × Int:=
 if ∃t∈d.tups,Dh t (Bz (Bm (ckL d p.len)) a) (F6 (Bm (ckL d p.len)) a b) then (⟨[], []⟩,0,0,27) else (d,(Bz (Bm (ckL d p.len)) a:Int),(F6 (Bm (ckL d p.len)) a b:Int),0)
def Qg (v:Vo) (p:Pl) (a b:Int):Vo × Int × Int × Int:=
 if (Aj v p a).2≠0 then (⟨[], []⟩,0,0,(Aj v p a).2) else if (Aj (Aj v p a).1 p b).2≠0 then (⟨[], []⟩,0,0,(Aj (Aj v p a).1 p b).2) else Qf (Aj (Aj v p a).1 p b).1 p a b
def Eo (v:Vo) (p:Pl) (a b:Int):Vo × Int × Int × Int:=
 if p.chk v≠0 then (⟨[], []⟩,0,0,p.chk v) else if v.absent then (⟨[], []⟩,0,0,10) else if a<0∨b<a∨p.len<b then (⟨[], []⟩,0,0,2) else Qg v p a b
theorem Kb (on:List Int) (a:Int):Bz on a≤on.length:=List.findIdx_le_length
theorem L8 {on:List Int} {a:Int} (h:¬Oc (fun x=>decide (a≤x)) on<0):Oc (fun x=>decide (a≤x)) on=(Bz on a:Int):=by
 unfold Oc at h ⊢
 cases hf:on.findIdx? (fun x=>decide (a≤x)) with
 |none=>rw [hf] at h;exact absurd (by decide) h
 |some k=>
  have:Bz on a=k:=by
   rw [List.findIdx?_eq_some_iff_findIdx_eq] at hf;exact hf.2
  rw [this]
theorem Ld {on:List Int} {a:Int} (h:Oc (fun x=>decide (a≤x)) on<0):(on.length:Int)=(Bz on a:Int):=by
 unfold Oc at h
 cases hf:on.findIdx? (fun x=>decide (a≤x)) with
 |none=>
  have:Bz on a=on.length:=by
   rw [List.findIdx?_eq_none_iff_findIdx_eq] at hf;exact hf
  rw [this]
 |some k=>rw [hf] at h;simp at h;omega
theorem Xt {p:Int→Bool}:∀{l:List Int} {k:Nat},k≤l.length→(∀(j:Nat) x,j<k→l[j]? =some x→p x=true)→(k=l.length∨∃x,l[k]? =some x∧p x=false)→(l.takeWhile p).length=k
 | [],k,hk,_,_=>by simp at hk;subst hk;rfl
 |x::l,0,_,_,h=>by
  rcases h with h|⟨y,h1,h2⟩
  ·simp at h
  ·cases h1;rw [List.takeWhile_cons_of_neg (by rw [h2];decide)];rfl
 |x::l,k+1,hk,h,h2=>by
  have h3:=h 0 x (by omega) rfl
  rw [List.takeWhile_cons_of_pos h3,List.length_cons,Xt (k:=k) (by simpa using hk) (fun j y hj hy=>h (j+1) y (by omega) hy)]
  rcases h2 with h2|⟨y,h4,h5⟩
  ·left;simpa using h2
  ·right;exact ⟨y,by simpa using h4,h5⟩
theorem M2 {on:List Int} {a b:Int} {k:Nat} (h1:Bz on a≤k) (h2:k≤on.length) (h:∀(j:Nat) x,Bz on a≤j→j<k→on[j]? =some x→decide (a≤x∧x<b)=true) (h3:k=on.length∨∃x,on[k]? =some x∧decide (a≤x∧x<b)=false):F6 on a b=k:=by
 have := Xt (p := fun x => decide (a ≤ x ∧ x < b)) (l := on.drop (Bz on a)) (k := k - Bz on a) (by rw [List.length_drop]; omega) (fun j x hj hx => by rw [List.getElem?_drop] at hx; exact h _ x (by omega) (by omega) hx) (by
  rcases h3 with h3|⟨x,h3,h4⟩
  ·left;rw [List.length_drop];omega
  ·right; exact ⟨x, by rw [List.getElem?_drop, show Bz on a + (k - Bz on a) = k by omega]; exact h3, h4⟩)
 rw [F6,this];omega
theorem Yw (on:List Int) (a b:Int):Bz on a≤F6 on a b∧F6 on a b≤on.length:=by
 have h1:=Kb on a
 have h2:=(List.takeWhile_sublist (l:=on.drop (Bz on a)) fun x=>decide (a≤x∧x<b)).length_le
 rw [List.length_drop] at h2
 unfold F6
 omega
theorem r4v {d:Vo} {f l e:Int} {q:Vo × Int × Int × Int} (h:q=(d,f,l,e)):D.tup [.agg (Vo.c d),dI f,dI l,dI e]= .tup [.agg (Vo.c q.1),dI q.2.1,dI q.2.2.1,dI q.2.2.2]:=by rw [h]
theorem Ao9 {v:Vo} {p:Pl} {a b:Int} (h:p.chk v≠0):Eo v p a b=(⟨[], []⟩,0,0,p.chk v):=by rw [Eo,if_pos h]
theorem Ao8 {v:Vo} {p:Pl} {a b:Int} (h:¬p.chk v≠0) (h2:v.absent):Eo v p a b=(⟨[], []⟩,0,0,10):=by rw [Eo,if_neg h,if_pos h2]
theorem Afo {v:Vo} {p:Pl} {a b:Int} (h:¬p.chk v≠0) (h2:¬v.absent) (h3:a<0∨b<a∨p.len<b):Eo v p a b=(⟨[], []⟩,0,0,2):=by rw [Eo,if_neg h,if_neg h2,if_pos h3]
theorem Fw {v:Vo} {p:Pl} {a b:Int} (h:¬p.chk v≠0) (h2:¬v.absent) (h3:¬(a<0∨b<a∨p.len<b)):Eo v p a b=Qg v p a b:=by rw [Eo,if_neg h,if_neg h2,if_neg h3]
theorem Ao7 {v:Vo} {p:Pl} {a b:Int} (h:(Aj v p a).2≠0):Qg v p a b=(⟨[], []⟩,0,0,(Aj v p a).2):=by rw [Qg,if_pos h]
theorem Ao6 {v:Vo} {p:Pl} {a b:Int} (h:¬(Aj v p a).2≠0) (h2:(Aj (Aj v p a).1 p b).2≠0):Qg v p a b=(⟨[], []⟩,0,0,(Aj (Aj v p a).1 p b).2):=by rw [Qg,if_neg h,if_pos h2]
theorem Ge {v:Vo} {p:Pl} {a b:Int} (h:¬(Aj v p a).2≠0) (h2:¬(Aj (Aj v p a).1 p b).2≠0):Qg v p a b=Qf (Aj (Aj v p a).1 p b).1 p a b:=by rw [Qg,if_neg h,if_neg h2]
theorem Ls {d:Vo} {p:Pl} {a b:Int} {k:Nat} {t:Tp} (h:d.tups[k]? =some t) (hs:Dh t (Bz (Bm (ckL d p.len)) a) (F6 (Bm (ckL d p.len)) a b)):Qf d p a b=(⟨[], []⟩,0,0,27):=by rw [Qf,if_pos ⟨t,List.mem_of_getElem? h,hs⟩]
theorem Lr {d:Vo} {p:Pl} {a b:Int} (h:∀(k:Nat) t,d.tups[k]? =some t→¬Dh t (Bz (Bm (ckL d p.len)) a) (F6 (Bm (ckL d p.len)) a b)):Qf d p a b=(d,(Bz (Bm (ckL d p.len)) a:Int),(F6 (Bm (ckL d p.len)) a b:Int),0):=by
 rw [Qf,if_neg]
 rintro ⟨t,ht,hs⟩
 obtain ⟨k,hk⟩:=List.getElem?_of_mem ht
 exact h k t hk hs
end Go.Proofs.YtcihalbakenleaaGreat
namespace Go.Proofs.YtcihalbakenleaaGreat
open Go.RowKit
theorem Ahz (v:Vo) (p:Pl) (a b:Int) (hE:Evs v.evs) (hF:v.fit):XC Tryz.prog 83 [.agg (Vo.c v), .agg (Pl.c p), .v (.int .i64 a), .v (.int .i64 b)] (fun r=>r= .tup [.agg (Vo.c (Eo v p a b).1),dI (Eo v p a b).2.1,dI (Eo v p a b).2.2.1,dI (Eo v p a b).2.2.2]):=by
 refine Ao Acq Tryz.func83 R R lb<|zr<|XL.step R (As 4 (l:= [.d (.sl 13 (v.evs.map Ev.c)), .d (.sl 4 (v.tups.map Tp.c))]) R R (by kernel_rfl))<|XL.step R (As 5 (l:= [.d (dI p.m.count), .d (dI p.m.unit), .d (dI p.m.g0), .d (dI p.m.g1), .d (dI p.m.g2), .d (dI p.m.g3), .d (dI p.m.g4), .d (dI p.m.g5), .d (dI p.off), .d (dI p.len)]) R R (by kernel_rfl))<|?_
 refine XL.step R (As 6 (l:= [.d (dI a)]) R R (by kernel_rfl))<|XL.step R (As 7 (l:= [.d (dI b)]) R R (by kernel_rfl))<|XL.step R (A0 8 (l:= [.d (.v (.slice none 0 0)), .d (.v (.slice none 0 0))]) R Ba (by kernel_rfl))<|za R R<|za R R<|za R R<|zn<|zs<|zr<|zp (Ae (s':= .d (.agg (Pl.c p))) (Ac (Ad R R Fu R lb)) (by kernel_rfl))<|?_
 refine zp (Ae (s':= .d (.agg (Vo.c v))) (Ac (Ad R R Au R lb)) (by kernel_rfl))<|XL.call1 R R (O7 _ _ (by assumption)) R<|za R R<|znr<|zm R R<|zp (A9 R R R)<|zn<|?_
 refine zd R (fun c24=> ?_) (fun c24=> ?_)
 refine zr<|zp (Ae (s':= .d (.agg [.v (.slice none 0 0), .v (.slice none 0 0)])) (Ac (Be R Cg Ba R)) (by kernel_rfl))<|zm R R<|XL.step R (Ag (l':= [.d (.v (.slice none 0 0)), .d (.v (.slice none 0 0))]) R R R R Bu R lb (by kernel_rfl))<|za R R<|za R R<|za R R<|zn<|zt<|?_
 exact Ib R (RV.sub (RV.cells R R R Au lb R) (.agg (.cons (.nil 13) (.cons (.nil 4) (.nil))))) (RV.tmp R R) (RV.tmp R R) (RV.tmp R R) (r4v (Ao9 c24))
 refine zi<|zs<|Ai<|zr<|zp (Ae (s':= .d (.agg (Vo.c v))) (Ac (Ad R R Au R lb)) (by kernel_rfl))<|XL.call1 R R (Tc _) R<|za R R<|zn<|?_
 refine zd R (fun c27=> ?_) (fun c27=> ?_)
 refine zr<|zp (Ae (s':= .d (.agg [.v (.slice none 0 0), .v (.slice none 0 0)])) (Ac (Be R Cg Ba R)) (by kernel_rfl))<|XL.step R (Ag (l':= [.d (.v (.slice none 0 0)), .d (.v (.slice none 0 0))]) R R R R Bu R lb (by kernel_rfl))<|za R R<|za R R<|za R R<|zn<|zt<|?_
 exact Ib R (RV.sub (RV.cells R R R Au lb R) (.agg (.cons (.nil 13) (.cons (.nil 4) (.nil))))) (RV.tmp R R) (RV.tmp R R) (RV.tmp R R) (r4v (Ao8 c24 c27))
 refine zr<|zp (Aa R R Ah R R)<|zp (Aq R R R)<|zm R R<|?_
 refine XL.dec 34 R (fun g34=> ?_) (fun g34=> ?_)
 refine zk 3 R<|zq R R R<|zm R R<|zk 4 R<|zq R R R<|za R R<|zn<|An (by kernel_rfl) R<|zr<|zp (Ae (s':= .d (.agg [.v (.slice none 0 0), .v (.slice none 0 0)])) (Ac (Be R Cg Ba R)) (by kernel_rfl))<|XL.step R (Ag (l':= [.d (.v (.slice none 0 0)), .d (.v (.slice none 0 0))]) R R R R Bu R lb (by kernel_rfl))<|za R R<|za R R<|za R R<|?_
 refine zn<|zt<|?_
 exact Ib R (RV.sub (RV.cells R R R Au lb R) (.agg (.cons (.nil 13) (.cons (.nil 4) (.nil))))) (RV.tmp R R) (RV.tmp R R) (RV.tmp R R) (r4v (Afo c24 c27 (by omega)))
 refine zp (Aa R R Ah R R)<|zp (Aa R R Ah R R)<|zp (Aq R R R)<|zq R R R<|zm R R<|?_
 refine XL.dec 39 R (fun g39=> ?_) (fun g39=> ?_)
 refine zk 4 R<|zq R R R<|za R R<|zn<|An (by kernel_rfl) R<|zr<|zp (Ae (s':= .d (.agg [.v (.slice none 0 0), .v (.slice none 0 0)])) (Ac (Be R Cg Ba R)) (by kernel_rfl))<|XL.step R (Ag (l':= [.d (.v (.slice none 0 0)), .d (.v (.slice none 0 0))]) R R R R Bu R lb (by kernel_rfl))<|za R R<|za R R<|za R R<|zn<|zt<|?_
 exact Ib R (RV.sub (RV.cells R R R Au lb R) (.agg (.cons (.nil 13) (.cons (.nil 4) (.nil))))) (RV.tmp R R) (RV.tmp R R) (RV.tmp R R) (r4v (Afo c24 c27 (by omega)))
 refine zp (Aa R R Ah R R)<|zp (Ab R R Hg)<|zp (Aa R R Ah R R)<|zp (A5 R R R)<|zq R R R<|za R R<|zn<|?_
 refine zd R (fun c31=> ?_) (fun c31=> ?_)
 refine zr<|zp (Ae (s':= .d (.agg [.v (.slice none 0 0), .v (.slice none 0 0)])) (Ac (Be R Cg Ba R)) (by kernel_rfl))<|XL.step R (Ag (l':= [.d (.v (.slice none 0 0)), .d (.v (.slice none 0 0))]) R R R R Bu R lb (by kernel_rfl))<|za R R<|za R R<|za R R<|zn<|zt<|?_
 exact Ib R (RV.sub (RV.cells R R R Au lb R) (.agg (.cons (.nil 13) (.cons (.nil 4) (.nil))))) (RV.tmp R R) (RV.tmp R R) (RV.tmp R R) (r4v (Afo c24 c27 (by omega)))
 refine zi<|zs<|zs<|?_
 have hc0:p.chk v=0:=by omega
 refine Af (by kernel_rfl)<|zp (Ae (s':= .d (.agg (Vo.c v))) (Ac (Ad R R Au R lb)) (by kernel_rfl))<|zp (Ae (s':= .d (.agg (Pl.c p))) (Ac (Ad R R Fu R lb)) (by kernel_rfl))<|zp (Aa R R Ah R R)<|XL.call1 R R (Qy _ _ _ (by assumption) (by assumption) (by assumption)) R<|zm R R<|zp (A6 R R R)<|zp (A6 R R R)<|?_
 refine XL.step R (Ag (l':= [.d (.sl 13 (((Aj v p a).1).evs.map Ev.c)), .d (.sl 4 (((Aj v p a).1).tups.map Tp.c))]) R R R R Bu R lb (by kernel_rfl))<|za R R<|znr<|zm R R<|zp (A9 R R R)<|zn<|?_
 refine zd R (fun c54=> ?_) (fun c54=> ?_)
 refine zr<|zp (Ae (s':= .d (.agg [.v (.slice none 0 0), .v (.slice none 0 0)])) (Ac (Be R Cg Ba R)) (by kernel_rfl))<|zm R R<|XL.step R (Ag (l':= [.d (.v (.slice none 0 0)), .d (.v (.slice none 0 0))]) R R R R Bu R lb (by kernel_rfl))<|za R R<|za R R<|za R R<|zn<|zt<|?_
 exact Ib R (RV.sub (RV.cells R R R Au lb R) (.agg (.cons (.nil 13) (.cons (.nil 4) (.nil))))) (RV.tmp R R) (RV.tmp R R) (RV.tmp R R) (r4v ((Fw c24 c27 (by omega)).trans (Ao7 c54)))
 have hc1:=Pq (t:=a) hc0 (by omega)
 have hF1:=M7 (t:=a) hc0 hF (by omega)
 have hE1:=Afa hc1
 refine zi<|zs<|zr<|zp (Ae (s':= .d (.agg (Vo.c (Aj v p a).1))) (Ac (Ad R R Au R lb)) (by kernel_rfl))<|zp (Ae (s':= .d (.agg (Pl.c p))) (Ac (Ad R R Fu R lb)) (by kernel_rfl))<|zp (Aa R R Ah R R)<|XL.call1 R R (Qy _ _ _ (by assumption) (by assumption) (by assumption)) R<|zm R R<|zp (A6 R R R)<|zp (A6 R R R)<|?_
 refine XL.step R (Ag (l':= [.d (.sl 13 (((Aj ((Aj v p a).1) p b).1).evs.map Ev.c)), .d (.sl 4 (((Aj ((Aj v p a).1) p b).1).tups.map Tp.c))]) R R R R Bu R lb (by kernel_rfl))<|za R R<|znr<|zm R R<|zp (A9 R R R)<|zn<|?_
 refine zd R (fun c65=> ?_) (fun c65=> ?_)
 refine zr<|zp (Ae (s':= .d (.agg [.v (.slice none 0 0), .v (.slice none 0 0)])) (Ac (Be R Cg Ba R)) (by kernel_rfl))<|zm R R<|XL.step R (Ag (l':= [.d (.v (.slice none 0 0)), .d (.v (.slice none 0 0))]) R R R R Bu R lb (by kernel_rfl))<|za R R<|za R R<|za R R<|zn<|zt<|?_
 exact Ib R (RV.sub (RV.cells R R R Au lb R) (.agg (.cons (.nil 13) (.cons (.nil 4) (.nil))))) (RV.tmp R R) (RV.tmp R R) (RV.tmp R R) (r4v ((Fw c24 c27 (by omega)).trans ((Ao6 c54 c65))))
 have hc2:=Pq (t:=b) hc1 (by omega)
 have hF2:=M7 (t:=b) hc1 hF1 (by omega)
 have hE2:=Afa hc2
 have hol:=K2 (ckL (Aj (Aj v p a).1 p b).1 p.len)
 have hN:=Jw (Aj (Aj v p a).1 p b).1 p.len
 have hNl:=hN.len
 have hfl:=Kb (Bm (ckL (Aj (Aj v p a).1 p b).1 p.len)) a
 have hll:=Yw (Bm (ckL (Aj (Aj v p a).1 p b).1 p.len)) a b
 obtain ⟨hs2,_⟩:=Kp (Ds hc2).2.2
 have htl:=hs2.tups
 have hT2:=Amt (Ds hc2).2.2
 refine zi<|zr<|zp (Ae (s':= .d (.agg (Vo.c (Aj ((Aj v p a).1) p b).1))) (Ac (Ad R R Au R lb)) (by kernel_rfl))<|zp (Ab R R Hg)<|zp (Aa R R Ah R R)<|XL.call1 R R (Ajm _ _ (by assumption)) R<|zm R R<|zp (A6 R R R)<|zp (A6 R R R)<|za R R<|za R R<|znr<|XL.freezeP 6 (ds:= [dI a]) R (by kernel_rfl) (by kernel_rfl)<|?_
 refine XL.freezeP 7 (ds:= [dI b]) R (by kernel_rfl) (by kernel_rfl)<|zp (O8 (pd:= []) (cd:= [_,_]) R R R)<|za R R<|znr<|zm R R<|zp (O8 (pd:= []) (cd:= [_]) R R R)<|XL.call1 R R (Aiw _ _ _ (fun x=>decide (a≤x)) (fun x _=>Anb x a)) R<|za R R<|zn<|zs<|zr<|zm R R<|zp (Aq R R R)<|zn<|?_
 refine zd R (fun c80=> ?_) (fun c80=> ?_)
 refine Af (by kernel_rfl)<|zm R R<|XL.len R R R Tryz.underlying64 fun hl82=>za R R<|znr<|zm R R<|za R R<|zn<|zs<|Ai<|?_
 refine Av (α:=Nat) (fun k=>Bz (Bm (ckL (Aj (Aj v p a).1 p b).1 p.len)) a≤k∧k≤(Bm (ckL (Aj (Aj v p a).1 p b).1 p.len)).length∧∀(j:Nat) x,Bz (Bm (ckL (Aj (Aj v p a).1 p b).1 p.len)) a≤j→j<k→(Bm (ckL (Aj (Aj v p a).1 p b).1 p.len))[j]? =some x→decide (a≤x∧x<b)=true) (fun k=>mkF [(8, .ptr 8 0 0),(9, .d (dI (Bz (Bm (ckL (Aj (Aj v p a).1 p b).1 p.len)) a:Nat))),(10, .d (dI (k:Nat))),(11, .d (dI (Aj ((Aj v p a).1) p b).2)),(13, .d (.sl 1 (B4 (Bm (ckL ((Aj ((Aj v p a).1) p b).1) p.len))))),(15, .d (.fn 129 [] [.pt ([dI a]), .pt ([dI b])]))]) (fun k=>mkH [(8, .box ((Vo.c (Aj ((Aj v p a).1) p b).1).map S.d))]) (fun k=>(Bm (ckL (Aj (Aj v p a).1 p b).1 p.len)).length - k) (Bz (Bm (ckL (Aj (Aj v p a).1 p b).1 p.len)) a) (⟨Nat.le_refl _,hfl,fun j x h1 h2=>by omega⟩) ?_ ?_ ?_
 exact fz ⟨sr, .same (sI (by first|exact Ld c80|exact L8 c80)), .same (sI (by first|exact Ld c80|exact L8 c80)),sr,sr,sr,trivial⟩
 exact gz ⟨R,trivial⟩
 intro k hk1
 obtain ⟨hk1a,hk1b,hall⟩:=hk1
 refine zs<|zr<|zm R R<|zm R R<|XL.len R R R Tryz.underlying64 fun hl86=>zp (Aq R R R)<|zm R R<|?_
 refine XL.dec 88 R (fun g88=> ?_) (fun g88=> ?_)
 obtain ⟨x,hx⟩:∃x,(Bm (ckL (Aj (Aj v p a).1 p b).1 p.len))[k]? =some x:=Ap (by omega)
 refine zm R R<|zm R R<|zm R R<|zp (Am R R R C9 (hx))<|zp (Aw R R Ah)<|XL.callv1 (ds:= [_]) R R R (Aek x a b) R<|zq R R R<|zn<|?_
 refine zd R (fun c95=> ?_) (fun c95=> ?_)
 refine zi<|Ai<|Af (by kernel_rfl)<|zm R R<|zp (Ak R R R (by omega) (by omega))<|za R R<|zn<|Hl<|?_
 exact Al (k+1) (⟨by omega,by have:=(List.getElem?_eq_some_iff.1 hx).1;omega,fun j y h1 h2 hy=>by by_cases e:j=k;(· subst e;rw [hx] at hy;cases hy;exact decide_eq_true c95);(· exact hall j y h1 (by omega) hy)⟩) (by have:=(List.getElem?_eq_some_iff.1 hx).1;omega) (fz ⟨sr,sr, .same (sI (by omega)),sr,sr,sr,trivial⟩) (gz ⟨rfl,trivial⟩)
 refine At<|zs<|zr<|zp (Ab R R B3)<|zp (Aa R R B0 R R)<|XL.len R R R Tryz.underlying23 fun hl100=>zm R R<|zn<|Ai<|?_
 refine Av (α:=Nat) (fun m=>m≤(Aj (Aj v p a).1 p b).1.tups.length∧∀(j:Nat) t,j<m→(Aj (Aj v p a).1 p b).1.tups[j]? =some t→¬Dh t (Bz (Bm (ckL (Aj (Aj v p a).1 p b).1 p.len)) a) (F6 (Bm (ckL (Aj (Aj v p a).1 p b).1 p.len)) a b)) (fun m=>mkF [(8, .ptr 8 0 0),(9, .d (dI (Bz (Bm (ckL (Aj (Aj v p a).1 p b).1 p.len)) a:Nat))),(10, .d (dI (F6 (Bm (ckL (Aj (Aj v p a).1 p b).1 p.len)) a b:Nat))),(99, .d (.sl 4 (((Aj ((Aj v p a).1) p b).1).tups.map Tp.c))),(100, .d (dI (((Aj ((Aj v p a).1) p b).1).tups).length)),(101, .d (dI m))]) (fun m=>mkH [(8, .box ((Vo.c (Aj (Aj v p a).1 p b).1).map S.d))]) (fun m=>(((Aj (Aj v p a).1 p b).1).tups).length - m) (0) (⟨Nat.zero_le _,fun j t hj=>absurd hj (Nat.not_lt_zero _)⟩) ?_ ?_ ?_
 exact fz ⟨sr,sr, .same (sI (by rw [M2 hk1a hk1b hall (by first|exact .inr ⟨x,hx,decide_eq_false c95⟩|exact .inl (by omega))])),sr,sr,sr,trivial⟩
 exact gz ⟨R,trivial⟩
 intro m hk3
 obtain ⟨hk,hno⟩:=hk3
 refine zr<|zp (Aq R R R)<|zn<|zs<|?_
 refine zd R (fun c102=> ?_) (fun c102=> ?_)
 have hk3a:m<(((Aj (Aj v p a).1 p b).1).tups).length:=by omega
 obtain ⟨x3,hx3⟩:=Ap hk3a
 have hok:=hT2 x3 (List.mem_of_getElem? hx3)
 unfold Tp.ok at hok
 refine zi<|zs<|Ai<|zr<|zp (Am R R R Ex (hx3))<|zp (Ae (s':= .d (.agg (Tp.c x3))) (Ar R R B8 lb) (by kernel_rfl))<|XL.step R (A0 17 (l:= [.d (dI 0), .d (dI 0), .d (dI 0), .d (dI 0)]) R Dx (by kernel_rfl))<|XL.step R (Ag (l':= [.d (dI x3.first), .d (dI x3.count), .d (dI x3.actual), .d (dI x3.normal)]) R R R R Fs R lb (by kernel_rfl))<|zn<|zs<|?_
 refine Bg [] (by kernel_rfl) (by kernel_rfl) (by kernel_rfl) (by decide)<|yp (Ab R R By)<|yp (Aa R R Ah R R)<|ym R R<|yp (T3 R R R)<|yp (Ab R R By)<|yp (Aa R R Ah R R)<|yp (Ab R R Dg)<|yp (Aa R R Ah R R)<|yp (Ak R R R (by omega) (by omega))<|ym R R<|yp (T2 R R R)<|ya R R<|ya R R<|?_
 refine ChK.nil ⟨by kernel_rfl, ?_⟩
 refine zr<|zm R R<|zm R R<|zp (Aq R R R)<|zm R R<|?_
 refine XL.dec 119 R (fun g119=> ?_) (fun g119=> ?_)
 refine zm R R<|zp (Ab R R By)<|zp (Aa R R Ah R R)<|zp (A9 R R R)<|zm R R<|?_
 refine XL.dec 124 R (fun g124=> ?_) (fun g124=> ?_)
 refine zk 7 R<|zq R R R<|zq R R R<|zn<|An (by kernel_rfl) R<|zr<|zp (Ae (s':= .d (.agg [.v (.slice none 0 0), .v (.slice none 0 0)])) (Ac (Be R Cg Ba R)) (by kernel_rfl))<|XL.step R (Ag (l':= [.d (.v (.slice none 0 0)), .d (.v (.slice none 0 0))]) R R R R Bu R lb (by kernel_rfl))<|za R R<|za R R<|za R R<|zn<|zt<|?_
 exact Ib R (RV.sub (RV.cells R R R Au lb R) (.agg (.cons (.nil 13) (.cons (.nil 4) (.nil))))) (RV.tmp R R) (RV.tmp R R) (RV.tmp R R) (by first|exact r4v ((Fw c24 c27 (by omega)).trans ((Ge c54 c65).trans (Ls hx3 (by unfold Dh;omega))))|exact r4v ((Fw c24 c27 (by omega)).trans ((Ge c54 c65).trans (Lr (fun j t ht=>hno j t (by have:=(List.getElem?_eq_some_iff.1 ht).1;omega) ht)))))
 refine zm R R<|zp (Ab R R By)<|zp (Aa R R Ah R R)<|zp (Ab R R Dg)<|zp (Aa R R Ah R R)<|zp (Ak R R R (by omega) (by omega))<|zp (A9 R R R)<|zq R R R<|zq R R R<|zn<|?_
 refine zd R (fun c133=> ?_) (fun c133=> ?_)
 refine zr<|zp (Ae (s':= .d (.agg [.v (.slice none 0 0), .v (.slice none 0 0)])) (Ac (Be R Cg Ba R)) (by kernel_rfl))<|XL.step R (Ag (l':= [.d (.v (.slice none 0 0)), .d (.v (.slice none 0 0))]) R R R R Bu R lb (by kernel_rfl))<|za R R<|za R R<|za R R<|zn<|zt<|?_
 exact Ib R (RV.sub (RV.cells R R R Au lb R) (.agg (.cons (.nil 13) (.cons (.nil 4) (.nil))))) (RV.tmp R R) (RV.tmp R R) (RV.tmp R R) (by first|exact r4v ((Fw c24 c27 (by omega)).trans ((Ge c54 c65).trans (Ls hx3 (by unfold Dh;omega))))|exact r4v ((Fw c24 c27 (by omega)).trans ((Ge c54 c65).trans (Lr (fun j t ht=>hno j t (by have:=(List.getElem?_eq_some_iff.1 ht).1;omega) ht)))))
 refine zi<|Af (by kernel_rfl)<|zp (Ak R R R (by omega) (by omega))<|zm R R<|zn<|?_
 exact Al (m+1) (⟨by omega,fun j t hj ht=>by by_cases e:j=m;(· subst e;rw [hx3] at ht;cases ht;unfold Dh;omega);(· exact hno j t (by omega) ht)⟩) (by omega) (fz ⟨sr,sr,sr,sr,sr,sr,trivial⟩) (gz ⟨rfl,trivial⟩)
 refine zk 13 R<|zq R R R<|zn<|Bb (by kernel_rfl) R<|zi<|Af (by kernel_rfl)<|zp (Ak R R R (by omega) (by omega))<|zm R R<|zn<|?_
 exact Al (m+1) (⟨by omega,fun j t hj ht=>by by_cases e:j=m;(· subst e;rw [hx3] at ht;cases ht;unfold Dh;omega);(· exact hno j t (by omega) ht)⟩) (by omega) (fz ⟨sr,sr,sr,sr,sr,sr,trivial⟩) (gz ⟨rfl,trivial⟩)
 have hk3b:m=(((Aj (Aj v p a).1 p b).1).tups).length:=by omega
 refine At<|zr<|zp (Ae (s':= .d (.agg (Vo.c (Aj (Aj v p a).1 p b).1))) (Ac (Ad R R Au R lb)) (by kernel_rfl))<|zm R R<|zm R R<|XL.step R (Ag (l':= [.d (.sl 13 (((Aj (Aj v p a).1 p b).1).evs.map Ev.c)), .d (.sl 4 (((Aj (Aj v p a).1 p b).1).tups.map Tp.c))]) R R R R Bu R lb (by kernel_rfl))<|za R R<|za R R<|za R R<|zn<|zt<|?_
 exact Ib R (RV.cells R R R Au lb R) (RV.tmp R R) (RV.tmp R R) (RV.tmp R R) (by first|exact r4v ((Fw c24 c27 (by omega)).trans ((Ge c54 c65).trans (Ls hx3 (by unfold Dh;omega))))|exact r4v ((Fw c24 c27 (by omega)).trans ((Ge c54 c65).trans (Lr (fun j t ht=>hno j t (by have:=(List.getElem?_eq_some_iff.1 ht).1;omega) ht)))))
 refine zk 6 R<|zq R R R<|zn<|Bb (by kernel_rfl) R<|At<|zs<|zr<|zp (Ab R R B3)<|zp (Aa R R B0 R R)<|XL.len R R R Tryz.underlying23 fun hl100=>zm R R<|zn<|Ai<|?_
 refine Av (α:=Nat) (fun m=>m≤(Aj (Aj v p a).1 p b).1.tups.length∧∀(j:Nat) t,j<m→(Aj (Aj v p a).1 p b).1.tups[j]? =some t→¬Dh t (Bz (Bm (ckL (Aj (Aj v p a).1 p b).1 p.len)) a) (F6 (Bm (ckL (Aj (Aj v p a).1 p b).1 p.len)) a b)) (fun m=>mkF [(8, .ptr 8 0 0),(9, .d (dI (Bz (Bm (ckL (Aj (Aj v p a).1 p b).1 p.len)) a:Nat))),(10, .d (dI (F6 (Bm (ckL (Aj (Aj v p a).1 p b).1 p.len)) a b:Nat))),(99, .d (.sl 4 (((Aj ((Aj v p a).1) p b).1).tups.map Tp.c))),(100, .d (dI (((Aj ((Aj v p a).1) p b).1).tups).length)),(101, .d (dI m))]) (fun m=>mkH [(8, .box ((Vo.c (Aj (Aj v p a).1 p b).1).map S.d))]) (fun m=>(((Aj (Aj v p a).1 p b).1).tups).length - m) (0) (⟨Nat.zero_le _,fun j t hj=>absurd hj (Nat.not_lt_zero _)⟩) ?_ ?_ ?_
 exact fz ⟨sr,sr, .same (sI (by rw [M2 hk1a hk1b hall (by first|exact .inr ⟨x,hx,decide_eq_false c95⟩|exact .inl (by omega))])),sr,sr,sr,trivial⟩
 exact gz ⟨R,trivial⟩
 intro m hk3
 obtain ⟨hk,hno⟩:=hk3
 refine zr<|zp (Aq R R R)<|zn<|zs<|?_
 refine zd R (fun c102=> ?_) (fun c102=> ?_)
 have hk3a:m<(((Aj (Aj v p a).1 p b).1).tups).length:=by omega
 obtain ⟨x3,hx3⟩:=Ap hk3a
 have hok:=hT2 x3 (List.mem_of_getElem? hx3)
 unfold Tp.ok at hok
 refine zi<|zs<|Ai<|zr<|zp (Am R R R Ex (hx3))<|zp (Ae (s':= .d (.agg (Tp.c x3))) (Ar R R B8 lb) (by kernel_rfl))<|XL.step R (A0 17 (l:= [.d (dI 0), .d (dI 0), .d (dI 0), .d (dI 0)]) R Dx (by kernel_rfl))<|XL.step R (Ag (l':= [.d (dI x3.first), .d (dI x3.count), .d (dI x3.actual), .d (dI x3.normal)]) R R R R Fs R lb (by kernel_rfl))<|zn<|zs<|?_
 refine Bg [] (by kernel_rfl) (by kernel_rfl) (by kernel_rfl) (by decide)<|yp (Ab R R By)<|yp (Aa R R Ah R R)<|ym R R<|yp (T3 R R R)<|yp (Ab R R By)<|yp (Aa R R Ah R R)<|yp (Ab R R Dg)<|yp (Aa R R Ah R R)<|yp (Ak R R R (by omega) (by omega))<|ym R R<|yp (T2 R R R)<|ya R R<|ya R R<|?_
 refine ChK.nil ⟨by kernel_rfl, ?_⟩
 refine zr<|zm R R<|zm R R<|zp (Aq R R R)<|zm R R<|?_
 refine XL.dec 119 R (fun g119=> ?_) (fun g119=> ?_)
 refine zm R R<|zp (Ab R R By)<|zp (Aa R R Ah R R)<|zp (A9 R R R)<|zm R R<|?_
 refine XL.dec 124 R (fun g124=> ?_) (fun g124=> ?_)
 refine zk 7 R<|zq R R R<|zq R R R<|zn<|An (by kernel_rfl) R<|zr<|zp (Ae (s':= .d (.agg [.v (.slice none 0 0), .v (.slice none 0 0)])) (Ac (Be R Cg Ba R)) (by kernel_rfl))<|XL.step R (Ag (l':= [.d (.v (.slice none 0 0)), .d (.v (.slice none 0 0))]) R R R R Bu R lb (by kernel_rfl))<|za R R<|za R R<|za R R<|zn<|zt<|?_
 exact Ib R (RV.sub (RV.cells R R R Au lb R) (.agg (.cons (.nil 13) (.cons (.nil 4) (.nil))))) (RV.tmp R R) (RV.tmp R R) (RV.tmp R R) (by first|exact r4v ((Fw c24 c27 (by omega)).trans ((Ge c54 c65).trans (Ls hx3 (by unfold Dh;omega))))|exact r4v ((Fw c24 c27 (by omega)).trans ((Ge c54 c65).trans (Lr (fun j t ht=>hno j t (by have:=(List.getElem?_eq_some_iff.1 ht).1;omega) ht)))))
 refine zm R R<|zp (Ab R R By)<|zp (Aa R R Ah R R)<|zp (Ab R R Dg)<|zp (Aa R R Ah R R)<|zp (Ak R R R (by omega) (by omega))<|zp (A9 R R R)<|zq R R R<|zq R R R<|zn<|?_
 refine zd R (fun c133=> ?_) (fun c133=> ?_)
 refine zr<|zp (Ae (s':= .d (.agg [.v (.slice none 0 0), .v (.slice none 0 0)])) (Ac (Be R Cg Ba R)) (by kernel_rfl))<|XL.step R (Ag (l':= [.d (.v (.slice none 0 0)), .d (.v (.slice none 0 0))]) R R R R Bu R lb (by kernel_rfl))<|za R R<|za R R<|za R R<|zn<|zt<|?_
 exact Ib R (RV.sub (RV.cells R R R Au lb R) (.agg (.cons (.nil 13) (.cons (.nil 4) (.nil))))) (RV.tmp R R) (RV.tmp R R) (RV.tmp R R) (by first|exact r4v ((Fw c24 c27 (by omega)).trans ((Ge c54 c65).trans (Ls hx3 (by unfold Dh;omega))))|exact r4v ((Fw c24 c27 (by omega)).trans ((Ge c54 c65).trans (Lr (fun j t ht=>hno j t (by have:=(List.getElem?_eq_some_iff.1 ht).1;omega) ht)))))
 refine zi<|Af (by kernel_rfl)<|zp (Ak R R R (by omega) (by omega))<|zm R R<|zn<|?_
 exact Al (m+1) (⟨by omega,fun j t hj ht=>by by_cases e:j=m;(· subst e;rw [hx3] at ht;cases ht;unfold Dh;omega);(· exact hno j t (by omega) ht)⟩) (by omega) (fz ⟨sr,sr,sr,sr,sr,sr,trivial⟩) (gz ⟨rfl,trivial⟩)
 refine zk 13 R<|zq R R R<|zn<|Bb (by kernel_rfl) R<|zi<|Af (by kernel_rfl)<|zp (Ak R R R (by omega) (by omega))<|zm R R<|zn<|?_
 exact Al (m+1) (⟨by omega,fun j t hj ht=>by by_cases e:j=m;(· subst e;rw [hx3] at ht;cases ht;unfold Dh;omega);(· exact hno j t (by omega) ht)⟩) (by omega) (fz ⟨sr,sr,sr,sr,sr,sr,trivial⟩) (gz ⟨rfl,trivial⟩)
 have hk3b:m=(((Aj (Aj v p a).1 p b).1).tups).length:=by omega
 refine At<|zr<|zp (Ae (s':= .d (.agg (Vo.c (Aj (Aj v p a).1 p b).1))) (Ac (Ad R R Au R lb)) (by kernel_rfl))<|zm R R<|zm R R<|XL.step R (Ag (l':= [.d (.sl 13 (((Aj (Aj v p a).1 p b).1).evs.map Ev.c)), .d (.sl 4 (((Aj (Aj v p a).1 p b).1).tups.map Tp.c))]) R R R R Bu R lb (by kernel_rfl))<|za R R<|za R R<|za R R<|zn<|zt<|?_
 exact Ib R (RV.cells R R R Au lb R) (RV.tmp R R) (RV.tmp R R) (RV.tmp R R) (by first|exact r4v ((Fw c24 c27 (by omega)).trans ((Ge c54 c65).trans (Ls hx3 (by unfold Dh;omega))))|exact r4v ((Fw c24 c27 (by omega)).trans ((Ge c54 c65).trans (Lr (fun j t ht=>hno j t (by have:=(List.getElem?_eq_some_iff.1 ht).1;omega) ht)))))
 refine zi<|zr<|zm R R<|za R R<|zn<|zs<|Ai<|?_
 refine Av (α:=Nat) (fun k=>Bz (Bm (ckL (Aj (Aj v p a).1 p b).1 p.len)) a≤k∧k≤(Bm (ckL (Aj (Aj v p a).1 p b).1 p.len)).length∧∀(j:Nat) x,Bz (Bm (ckL (Aj (Aj v p a).1 p b).1 p.len)) a≤j→j<k→(Bm (ckL (Aj (Aj v p a).1 p b).1 p.len))[j]? =some x→decide (a≤x∧x<b)=true) (fun k=>mkF [(8, .ptr 8 0 0),(9, .d (dI (Bz (Bm (ckL (Aj (Aj v p a).1 p b).1 p.len)) a:Nat))),(10, .d (dI (k:Nat))),(11, .d (dI (Aj ((Aj v p a).1) p b).2)),(13, .d (.sl 1 (B4 (Bm (ckL ((Aj ((Aj v p a).1) p b).1) p.len))))),(15, .d (.fn 129 [] [.pt ([dI a]), .pt ([dI b])]))]) (fun k=>mkH [(8, .box ((Vo.c (Aj ((Aj v p a).1) p b).1).map S.d))]) (fun k=>(Bm (ckL (Aj (Aj v p a).1 p b).1 p.len)).length - k) (Bz (Bm (ckL (Aj (Aj v p a).1 p b).1 p.len)) a) (⟨Nat.le_refl _,hfl,fun j x h1 h2=>by omega⟩) ?_ ?_ ?_
 exact fz ⟨sr, .same (sI (by first|exact Ld c80|exact L8 c80)), .same (sI (by first|exact Ld c80|exact L8 c80)),sr,sr,sr,trivial⟩
 exact gz ⟨R,trivial⟩
 intro k hk1
 obtain ⟨hk1a,hk1b,hall⟩:=hk1
 refine zs<|zr<|zm R R<|zm R R<|XL.len R R R Tryz.underlying64 fun hl86=>zp (Aq R R R)<|zm R R<|?_
 refine XL.dec 88 R (fun g88=> ?_) (fun g88=> ?_)
 obtain ⟨x,hx⟩:∃x,(Bm (ckL (Aj (Aj v p a).1 p b).1 p.len))[k]? =some x:=Ap (by omega)
 refine zm R R<|zm R R<|zm R R<|zp (Am R R R C9 (hx))<|zp (Aw R R Ah)<|XL.callv1 (ds:= [_]) R R R (Aek x a b) R<|zq R R R<|zn<|?_
 refine zd R (fun c95=> ?_) (fun c95=> ?_)
 refine zi<|Ai<|Af (by kernel_rfl)<|zm R R<|zp (Ak R R R (by omega) (by omega))<|za R R<|zn<|Hl<|?_
 exact Al (k+1) (⟨by omega,by have:=(List.getElem?_eq_some_iff.1 hx).1;omega,fun j y h1 h2 hy=>by by_cases e:j=k;(· subst e;rw [hx] at hy;cases hy;exact decide_eq_true c95);(· exact hall j y h1 (by omega) hy)⟩) (by have:=(List.getElem?_eq_some_iff.1 hx).1;omega) (fz ⟨sr,sr, .same (sI (by omega)),sr,sr,sr,trivial⟩) (gz ⟨rfl,trivial⟩)
 refine At<|zs<|zr<|zp (Ab R R B3)<|zp (Aa R R B0 R R)<|XL.len R R R Tryz.underlying23 fun hl100=>zm R R<|zn<|Ai<|?_
 refine Av (α:=Nat) (fun m=>m≤(Aj (Aj v p a).1 p b).1.tups.length∧∀(j:Nat) t,j<m→(Aj (Aj v p a).1 p b).1.tups[j]? =some t→¬Dh t (Bz (Bm (ckL (Aj (Aj v p a).1 p b).1 p.len)) a) (F6 (Bm (ckL (Aj (Aj v p a).1 p b).1 p.len)) a b)) (fun m=>mkF [(8, .ptr 8 0 0),(9, .d (dI (Bz (Bm (ckL (Aj (Aj v p a).1 p b).1 p.len)) a:Nat))),(10, .d (dI (F6 (Bm (ckL (Aj (Aj v p a).1 p b).1 p.len)) a b:Nat))),(99, .d (.sl 4 (((Aj ((Aj v p a).1) p b).1).tups.map Tp.c))),(100, .d (dI (((Aj ((Aj v p a).1) p b).1).tups).length)),(101, .d (dI m))]) (fun m=>mkH [(8, .box ((Vo.c (Aj (Aj v p a).1 p b).1).map S.d))]) (fun m=>(((Aj (Aj v p a).1 p b).1).tups).length - m) (0) (⟨Nat.zero_le _,fun j t hj=>absurd hj (Nat.not_lt_zero _)⟩) ?_ ?_ ?_
 exact fz ⟨sr,sr, .same (sI (by rw [M2 hk1a hk1b hall (by first|exact .inr ⟨x,hx,decide_eq_false c95⟩|exact .inl (by omega))])),sr,sr,sr,trivial⟩
 exact gz ⟨R,trivial⟩
 intro m hk3
 obtain ⟨hk,hno⟩:=hk3
 refine zr<|zp (Aq R R R)<|zn<|zs<|?_
 refine zd R (fun c102=> ?_) (fun c102=> ?_)
 have hk3a:m<(((Aj (Aj v p a).1 p b).1).tups).length:=by omega
 obtain ⟨x3,hx3⟩:=Ap hk3a
 have hok:=hT2 x3 (List.mem_of_getElem? hx3)
 unfold Tp.ok at hok
 refine zi<|zs<|Ai<|zr<|zp (Am R R R Ex (hx3))<|zp (Ae (s':= .d (.agg (Tp.c x3))) (Ar R R B8 lb) (by kernel_rfl))<|XL.step R (A0 17 (l:= [.d (dI 0), .d (dI 0), .d (dI 0), .d (dI 0)]) R Dx (by kernel_rfl))<|XL.step R (Ag (l':= [.d (dI x3.first), .d (dI x3.count), .d (dI x3.actual), .d (dI x3.normal)]) R R R R Fs R lb (by kernel_rfl))<|zn<|zs<|?_
 refine Bg [] (by kernel_rfl) (by kernel_rfl) (by kernel_rfl) (by decide)<|yp (Ab R R By)<|yp (Aa R R Ah R R)<|ym R R<|yp (T3 R R R)<|yp (Ab R R By)<|yp (Aa R R Ah R R)<|yp (Ab R R Dg)<|yp (Aa R R Ah R R)<|yp (Ak R R R (by omega) (by omega))<|ym R R<|yp (T2 R R R)<|ya R R<|ya R R<|?_
 refine ChK.nil ⟨by kernel_rfl, ?_⟩
 refine zr<|zm R R<|zm R R<|zp (Aq R R R)<|zm R R<|?_
 refine XL.dec 119 R (fun g119=> ?_) (fun g119=> ?_)
 refine zm R R<|zp (Ab R R By)<|zp (Aa R R Ah R R)<|zp (A9 R R R)<|zm R R<|?_
 refine XL.dec 124 R (fun g124=> ?_) (fun g124=> ?_)
 refine zk 7 R<|zq R R R<|zq R R R<|zn<|An (by kernel_rfl) R<|zr<|zp (Ae (s':= .d (.agg [.v (.slice none 0 0), .v (.slice none 0 0)])) (Ac (Be R Cg Ba R)) (by kernel_rfl))<|XL.step R (Ag (l':= [.d (.v (.slice none 0 0)), .d (.v (.slice none 0 0))]) R R R R Bu R lb (by kernel_rfl))<|za R R<|za R R<|za R R<|zn<|zt<|?_
 exact Ib R (RV.sub (RV.cells R R R Au lb R) (.agg (.cons (.nil 13) (.cons (.nil 4) (.nil))))) (RV.tmp R R) (RV.tmp R R) (RV.tmp R R) (by first|exact r4v ((Fw c24 c27 (by omega)).trans ((Ge c54 c65).trans (Ls hx3 (by unfold Dh;omega))))|exact r4v ((Fw c24 c27 (by omega)).trans ((Ge c54 c65).trans (Lr (fun j t ht=>hno j t (by have:=(List.getElem?_eq_some_iff.1 ht).1;omega) ht)))))
 refine zm R R<|zp (Ab R R By)<|zp (Aa R R Ah R R)<|zp (Ab R R Dg)<|zp (Aa R R Ah R R)<|zp (Ak R R R (by omega) (by omega))<|zp (A9 R R R)<|zq R R R<|zq R R R<|zn<|?_
 refine zd R (fun c133=> ?_) (fun c133=> ?_)
 refine zr<|zp (Ae (s':= .d (.agg [.v (.slice none 0 0), .v (.slice none 0 0)])) (Ac (Be R Cg Ba R)) (by kernel_rfl))<|XL.step R (Ag (l':= [.d (.v (.slice none 0 0)), .d (.v (.slice none 0 0))]) R R R R Bu R lb (by kernel_rfl))<|za R R<|za R R<|za R R<|zn<|zt<|?_
 exact Ib R (RV.sub (RV.cells R R R Au lb R) (.agg (.cons (.nil 13) (.cons (.nil 4) (.nil))))) (RV.tmp R R) (RV.tmp R R) (RV.tmp R R) (by first|exact r4v ((Fw c24 c27 (by omega)).trans ((Ge c54 c65).trans (Ls hx3 (by unfold Dh;omega))))|exact r4v ((Fw c24 c27 (by omega)).trans ((Ge c54 c65).trans (Lr (fun j t ht=>hno j t (by have:=(List.getElem?_eq_some_iff.1 ht).1;omega) ht)))))
 refine zi<|Af (by kernel_rfl)<|zp (Ak R R R (by omega) (by omega))<|zm R R<|zn<|?_
 exact Al (m+1) (⟨by omega,fun j t hj ht=>by by_cases e:j=m;(· subst e;rw [hx3] at ht;cases ht;unfold Dh;omega);(· exact hno j t (by omega) ht)⟩) (by omega) (fz ⟨sr,sr,sr,sr,sr,sr,trivial⟩) (gz ⟨rfl,trivial⟩)
 refine zk 13 R<|zq R R R<|zn<|Bb (by kernel_rfl) R<|zi<|Af (by kernel_rfl)<|zp (Ak R R R (by omega) (by omega))<|zm R R<|zn<|?_
 exact Al (m+1) (⟨by omega,fun j t hj ht=>by by_cases e:j=m;(· subst e;rw [hx3] at ht;cases ht;unfold Dh;omega);(· exact hno j t (by omega) ht)⟩) (by omega) (fz ⟨sr,sr,sr,sr,sr,sr,trivial⟩) (gz ⟨rfl,trivial⟩)
 have hk3b:m=(((Aj (Aj v p a).1 p b).1).tups).length:=by omega
 refine At<|zr<|zp (Ae (s':= .d (.agg (Vo.c (Aj (Aj v p a).1 p b).1))) (Ac (Ad R R Au R lb)) (by kernel_rfl))<|zm R R<|zm R R<|XL.step R (Ag (l':= [.d (.sl 13 (((Aj (Aj v p a).1 p b).1).evs.map Ev.c)), .d (.sl 4 (((Aj (Aj v p a).1 p b).1).tups.map Tp.c))]) R R R R Bu R lb (by kernel_rfl))<|za R R<|za R R<|za R R<|zn<|zt<|?_
 exact Ib R (RV.cells R R R Au lb R) (RV.tmp R R) (RV.tmp R R) (RV.tmp R R) (by first|exact r4v ((Fw c24 c27 (by omega)).trans ((Ge c54 c65).trans (Ls hx3 (by unfold Dh;omega))))|exact r4v ((Fw c24 c27 (by omega)).trans ((Ge c54 c65).trans (Lr (fun j t ht=>hno j t (by have:=(List.getElem?_eq_some_iff.1 ht).1;omega) ht)))))
 refine zk 6 R<|zq R R R<|zn<|Bb (by kernel_rfl) R<|At<|zs<|zr<|zp (Ab R R B3)<|zp (Aa R R B0 R R)<|XL.len R R R Tryz.underlying23 fun hl100=>zm R R<|zn<|Ai<|?_
 refine Av (α:=Nat) (fun m=>m≤(Aj (Aj v p a).1 p b).1.tups.length∧∀(j:Nat) t,j<m→(Aj (Aj v p a).1 p b).1.tups[j]? =some t→¬Dh t (Bz (Bm (ckL (Aj (Aj v p a).1 p b).1 p.len)) a) (F6 (Bm (ckL (Aj (Aj v p a).1 p b).1 p.len)) a b)) (fun m=>mkF [(8, .ptr 8 0 0),(9, .d (dI (Bz (Bm (ckL (Aj (Aj v p a).1 p b).1 p.len)) a:Nat))),(10, .d (dI (F6 (Bm (ckL (Aj (Aj v p a).1 p b).1 p.len)) a b:Nat))),(99, .d (.sl 4 (((Aj ((Aj v p a).1) p b).1).tups.map Tp.c))),(100, .d (dI (((Aj ((Aj v p a).1) p b).1).tups).length)),(101, .d (dI m))]) (fun m=>mkH [(8, .box ((Vo.c (Aj (Aj v p a).1 p b).1).map S.d))]) (fun m=>(((Aj (Aj v p a).1 p b).1).tups).length - m) (0) (⟨Nat.zero_le _,fun j t hj=>absurd hj (Nat.not_lt_zero _)⟩) ?_ ?_ ?_
 exact fz ⟨sr,sr, .same (sI (by rw [M2 hk1a hk1b hall (by first|exact .inr ⟨x,hx,decide_eq_false c95⟩|exact .inl (by omega))])),sr,sr,sr,trivial⟩
 exact gz ⟨R,trivial⟩
 intro m hk3
 obtain ⟨hk,hno⟩:=hk3
 refine zr<|zp (Aq R R R)<|zn<|zs<|?_
 refine zd R (fun c102=> ?_) (fun c102=> ?_)
 have hk3a:m<(((Aj (Aj v p a).1 p b).1).tups).length:=by omega
 obtain ⟨x3,hx3⟩:=Ap hk3a
 have hok:=hT2 x3 (List.mem_of_getElem? hx3)
 unfold Tp.ok at hok
 refine zi<|zs<|Ai<|zr<|zp (Am R R R Ex (hx3))<|zp (Ae (s':= .d (.agg (Tp.c x3))) (Ar R R B8 lb) (by kernel_rfl))<|XL.step R (A0 17 (l:= [.d (dI 0), .d (dI 0), .d (dI 0), .d (dI 0)]) R Dx (by kernel_rfl))<|XL.step R (Ag (l':= [.d (dI x3.first), .d (dI x3.count), .d (dI x3.actual), .d (dI x3.normal)]) R R R R Fs R lb (by kernel_rfl))<|zn<|zs<|?_
 refine Bg [] (by kernel_rfl) (by kernel_rfl) (by kernel_rfl) (by decide)<|yp (Ab R R By)<|yp (Aa R R Ah R R)<|ym R R<|yp (T3 R R R)<|yp (Ab R R By)<|yp (Aa R R Ah R R)<|yp (Ab R R Dg)<|yp (Aa R R Ah R R)<|yp (Ak R R R (by omega) (by omega))<|ym R R<|yp (T2 R R R)<|ya R R<|ya R R<|?_
 refine ChK.nil ⟨by kernel_rfl, ?_⟩
 refine zr<|zm R R<|zm R R<|zp (Aq R R R)<|zm R R<|?_
 refine XL.dec 119 R (fun g119=> ?_) (fun g119=> ?_)
 refine zm R R<|zp (Ab R R By)<|zp (Aa R R Ah R R)<|zp (A9 R R R)<|zm R R<|?_
 refine XL.dec 124 R (fun g124=> ?_) (fun g124=> ?_)
 refine zk 7 R<|zq R R R<|zq R R R<|zn<|An (by kernel_rfl) R<|zr<|zp (Ae (s':= .d (.agg [.v (.slice none 0 0), .v (.slice none 0 0)])) (Ac (Be R Cg Ba R)) (by kernel_rfl))<|XL.step R (Ag (l':= [.d (.v (.slice none 0 0)), .d (.v (.slice none 0 0))]) R R R R Bu R lb (by kernel_rfl))<|za R R<|za R R<|za R R<|zn<|zt<|?_
 exact Ib R (RV.sub (RV.cells R R R Au lb R) (.agg (.cons (.nil 13) (.cons (.nil 4) (.nil))))) (RV.tmp R R) (RV.tmp R R) (RV.tmp R R) (by first|exact r4v ((Fw c24 c27 (by omega)).trans ((Ge c54 c65).trans (Ls hx3 (by unfold Dh;omega))))|exact r4v ((Fw c24 c27 (by omega)).trans ((Ge c54 c65).trans (Lr (fun j t ht=>hno j t (by have:=(List.getElem?_eq_some_iff.1 ht).1;omega) ht)))))
 refine zm R R<|zp (Ab R R By)<|zp (Aa R R Ah R R)<|zp (Ab R R Dg)<|zp (Aa R R Ah R R)<|zp (Ak R R R (by omega) (by omega))<|zp (A9 R R R)<|zq R R R<|zq R R R<|zn<|?_
 refine zd R (fun c133=> ?_) (fun c133=> ?_)
 refine zr<|zp (Ae (s':= .d (.agg [.v (.slice none 0 0), .v (.slice none 0 0)])) (Ac (Be R Cg Ba R)) (by kernel_rfl))<|XL.step R (Ag (l':= [.d (.v (.slice none 0 0)), .d (.v (.slice none 0 0))]) R R R R Bu R lb (by kernel_rfl))<|za R R<|za R R<|za R R<|zn<|zt<|?_
 exact Ib R (RV.sub (RV.cells R R R Au lb R) (.agg (.cons (.nil 13) (.cons (.nil 4) (.nil))))) (RV.tmp R R) (RV.tmp R R) (RV.tmp R R) (by first|exact r4v ((Fw c24 c27 (by omega)).trans ((Ge c54 c65).trans (Ls hx3 (by unfold Dh;omega))))|exact r4v ((Fw c24 c27 (by omega)).trans ((Ge c54 c65).trans (Lr (fun j t ht=>hno j t (by have:=(List.getElem?_eq_some_iff.1 ht).1;omega) ht)))))
 refine zi<|Af (by kernel_rfl)<|zp (Ak R R R (by omega) (by omega))<|zm R R<|zn<|?_
 exact Al (m+1) (⟨by omega,fun j t hj ht=>by by_cases e:j=m;(· subst e;rw [hx3] at ht;cases ht;unfold Dh;omega);(· exact hno j t (by omega) ht)⟩) (by omega) (fz ⟨sr,sr,sr,sr,sr,sr,trivial⟩) (gz ⟨rfl,trivial⟩)
 refine zk 13 R<|zq R R R<|zn<|Bb (by kernel_rfl) R<|zi<|Af (by kernel_rfl)<|zp (Ak R R R (by omega) (by omega))<|zm R R<|zn<|?_
 exact Al (m+1) (⟨by omega,fun j t hj ht=>by by_cases e:j=m;(· subst e;rw [hx3] at ht;cases ht;unfold Dh;omega);(· exact hno j t (by omega) ht)⟩) (by omega) (fz ⟨sr,sr,sr,sr,sr,sr,trivial⟩) (gz ⟨rfl,trivial⟩)
 have hk3b:m=(((Aj (Aj v p a).1 p b).1).tups).length:=by omega
 refine At<|zr<|zp (Ae (s':= .d (.agg (Vo.c (Aj (Aj v p a).1 p b).1))) (Ac (Ad R R Au R lb)) (by kernel_rfl))<|zm R R<|zm R R<|XL.step R (Ag (l':= [.d (.sl 13 (((Aj (Aj v p a).1 p b).1).evs.map Ev.c)), .d (.sl 4 (((Aj (Aj v p a).1 p b).1).tups.map Tp.c))]) R R R R Bu R lb (by kernel_rfl))<|za R R<|za R R<|za R R<|zn<|zt<|?_
 exact Ib R (RV.cells R R R Au lb R) (RV.tmp R R) (RV.tmp R R) (RV.tmp R R) (by first|exact r4v ((Fw c24 c27 (by omega)).trans ((Ge c54 c65).trans (Ls hx3 (by unfold Dh;omega))))|exact r4v ((Fw c24 c27 (by omega)).trans ((Ge c54 c65).trans (Lr (fun j t ht=>hno j t (by have:=(List.getElem?_eq_some_iff.1 ht).1;omega) ht)))))
end Go.Proofs.YtcihalbakenleaaGreat
