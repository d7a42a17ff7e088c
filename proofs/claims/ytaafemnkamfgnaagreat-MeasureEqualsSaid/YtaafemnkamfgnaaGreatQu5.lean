/- Part 5 of what the statements need: lemmas and walks. -/
import Derived.Lib.AppendZeros
import Derived.Test.YtaafemnkamfgnaaGreatQu4
set_option linter.unusedVariables false
set_option linter.unusedSimpArgs false
set_option linter.unusedSectionVars false
set_option maxRecDepth 20000
set_option maxHeartbeats 8000000
namespace Go.Proofs.YtaafemnkamfgnaaGreat
open Go.RowKit
section
variable {P:Program} {o:Oper} {e:Operand→S} {h:Xh}
theorem Wp {t el:TypeId} {x:Operand} (ho:o.op= .call {callee:= .builtin .cap,args:= #[x],argTypes:= #[t]}) (hx:e x= .d (.v (.slice none 0 0))) (hu:P.underlying t=some (.slice el)):A9 P o e h (.d (.v (.int .i64 0))):=fun E H β ρ w _ hop=>by
  have g:=hop x (by rw [ho];simp [Op.operands,Call.operands])
  rw [hx] at g
  refine ⟨_, ?_, .d (.v (.int .i64 0))⟩
  unfold execOp
  simp only [ho,resolve,invoke,builtin,Sem.run_bind,Sem.run_pure,Result.andThen_ok,List.map_toArray,List.map_cons,List.map_nil,Dn g]
  unfold Builtin.cap_
  simp only [List.getElem?_toArray,List.getElem?_cons_zero,Sem.run_bind,run_underlying hu,Result.andThen_ok,Sem.run_pure,goInt]
  rfl
theorem Adh {t sz:Nat} {x y:Operand} {k:IntKind} (ho:o.op= .slice t x none (some y) none) (hx:e x= .d (.v (.slice none 0 0))) (hy:e y= .d (.v (.int k 0))) (hf:elB P t sz=true):A9 P o e h (.d (.v (.slice none 0 0))):=fun E H β ρ w _ hop=>by
  have g:=hop x (by rw [ho];simp [Op.operands])
  have g2:=hop y (by rw [ho];simp [Op.operands])
  rw [hx] at g
  rw [hy] at g2
  obtain ⟨el,hu,hpos,hsz⟩:=elB.parts hf
  have hb:(Instr.sliceBounds true 0 0 (none:Option Value) (some (ρ y)) none).run P w= .ok (0,0,0) w:=by
    rw [Dn g2]
    exact Mj none (some (.int k 0)) 0 0 0 0 (.inl ⟨rfl,rfl⟩) (.inr ⟨k,rfl⟩) (Nat.le_refl _) (Nat.le_refl _) w
  refine ⟨_, ?_, .d (.v _)⟩
  unfold execOp
  simp only [ho,Dn g,Instr.sliceAt,Option.map_none,Option.map_some,Sem.run_bind,run_underlying hu,Result.andThen_ok,Instr.slice,hb,hsz,Sem.run_pure,Nat.sub_zero,if_true]
end
section
variable {P:Program} {n:Nat} {o:Oper} {f:Fr} {h:Xh}
theorem Agy (i:Nat) {t tn ty:TypeId} {sz bytes:Nat} {x y:Operand} {z:Value} {zs:List D} {k:Nat} {kq kn:IntKind} (ho:o.op= .call {callee:= .builtin .append,args:= #[x,y],argTypes:= #[t,tn]})
    (hx:ev f x= .d (.v (.slice none 0 0))) (hy:ev f y= .d (.v (.int kq k))) (hu:P.underlying t=some (.slice ty)) (hun:P.underlying tn=some (.int kn)) (hinf:(P.info? ty).map (fun i=>(i.zero,i.size,i.bytes))=some (some z,sz,bytes))
    (hzs:z.cells.toList.map D.v=zs) (hzl:z.cells.size=sz) (hz1:∀u∈z.cells,u.oneCell'=true) (hpos:0<sz) (hk:0<k) (hcm:k≤maxLen) (hby:k*bytes≤140737488355328):
    Step P n o f h (.own i) (Dw f i) ((h.kill i).set i (.row ty sz (List.replicate k zs))):=by
  intro E H β a w hs hf hop
  have g1:=hop x (by rw [ho];simp [Op.operands,Call.operands])
  have g2:=hop y (by rw [ho];simp [Op.operands,Call.operands])
  rw [hx] at g1
  rw [hy] at g2
  obtain ⟨inf,hi,hi1,hi2,hi3⟩:=info_parts hinf
  have hcm':k≤9223372036854775807:=Aj5 hcm
  have hrun0:=Lib.run_append_nil_zeros (P:=P) w t tn o.type ty inf z kq kn hu hun hi hi1 k hk (by omega) (by omega) (by rw [hi3];omega)
  have hrun:(execOp a.eval o).run P w= .ok (.value (.slice (some ⟨w.heap.size,0,none⟩) (List.replicate k zs).length (grownCap w k 0 ty))) (w.drew.alloc (.cells (Builtin.zeroCells z.cells k++Builtin.zeroCells z.cells (grownCap w k 0 ty - k)) ty)):=by
    unfold execOp
    simp only [ho,Dn g1,Dn g2,resolve,invoke,builtin,Sem.run_bind,Sem.run_pure,Result.andThen_ok,List.map_toArray,List.map_cons,List.map_nil,hrun0,List.length_replicate]
  unfold Oper.wp
  rw [hrun]
  have hge:=grownCap_ge w k 0 ty
  have hle:=grownCap_le_maxLen w k 0 ty hcm
  have hzsl:zs.length=sz:=by rw [←hzs,List.length_map,Array.length_toList,hzl]
  have hzget : ∀ m q, q < m * sz → (Builtin.zeroCells z.cells m)[q]? = some (z.cells[q % z.cells.size]'(Nat.mod_lt _ (by omega))) := by
    intro m q hq
    unfold Builtin.zeroCells
    rw [Array.getElem?_map]
    have:(Array.range (m*z.cells.size))[q]? =some q:=by rw [hzl];simp [hq]
    rw [this,Option.map_some]
    congr 1
    exact getElem!_pos z.cells (q % z.cells.size) (Nat.mod_lt _ (by omega))
  have hzsz:∀m,(Builtin.zeroCells z.cells m).size=m*sz:=fun m=>by unfold Builtin.zeroCells;simp [hzl]
  have hzone:∀m,∀u∈Builtin.zeroCells z.cells m,u.oneCell'=true:=fun m u hu=>by
    obtain ⟨q,hq⟩:=Array.getElem?_of_mem hu
    have hql:=(Array.getElem?_eq_some_iff.1 hq).1
    rw [hzget m q (by rw [←hzsz];exact hql)] at hq
    cases hq
    exact hz1 _ (Array.getElem_mem _)
  have hsim := hs.drew.add_row i (ty := ty) (sz := sz) (cap := grownCap w k 0 ty) (l := List.replicate k zs) (Builtin.zeroCells z.cells k ++ Builtin.zeroCells z.cells (grownCap w k 0 ty - k)) (fun x hx => by rw [List.eq_of_mem_replicate hx]; exact hzsl) (by rw [List.length_replicate]; exact hge) hle (by
      rw [Array.size_append, hzsz, hzsz, ← Nat.add_mul]; congr 1; omega) (fun u hu => by
      rcases Array.mem_append.1 hu with h|h
      · exact hzone _ u h
      · exact hzone _ u h) (fun k' j x d hk' hj => by
      have hkl:=(List.getElem?_eq_some_iff.1 hk').1
      rw [List.length_replicate] at hkl
      have hx:=List.eq_of_mem_replicate (List.mem_of_getElem? hk')
      subst hx
      have hjl:=(List.getElem?_eq_some_iff.1 hj).1
      rw [hzsl] at hjl
      have h1:(k'+1)*sz≤k*sz:=Nat.mul_le_mul_right _ hkl
      rw [Nat.add_mul] at h1
      refine ⟨_,by rw [Array.getElem?_append_left (by rw [hzsz];omega)];exact hzget k (k'*sz+j) (by omega), ?_⟩
      have e2:(k'*sz+j) % sz=j:=by rw [Nat.mul_comm,Nat.mul_add_mod,Nat.mod_eq_of_lt hjl]
      rw [←hzs,List.getElem?_map,Array.getElem?_toList,Array.getElem?_eq_getElem (by omega)] at hj
      cases hj
      have e3 : z.cells[(k' * sz + j) % z.cells.size]'(Nat.mod_lt _ (by omega)) = z.cells[j]'(by omega) := by congr 1; rw [hzl, e2]
      rw [e3]
      exact .v _)
  exact ⟨H,_,_,rfl,hsim,hf.kill i _,M8 H β i ⟨_,w.heap.size,sz,noB⟩⟩
end
inductive DSubs:List D→List D→Prop where
  |nil:DSubs [] []
  |cons {d d':D} {l l':List D} (h:DSub d d') (hl:DSubs l l'):DSubs (d::l) (d'::l')
theorem DSubs.len {l l':List D} (h:DSubs l l'):l.length=l'.length:=by
  induction h with
  |nil=>rfl
  |cons _ _ ih=>simp [ih]
theorem DSubs.get {l l':List D} (h:DSubs l l'):∀{i:Nat} {d':D},l'[i]? =some d'→∃d,l[i]? =some d∧DSub d d':=by
  induction h with
  |nil=>intro i d' e;simp at e
  | @cons d d' l l' h _ ih=>
    intro i e he
    cases i with
    |zero=>simp at he;subst he;exact ⟨d,rfl,h⟩
    |succ i=>simpa using ih (by simpa using he)
theorem XS.sub {P:Program} {F:FuncId} {ds ds0:List D} {s:S} {os:List (Nat × XO)} (hx:XS P F ds s os) (hs:DSubs ds0 ds):XS P F ds0 s os:=by
  obtain ⟨h1,h2,h3⟩:=hx
  refine ⟨h1,h2,fun H w vs him hsz hvs=>h3 H w vs him (by rw [hsz,hs.len]) fun i x d hx hd=> ?_⟩
  obtain ⟨d0,e1,e2⟩:=hs.get hd
  exact e2.vd (hvs i x d0 hx e1)
mutual
theorem S.frz_kill (i:Nat) (x:D):∀s:S,(s.kill i).frz i x=s.kill i
  | .any=>by simp only [S.kill,S.frz]
  | .d y=>by simp only [S.kill,S.frz]
  | .ptr j k off=>by
    simp only [S.kill]
    by_cases e:i=j
    · subst e;rw [Bh];simp only [cond_true,S.frz]
    · rw [Bp e];simp only [cond_false,S.frz]
  | .own j=>by
    simp only [S.kill]
    by_cases e:i=j
    · subst e;rw [Bh];simp only [cond_true,S.frz]
    · rw [Bp e];simp only [cond_false,S.frz,Bp e]
  | .sub j a b=>by
    simp only [S.kill]
    by_cases e:i=j
    · subst e;rw [Bh];simp only [cond_true,S.frz]
    · rw [Bp e];simp only [cond_false,S.frz,Bp e]
  | .agg l=>by simp only [S.kill,S.frz,S.frzL_kill i x l]
  | .fn f a c=>by simp only [S.kill,S.frz,S.frzL_kill i x a,S.frzL_kill i x c]
  | .tup l=>by simp only [S.kill,S.frz,S.frzL_kill i x l]
theorem S.frzL_kill (i:Nat) (x:D):∀l:List S,S.frzL i x (S.killL i l)=S.killL i l
  | []=>by simp only [S.killL,S.frzL]
  |s::l=>by simp only [S.killL,S.frzL,S.frz_kill i x s,S.frzL_kill i x l]
end
theorem S.frzG_kill (i:Nat) (x:D):∀l:List (Nat × S),S.frzG i x (S.killG i l)=S.killG i l
  | []=>rfl
  |(t,s)::l=>by simp only [S.killG,S.frzG,S.frz_kill i x s,S.frzG_kill i x l]
mutual
theorem T.frz_kill (i:Nat) (x:D):∀t:T,T.mp (T.frzF i x) (T.mp (T.killF i) t)=T.mp (T.killF i) t
  | .any=>rfl
  | .d _=>rfl
  | .own j=>by
    show T.mp (T.frzF i x) (T.killF i j)=T.killF i j
    unfold T.killF
    cases e:Nat.beq i j with
    |true=>rfl
    |false=>show (bif Nat.beq i j then T.d x else T.own j)=T.own j;rw [e];rfl
  | .row e sz l=>by simp only [T.mp,T.frz_killLL i x l]
theorem T.frz_killL (i:Nat) (x:D):∀l:List T,T.mpL (T.frzF i x) (T.mpL (T.killF i) l)=T.mpL (T.killF i) l
  | []=>rfl
  |s::l=>by simp only [T.mpL,T.frz_kill i x s,T.frz_killL i x l]
theorem T.frz_killLL (i:Nat) (x:D):∀l:List (List T),T.mpLL (T.frzF i x) (T.mpLL (T.killF i) l)=T.mpLL (T.killF i) l
  | []=>rfl
  |s::l=>by simp only [T.mpLL,T.frz_killL i x s,T.frz_killLL i x l]
end
theorem XO.frz_kill (i:Nat) (x:D) (o:XO):(o.kill i).frz i x=o.kill i:=by
  cases o with
  |box l=>simp only [XO.kill,XO.frz,S.frzL_kill]
  |row e sz l=>rfl
  |rowS e sz l=>
    simp only [XO.kill,XO.frz,List.map_map]
    congr 1
    exact List.map_congr_left fun y _=>S.frzL_kill i x y
  |tree e sz ls l=>
    show XO.frz i x (bif B2 i ls then XO.tree e sz ls (T.mpLL (T.killF i) l) else XO.tree e sz ls l)=bif B2 i ls then XO.tree e sz ls (T.mpLL (T.killF i) l) else XO.tree e sz ls l
    cases hm:B2 i ls with
    |true=>show (bif B2 i ls then XO.tree e sz ls (T.mpLL (T.frzF i x) (T.mpLL (T.killF i) l)) else XO.tree e sz ls (T.mpLL (T.killF i) l))=_;rw [hm,T.frz_killLL];rfl
    |false=>show (bif B2 i ls then XO.tree e sz ls (T.mpLL (T.frzF i x) l) else XO.tree e sz ls l)=_;rw [hm];rfl
  |ghost u l=>simp only [XO.kill,XO.frz,S.frzG_kill]
def Pq (i:Nat):Nat→Option XO→Option XO:=fun k y=>bif Nat.beq i k then none else y.map (XO.kill i)
theorem W4 {i:Nat} (z z':Option XO):Pq i i z=Pq i i z':=by simp only [Pq,Bh,cond_true]
section
variable {P:Program} {n:Nat} {o:Oper} {f:Fr} {h:Xh}
theorem W3 {i:Nat} {t ty:TypeId} {sz bytes:Nat} {x y:Operand} {l l' l2:List (List D)} (ho:o.op= .call {callee:= .builtin .append,args:= #[x,y],argTypes:= #[t,t]}) (T:ElemTy P t ty sz bytes)
    (hx:Dest h (ev f x) i ty sz l) (hy:Src h (ev f y) sz l') (h63:l.length+l'.length≤maxLen) (hby:(l.length+l'.length)*bytes≤140737488355328) (hl2:l++l'=l2):
    ∀hF,HLe h hF→Ie P n o f hF i (.d (.sl sz l2)) (S.kill i) (hF.by (Pq i)):=by
  intro hF hle f' he E H β a w hs hf hop
  refine Dm (Tv ho T hx hy h63 hby hl2 hF hle f' he E H β a w hs hf hop) ?_
  rintro a' w' ⟨H',β',u,rfl,k1,k2,k3,k4⟩
  obtain ⟨H2,g1,g2,g3⟩:=k1.freeze (i:=i) (e:=ty) (sz:=sz) (l:=l2) (by show Zr i _ i _=_;simp only [Zr,Bh,cond_true])
  obtain ⟨L,hL,hu⟩:=Fa k4
  refine ⟨H2,β',u,rfl,g3.drop (fun k o e=> ?_),k2.mono g1 (fun _ _ h=>h),k3, .d (by rw [hu];exact g2 L hL)⟩
  unfold Xh.by Pq at e
  unfold Xh.frz Xh.by Zr
  by_cases e':i=k
  · subst e';simp only [Bh,cond_true] at e;cases e
  · simp only [Bp e',cond_false] at e ⊢
    cases hk:hF k with
    |none=>rw [hk] at e;cases e
    |some o1=>rw [hk] at e;cases e;simp only [Option.map_some,XO.frz_kill]
end
section
variable {P:Program} {n:Nat} {c:Code} {K:Cu} {f:Fr} {h:Xh}
end
end Go.Proofs.YtaafemnkamfgnaaGreat
namespace Go.Proofs.YtaafemnkamfgnaaGreat
open Go.RowKit
theorem RVS.cells {P:Program} {n:Nat} {f:Fr} {h:Xh} {a t m i:Nat} {l:List S} (ha:Nat.blt a n=true) (hf:f a= .ptr i 0 0) (hi:h i=some (.box l)) (hs:aggB P t m=true) (hm:m≤l.length):RVS P n f h (.cell a t) (.agg ((l.drop 0).take m)):=fun E H β act w hsim hfv=>by
 have g:=hfv.slot a (Eu ha)
 rw [hf] at g
 obtain ⟨L,h1,h2⟩:=Fm g
 rw [Nat.zero_mul,Nat.zero_add] at h2
 have hp : A9 P ⟨none, .load t (.tmp 0), t, "", #[], none⟩ (fun _ => .ptr i 0 0) h (.agg ((l.drop 0).take m)) := Ad rfl rfl hs hi (by omega)
 obtain ⟨u,r1,r2⟩:=hp E H β (fun _=>act.tmps.getD a undef) w hsim (fun x _=>by rw [h2];have:=VS.ptr (H:=H) 0 0 h1;rw [Nat.zero_mul,Nat.zero_add] at this;exact this)
 rw [G0 rfl h2] at r1
 refine ⟨u, ?_,r2⟩
 unfold Uq
 simp only [Sem.run_bind,h2,asAddr,Sem.run_pure,Result.andThen_ok]
 generalize (loadVar t ⟨L.b,0,none⟩).run P w=r at r1
 cases r with
 |ok v w'=>simp only [Result.andThen_ok,Result.ok.injEq,Next.value.injEq] at r1;obtain ⟨rfl,rfl⟩:=r1;rfl
 |halt x w'=>simp [Result.andThen] at r1
end Go.Proofs.YtaafemnkamfgnaaGreat
namespace Go.Proofs.YtaafemnkamfgnaaGreat
open Go.RowKit
theorem Pf {P:Program} {o:Oper} {e:Operand→S} {h:Xh} {d:D} (d':D) (hp:A9 P o e h (.d d)) (hs:DSub d d'):A9 P o e h (.d d'):=fun E H β ρ w hsim hop=>by
 obtain ⟨u,r1,r2⟩:=hp E H β ρ w hsim hop
 exact ⟨u,r1, .d (hs.vd (D5 r2))⟩
end Go.Proofs.YtaafemnkamfgnaaGreat
namespace Go.Proofs.YtaafemnkamfgnaaGreat
open Go.RowKit
theorem XL.rowq {P:Program} {n:Nat} {ops:Array Oper} {rest:List Oper} {K:Cu} {f:Fr} {h:Xh} {i:Nat} {e:TypeId} {sz:Nat} {l l':List (List D)} (hi:h i=some (.row e sz l)) (he:l=l') (hr:XL P n ops rest K f (h.set i (.row e sz l'))):XL P n ops rest K f h:=by
 subst he
 have:h.set i (.row e sz l)=h:=by
  funext j
  by_cases k:i=j
  ·subst k;rw [Xh.set_same,hi]
  ·rw [Xh.set_ne _ _ k]
 rwa [this] at hr
end Go.Proofs.YtaafemnkamfgnaaGreat
namespace Go.Proofs.YtaafemnkamfgnaaGreat
open Go.RowKit
section
variable {E:Env} {H:Hp} {β:Bt} {h:Xh} {w:World}
theorem Sim.redo (s:Sim E H β h w) {i:Nat} {o o':XO} (hi:h i=some o) (hb:∀L,o'.blk L=o.blk L) (hg:o'.isG=o.isG) (hok:∀L,OKo E.w.heap.size w H β L o→OKo E.w.heap.size w H β L o'):Sim E H β (h.set i o') w:=by
 have aux:∀j o1 L,h.set i o' j=some o1→β j=some L→∃o2,h j=some o2∧o1.blk L=o2.blk L∧(OKo E.w.heap.size w H β L o2→OKo E.w.heap.size w H β L o1):=by
  intro j o1 L ho hL
  by_cases e':i=j
  ·subst e'
   rw [Xh.set_same] at ho
   cases ho
   exact ⟨_,hi,hb L,hok L⟩
  ·rw [Xh.set_ne _ _ e'] at ho
   exact ⟨o1,ho,rfl,fun hk=>hk⟩
 refine ⟨s.below,s.ext,s.new,s.imm,fun j o L ho hL=> ?_,fun j o L ho hL b hb=> ?_,fun j j' o o' L L' b hjj ho ho' hL hL' hb=> ?_,fun j o ho hg'=> ?_⟩
 rotate_left 3
 ·by_cases e':i=j
  ·subst e';rw [Xh.set_same] at ho;cases ho;exact s.dom i _ hi (by rw [←hg];exact hg')
  ·rw [Xh.set_ne _ _ e'] at ho;exact s.dom j o ho hg'
 ·obtain ⟨o',h1,_,h3⟩:=aux j o L ho hL
  exact h3 (s.obj j o' L h1 hL)
 ·obtain ⟨o',h1,h2,_⟩:=aux j o L ho hL
  rw [h2] at hb
  exact s.sep j o' L h1 hL b hb
 ·obtain ⟨o1,h1,h2,_⟩:=aux j o L ho hL
  obtain ⟨o2,h3,h4,_⟩:=aux j' o' L' ho' hL'
  rw [h2] at hb
  rw [h4]
  exact s.inj j j' o1 o2 L L' b hjj h1 h3 hL hL' hb
end
section
variable {P:Program} {n:Nat} {ops:Array Oper} {rest:List Oper} {K:Cu} {f:Fr} {h:Xh} {o:Oper} {e:Operand→S}
theorem XL.redo {i:Nat} {x x':XO} (hi:h i=some x) (hb:∀L,x'.blk L=x.blk L) (hg:x'.isG=x.isG) (hok:∀base w H β L,OKo base w H β L x→OKo base w H β L x') (hr:XL P n ops rest K f (h.set i x')):XL P n ops rest K f h:=fun hin E H β a w h1 h2=>
 hr hin E H β a w (h1.redo hi hb hg fun L=>hok _ w H β L) h2
end
def wH (w:World):Hp:=fun b o=>match w.cell? ⟨b,o,none⟩ with
 |some u=>if u.oneCell'=true then some u else none
 |none=>none
theorem Xv {w:World} {b o:Nat} {u:Value} (h:w.cell? ⟨b,o,none⟩=some u) (h1:u.oneCell'=true):wH w b o=some u:=by simp only [wH,h,h1,if_true]
theorem Aii (w:World):Imm (wH w) w:=fun b o u h=>by
 unfold wH at h
 split at h
 ·rename_i v hv
  split at h
  ·rename_i h1;cases h;exact ⟨hv,h1⟩
  ·cases h
 ·cases h
theorem Imm.le_wH {H:Hp} {w:World} (h:Imm H w):H.le (wH w):=fun b o u e=>Xv (h b o u e).1 (h b o u e).2
mutual
inductive Snap (h:Xh):S→D→Prop where
 |d (x:D):Snap h (.d x) x
 |own {i:Nat} {e:TypeId} {sz:Nat} {l:List (List D)} (hi:h i=some (.row e sz l)):Snap h (.own i) (.sl sz l)
 |prow {i k off:Nat} {e:TypeId} {sz:Nat} {l:List (List D)} {y:List D} (hi:h i=some (.row e sz l)) (hk:l[k]? =some y):Snap h (.ptr i k off) (.pt (y.drop off))
 |pbox {i:Nat} {cs:List S} {ds:List D} (hi:h i=some (.box cs)) (h1:cs.all (Ej h)=true) (hs:SnapL h cs ds):Snap h (.ptr i 0 0) (.pt ds)
 |fn {F:FuncId} {a c:List S} {a' c':List D} (ha:SnapL h a a') (hc:SnapL h c c'):Snap h (.fn F a c) (.fn F a' c')
inductive SnapL (h:Xh):List S→List D→Prop where
 |nil:SnapL h [] []
 |cons {s:S} {d:D} {l:List S} {l':List D} (hs:Snap h s d) (hl:SnapL h l l'):SnapL h (s::l) (d::l')
end
theorem SnapL.length {h:Xh}:∀{l:List S} {l':List D},SnapL h l l'→l.length=l'.length
 |_,_, .nil=>rfl
 |_,_, .cons _ hl=>by simp [hl.length]
mutual
theorem Snap.mono {h h':Xh} (hle:HLe h h') (hone:∀s,Ej h s=true→Ej h' s=true):∀{s:S} {d:D},Snap h s d→Snap h' s d
 |_,_, .d x=> .d x
 |_,_, .own hi=> .own (hle _ _ hi)
 |_,_, .prow hi hk=> .prow (hle _ _ hi) hk
 |_,_, .pbox hi h1 hs=> .pbox (hle _ _ hi) (List.all_eq_true.2 fun x hx=>hone x (List.all_eq_true.1 h1 x hx)) (SnapL.mono hle hone hs)
 |_,_, .fn ha hc=> .fn (SnapL.mono hle hone ha) (SnapL.mono hle hone hc)
theorem SnapL.mono {h h':Xh} (hle:HLe h h') (hone:∀s,Ej h s=true→Ej h' s=true):∀{l:List S} {l':List D},SnapL h l l'→SnapL h' l l'
 |_,_, .nil=> .nil
 |_,_, .cons hs hl=> .cons (hs.mono hle hone) (SnapL.mono hle hone hl)
end
theorem Ws {h h':Xh} (hle:HLe h h'):∀x,Ej h x=true→Ej h' x=true:=by
 intro x hx
 cases x with
 |own i=>
  unfold Ej at hx ⊢
  simp only at hx ⊢
  split at hx
  ·rename_i hi;rw [hle _ _ hi]
  ·rename_i hi;rw [hle _ _ hi]
  ·cases hx
 |_=>exact hx
section
variable {E:Env} {H:Hp} {β:Bt} {h:Xh} {w:World} (hs:Sim E H β h w)
include hs
mutual
theorem Snap.vd:∀{s:S} {d:D},Snap h s d→∀{u:Value},VS H β u s→VD (wH w) u d
 |_,_, .d x,_,hv=>(D5 hv).mono hs.imm.le_wH
 |_,_, .own hi,_,hv=>by
  obtain ⟨L,hL,rfl⟩:=Fa hv
  obtain ⟨H',_,k2,k3⟩:=hs.freeze hi
  exact (k2 L hL).mono k3.imm.le_wH
 |_,_, .prow (i:=i) (k:=k) (off:=off) (l:=l) (y:=y) hi hk,_,hv=>by
  obtain ⟨L,hL,rfl⟩:=Fm hv
  have hc:∀(j:Nat) (d:D),(y.drop off)[j]? =some d→∃u,wH w L.b (k*L.sz+off+j)=some u∧VD H u d:=by
   intro j d hj
   rw [List.getElem?_drop] at hj
   obtain ⟨u,h1,h2⟩:=N0 hs hi hL hk hj
   obtain ⟨_,_,hvb,us,k1,k2,k3⟩:=hs.obj i _ L hi hL
   obtain ⟨u',hu',hd'⟩:=k3 k (off+j) y d hk hj
   have hpos:0<l.length:=by have:=(List.getElem?_eq_some_iff.1 hk).1;omega
   obtain ⟨g,cap,hLv,_,_⟩:=k1.form hpos
   have hg:=hvb g (by rw [hLv];rfl)
   subst hg
   have k4:=k1.cells (g:=L.b) (by rw [hLv];rfl) _ u' hu'
   rw [Go.WideShapes.add_plain,Nat.zero_add] at k4
   have hsz:=(hs.obj i _ L hi hL).1
   refine ⟨u',Xv ?_ (k2 u' (List.mem_of_getElem? hu')),hd'⟩
   rw [hsz,Nat.add_assoc];exact k4
  refine .pt L.b (k*L.sz+off) _ (fun j=>((wH w L.b (k*L.sz+off+j)).getD undef)) (fun j d hj=> ?_) (fun j d hj=> ?_)
  ·obtain ⟨u,h1,_⟩:=hc j d hj
   rw [h1];rfl
  ·obtain ⟨u,h1,h2⟩:=hc j d hj
   rw [h1];exact h2.mono hs.imm.le_wH
 |_,_, .pbox (i:=i) (cs:=cs) (ds:=ds) hi h1 hsn,_,hv=>by
  obtain ⟨L,hL,rfl⟩:=Fm hv
  rw [Nat.zero_mul,Nat.zero_add]
  have hlen:=hsn.length
  have hc:∀(j:Nat) (d:D),ds[j]? =some d→∃u,wH w L.b (0+j)=some u∧VD (wH w) u d:=by
   intro j d hj
   have hjl:j<cs.length:=by rw [hlen];exact (List.getElem?_eq_some_iff.1 hj).1
   obtain ⟨u,k1,k2⟩:=Rg hs hi hL j cs[j] (List.getElem?_eq_getElem hjl)
   refine ⟨u, ?_,SnapL.vd hsn (List.getElem?_eq_getElem hjl) hj k2⟩
   rw [Nat.zero_add]
   exact Xv k1 (P3 hs k2 (List.all_eq_true.1 h1 _ (List.getElem_mem hjl)))
  refine .pt L.b 0 _ (fun j=>((wH w L.b (0+j)).getD undef)) (fun j d hj=> ?_) (fun j d hj=> ?_)
  ·obtain ⟨u,k1,_⟩:=hc j d hj
   rw [k1];rfl
  ·obtain ⟨u,k1,k2⟩:=hc j d hj
   rw [k1];exact k2
 |_,_, .fn ha hc,_,hv=>by
  obtain ⟨A,C,rfl,e1,e2,e3,e4⟩:=Xw hv
  refine .fn _ A C _ _ (e1.trans ha.length) (e2.trans hc.length) (fun i x d hx hd=> ?_) (fun i x d hx hd=> ?_)
  ·have hl:=ha.length
   have hil:=(List.getElem?_eq_some_iff.1 hd).1
   exact SnapL.vd ha (List.getElem?_eq_getElem (by omega)) hd (e3 i x _ hx (List.getElem?_eq_getElem (by omega)))
  ·have hl:=hc.length
   have hil:=(List.getElem?_eq_some_iff.1 hd).1
   exact SnapL.vd hc (List.getElem?_eq_getElem (by omega)) hd (e4 i x _ hx (List.getElem?_eq_getElem (by omega)))
theorem SnapL.vd:∀{l:List S} {l':List D},SnapL h l l'→∀{i:Nat} {s:S} {d:D},l[i]? =some s→l'[i]? =some d→∀{u:Value},VS H β u s→VD (wH w) u d
 |_,_, .cons hsn _,0,_,_,e1,e2,_,hv=>by
  simp only [List.getElem?_cons_zero,Option.some.injEq] at e1 e2
  subst e1 e2;exact Snap.vd hsn hv
 |_,_, .cons _ hl,i+1,_,_,e1,e2,_,hv=>SnapL.vd hl (i:=i) (by simpa using e1) (by simpa using e2) hv
end
end
section
variable {P:Program} {n:Nat} {ops:Array Oper} {rest:List Oper} {K:Cu} {f:Fr} {h:Xh} {o:Oper} {F:FuncId} {ds:List D} {args:Array Operand} {tys:Array TypeId} {x:Value}
end
section
variable {P:Program} {n:Nat} {ops:Array Oper} {rest:List Oper} {K:Cu} {f F:Fr} {h G:Xh} {o:Oper} {c:Code}
def kmeet (P:Program) (n:Nat) (F:Fr) (G:Xh) (dst:Option Tmp) (fn:Func) (n' g:Nat) (u:Array Value):Cu
 | .normal,f,h=>∃s l,h g=some (.ghost u l)∧Hz P n' fn f h s∧FSub n (A7 (mkF l) dst s) F∧HSub h G
 | .ret,f,h=>∃s l,h g=some (.ghost u l)∧Hz P n' fn f h s∧FSub n (A7 (mkF l) dst s) F∧HSub h G
 |_,_,_=>False
end
section
variable {P:Program} {n:Nat} {K:Cu} {f:Fr} {h:Xh} {c:Code}
theorem Aov {i:Nat} {x x':XO} (hi:h i=some x) (hb:∀L,x'.blk L=x.blk L) (hg:x'.isG=x.isG) (hok:∀base w H β L,OKo base w H β L x→OKo base w H β L x') (hr:XW P n c K f (h.set i x')):XW P n c K f h:=fun E H β a w h1 h2=>
 hr E H β a w (h1.redo hi hb hg fun L=>hok _ w H β L) h2
theorem XS.xc {F:FuncId} {ds:List D} {s:S} {i:Nat} {e:TypeId} {sz:Nat} {l:List (List D)} {d:D} (hx:XS P F ds s [(i, .row e sz l)]) (hd:norm (s.frz i (.sl sz l))= .d d):XC P F ds (fun r=>r=d):=
 ⟨hx.callable, fun H w vs h1 h2 h3 => (hx.calls H w vs h1 h2 h3).mono fun e w' ⟨H', β, u, he, k1, k2, k3⟩ => by
  obtain ⟨H2,q1,q2,q3⟩:=k1.freeze (i:=i) (by simp only [mkH];exact Xh.set_same _ _ _)
  have hv:=VS.norm ((k2.mono q1 fun _ _ h=>h).frz i _ q2)
  rw [hd] at hv
  exact ⟨H2, u, d, he, rfl, q3.ext, fun b o u e => q3.new b o u e, q3.imm, q3.below, D5 hv⟩⟩
end
end Go.Proofs.YtaafemnkamfgnaaGreat
namespace Go.Proofs.YtaafemnkamfgnaaGreat
open Go.RowKit
def Bt.sim (β β':Bt):Prop:=∀i L,β i=some L→∃L',β' i=some L'∧L'.v=L.v∧L'.b=L.b∧L'.sz=L.sz
theorem VS.sim {H:Hp} {β β':Bt} {x:Value} {s:S} (h:VS H β x s) (hb:Bt.sim β β'):VS H β' x s:=by
 induction h with
 |any u=>exact .any u
 |d h=>exact .d h
 |ptr k off h=>obtain ⟨L',e,_,e2,e3⟩:=hb _ _ h;rw [←e2, ←e3];exact .ptr k off e
 |own h=>obtain ⟨L',e,e1,_,_⟩:=hb _ _ h;rw [←e1];exact .own e
 |sub a b h hv hab hn=>obtain ⟨L',e,e1,_,e3⟩:=hb _ _ h;rw [←e3];exact .sub a b e (e1.trans hv) hab hn
 |agg cs l e h ih=>exact .agg cs l e ih
 |fn f A C a c ha hc h h' ih ih'=>exact .fn f A C a c ha hc ih ih'
 |tup cs l e h ih=>exact .tup cs l e ih
theorem TR.sim {base:Nat} {w:World} {H:Hp} {β β':Bt} {u:Value} {t:T} {B:Nat→Prop} (h:TR base w H β u t B) (hb:Bt.sim β β'):TR base w H β' u t B:=by
 induction h with
 |any u B hB=>exact .any u B hB
 |d h B hB=>exact .d h B hB
 |own h B hB=>obtain ⟨L',e,e1,_,_⟩:=hb _ _ h;rw [←e1];exact .own e B hB
 |row u e sz l us Bs B hz ho h1 hc hu hB htop hdis ih=>exact .row u e sz l us Bs B hz ho h1 ih hu hB htop hdis
theorem OKo.sim {base:Nat} {w:World} {H:Hp} {β β':Bt} {L:Loc} {o:XO} (h:OKo base w H β L o) (hb:Bt.sim β β'):OKo base w H β' L o:=by
 cases o with
 |box l=>
  obtain ⟨h1,h0,us,t,h2,h3,h4⟩:=h
  exact ⟨h1,h0,us,t,h2,h3,fun i u s hu hs=>(h4 i u s hu hs).sim hb⟩
 |row e sz l=>exact h
 |rowS e sz l=>
  obtain ⟨h0,hz,hv,us,h2,h3,h4⟩:=h
  exact ⟨h0,hz,hv,us,h2,h3,fun k j x s hx hs=>by obtain ⟨u,hu,hv⟩:=h4 k j x s hx hs;exact ⟨u,hu,hv.sim hb⟩⟩
 |tree e sz ls l=>exact ⟨h.1,h.2.1,h.2.2.1,h.2.2.2.sim hb⟩
 |ghost u l=>exact fun t s hm=>(h t s hm).sim hb
theorem FV.sim {n:Nat} {H:Hp} {β β':Bt} {a:Act} {f:Fr} (hf:FV n H β a f) (hb:Bt.sim β β'):FV n H β' a f:=⟨hf.defers,hf.size,fun t ht=>(hf.slot t ht).sim hb⟩
theorem Bt.sim_set {β:Bt} {i:Nat} {L L':Loc} (h:β i=some L) (h1:L'.v=L.v) (h2:L'.b=L.b) (h3:L'.sz=L.sz):Bt.sim β (β.set i (some L')):=fun j M hM=>by
 by_cases e:i=j
 ·subst e;rw [h] at hM;cases hM;exact ⟨L',Bt.set_same _ _ _,h1,h2,h3⟩
 ·exact ⟨M,by rw [Bt.set_ne _ _ e];exact hM,rfl,rfl,rfl⟩
mutual
def T.toD:T→D
 | .any=> .v undef
 | .d x=>x
 | .own _=> .v undef
 | .row _ sz l=> .sl sz (T.toDLL l)
def T.toDL:List T→List D
 | []=> []
 |s::l=>T.toD s::T.toDL l
def T.toDLL:List (List T)→List (List D)
 | []=> []
 |s::l=>T.toDL s::T.toDLL l
def T.fz:T→Bool
 | .any=>false
 | .d _=>true
 | .own _=>false
 | .row _ _ l=>T.fzLL l
def T.fzL:List T→Bool
 | []=>true
 |s::l=>T.fz s && T.fzL l
def T.fzLL:List (List T)→Bool
 | []=>true
 |s::l=>T.fzL s && T.fzLL l
end
theorem T.toDL_length (l:List T):(T.toDL l).length=l.length:=by
 induction l with
 |nil=>rfl
 |cons a l ih=>simp [T.toDL,ih]
theorem T.toDLL_length (l:List (List T)):(T.toDLL l).length=l.length:=by
 induction l with
 |nil=>rfl
 |cons a l ih=>simp [T.toDLL,ih]
theorem T.toDL_get (l:List T) (j:Nat):(T.toDL l)[j]? =(l[j]?).map T.toD:=by
 induction l generalizing j with
 |nil=>rfl
 |cons a l ih=>
  cases j with
  |zero=>rfl
  |succ j=>simpa [T.toDL] using ih j
theorem T.toDLL_get (l:List (List T)) (j:Nat):(T.toDLL l)[j]? =(l[j]?).map T.toDL:=by
 induction l generalizing j with
 |nil=>rfl
 |cons a l ih=>
  cases j with
  |zero=>rfl
  |succ j=>simpa [T.toDLL] using ih j
theorem T.fzL_get {l:List T} (h:T.fzL l=true) {j:Nat} {t:T} (ht:l[j]? =some t):t.fz=true:=by
 induction l generalizing j with
 |nil=>cases ht
 |cons a l ih=>
  simp only [T.fzL,Bool.and_eq_true] at h
  cases j with
  |zero=>cases ht;exact h.1
  |succ j=>exact ih h.2 (by simpa using ht)
theorem T.fzLL_get {l:List (List T)} (h:T.fzLL l=true) {j:Nat} {t:List T} (ht:l[j]? =some t):T.fzL t=true:=by
 induction l generalizing j with
 |nil=>cases ht
 |cons a l ih=>
  simp only [T.fzLL,Bool.and_eq_true] at h
  cases j with
  |zero=>cases ht;exact h.1
  |succ j=>exact ih h.2 (by simpa using ht)
theorem T.inLL_set {ls:List Nat} {l:List (List T)} (h:T.inLL ls l=true) {x:List T} (hx:T.inL ls x=true):∀k,T.inLL ls (l.set k x)=true:=by
 induction l with
 |nil=>intro k;rfl
 |cons a l ih=>
  simp only [T.inLL,Bool.and_eq_true] at h
  intro k
  cases k with
  |zero=>simp only [List.set_cons_zero,T.inLL,Bool.and_eq_true];exact ⟨hx,h.2⟩
  |succ k=>simp only [List.set_cons_succ,T.inLL,Bool.and_eq_true];exact ⟨h.1,ih h.2 k⟩
theorem T.inL_set {ls:List Nat} {l:List T} (h:T.inL ls l=true) {x:T} (hx:x.inn ls=true):∀k,T.inL ls (l.set k x)=true:=by
 induction l with
 |nil=>intro k;rfl
 |cons a l ih=>
  simp only [T.inL,Bool.and_eq_true] at h
  intro k
  cases k with
  |zero=>simp only [List.set_cons_zero,T.inL,Bool.and_eq_true];exact ⟨hx,h.2⟩
  |succ k=>simp only [List.set_cons_succ,T.inL,Bool.and_eq_true];exact ⟨h.1,ih h.2 k⟩
theorem T.inLL_app {ls:List Nat} {l l':List (List T)} (h:T.inLL ls l=true) (h':T.inLL ls l'=true):T.inLL ls (l++l')=true:=by
 induction l with
 |nil=>exact h'
 |cons a l ih=>
  simp only [T.inLL,Bool.and_eq_true] at h
  simp only [List.cons_append,T.inLL,Bool.and_eq_true]
  exact ⟨h.1,ih h.2⟩
theorem T.inLL_map {α:Type} {ls:List Nat} {g:α→List T} (hg:∀x,T.inL ls (g x)=true):∀l:List α,T.inLL ls (l.map g)=true
 | []=>rfl
 |x::l=>by simp only [List.map_cons,T.inLL,Bool.and_eq_true];exact ⟨hg x,T.inLL_map hg l⟩
theorem T.inL_d (ls:List Nat):∀l:List D,T.inL ls (l.map T.d)=true
 | []=>rfl
 |x::l=>by simp only [List.map_cons,T.inL,T.inn,Bool.true_and];exact T.inL_d ls l
theorem T.inLL_d (ls:List Nat) (l:List (List D)):T.inLL ls (l.map (·.map T.d))=true:=T.inLL_map (fun x=>T.inL_d ls x) l
theorem T.nil_in {l:List (List T)} (h:T.inLL [] l=true) (ls:List Nat):T.inLL ls l=true:=T.inLL_mono (fun j h=>by cases h) l h
theorem T.mpLL_cl (f:Nat→T) (l:List (List T)) (h:T.inLL [] l=true):T.mpLL f l=l:=T.mpLL_id (ls:= []) (fun j h=>by cases h) l h
def S.toT:S→T
 | .d x=> .d x
 | .own i=> .own i
 |_=> .any
theorem VS.tr {base:Nat} {w:World} {H:Hp} {β:Bt} {u:Value} {s:S} (h:VS H β u s) (B:Nat→Prop) (hB:∀b,¬B b):TR base w H β u s.toT B:=by
 cases h with
 |d h=>exact .d h B hB
 |own h=>exact .own h B hB
 |_=>exact .any _ B hB
theorem TR.put {base:Nat} {w w':World} {H:Hp} {β:Bt} {u:Value} {e:TypeId} {sz:Nat} {l:List (List T)} {us us':List Value} {Bs:Nat→Nat→Nat→Prop} (hz:∀x∈l,x.length=sz) (ho:w'.ownsRow base e sz u l.length us') (h1:∀x∈us',x.oneCell'=true)
  (hc:∀(k j:Nat) (x:List T) (t:T),l[k]? =some x→x[j]? =some t→TR base w H β ((us[k*sz+j]?).getD undef) t (Bs k j))
  (hu:∀(k j:Nat) (x:List T) (t:T),l[k]? =some x→x[j]? =some t→(us[k*sz+j]?).isSome=true)
  (htop:∀(k j:Nat) (x:List T) (t:T),l[k]? =some x→x[j]? =some t→∀b,Bs k j b→u.ownBlock≠some b)
  (hdis:∀(k j:Nat) (x:List T) (t:T) (k' j':Nat) (x':List T) (t':T),l[k]? =some x→x[j]? =some t→l[k']? =some x'→x'[j']? =some t'→(k≠k'∨j≠j')→∀b,Bs k j b→¬Bs k' j' b)
  {k m:Nat} {x:List T} (hk:l[k]? =some x) (hm:m<x.length) {t:T} {B':Nat→Prop} {v:Value} (hv:us'[k*sz+m]? =some v) (ht:TR base w' H β v t B')
  (hus:∀(k' j':Nat) (x':List T) (t':T),l[k']? =some x'→x'[j']? =some t'→(k≠k'∨m≠j')→us'[k'*sz+j']? =us[k'*sz+j']?)
  (hw:∀(k' j':Nat) (x':List T) (t':T),l[k']? =some x'→x'[j']? =some t'→(k≠k'∨m≠j')→∀b,Bs k' j' b→w'.heap[b]? =w.heap[b]?)
  (htop':∀b,B' b→u.ownBlock≠some b) (hdis':∀(k' j':Nat) (x':List T) (t':T),l[k']? =some x'→x'[j']? =some t'→(k≠k'∨m≠j')→∀b,B' b→¬Bs k' j' b):
  TR base w' H β u (.row e sz (l.set k (x.set m t))) (fun b=>u.ownBlock=some b∨B' b∨∃k' j' x' t',l[k']? =some x'∧x'[j']? =some t'∧(k≠k'∨m≠j')∧Bs k' j' b):=by
 have hkl:=(List.getElem?_eq_some_iff.1 hk).1
 have get:∀(k' j':Nat) (x':List T) (t':T),(l.set k (x.set m t))[k']? =some x'→x'[j']? =some t'→(k'=k∧j'=m∧t'=t)∨((k≠k'∨m≠j')∧∃y,l[k']? =some y∧y[j']? =some t'):=by
  intro k' j' x' t' h2 h3
  by_cases ek:k=k'
  ·subst ek
   rw [List.getElem?_set_self hkl] at h2
   cases h2
   by_cases ej:m=j'
   ·subst ej
    rw [List.getElem?_set_self hm] at h3
    cases h3
    exact .inl ⟨rfl,rfl,rfl⟩
   ·rw [List.getElem?_set_ne ej] at h3
    exact .inr ⟨.inr ej,x,hk,h3⟩
  ·rw [List.getElem?_set_ne ek] at h2
   exact .inr ⟨.inl ek,x',h2,h3⟩
 have put:∀(k' j':Nat) (y:List T) (t':T),(k≠k'∨m≠j')→l[k']? =some y→y[j']? =some t'→∃x',(l.set k (x.set m t))[k']? =some x'∧x'[j']? =some t':=by
  intro k' j' y t' hne h2 h3
  by_cases ek:k=k'
  ·subst ek
   rw [hk] at h2;cases h2
   have ej:m≠j':=hne.resolve_left (fun q=>q rfl)
   exact ⟨_,List.getElem?_set_self hkl,by rw [List.getElem?_set_ne ej];exact h3⟩
  ·exact ⟨y,by rw [List.getElem?_set_ne ek];exact h2,h3⟩
 refine .row u e sz _ us' (fun k' j' b=>(k'=k∧j'=m∧B' b)∨((k≠k'∨m≠j')∧Bs k' j' b)) _ (fun y hy=> ?_) (by rw [List.length_set];exact ho) h1 (fun k' j' x' t' h2 h3=> ?_) (fun k' j' x' t' h2 h3=> ?_) (fun b=> ?_) (fun k' j' x' t' h2 h3 b hb=> ?_) (fun k1 j1 x1 t1 k2 j2 x2 t2 a1 a2 a3 a4 hne b hb hb'=> ?_)
 ·rcases List.mem_or_eq_of_mem_set hy with q|q
  ·exact hz y q
  ·rw [q,List.length_set];exact hz x (List.mem_of_getElem? hk)
 ·rcases get k' j' x' t' h2 h3 with ⟨rfl,rfl,rfl⟩|⟨hne,y,g1,g2⟩
  ·rw [hv]
   have:(fun b=>(k'=k'∧j'=j'∧B' b)∨((k'≠k'∨j'≠j')∧Bs k' j' b))=B':=by
    funext b;apply propext
    exact ⟨fun q=>q.elim (fun q=>q.2.2) (fun q=>absurd q.1 (fun r=>r.elim (fun r=>r rfl) (fun r=>r rfl))),fun q=> .inl ⟨rfl,rfl,q⟩⟩
   rw [this];exact ht
  ·rw [hus k' j' y t' g1 g2 hne]
   have:(fun b=>(k'=k∧j'=m∧B' b)∨((k≠k'∨m≠j')∧Bs k' j' b))=Bs k' j':=by
    funext b;apply propext
    exact ⟨fun q=>q.elim (fun q=>absurd hne (fun r=>r.elim (fun r=>r q.1.symm) (fun r=>r q.2.1.symm))) (fun q=>q.2),fun q=> .inr ⟨hne,q⟩⟩
   rw [this]
   exact (hc k' j' y t' g1 g2).keep (Hp.le.refl _) (fun _ _ h=>h) (hw k' j' y t' g1 g2 hne)
 ·rcases get k' j' x' t' h2 h3 with ⟨rfl,rfl,rfl⟩|⟨hne,y,g1,g2⟩
  ·rw [hv];rfl
  ·rw [hus k' j' y t' g1 g2 hne];exact hu k' j' y t' g1 g2
 ·constructor
  ·rintro (q|q|⟨k',j',y,t',g1,g2,hne,q⟩)
   ·exact .inl q
   ·exact .inr ⟨k,m,x.set m t,t,List.getElem?_set_self hkl,List.getElem?_set_self hm, .inl ⟨rfl,rfl,q⟩⟩
   ·obtain ⟨x',g3,g4⟩:=put k' j' y t' hne g1 g2
    exact .inr ⟨k',j',x',t',g3,g4, .inr ⟨hne,q⟩⟩
  ·rintro (q|⟨k',j',x',t',g3,g4,⟨_,_,q⟩|⟨hne,q⟩⟩)
   ·exact .inl q
   ·exact .inr (.inl q)
   ·rcases get k' j' x' t' g3 g4 with ⟨rfl,rfl,rfl⟩|⟨_,y,g1,g2⟩
    ·exact absurd hne (fun r=>r.elim (fun r=>r rfl) (fun r=>r rfl))
    ·exact .inr (.inr ⟨k',j',y,t',g1,g2,hne,q⟩)
 ·rcases hb with ⟨_,_,q⟩|⟨hne,q⟩
  ·exact htop' b q
  ·rcases get k' j' x' t' h2 h3 with ⟨rfl,rfl,rfl⟩|⟨_,y,g1,g2⟩
   ·exact absurd hne (fun r=>r.elim (fun r=>r rfl) (fun r=>r rfl))
   ·exact htop k' j' y t' g1 g2 b q
 ·have old:∀(k' j':Nat) (x':List T) (t':T),(l.set k (x.set m t))[k']? =some x'→x'[j']? =some t'→(k≠k'∨m≠j')→∃y,l[k']? =some y∧y[j']? =some t':=by
   intro k' j' x' t' h2 h3 hne
   rcases get k' j' x' t' h2 h3 with ⟨rfl,rfl,rfl⟩|⟨_,y,g1,g2⟩
   ·exact absurd hne (fun r=>r.elim (fun r=>r rfl) (fun r=>r rfl))
   ·exact ⟨y,g1,g2⟩
  rcases hb with ⟨e1,e2,q⟩|⟨hn1,q⟩
  ·rcases hb' with ⟨e3,e4,_⟩|⟨hn2,q2⟩
   ·subst e1 e2 e3 e4;exact hne.elim (fun r=>r rfl) (fun r=>r rfl)
   ·obtain ⟨y,g1,g2⟩:=old k2 j2 x2 t2 a3 a4 hn2
    exact hdis' k2 j2 y t2 g1 g2 hn2 b q q2
  ·obtain ⟨y,g1,g2⟩:=old k1 j1 x1 t1 a1 a2 hn1
   rcases hb' with ⟨_,_,q2⟩|⟨hn2,q2⟩
   ·exact hdis' k1 j1 y t1 g1 g2 hn1 b q2 q
   ·obtain ⟨y',g3,g4⟩:=old k2 j2 x2 t2 a3 a4 hn2
    exact hdis k1 j1 y t1 k2 j2 y' t2 g1 g2 g3 g4 hne b q q2
section
variable {E:Env} {H:Hp} {β:Bt} {h:Xh} {w:World}
theorem Sim.relay2 (s:Sim E H β h w) {i:Nat} {o o':XO} {L L':Loc} (hi:h i=some o) (hL:β i=some L) (h1:L'.v=L.v) (h2:L'.b=L.b) (h3:L'.sz=L.sz) (hsep:∀b,o'.blk L' b→∀off,H b off=none)
  (hinj:∀j o1 L1 b,i≠j→h j=some o1→β j=some L1→o'.blk L' b→¬o1.blk L1 b) (hok:OKo E.w.heap.size w H (β.set i (some L')) L' o'):
  Sim E H (β.set i (some L')) (h.set i o') w:=by
 have hs:=Bt.sim_set hL h1 h2 h3
 have old:∀j o1 L1,h.set i o' j=some o1→(β.set i (some L')) j=some L1→(i=j∧o1=o'∧L1=L')∨(i≠j∧h j=some o1∧β j=some L1):=by
  intro j o1 L1 g1 g2
  by_cases e:i=j
  ·subst e;rw [Xh.set_same] at g1;rw [Bt.set_same] at g2;cases g1;cases g2;exact .inl ⟨rfl,rfl,rfl⟩
  ·rw [Xh.set_ne _ _ e] at g1;rw [Bt.set_ne _ _ e] at g2;exact .inr ⟨e,g1,g2⟩
 refine ⟨s.below,s.ext,s.new,s.imm,fun j o1 L1 g1 g2=> ?_,fun j o1 L1 g1 g2 b hb'=> ?_,fun j j' o1 o2 L1 L2 b hjj g1 g1' g2 g2' hb'=> ?_,fun j o1 g1 hg=> ?_⟩
 ·rcases old j o1 L1 g1 g2 with ⟨rfl,rfl,rfl⟩|⟨e,q1,q2⟩
  ·exact hok
  ·exact (s.obj j o1 L1 q1 q2).sim hs
 ·rcases old j o1 L1 g1 g2 with ⟨rfl,rfl,rfl⟩|⟨e,q1,q2⟩
  ·exact hsep b hb'
  ·exact s.sep j o1 L1 q1 q2 b hb'
 ·rcases old j o1 L1 g1 g2 with ⟨rfl,rfl,rfl⟩|⟨e,q1,q2⟩
  ·rcases old j' o2 L2 g1' g2' with ⟨e',_⟩|⟨e',q1',q2'⟩
   ·exact absurd e' hjj
   ·exact hinj _ _ _ b e' q1' q2' hb'
  ·rcases old j' o2 L2 g1' g2' with ⟨rfl,rfl,rfl⟩|⟨e',q1',q2'⟩
   ·intro hc;exact hinj _ _ _ b e q1 q2 hc hb'
   ·exact s.inj _ _ _ _ _ _ b hjj q1 q1' q2 q2' hb'
 ·by_cases e:i=j
  ·subst e;exact ⟨_,Bt.set_same _ _ _⟩
  ·rw [Xh.set_ne _ _ e] at g1;obtain ⟨L1,q⟩:=s.dom j o1 g1 hg;exact ⟨L1,by rw [Bt.set_ne _ _ e];exact q⟩
theorem Sim.relay (s:Sim E H β h w) {i:Nat} {o o':XO} {L L':Loc} (hi:h i=some o) (hL:β i=some L) (h1:L'.v=L.v) (h2:L'.b=L.b) (h3:L'.sz=L.sz) (hb:∀b,o'.blk L' b→o.blk L b) (hok:OKo E.w.heap.size w H (β.set i (some L')) L' o'):
  Sim E H (β.set i (some L')) (h.set i o') w:=
 s.relay2 hi hL h1 h2 h3 (fun b q=>s.sep i o L hi hL b (hb b q)) (fun j o1 L1 b hij g1 g2 q=>s.inj i j o o1 L L1 b hij hi g1 hL g2 (hb b q)) hok
theorem Sim.adopt (s:Sim E H β h w) {j:Nat} {o:XO} {L:Loc} (hj:h j=none) (hL:β j=some L) (hok:OKo E.w.heap.size w H β L o) (hsep:∀b,o.blk L b→∀off,H b off=none)
  (hinj:∀i o' L' b,h i=some o'→β i=some L'→o.blk L b→¬o'.blk L' b):Sim E H β (h.set j o) w:=by
 have old:∀i o1 L1,h.set j o i=some o1→β i=some L1→(j=i∧o1=o∧L1=L)∨(j≠i∧h i=some o1):=by
  intro i o1 L1 g1 g2
  by_cases e:j=i
  ·subst e;rw [Xh.set_same] at g1;rw [hL] at g2;cases g1;cases g2;exact .inl ⟨rfl,rfl,rfl⟩
  ·rw [Xh.set_ne _ _ e] at g1;exact .inr ⟨e,g1⟩
 refine ⟨s.below,s.ext,s.new,s.imm,fun i o1 L1 g1 g2=> ?_,fun i o1 L1 g1 g2 b hb=> ?_,fun i i' o1 o2 L1 L2 b hii g1 g1' g2 g2' hb=> ?_,fun i o1 g1 hg=> ?_⟩
 ·rcases old i o1 L1 g1 g2 with ⟨rfl,rfl,rfl⟩|⟨e,q⟩
  ·exact hok
  ·exact s.obj i o1 L1 q g2
 ·rcases old i o1 L1 g1 g2 with ⟨rfl,rfl,rfl⟩|⟨e,q⟩
  ·exact hsep b hb
  ·exact s.sep i o1 L1 q g2 b hb
 ·rcases old i o1 L1 g1 g2 with ⟨rfl,rfl,rfl⟩|⟨e,q⟩
  ·rcases old i' o2 L2 g1' g2' with ⟨e',_⟩|⟨e',q'⟩
   ·exact absurd e' hii
   ·exact hinj i' o2 L2 b q' g2' hb
  ·rcases old i' o2 L2 g1' g2' with ⟨rfl,rfl,rfl⟩|⟨e',q'⟩
   ·intro hc;exact hinj i o1 L1 b q g2 hc hb
   ·exact s.inj i i' o1 o2 L1 L2 b hii q q' g2 g2' hb
 ·by_cases e:j=i
  ·subst e;exact ⟨L,hL⟩
  ·rw [Xh.set_ne _ _ e] at g1;exact s.dom i o1 g1 hg
theorem Sim.blind (s:Sim E H β h w) {i:Nat} {o:XO} (hL:β i=none) (hg:o.isG=false):Sim E H β (h.set i o) w:=by
 have old:∀j o1 L1,h.set i o j=some o1→β j=some L1→h j=some o1:=by
  intro j o1 L1 g1 g2
  by_cases e':i=j
  ·subst e';rw [hL] at g2;cases g2
  ·rw [Xh.set_ne _ _ e'] at g1;exact g1
 refine ⟨s.below,s.ext,s.new,s.imm,fun j o1 L1 g1 g2=>s.obj j o1 L1 (old j o1 L1 g1 g2) g2,fun j o1 L1 g1 g2=>s.sep j o1 L1 (old j o1 L1 g1 g2) g2,fun j j' o1 o2 L1 L2 b hjj g1 g1' g2 g2'=>s.inj j j' o1 o2 L1 L2 b hjj (old j o1 L1 g1 g2) (old j' o2 L2 g1' g2') g2 g2',fun j o1 g1 hg'=> ?_⟩
 by_cases e':i=j
 ·subst e';rw [Xh.set_same] at g1;cases g1;rw [hg] at hg';cases hg'
 ·rw [Xh.set_ne _ _ e'] at g1;exact s.dom j o1 g1 hg'
theorem Sim.toT (s:Sim E H β h w) {i:Nat} {e:TypeId} {sz:Nat} {l:List (List D)} (hi:h i=some (.row e sz l)):∃β',Bt.sim β β'∧Sim E H β' (h.set i (.tree e sz [] (l.map (·.map T.d)))) w:=by
 cases hL:β i with
 |none=>
  exact ⟨β,fun j L hj=>⟨L,hj,rfl,rfl,rfl⟩,s.blind hL rfl⟩
 |some L=>
  obtain ⟨hsz,hz,hvb,us,hown,hone,hc⟩:=s.obj i _ L hi hL
  have get:∀(k j:Nat) (x:List T) (t:T),(l.map (·.map T.d))[k]? =some x→x[j]? =some t→∃y d,l[k]? =some y∧y[j]? =some d∧t= .d d:=by
   intro k j x t g1 g2
   rw [List.getElem?_map] at g1
   cases hy:l[k]? with
   |none=>rw [hy] at g1;cases g1
   |some y=>
    rw [hy] at g1;cases g1
    rw [List.getElem?_map] at g2
    cases hd:y[j]? with
    |none=>rw [hd] at g2;cases g2
    |some d=>rw [hd] at g2;cases g2;exact ⟨y,d,rfl,hd,rfl⟩
  refine ⟨_,Bt.sim_set (L':={L with B:=fun b=>L.v.ownBlock=some b}) hL rfl rfl rfl,s.relay hi hL rfl rfl rfl (fun b hb=>hb) ⟨hsz,hvb,T.inLL_d [] l, ?_⟩⟩
  refine .row L.v e sz _ us (fun _ _ _=>False) _ (fun x hx=> ?_) (by rw [List.length_map];exact hown) hone (fun k j x t g1 g2=> ?_) (fun k j x t g1 g2=> ?_) (fun b=>⟨fun q=> .inl q,fun q=>q.elim id (fun ⟨_,_,_,_,_,_,q⟩=>q.elim)⟩) (fun _ _ _ _ _ _ _ q=>q.elim) (fun _ _ _ _ _ _ _ _ _ _ _ _ _ _ q=>q.elim)
  ·obtain ⟨y,hy,rfl⟩:=List.mem_map.1 hx
   rw [List.length_map];exact hz y hy
  ·obtain ⟨y,d,q1,q2,rfl⟩:=get k j x t g1 g2
   obtain ⟨u,hu,hd⟩:=hc k j y d q1 q2
   rw [hu];exact .d hd _ (fun _ q=>q)
  ·obtain ⟨y,d,q1,q2,rfl⟩:=get k j x t g1 g2
   obtain ⟨u,hu,hd⟩:=hc k j y d q1 q2
   rw [hu];rfl
theorem Sim.ofT (s:Sim E H β h w) {i:Nat} {e:TypeId} {sz:Nat} {ls:List Nat} {l:List (List D)} (hi:h i=some (.tree e sz ls (l.map (·.map T.d)))):Sim E H β (h.set i (.row e sz l)) w:=by
 have aux:∀L,OKo E.w.heap.size w H β L (.tree e sz ls (l.map (·.map T.d)))→OKo E.w.heap.size w H β L (.row e sz l)∧∀b,(XO.row e sz l).blk L b→(XO.tree e sz ls (l.map (·.map T.d))).blk L b:=by
  intro L hok
  obtain ⟨hsz,hvb,_,ht⟩:=hok
  obtain ⟨us,Bs,hz,ho,h1,hc,hu,hB,_,_⟩:=H1 ht
  refine ⟨⟨hsz,fun x hx=> ?_,hvb,us,by rw [List.length_map] at ho;exact ho,h1,fun k j x d g1 g2=> ?_⟩,fun b hb=>(hB b).2 (.inl hb)⟩
  ·have:=hz (x.map T.d) (List.mem_map.2 ⟨x,hx,rfl⟩)
   rwa [List.length_map] at this
  ·have q1:(l.map (·.map T.d))[k]? =some (x.map T.d):=by rw [List.getElem?_map,g1];rfl
   have q2:(x.map T.d)[j]? =some (T.d d):=by rw [List.getElem?_map,g2];rfl
   have q3:=hu k j _ _ q1 q2
   obtain ⟨u,hu⟩:=Option.isSome_iff_exists.1 q3
   have q4:=Aul (hc k j _ _ q1 q2)
   rw [hu] at q4
   exact ⟨u,hu,q4⟩
 have old:∀j o1 L1,h.set i (.row e sz l) j=some o1→β j=some L1→∃o2,h j=some o2∧(∀b,o1.blk L1 b→o2.blk L1 b)∧OKo E.w.heap.size w H β L1 o1:=by
  intro j o1 L1 g1 g2
  by_cases e':i=j
  ·subst e';rw [Xh.set_same] at g1;cases g1
   have:=aux L1 (s.obj i _ L1 hi g2)
   exact ⟨_,hi,this.2,this.1⟩
  ·rw [Xh.set_ne _ _ e'] at g1;exact ⟨o1,g1,fun _ q=>q,s.obj j o1 L1 g1 g2⟩
 refine ⟨s.below,s.ext,s.new,s.imm,fun j o1 L1 g1 g2=> ?_,fun j o1 L1 g1 g2 b hb=> ?_,fun j j' o1 o2 L1 L2 b hjj g1 g1' g2 g2' hb hb'=> ?_,fun j o1 g1 hg=> ?_⟩
 ·obtain ⟨_,_,_,q⟩:=old j o1 L1 g1 g2;exact q
 ·obtain ⟨o2,q1,q2,_⟩:=old j o1 L1 g1 g2;exact s.sep j o2 L1 q1 g2 b (q2 b hb)
 ·obtain ⟨o3,q1,q2,_⟩:=old j o1 L1 g1 g2
  obtain ⟨o4,q3,q4,_⟩:=old j' o2 L2 g1' g2'
  exact s.inj j j' o3 o4 L1 L2 b hjj q1 q3 g2 g2' (q2 b hb) (q4 b hb')
 ·by_cases e':i=j
  ·subst e';rw [Xh.set_same] at g1;cases g1;cases hg
  ·rw [Xh.set_ne _ _ e'] at g1;exact s.dom j o1 g1 hg
theorem Sim.openT (s:Sim E H β h w) {i j k m:Nat} {ty sz:Nat} {ls ls2:List Nat} {l:List (List T)} {x:List T} {e2 sz2:Nat} {l2:List (List T)} (hij:i≠j) (hi:h i=some (.tree ty sz ls l)) (hjl:B2 j ls=false) (hk:l[k]? =some x) (hm:x[m]? =some (.row e2 sz2 l2)) (h2:T.inLL ls2 l2=true):
  ∃β0 β',β0=β.set j (β' j)∧Bt.sim β0 β'∧Sim E H β' (((h.kill j).set i (.tree ty sz (j::ls) (l.set k (x.set m (.own j))))).set j (.tree e2 sz2 ls2 l2)) w:=by
 have hji:j≠i:=fun e=>hij e.symm
 have hki:(h.kill j) i=some (.tree ty sz ls l):=by rw [Xh.kill_ne _ hji,hi];show some (bif B2 j ls then _ else XO.tree ty sz ls l)=_;rw [hjl];rfl
 have hkj:((h.kill j).set i (.tree ty sz (j::ls) (l.set k (x.set m (.own j))))) j=none:=by rw [Xh.set_ne _ _ hij,Xh.kill_same]
 cases hL:β i with
 |none=>
  have s1:=s.kill j none
  have hL1:(β.set j none) i=none:=by rw [Bt.set_ne _ _ hji];exact hL
  exact ⟨_,_,by rw [Bt.set_same],fun j L hj=>⟨L,hj,rfl,rfl,rfl⟩,(s1.blind hL1 rfl).blind (Bt.set_same _ _ _) rfl⟩
 |some L=>
  obtain ⟨_,_,hin,ht0⟩:=s.obj i _ L hi hL
  have hkl:=T.mpLL_id (T.killF_id hjl) l hin
  obtain ⟨us0,Bs0,_,_,_,hc0,_,_,_,_⟩:=H1 ht0
  obtain ⟨us,Bs,hz,ho,h1,hc,hu,hB,htop,hdis⟩:=H1 ht0
  let v:Value:=(us[k*sz+m]?).getD undef
  let Lj:Loc:=⟨v,v.ownBlock.getD 0,sz2,Bs k m⟩
  have s1:=s.kill j (some Lj)
  have hL1:(β.set j (some Lj)) i=some L:=by rw [Bt.set_ne _ _ hji];exact hL
  have hmx:=(List.getElem?_eq_some_iff.1 hm).1
  have kc:∀(k j':Nat) (x:List T) (t:T),l[k]? =some x→x[j']? =some t→TR E.w.heap.size w H (β.set j (some Lj)) ((us[k*sz+j']?).getD undef) t (Bs k j'):=by
   intro k' j' x' t' g1 g2
   have q:=(hc k' j' x' t' g1 g2).kill j (some Lj)
   have e1:(T.mpLL (T.killF j) l)[k']? =some (T.mpL (T.killF j) x'):=by rw [T.mpLL_get,g1];rfl
   rw [hkl,g1] at e1
   have e2:(T.mpL (T.killF j) x')[j']? =some (T.mp (T.killF j) t'):=by rw [T.mpL_get,g2];rfl
   rw [←Option.some.inj e1,g2] at e2
   rw [←Option.some.inj e2] at q
   exact q
  have hsome:(us[k*sz+m]?)=some v:=by
   obtain ⟨u,hu'⟩:=Option.isSome_iff_exists.1 (hu k m x _ hk hm)
   show _=some ((us[k*sz+m]?).getD undef)
   rw [hu'];rfl
  let Li:Loc:={L with B:=fun b=>L.v.ownBlock=some b∨False∨∃k' j' x' t',l[k']? =some x'∧x'[j']? =some t'∧(k≠k'∨m≠j')∧Bs k' j' b}
  have hsub:∀b,Li.B b→L.B b:=fun b q=>by
   rcases q with q|q|⟨k',j',x',t',g1,g2,_,q⟩
   ·exact (hB b).2 (.inl q)
   ·exact q.elim
   ·exact (hB b).2 (.inr ⟨k',j',x',t',g1,g2,q⟩)
  have htr:TR E.w.heap.size w H (β.set j (some Lj)) L.v (.row ty sz (l.set k (x.set m (.own j)))) Li.B:=
   TR.put (us:=us) (us':=us) (Bs:=Bs) hz ho h1 kc hu htop hdis hk hmx (B':=fun _=>False) hsome (.own (Bt.set_same _ _ _) _ (fun _ q=>q)) (fun _ _ _ _ _ _ _=>rfl) (fun _ _ _ _ _ _ _ _ _=>rfl) (fun _ q=>q.elim) (fun _ _ _ _ _ _ _ _ q=>q.elim)
  obtain ⟨hsz,hvb,_,_⟩:=s.obj i _ L hi hL
  have hmo:∀q,B2 q ls=true→B2 q (j::ls)=true:=fun q h=>by simp [B2,h]
  have hin':T.inLL (j::ls) (l.set k (x.set m (.own j)))=true:=T.inLL_set (T.inLL_mono hmo l hin) (T.inL_set (T.inL_mono hmo x (T.inLL_get hin hk)) (by show B2 j (j::ls)=true;simp [B2]) m) k
  have hsim:=Bt.sim_set (β:=β.set j (some Lj)) (L':=Li) hL1 rfl rfl rfl
  have s2:=s1.relay (L':=Li) (o':= .tree ty sz (j::ls) (l.set k (x.set m (.own j)))) hki hL1 rfl rfl rfl hsub ⟨hsz,hvb,hin',htr.sim hsim⟩
  refine ⟨β.set j (some Lj),_, ?_,hsim,s2.adopt (L:=Lj) hkj ?_ ⟨rfl,fun b hb=> ?_,h2,(kc k m x _ hk hm).sim hsim⟩ (fun b hb=> ?_) (fun i' o' L' b g1 g2 hb hb'=> ?_)⟩
  ·rw [Bt.set_ne _ _ hij,Bt.set_same]
  ·rw [Bt.set_ne _ _ hij,Bt.set_same]
  ·show b=v.ownBlock.getD 0
   rw [hb];rfl
  ·exact s.sep i _ L hi hL b ((hB b).2 (.inr ⟨k,m,x,_,hk,hm,hb⟩))
  ·have hLb:L.B b:=(hB b).2 (.inr ⟨k,m,x,_,hk,hm,hb⟩)
   by_cases e:i=i'
   ·subst e
    rw [Xh.set_same] at g1;rw [Bt.set_same] at g2;cases g1;cases g2
    rcases hb' with q|q|⟨k',j',x',t',g3,g4,hne,q⟩
    ·exact htop k m x _ hk hm b hb q
    ·exact q
    ·exact hdis k m x _ k' j' x' t' hk hm g3 g4 hne b hb q
   ·rw [Xh.set_ne _ _ e] at g1
    rw [Bt.set_ne _ _ e] at g2
    exact s1.inj i i' _ o' L L' b e hki g1 hL1 g2 hLb hb'
theorem Sim.closeT (s:Sim E H β h w) {i j k m:Nat} {ty sz:Nat} {ls ls2 ls':List Nat} {l:List (List T)} {x:List T} {e2 sz2:Nat} {l2:List (List T)} (hij:i≠j) (hi:h i=some (.tree ty sz ls l)) (hj:h j=some (.tree e2 sz2 ls2 l2)) (hk:l[k]? =some x) (hm:x[m]? =some (.own j))
  (hin:T.inLL ls' (l.set k (x.set m (.row e2 sz2 l2)))=true) (hjl:B2 j ls'=false):
  ∃β',Bt.sim (β.set j none) β'∧Sim E H β' ((h.kill j).set i (.tree ty sz ls' (l.set k (x.set m (.row e2 sz2 l2))))) w:=by
 have hji:j≠i:=fun e=>hij e.symm
 have hkl:=T.mpLL_id (T.killF_id hjl) _ hin
 have hki:(h.kill j) i=some (XO.kill j (.tree ty sz ls l)):=by rw [Xh.kill_ne _ hji,hi];rfl
 have s1:=s.kill j none
 cases hL:β i with
 |none=>
  have hL1:(β.set j none) i=none:=by rw [Bt.set_ne _ _ hji];exact hL
  exact ⟨_,fun j L hj=>⟨L,hj,rfl,rfl,rfl⟩,s1.blind hL1 rfl⟩
 |some L=>
  obtain ⟨hsz,hvb,_,ht0⟩:=s.obj i _ L hi hL
  obtain ⟨us,Bs,hz,ho,h1,hc,hu,hB,htop,hdis⟩:=H1 ht0
  obtain ⟨Lj,hLj,hv⟩:=Ard (hc k m x _ hk hm)
  obtain ⟨_,_,_,htj⟩:=s.obj j _ Lj hj hLj
  have hL1:(β.set j none) i=some L:=by rw [Bt.set_ne _ _ hji];exact hL
  have hmx:=(List.getElem?_eq_some_iff.1 hm).1
  have hsome:(us[k*sz+m]?)=some Lj.v:=by
   obtain ⟨u,hu'⟩:=Option.isSome_iff_exists.1 (hu k m x _ hk hm)
   rw [hu'] at hv ⊢
   exact congrArg some hv
  have hdj:∀b,Lj.B b→¬L.B b:=fun b q=>s.inj j i _ _ Lj L b hji hj hi hLj hL q
  let Li:Loc:={L with B:=fun b=>L.v.ownBlock=some b∨Lj.B b∨∃k' j' x' t',l[k']? =some x'∧x'[j']? =some t'∧(k≠k'∨m≠j')∧Bs k' j' b}
  have htr:TR E.w.heap.size w H β L.v (.row ty sz (l.set k (x.set m (.row e2 sz2 l2)))) Li.B:=
   TR.put (us:=us) (us':=us) (Bs:=Bs) hz ho h1 hc hu htop hdis hk hmx hsome htj (fun _ _ _ _ _ _ _=>rfl) (fun _ _ _ _ _ _ _ _ _=>rfl) (fun b q k=>hdj b q ((hB b).2 (.inl k))) (fun k' j' x' t' g1 g2 _ b q q2=>hdj b q ((hB b).2 (.inr ⟨k',j',x',t',g1,g2,q2⟩)))
  have htk:=htr.kill j none
  unfold T.mp at htk
  rw [hkl] at htk
  have hsim:=Bt.sim_set (β:=β.set j none) (L':=Li) hL1 rfl rfl rfl
  have hsub:∀b,Li.B b→L.B b∨Lj.B b:=fun b q=>by
   rcases q with q|q|⟨k',j',x',t',g1,g2,_,q⟩
   ·exact .inl ((hB b).2 (.inl q))
   ·exact .inr q
   ·exact .inl ((hB b).2 (.inr ⟨k',j',x',t',g1,g2,q⟩))
  refine ⟨_,hsim,s1.relay2 (L':=Li) (o':= .tree ty sz ls' (l.set k (x.set m (.row e2 sz2 l2)))) hki hL1 rfl rfl rfl (fun b q=> ?_) (fun i' o1 L1 b e g1 g2 q q2=> ?_) ⟨hsz,hvb,hin,htk.sim hsim⟩⟩
  ·rcases hsub b q with q|q
   ·exact s.sep i _ L hi hL b q
   ·exact s.sep j _ Lj hj hLj b q
  ·by_cases e':j=i'
   ·subst e';rw [Xh.kill_same] at g1;cases g1
   ·rw [Xh.kill_ne _ e'] at g1
    rw [Bt.set_ne _ _ e'] at g2
    cases ho':h i' with
    |none=>rw [ho'] at g1;cases g1
    |some o2=>
     rw [ho'] at g1;cases g1
     rw [XO.blk_kill] at q2
     rcases hsub b q with q|q
     ·exact s.inj i i' _ o2 L L1 b e hi ho' hL g2 q q2
     ·exact s.inj j i' _ o2 Lj L1 b e' hj ho' hLj g2 q q2
end
end Go.Proofs.YtaafemnkamfgnaaGreat
namespace Go.Proofs.YtaafemnkamfgnaaGreat
open Go.RowKit
open Classical in
noncomputable def Hp.plusW (H:Hp) (B:Nat→Prop) (w:World):Hp:=fun b o=>
 match H b o with
 |some u=>some u
 |none=>if B b then wH w b o else none
theorem Hp.plusW_le (H:Hp) (B:Nat→Prop) (w:World):H.le (H.plusW B w):=fun b o u e=>by simp [Hp.plusW,e]
theorem Hp.plusW_new {H:Hp} {B:Nat→Prop} {w:World} {b o:Nat} {u:Value} (e:H.plusW B w b o=some u):H b o=some u∨(B b∧wH w b o=some u):=by
 unfold Hp.plusW at e
 split at e
 ·rename_i v hv;cases e;exact .inl hv
 ·split at e
  ·rename_i hb;exact .inr ⟨hb,e⟩
  ·cases e
theorem Hp.plusW_at {H:Hp} {B:Nat→Prop} {w:World} {b:Nat} (hn:∀o,H b o=none) (hb:B b) (o:Nat):H.plusW B w b o=wH w b o:=by simp [Hp.plusW,hn,hb]
theorem TR.vd {base:Nat} {w:World} {H:Hp} {β:Bt} {u:Value} {t:T} {B':Nat→Prop} (h:TR base w H β u t B') {B:Nat→Prop} (hb:∀b,B' b→B b) (hH:∀b,B b→∀off,H b off=none) (hf:t.fz=true):VD (H.plusW B w) u t.toD:=by
 induction h with
 |any u B' hB=>cases hf
 |d h B' hB=>unfold T.toD;exact h.mono (Hp.plusW_le _ _ _)
 |own h B' hB=>cases hf
 |row u e sz l us Bs B' hz ho h1 hc hu hB htop hdis ih=>
  unfold T.fz at hf
  unfold T.toD
  have hown0:=ho
  obtain ⟨hlen,hcase⟩:=ho
  rcases hcase with ⟨hnil,hn0⟩|⟨g,cap,cur,hv,hbase,hheap,hncap,hcap,hcur,htake⟩
  ·have hl:l= []:=List.eq_nil_of_length_eq_zero hn0
   subst hl
   rw [hnil];exact .emp none 0 sz (fun _=>rfl) (Nat.zero_le _)
  ·have hg:B g:=hb g ((hB g).2 (.inl (by rw [hv];rfl)))
   have get:∀(k j:Nat) (x:List D) (d:D),(T.toDLL l)[k]? =some x→x[j]? =some d→∃y t,l[k]? =some y∧y[j]? =some t∧d=t.toD:=by
    intro k j x d g1 g2
    rw [T.toDLL_get] at g1
    cases hy:l[k]? with
    |none=>rw [hy] at g1;cases g1
    |some y=>
     rw [hy] at g1;cases g1
     rw [T.toDL_get] at g2
     cases hd:y[j]? with
     |none=>rw [hd] at g2;cases g2
     |some t=>rw [hd] at g2;cases g2;exact ⟨y,t,rfl,hd,rfl⟩
   rw [hv]
   refine .sl g 0 l.length cap sz _ (fun k j=>(us[k*sz+j]?).getD undef) (T.toDLL_length l).symm hncap hcap (fun x hx=> ?_) (fun k j x d g1 g2=> ?_) (fun k j x d g1 g2=> ?_)
   ·obtain ⟨k,hk⟩:=List.getElem?_of_mem hx
    rw [T.toDLL_get] at hk
    cases hy:l[k]? with
    |none=>rw [hy] at hk;cases hk
    |some y=>rw [hy] at hk;cases hk;rw [T.toDL_length];exact hz y (List.mem_of_getElem? hy)
   ·obtain ⟨y,t,q1,q2,_⟩:=get k j x d g1 g2
    obtain ⟨v,hv'⟩:=Option.isSome_iff_exists.1 (hu k j y t q1 q2)
    rw [Hp.plusW_at (hH g hg) hg,hv',Nat.zero_add]
    have:=hown0.cells (g:=g) (by rw [hv];rfl) (k*sz+j) v hv'
    rw [Go.WideShapes.add_plain,Nat.zero_add] at this
    exact Xv this (h1 v (List.mem_of_getElem? hv'))
   ·obtain ⟨y,t,q1,q2,rfl⟩:=get k j x d g1 g2
    exact ih k j y t q1 q2 (fun b q=>hb b ((hB b).2 (.inr ⟨k,j,y,t,q1,q2,q⟩))) (T.fzL_get (T.fzLL_get hf q1) q2)
section
variable {E:Env} {H:Hp} {β:Bt} {h:Xh} {w:World}
theorem Sim.turnL {w':World} (s:Sim E H β h w) {i:Nat} {o o':XO} {L L':Loc} (ho:h i=some o) (hL:β i=some L) (h1:L'.v=L.v) (h2:L'.b=L.b) (h3:L'.sz=L.sz) (hblk:∀b,o'.blk L' b→o.blk L b) (hbel:Below E.w.heap.size E.w w')
  (hw:∀b,¬o.blk L b→w'.heap[b]? =w.heap[b]?) (hok:OKo E.w.heap.size w' H (β.set i (some L')) L' o'):Sim E H (β.set i (some L')) (h.set i o') w':=by
 have hs:=Bt.sim_set hL h1 h2 h3
 have im:Imm H w':=fun b off u e=>by
  refine ⟨?_,(s.imm b off u e).2⟩
  have hb':¬o.blk L b:=fun hc=>by have:=s.sep i o L ho hL b hc off;rw [e] at this;cases this
  exact (World.cell?_of_block (a:=⟨b,off,none⟩) (hw b hb')).trans (s.imm b off u e).1
 have old:∀j o1 L1,h.set i o' j=some o1→(β.set i (some L')) j=some L1→(i=j∧o1=o'∧L1=L')∨(i≠j∧h j=some o1∧β j=some L1):=by
  intro j o1 L1 g1 g2
  by_cases e:i=j
  ·subst e;rw [Xh.set_same] at g1;rw [Bt.set_same] at g2;cases g1;cases g2;exact .inl ⟨rfl,rfl,rfl⟩
  ·rw [Xh.set_ne _ _ e] at g1;rw [Bt.set_ne _ _ e] at g2;exact .inr ⟨e,g1,g2⟩
 refine ⟨hbel,s.ext,s.new,im,fun j o1 L1 g1 g2=> ?_,fun j o1 L1 g1 g2 b hb'=> ?_,fun j j' o1 o2 L1 L2 b hjj g1 g1' g2 g2' hb'=> ?_,fun j o1 g1 hg=> ?_⟩
 ·rcases old j o1 L1 g1 g2 with ⟨rfl,rfl,rfl⟩|⟨e,q1,q2⟩
  ·exact hok
  ·exact ((s.obj j o1 L1 q1 q2).keep (Hp.le.refl _) (fun _ _ h=>h) fun b hbk=>hw b (fun hc=>s.inj i j o o1 L L1 b e ho q1 hL q2 hc hbk)).sim hs
 ·rcases old j o1 L1 g1 g2 with ⟨rfl,rfl,rfl⟩|⟨e,q1,q2⟩
  ·exact s.sep _ _ _ ho hL b (hblk b hb')
  ·exact s.sep j o1 L1 q1 q2 b hb'
 ·rcases old j o1 L1 g1 g2 with ⟨rfl,rfl,rfl⟩|⟨e,q1,q2⟩
  ·rcases old j' o2 L2 g1' g2' with ⟨e',_⟩|⟨e',q1',q2'⟩
   ·exact absurd e' hjj
   ·exact s.inj _ _ _ _ _ _ b e' ho q1' hL q2' (hblk b hb')
  ·rcases old j' o2 L2 g1' g2' with ⟨rfl,rfl,rfl⟩|⟨e',q1',q2'⟩
   ·intro hc;exact s.inj _ _ _ _ _ _ b e ho q1 hL q2 (hblk b hc) hb'
   ·exact s.inj _ _ _ _ _ _ b hjj q1 q1' q2 q2' hb'
 ·by_cases e:i=j
  ·subst e;exact ⟨_,Bt.set_same _ _ _⟩
  ·rw [Xh.set_ne _ _ e] at g1;obtain ⟨L1,q⟩:=s.dom j o1 g1 hg;exact ⟨L1,by rw [Bt.set_ne _ _ e];exact q⟩
theorem Sim.shareB (s:Sim E H β h w) {i:Nat} {o:XO} {L:Loc} (ho:h i=some o) (hL:β i=some L) (x:D) (hx:VD (H.plusW (o.blk L) w) L.v x):Sim E (H.plusW (o.blk L) w) β (h.frz i x) w:=by
 have hx':∀L',β i=some L'→VD (H.plusW (o.blk L) w) L'.v x:=fun L' e=>by rw [hL] at e;cases e;exact hx
 have aux:∀j o',h.frz i x j=some o'→i≠j∧∃o1,h j=some o1∧o'=o1.frz i x:=by
  intro j o' e
  unfold Xh.frz at e
  by_cases hij:i=j
  ·subst hij;rw [Bh] at e;cases e
  ·rw [Bp hij] at e
   cases hj:h j with
   |none=>rw [hj] at e;cases e
   |some o1=>rw [hj] at e;cases e;exact ⟨hij,o1,rfl,rfl⟩
 refine ⟨s.below,s.ext.trans (Hp.plusW_le _ _ _),fun b k u e=> ?_,fun b k u e=> ?_,fun j o' L' ho' hL'=> ?_,fun j o' L' ho' hL' b hb off=> ?_,fun j j' o1 o2 L1 L2 b hjj h1 h1' h2 h2' hb=> ?_,fun j o' ho' hg'=> ?_⟩
 rotate_left 5
 ·obtain ⟨_,o1,h1,rfl⟩:=aux j o' ho'
  rw [XO.isG_frz] at hg'
  exact s.dom j o1 h1 hg'
 ·rcases Hp.plusW_new e with k1|⟨q,_⟩
  ·exact s.new b k u k1
  ·exact .inr ((s.obj i o L ho hL).lt q).1
 ·rcases Hp.plusW_new e with k1|⟨_,k2⟩
  ·exact s.imm b k u k1
  ·exact Aii w b k u k2
 ·obtain ⟨_,o1,h1,rfl⟩:=aux j o' ho'
  exact ((s.obj j o1 L' h1 hL').keep (Hp.plusW_le _ _ _) (fun _ _ h=>h) fun _ _=>rfl).frz i x hx'
 ·obtain ⟨hij,o1,h1,rfl⟩:=aux j o' ho'
  rw [XO.blk_frz] at hb
  cases e:H.plusW (o.blk L) w b off with
  |none=>rfl
  |some u=>
   rcases Hp.plusW_new e with k1|⟨q,_⟩
   ·rw [s.sep j o1 L' h1 hL' b hb off] at k1;cases k1
   ·exact absurd hb (s.inj i j o o1 L L' b hij ho h1 hL hL' q)
 ·obtain ⟨_,o3,h3,rfl⟩:=aux j o1 h1
  obtain ⟨_,o4,h4,rfl⟩:=aux j' o2 h1'
  rw [XO.blk_frz] at hb ⊢
  exact s.inj j j' o3 o4 L1 L2 b hjj h3 h4 h2 h2' hb
theorem Sim.freezeT (s:Sim E H β h w) {i:Nat} {e:TypeId} {sz:Nat} {ls:List Nat} {l:List (List T)} (ho:h i=some (.tree e sz ls l)) (hf:T.fzLL l=true):
  ∃H',H.le H'∧(∀L,β i=some L→VD H' L.v (.sl sz (T.toDLL l)))∧Sim E H' β (h.frz i (.sl sz (T.toDLL l))) w:=by
 cases hL:β i with
 |none=>exact ⟨H,Hp.le.refl _,(fun L e=>by cases e),s.noshare i _ (fun L e=>by rw [hL] at e;cases e)⟩
 |some L=>
  obtain ⟨_,_,_,ht⟩:=s.obj i _ L ho hL
  have hv:=ht.vd (B:=L.B) (fun _ q=>q) (fun b q=>s.sep i _ L ho hL b q) (by unfold T.fz;exact hf)
  unfold T.toD at hv
  exact ⟨_,Hp.plusW_le _ _ _,(fun L' e=>by cases e;exact hv),s.shareB ho hL _ hv⟩
theorem Xh.kill_set (h:Xh) (j:Nat) (o:XO):(h.set j o).kill j=h.kill j:=by
 funext k
 by_cases e:j=k
 ·subst e;rw [Xh.kill_same,Xh.kill_same]
 ·rw [Xh.kill_ne _ e,Xh.kill_ne _ e,Xh.set_ne _ _ e]
theorem P6 (hs:Sim E H β h w) {i:Nat} {ty:TypeId} {sz:Nat} {ls:List Nat} {l:List (List T)} {L:Loc} (hi:h i=some (.tree ty sz ls l)) (hL:β i=some L) {k m:Nat} {x:List T} {t:T} (hk:l[k]? =some x) (hm:x[m]? =some t):
  ∃u B,w.cell? ⟨L.b,k*L.sz+m,none⟩=some u∧u.oneCell'=true∧TR E.w.heap.size w H β u t B:=by
 obtain ⟨hsz,hvb,_,ht⟩:=hs.obj i _ L hi hL
 obtain ⟨us,Bs,hz,ho,h1,hc,hu,_,_,_⟩:=H1 ht
 obtain ⟨u,hu'⟩:=Option.isSome_iff_exists.1 (hu k m x t hk hm)
 have hcell:=hc k m x t hk hm
 rw [hu'] at hcell
 have hpos:0<l.length:=by have:=(List.getElem?_eq_some_iff.1 hk).1;omega
 obtain ⟨g,cap,hLv,_,_⟩:=ho.form hpos
 have hg:=hvb g (by rw [hLv];rfl)
 subst hg
 have:=ho.cells (g:=L.b) (by rw [hLv];rfl) (k*sz+m) u hu'
 rw [Go.WideShapes.add_plain,Nat.zero_add] at this
 rw [hsz]
 exact ⟨u,_,this,h1 u (List.mem_of_getElem? hu'),hcell⟩
theorem Sim.set_tree (hs:Sim E H β h w) {i k off:Nat} {ty:TypeId} {sz:Nat} {ls:List Nat} {l:List (List T)} {y:List T} {L:Loc} (hi:h i=some (.tree ty sz ls l)) (hL:β i=some L) (hk:l[k]? =some y) (hoff:off<y.length) {u:Value} {d:S} (hu:VS H β u d) (h1:u.oneCell'=true) (hd:d.toT.inn ls=true):
  (w.cell? ⟨L.b,k*L.sz+off,none⟩).isSome=true∧w.frozen? ⟨L.b,k*L.sz+off,none⟩=false∧∃L',L'.v=L.v∧L'.b=L.b∧L'.sz=L.sz∧
   Sim E H (β.set i (some L')) (h.set i (.tree ty sz ls (l.set k (y.set off d.toT)))) (w.setCell ⟨L.b,k*L.sz+off,none⟩ u):=by
 obtain ⟨hsz,hvb,hin,ht⟩:=hs.obj i _ L hi hL
 have hin':T.inLL ls (l.set k (y.set off d.toT))=true:=T.inLL_set hin (T.inL_set (T.inLL_get hin hk) hd off) k
 obtain ⟨us,Bs,hz,hown,hone,hc,hus,hB,htop,hdis⟩:=H1 ht
 have hkl:=(List.getElem?_eq_some_iff.1 hk).1
 obtain ⟨g,cap,hLv,hbase,_⟩:=hown.form (by omega)
 have hg:=hvb g (by rw [hLv];rfl)
 subst hg
 obtain ⟨u0,_,hc0,_,_⟩:=P6 hs hi hL hk (List.getElem?_eq_getElem hoff)
 have hown':=hown
 rw [hLv] at hown'
 have hfr:w.frozen? ⟨L.b,k*L.sz+off,none⟩=false:=by
  rcases hown'.2 with ⟨e,_⟩|⟨g,cap',cur,e,_,hh,_⟩
  ·cases e
  ·injection e with e1
   injection e1 with e1
   injection e1 with e1
   subst e1
   simp [World.frozen?,hh]
 obtain ⟨h2,h3⟩:=hown'.stored (k*L.sz+off) u
 have hyl:y.length=sz:=hz y (List.mem_of_getElem? hk)
 have huslen:us.length=l.length*sz:=hown.1
 have hmul:(k+1)*sz≤l.length*sz:=Nat.mul_le_mul_right _ hkl
 rw [Nat.add_mul] at hmul
 have hother:∀b,b≠L.b→(w.setCell ⟨L.b,k*L.sz+off,none⟩ u).heap[b]? =w.heap[b]? :=fun b hb=>Below.heap_setCell _ _ _ _ hb
 let L':Loc:={L with B:=fun b=>L.v.ownBlock=some b∨False∨∃k' j' x' t',l[k']? =some x'∧x'[j']? =some t'∧(k≠k'∨off≠j')∧Bs k' j' b}
 have htr:TR E.w.heap.size (w.setCell ⟨L.b,k*L.sz+off,none⟩ u) H β L.v (.row ty sz (l.set k (y.set off d.toT))) L'.B:=
  TR.put (us := us) (us' := us.set (k * L.sz + off) u) (Bs := Bs) hz (by rw [hLv]; exact h2) (fun x hx => by
    rcases List.mem_or_eq_of_mem_set hx with q|q
    ·exact hone x q
    ·subst q; exact h1) hc hus htop hdis hk hoff (B' := fun _ => False) (by rw [hsz, List.getElem?_set_self (by omega)])
   (hu.tr _ (fun _ q => q)) (fun k' j' x' t' g1 g2 hne => by
    rw [hsz]
    refine List.getElem?_set_ne fun e=> ?_
    have hj':j'<sz:=by have:=(List.getElem?_eq_some_iff.1 g2).1;rw [hz x' (List.mem_of_getElem? g1)] at this;exact this
    have e1:(k*sz+off) / sz=k:=by rw [Nat.mul_comm,Nat.mul_add_div (by omega),Nat.div_eq_of_lt (by omega)];rfl
    have e2:(k'*sz+j') / sz=k':=by rw [Nat.mul_comm,Nat.mul_add_div (by omega),Nat.div_eq_of_lt hj'];rfl
    have e3:k=k':=by rw [←e1, ←e2,e]
    subst e3
    exact hne.elim (fun q => q rfl) (fun q => q (by omega)))
   (fun k' j' x' t' g1 g2 _ b q=>hother b fun e=>htop k' j' x' t' g1 g2 b q (by rw [hLv,e];rfl)) (fun _ q=>q.elim) (fun _ _ _ _ _ _ _ _ q=>q.elim)
 refine ⟨by simp [hc0],hfr,L',rfl,rfl,rfl, ?_⟩
 have hsim:=Bt.sim_set (L':=L') hL rfl rfl rfl
 have hsub:∀b,L'.B b→L.B b:=fun b q=>by
  rcases q with q|q|⟨k',j',x',t',g1,g2,_,q⟩
  ·exact (hB b).2 (.inl q)
  ·exact q.elim
  ·exact (hB b).2 (.inr ⟨k',j',x',t',g1,g2,q⟩)
 exact hs.turnL (L':=L') (o':= .tree ty sz ls (l.set k (y.set off d.toT))) hi hL rfl rfl rfl hsub (hs.below.setCell hbase u) (fun b hb=>hother b fun e=>hb ((hB b).2 (.inl (by rw [hLv,e];rfl)))) ⟨hsz,hvb,hin',htr.sim hsim⟩
theorem P0 {P:Program} {i k off:Nat} {ty:TypeId} {sz:Nat} {ls:List Nat} {Lv:Value} {Lb Lsz:Nat}:∀(vs:List Value) (ds:List S) (m:Nat) (l:List (List T)) (y:List T) (h:Xh) (w:World) (β:Bt) (L:Loc),β i=some L→L.v=Lv→L.b=Lb→L.sz=Lsz→Sim E H β h w→h i=some (.tree ty sz ls l)→l[k]? =some y→vs.length=ds.length→(∀d∈ds,d.toT.inn ls=true)→
  (∀(j:Nat) (v:Value) (d:S),vs[j]? =some v→ds[j]? =some d→VS H β v d∧v.oneCell'=true)→
  off+m+vs.length≤y.length→∃w' β',Bt.sim β β'∧(storeCells ⟨Lb,k*Lsz+off,none⟩ vs m).run P w= .ok () w'∧Sim E H β' (h.set i (.tree ty sz ls (l.set k (sets y (off+m) (ds.map S.toT))))) w'
 | [], [], m, l, y, h, w, β, L, hL, _, _, _, hs, hi, hk, _, _, _, _ => ⟨w, β, fun j M hM => ⟨M, hM, rfl, rfl, rfl⟩, rfl, by
   have:l.set k y=l:=List.ext_getElem? fun j=>by
    by_cases e:k=j
    ·subst e;rw [List.getElem?_set_self (List.getElem?_eq_some_iff.1 hk).1,hk]
    ·rw [List.getElem?_set_ne e]
   rw [List.map_nil, sets, this, Xh.set_self hi]; exact hs⟩
 |v::vs,d::ds,m,l,y,h,w,β,L,hL,e1,e2,e3,hs,hi,hk,hlen,hds,hv,hle=>by
  simp only [List.length_cons] at hle
  obtain ⟨g1,g2⟩:=hv 0 v d rfl rfl
  obtain ⟨c1,c2,L',q1,q2,q3,c3⟩:=hs.set_tree hi hL hk (off:=off+m) (by omega) g1 g2 (hds d List.mem_cons_self)
  have hsim:=Bt.sim_set (L':=L') hL q1 q2 q3
  obtain ⟨w',β',r0,r1,r2⟩:=P0 (P:=P) (k:=k) (off:=off) vs ds (m+1) (l.set k (y.set (off+m) d.toT)) (y.set (off+m) d.toT) _ _ _ L' (Bt.set_same _ _ _) (q1.trans e1) (q2.trans e2) (q3.trans e3) c3 (Xh.set_same _ _ _) (List.getElem?_set_self (List.getElem?_eq_some_iff.1 hk).1) (by simpa using hlen) (fun x hx=>hds x (List.mem_cons_of_mem _ hx)) (fun j x z hx hy=>⟨((hv (j+1) x z hx hy).1).sim hsim,(hv (j+1) x z hx hy).2⟩) (by simp;omega)
  refine ⟨w',β',fun j M hM=> ?_, ?_,by rw [Xh.set_set,List.set_set] at r2;exact r2⟩
  ·obtain ⟨M1,a1,a2,a3,a4⟩:=hsim j M hM
   obtain ⟨M2,b1,b2,b3,b4⟩:=r0 j M1 a1
   exact ⟨M2,b1,b2.trans a2,b3.trans a3,b4.trans a4⟩
  ·obtain ⟨u0,hu0⟩:=Option.isSome_iff_exists.1 c1
   simp only [storeCells,Sem.run_bind]
   have hadd:(⟨Lb,k*Lsz+off,none⟩:Addr).add m=⟨L.b,k*L.sz+(off+m),none⟩:=by rw [Go.WideShapes.add_plain,Nat.add_assoc,e2,e3]
   rw [hadd,run_store P w _ v _ g2,hu0]
   simp only [c2,Bool.false_eq_true,if_false,Result.andThen_ok]
   exact r1
end
end Go.Proofs.YtaafemnkamfgnaaGreat
namespace Go.Proofs.YtaafemnkamfgnaaGreat
open Go.RowKit
def T.toS:T→S
 | .any=> .any
 | .d x=> .d x
 | .own i=> .own i
 | .row _ _ _=> .any
theorem TR.vs {base:Nat} {w:World} {H:Hp} {β:Bt} {u:Value} {t:T} {B:Nat→Prop} (h:TR base w H β u t B):VS H β u t.toS:=by
 cases h with
 |any u B hB=>exact .any u
 |d h B hB=>exact .d h
 |own h B hB=>exact .own h
 |row _ _ _ _ _ _ _ _ _ _ _ _ _ _ _=>exact .any _
section
variable {P:Program} {n:Nat} {ops:Array Oper} {rest:List Oper} {K:Cu} {f:Fr} {h:Xh} {o:Oper} {e:Operand→S}
theorem C0 {t:TypeId} {x:Operand} {i k off:Nat} {ty:TypeId} {sz:Nat} {ls:List Nat} {l:List (List T)} {y:List T} {s:T} (ho:o.op= .load t x) (hx:e x= .ptr i k off) (hs:scB P t=true) (hi:h i=some (.tree ty sz ls l)) (hk:l[k]? =some y) (hj:y[off]? =some s):
  A9 P o e h s.toS:=fun E H β ρ w hsim hop=>by
 have g:=hop x (by rw [ho];simp [Op.operands])
 rw [hx] at g
 obtain ⟨L,h1,h2⟩:=Fm g
 obtain ⟨u,B,hu,_,hv⟩:=P6 hsim hi h1 hk hj
 exact ⟨u,by rw [G0 ho h2,Mc hs hu];rfl,hv.vs⟩
theorem Zd {t m:Nat} {x:Operand} {i k off:Nat} {ty:TypeId} {sz:Nat} {ls:List Nat} {l:List (List T)} {y:List T} (ho:o.op= .load t x) (hx:e x= .ptr i k off) (hs:aggB P t m=true) (hi:h i=some (.tree ty sz ls l)) (hk:l[k]? =some y) (hn:off+m≤y.length):
  A9 P o e h (.agg (((y.drop off).take m).map T.toS)):=fun E H β ρ w hsim hop=>by
 have g:=hop x (by rw [ho];simp [Op.operands])
 rw [hx] at g
 obtain ⟨L,h1,h2⟩:=Fm g
 have hval:∀j,j<m→∃u,w.cell? ⟨L.b,k*L.sz+off+j,none⟩=some u∧∀s,y[off+j]? =some s→VS H β u s.toS:=by
  intro j hj
  have hlt:off+j<y.length:=by omega
  obtain ⟨u,B,hu,_,hv⟩:=P6 hsim hi h1 hk (List.getElem?_eq_getElem hlt)
  exact ⟨u,by rw [Nat.add_assoc];exact hu,fun s hs=>by rw [List.getElem?_eq_getElem hlt] at hs;cases hs;exact hv.vs⟩
 obtain ⟨gv,hgv⟩:∃gv:Nat→Value,∀j,j<m→w.cell? ⟨L.b,k*L.sz+off+j,none⟩=some (gv j)∧∀s,y[off+j]? =some s→VS H β (gv j) s.toS:=
  ⟨fun j=>if hj:j<m then Classical.choose (hval j hj) else undef,fun j hj=>by simp only [dif_pos hj];exact Classical.choose_spec (hval j hj)⟩
 refine ⟨.agg ((List.range m).map gv).toArray, ?_, .agg _ _ (by simp;omega) fun j z s hy hd=> ?_⟩
 ·rw [G0 ho h2,K9 hs (us:=(List.range m).map gv) (by simp) fun j v hj=> ?_]
  ·rfl
  ·rw [List.getElem?_map] at hj
   rw [Go.WideShapes.add_plain]
   by_cases hjn:j<m
   ·rw [List.getElem?_range hjn] at hj
    simp at hj
    subst hj
    exact (hgv j hjn).1
   ·rw [List.getElem?_eq_none (by simpa using hjn)] at hj;cases hj
 ·rw [List.getElem?_toArray,List.getElem?_map] at hy
  rw [List.getElem?_map,List.getElem?_take] at hd
  split at hd
  ·rename_i hjn
   rw [List.getElem?_range hjn] at hy
   simp at hy
   subst hy
   rw [List.getElem?_drop] at hd
   cases hq:y[off+j]? with
   |none=>rw [hq] at hd;cases hd
   |some q=>rw [hq] at hd;cases hd;exact (hgv j hjn).2 q hq
  ·cases hd
theorem Di {t sz:Nat} {x y:Operand} {i k:Nat} {ik:IntKind} {a:Int} {ty:TypeId} {ls:List Nat} {l:List (List T)} (ho:o.op= .indexAddr t x y) (hx:e x= .own i) (hy:e y= .d (.v (.int ik a))) (ha:a=(k:Int)) (hi:h i=some (.tree ty sz ls l)) (hf:elB P t sz=true) (hk:k<l.length):A9 P o e h (.ptr i k 0):=fun E H β ρ w hsim hop=>by
 subst ha
 have g:=hop x (by rw [ho];simp [Op.operands])
 have g2:=hop y (by rw [ho];simp [Op.operands])
 rw [hx] at g
 rw [hy] at g2
 obtain ⟨L,h1,h2⟩:=Fa g
 obtain ⟨hsz,hvb,_,ht⟩:=hsim.obj i _ L hi h1
 obtain ⟨us,Bs,hz,h3,_⟩:=H1 ht
 obtain ⟨gb,cap,hLv,_,_⟩:=h3.form (by omega)
 have hg:=hvb gb (by rw [hLv];rfl)
 subst hg
 refine ⟨_,by unfold execOp;simp only [ho,h2,hLv,Dn g2,Sem.run_bind,Oi hf hk,Result.andThen_ok,Sem.run_pure];rfl, ?_⟩
 rw [Nat.zero_add]
 have:=VS.ptr (H:=H) k 0 h1
 rw [hsz,Nat.add_zero] at this
 exact this
theorem Gq {t el:TypeId} {x:Operand} {i sz:Nat} {ty:TypeId} {ls:List Nat} {l:List (List T)} (ho:o.op= .call {callee:= .builtin .len,args:= #[x],argTypes:= #[t]}) (hx:e x= .own i) (hi:h i=some (.tree ty sz ls l)) (hu:P.underlying t=some (.slice el)):A9 P o e h (.d (.v (.int .i64 (l.length:Nat)))):=fun E H β ρ w hsim hop=>by
 have g:=hop x (by rw [ho];simp [Op.operands,Call.operands])
 rw [hx] at g
 obtain ⟨L,h1,h2⟩:=Fa g
 obtain ⟨_,_,_,ht⟩:=hsim.obj i _ L hi h1
 obtain ⟨us,Bs,hz,h3,_⟩:=H1 ht
 obtain ⟨A,c,h4,_⟩:=Il h3
 exact ⟨_,Oz ho hu (h2.trans h4) w, .d (.v _)⟩
theorem Sim.wideT {E:Env} {H:Hp} {β:Bt} {h:Xh} {w:World} (s:Sim E H β h w) {i:Nat} {ty sz:Nat} {ls ls':List Nat} {l:List (List T)} (hi:h i=some (.tree ty sz ls l)) (hsub:ls.all (fun j=>B2 j ls')=true):Sim E H β (h.set i (.tree ty sz ls' l)) w:=
 s.redo hi (fun _=>rfl) rfl fun L hk=>⟨hk.1,hk.2.1,T.inLL_mono (fun j hj=>List.all_eq_true.1 hsub j (Ru hj)) l hk.2.2.1,hk.2.2.2⟩
theorem Jh {t m:Nat} {x y:Operand} {i k off:Nat} {ty:TypeId} {sz:Nat} {ls:List Nat} (ls':List Nat) {l l':List (List T)} {z:List T} {cs:List S} (ho:o.op= .store t x y) (hx:ev f x= .ptr i k off) (hi:h i=some (.tree ty sz ls l)) (hk:l[k]? =some z) (hc:Dv h (ev f y)=some cs)
  (hz:sizeB P t m=true) (hm:cs.length=m) (hoff:off+m≤z.length)
  (hsub:ls.all (fun j=>B2 j ls')=true) (hcs:cs.all (fun d=>d.toT.inn ls')=true) (hl':l.set k (sets z off (cs.map S.toT))=l'):Step P n o f h (.d (.v undef)) f (h.set i (.tree ty sz ls' l')):=by
 subst hl'
 intro E H β a w hs0 hf hop
 have hs:=hs0.wideT hi hsub
 have hi':=Xh.set_same h i (.tree ty sz ls' l)
 have g1:=hop x (by rw [ho];simp [Op.operands])
 have g2:=hop y (by rw [ho];simp [Op.operands])
 rw [hx] at g1
 obtain ⟨L,hL,hp⟩:=Fm g1
 obtain ⟨c1,c2⟩:=H8 hs0 g2 hc
 obtain ⟨w',β',r0,r1,r2⟩:=P0 (P:=P) (k:=k) (off:=off) (a.eval y).cells.toList cs 0 l z _ w β L hL rfl rfl rfl hs hi' hk (by simpa using c1) (fun d hd=>List.all_eq_true.1 hcs d hd) (fun j v d hj hd'=>c2 j v d (by simpa using hj) hd') (by simp [c1,hm];exact hoff)
 have hr:(execOp a.eval o).run P w= .ok .skip w':=by
  unfold execOp
  simp only [ho,Instr.storeAt,hp,Instr.sureAddr,Sem.run_bind,Sem.run_pure,Result.andThen_ok,storeVar,sizeB.run hz,c1,hm,ne_eq,not_true_eq_false,if_false,r1]
 unfold Oper.wp
 rw [hr]
 rw [Xh.set_set] at r2
 exact ⟨H,β',_,rfl,r2,hf.sim r0, .d (.v _)⟩
theorem FV.openT {H:Hp} {β β0 β':Bt} {a:Act} (hf:FV n H β a f) {j:Nat} (h0:β0=β.set j (β' j)) (hs:Bt.sim β0 β'):FV n H β' a (Dw f j):=by
 subst h0;exact (hf.kill j _).sim hs
section
variable {ls ls2:List Nat} {i j k m ty sz e2 sz2:Nat} {l l':List (List T)} {x:List T} {l2:List (List T)}
theorem XL.openT (ls2:List Nat) (l2:List (List T)) (hij:Nat.beq i j=false) (hi:h i=some (.tree ty sz ls l)) (hjl:B2 j ls=false) (hk:l[k]? =some x) (hm:x[m]? =some (.row e2 sz2 l2)) (h2:T.inLL ls2 l2=true) (hl':l.set k (x.set m (.own j))=l')
  (hr:XL P n ops rest K (Dw f j) (((h.kill j).set i (.tree ty sz (j::ls) l')).set j (.tree e2 sz2 ls2 l2))):XL P n ops rest K f h:=fun hin E H β a w hs hf=>by
 subst hl'
 obtain ⟨β0,β',q0,q1,q2⟩:=hs.openT (fun e=>by subst e;rw [Bh] at hij;cases hij) hi hjl hk hm h2
 exact hr hin E H β' a w q2 (hf.openT q0 q1)
theorem XL.openR (l2:List (List D)) (hij:Nat.beq i j=false) (hi:h i=some (.tree ty sz ls l)) (hjl:B2 j ls=false) (hk:l[k]? =some x) (hm:x[m]? =some (.row e2 sz2 (l2.map (·.map T.d)))) (hl':l.set k (x.set m (.own j))=l')
  (hr:XL P n ops rest K (Dw f j) (((h.kill j).set i (.tree ty sz (j::ls) l')).set j (.row e2 sz2 l2))):XL P n ops rest K f h:=fun hin E H β a w hs hf=>by
 subst hl'
 obtain ⟨β0,β',q0,q1,q2⟩:=hs.openT (ls2:= []) (fun e=>by subst e;rw [Bh] at hij;cases hij) hi hjl hk hm (T.inLL_d [] l2)
 have q3:=q2.ofT (Xh.set_same _ _ _)
 rw [Xh.set_set] at q3
 exact hr hin E H β' a w q3 (hf.openT q0 q1)
theorem XL.closeT (ls':List Nat) (hij:Nat.beq i j=false) (hi:h i=some (.tree ty sz ls l)) (hj:h j=some (.tree e2 sz2 ls2 l2)) (hk:l[k]? =some x) (hm:x[m]? =some (.own j)) (hl':l.set k (x.set m (.row e2 sz2 l2))=l') (hin':T.inLL ls' l'=true) (hjl:B2 j ls'=false)
  (hr:XL P n ops rest K (Dw f j) ((h.kill j).set i (.tree ty sz ls' l'))):XL P n ops rest K f h:=fun hin E H β a w hs hf=>by
 subst hl'
 obtain ⟨β',q1,q2⟩:=hs.closeT (fun e=>by subst e;rw [Bh] at hij;cases hij) hi hj hk hm hin' hjl
 exact hr hin E H β' a w q2 ((hf.kill j none).sim q1)
theorem XL.closeR (ls':List Nat) {l2:List (List D)} (hij:Nat.beq i j=false) (hi:h i=some (.tree ty sz ls l)) (hj:h j=some (.row e2 sz2 l2)) (hk:l[k]? =some x) (hm:x[m]? =some (.own j)) (hl':l.set k (x.set m (.row e2 sz2 (l2.map (·.map T.d))))=l') (hin':T.inLL ls' l'=true) (hjl:B2 j ls'=false)
  (hr:XL P n ops rest K (Dw f j) ((h.kill j).set i (.tree ty sz ls' l'))):XL P n ops rest K f h:=fun hin E H β a w hs hf=>by
 subst hl'
 have hne:j≠i:=fun e=>by subst e;rw [Bh] at hij;cases hij
 obtain ⟨β1,p1,p2⟩:=hs.toT hj
 obtain ⟨β',q1,q2⟩:=p2.closeT (fun e=>hne e.symm) ((Xh.set_ne _ _ hne).trans hi) (Xh.set_same _ _ _) hk hm hin' hjl
 rw [Xh.kill_set] at q2
 exact hr hin E H β' a w q2 (((hf.sim p1).kill j none).sim q1)
theorem XL.freezeT {ld:List (List D)} (hi:h i=some (.tree ty sz ls l)) (hf:T.fzLL l=true) (hd:T.toDLL l=ld) (hr:XL P n ops rest K (Vw f i (.sl sz ld)) (h.frz i (.sl sz ld))):XL P n ops rest K f h:=fun hin E H β a w hs hfv=>by
 subst hd
 obtain ⟨H',h1,h2,h3⟩:=hs.freezeT hi hf
 exact hr hin E H' β a w h3 ((hfv.mono h1 fun _ _ h=>h).frz i _ h2)
theorem XL.rowqT (ls':List Nat) {l':List (List T)} (hi:h i=some (.tree ty sz ls l)) (he:l=l') (hin':T.inLL ls' l'=true) (hr:XL P n ops rest K f (h.set i (.tree ty sz ls' l'))):XL P n ops rest K f h:=by
 subst he;exact XL.redo (x':= .tree ty sz ls' l) hi (fun _=>rfl) rfl (fun _ _ _ _ _ h=>⟨h.1,h.2.1,hin',h.2.2.2⟩) hr
end
end
section
variable {P:Program} {n:Nat} {K:Cu} {f:Fr} {h:Xh} {c:Code} {ls ls2:List Nat} {i j k m ty sz e2 sz2:Nat} {l l':List (List T)} {x:List T} {l2:List (List T)}
theorem S7 (ls2:List Nat) (l2:List (List T)) (hij:Nat.beq i j=false) (hi:h i=some (.tree ty sz ls l)) (hjl:B2 j ls=false) (hk:l[k]? =some x) (hm:x[m]? =some (.row e2 sz2 l2)) (h2:T.inLL ls2 l2=true) (hl':l.set k (x.set m (.own j))=l')
  (hr:XW P n c K (Dw f j) (((h.kill j).set i (.tree ty sz (j::ls) l')).set j (.tree e2 sz2 ls2 l2))):XW P n c K f h:=fun E H β a w hs hf=>by
 subst hl'
 obtain ⟨β0,β',q0,q1,q2⟩:=hs.openT (fun e=>by subst e;rw [Bh] at hij;cases hij) hi hjl hk hm h2
 exact hr E H β' a w q2 (hf.openT q0 q1)
theorem Hm (l2:List (List D)) (hij:Nat.beq i j=false) (hi:h i=some (.tree ty sz ls l)) (hjl:B2 j ls=false) (hk:l[k]? =some x) (hm:x[m]? =some (.row e2 sz2 (l2.map (·.map T.d)))) (hl':l.set k (x.set m (.own j))=l')
  (hr:XW P n c K (Dw f j) (((h.kill j).set i (.tree ty sz (j::ls) l')).set j (.row e2 sz2 l2))):XW P n c K f h:=fun E H β a w hs hf=>by
 subst hl'
 obtain ⟨β0,β',q0,q1,q2⟩:=hs.openT (ls2:= []) (fun e=>by subst e;rw [Bh] at hij;cases hij) hi hjl hk hm (T.inLL_d [] l2)
 have q3:=q2.ofT (Xh.set_same _ _ _)
 rw [Xh.set_set] at q3
 exact hr E H β' a w q3 (hf.openT q0 q1)
theorem Uf {l:List (List D)} (hi:h i=some (.row ty sz l)) (hl':l.map (·.map T.d)=l') (hr:XW P n c K f (h.set i (.tree ty sz [] l'))):XW P n c K f h:=fun E H β a w hs hf=>by
 subst hl'
 obtain ⟨β',q1,q2⟩:=hs.toT hi
 exact hr E H β' a w q2 (hf.sim q1)
theorem O6 {ld:List (List D)} (hi:h i=some (.tree ty sz ls l)) (hf:T.fzLL l=true) (hd:T.toDLL l=ld) (hr:XW P n c K (Vw f i (.sl sz ld)) (h.frz i (.sl sz ld))):XW P n c K f h:=fun E H β a w hs hfv=>by
 subst hd
 obtain ⟨H',h1,h2,h3⟩:=hs.freezeT hi hf
 exact hr E H' β a w h3 ((hfv.mono h1 fun _ _ h=>h).frz i _ h2)
theorem Kv (ls':List Nat) {l':List (List T)} (hi:h i=some (.tree ty sz ls l)) (he:l=l') (hin':T.inLL ls' l'=true) (hr:XW P n c K f (h.set i (.tree ty sz ls' l'))):XW P n c K f h:=by
 subst he;exact Aov (x':= .tree ty sz ls' l) hi (fun _=>rfl) rfl (fun _ _ _ _ _ h=>⟨h.1,h.2.1,hin',h.2.2.2⟩) hr
end
end Go.Proofs.YtaafemnkamfgnaaGreat
namespace Go.Proofs.YtaafemnkamfgnaaGreat
open Go.RowKit
section
variable {E:Env} {H:Hp} {β:Bt} {h:Xh} {w w':World}
theorem Sim.appendT (hs:Sim E H β h w) {i:Nat} {ty:TypeId} {sz:Nat} {l l':List (List T)} {v':Value} {us news:List Value} {vb:Option Nat} {Bs:Nat→Nat→Nat→Prop}
  (hfar:∀j o L,i≠j→h j=some o→β j=some L→∀b,o.blk L b→some b≠vb) (hH:∀b,some b=vb→∀off,H b off=none) (hbase:∀b,some b=vb→E.w.heap.size≤b)
  (hfarB:∀j o L,i≠j→h j=some o→β j=some L→∀b,o.blk L b→∀k m x t,l[k]? =some x→x[m]? =some t→¬Bs k m b) (hHB:∀k m x t b,l[k]? =some x→x[m]? =some t→Bs k m b→∀off,H b off=none)
  (hz:∀x∈l,x.length=sz) (hz':∀x∈l',x.length=sz) (hus:us.length=l.length*sz)
  (hone:∀u∈us,u.oneCell'=true) (hone':∀u∈news,u.oneCell'=true)
  (hc:∀(k j:Nat) (x:List T) (t:T),l[k]? =some x→x[j]? =some t→∃u,us[k*sz+j]? =some u∧TR E.w.heap.size w H β u t (Bs k j))
  (hc':∀(k j:Nat) (x:List T) (t:T),l'[k]? =some x→x[j]? =some t→∃u,news[k*sz+j]? =some u∧TR E.w.heap.size w H β u t (fun _=>False))
  (htop:∀(k j:Nat) (x:List T) (t:T),l[k]? =some x→x[j]? =some t→∀b,Bs k j b→some b≠vb)
  (hdis:∀(k j:Nat) (x:List T) (t:T) (k' j':Nat) (x':List T) (t':T),l[k]? =some x→x[j]? =some t→l[k']? =some x'→x'[j']? =some t'→(k≠k'∨j≠j')→∀b,Bs k j b→¬Bs k' j' b)
  {ls:List Nat} (hin:T.inLL ls (l++l')=true) (hil:B2 i ls=false)
  (hown:w'.ownsRow E.w.heap.size ty sz v' (l.length+l'.length) (us++news)) (hg:w.grownBy w' vb) (hat:v'.ownBlock=vb∨v'.ownBlock=some w.heap.size):
  ∃L',L'.v=v'∧Sim E H (β.set i (some L')) ((h.kill i).set i (.tree ty sz ls (l++l'))) w':=by
 have hkl:=T.mpLL_id (T.killF_id hil) _ hin
 let L0:Loc:=⟨v',v'.ownBlock.getD 0,sz,fun b=>v'.ownBlock=some b∨∃k j x t,l[k]? =some x∧x[j]? =some t∧Bs k j b⟩
 refine ⟨L0,rfl, ?_⟩
 have k:=hs.kill i (some L0)
 have aux:∀j o' L',h.kill i j=some o'→(β.set i (some L0)) j=some L'→i≠j∧β j=some L'∧∃o,h j=some o∧o'=o.kill i:=by
  intro j o' L' ho hL
  by_cases e:i=j
  ·subst e;rw [Xh.kill_same] at ho;cases ho
  ·rw [Xh.kill_ne h e] at ho
   rw [Bt.set_ne β _ e] at hL
   cases hj:h j with
   |none=>rw [hj] at ho;simp at ho
   |some o=>rw [hj] at ho;simp at ho;exact ⟨e,hL,o,rfl,ho.symm⟩
 have far:∀j o' L',h.kill i j=some o'→(β.set i (some L0)) j=some L'→∀b,o'.blk L' b→some b≠vb∧b<w.heap.size∧∀k m x t,l[k]? =some x→x[m]? =some t→¬Bs k m b:=by
  intro j o' L' ho hL b hb
  obtain ⟨e,h1,o,h2,rfl⟩:=aux j o' L' ho hL
  rw [XO.blk_kill] at hb
  exact ⟨hfar j o L' e h2 h1 b hb,((hs.obj j o L' h2 h1).lt hb).2,hfarB j o L' e h2 h1 b hb⟩
 have inlt:∀(k j:Nat) (x:List T) (t:T),l[k]? =some x→x[j]? =some t→∀b,Bs k j b→b<w.heap.size:=fun k j x t g1 g2 b hb=>by
  obtain ⟨u,_,q⟩:=hc k j x t g1 g2
  exact (q.lt hb).2
 have hbel:Below E.w.heap.size E.w w':=hs.below.grown hg hs.size fun b hb=>hbase b hb.symm
 have him:Imm H w':=fun b off u e=>by
  refine ⟨?_,(hs.imm b off u e).2⟩
  have hne:some b≠vb:=fun hb=>by have:=hH b hb off;rw [e] at this;cases this
  exact (World.cell?_of_block (a:=⟨b,off,none⟩) (hg.block b (hs.imm.lt e) hne)).trans (hs.imm b off u e).1
 have newH:∀b,L0.B b→∀off,H b off=none:=by
  intro b hb off
  rcases hb with hb|⟨k,j,x,t,g1,g2,hb⟩
  ·rcases hat with h|h
   ·exact hH b (by rw [←h,hb]) off
   ·rw [h] at hb;cases hb
    cases e:H w.heap.size off with
    |none=>rfl
    |some u=>have:=hs.imm.lt e;omega
  ·exact hHB k j x t b g1 g2 hb off
 have newfar:∀j o' L',h.kill i j=some o'→(β.set i (some L0)) j=some L'→∀b,L0.B b→¬o'.blk L' b:=by
  intro j o' L' ho hL b hb hc
  obtain ⟨h1,h2,h3⟩:=far j o' L' ho hL b hc
  rcases hb with hb|⟨k,j,x,t,g1,g2,hb⟩
  ·rcases hat with h|h
   ·exact h1 (by rw [←h,hb])
   ·rw [h] at hb;cases hb;omega
  ·exact h3 k j x t g1 g2 hb
 have htr:TR E.w.heap.size w' H β v' (.row ty sz (l++l')) L0.B:=by
  have get:∀(k j:Nat) (x:List T) (t:T),(l++l')[k]? =some x→x[j]? =some t→(k<l.length∧l[k]? =some x)∨(l.length≤k∧l'[k - l.length]? =some x):=by
   intro k j x t g1 g2
   by_cases hlt:k<l.length
   ·rw [List.getElem?_append_left hlt] at g1;exact .inl ⟨hlt,g1⟩
   ·rw [List.getElem?_append_right (by omega)] at g1;exact .inr ⟨by omega,g1⟩
  have val:∀(k j:Nat) (x:List T) (t:T),(l++l')[k]? =some x→x[j]? =some t→∃u,(us++news)[k*sz+j]? =some u∧TR E.w.heap.size w' H β u t (fun b=>k<l.length∧Bs k j b):=by
   intro k j x t g1 g2
   rcases get k j x t g1 g2 with ⟨hlt,g⟩|⟨hge,g⟩
   ·obtain ⟨u,hu,hd⟩:=hc k j x t g g2
    refine ⟨u,by rw [List.getElem?_append_left (List.getElem?_eq_some_iff.1 hu).1];exact hu, ?_⟩
    have:(fun b=>k<l.length∧Bs k j b)=Bs k j:=by funext b;apply propext;exact ⟨fun q=>q.2,fun q=>⟨hlt,q⟩⟩
    rw [this]
    exact hd.keep (Hp.le.refl _) (fun _ _ h=>h) fun b hb=>hg.block b (inlt k j x t g g2 b hb) (htop k j x t g g2 b hb)
   ·obtain ⟨u,hu,hd⟩:=hc' _ j x t g g2
    have e:k*sz+j=us.length+((k - l.length)*sz+j):=by
     rw [hus, ←Nat.add_assoc, ←Nat.add_mul]
     congr 2
     omega
    refine ⟨u, ?_, ?_⟩
    ·rw [e,List.getElem?_append_right (by omega)]
     rw [show us.length+((k - l.length)*sz+j) - us.length=(k - l.length)*sz+j by omega]
     exact hu
    ·have:(fun b=>k<l.length∧Bs k j b)=(fun _=>False):=by funext b;apply propext;exact ⟨fun q=>by omega,fun q=>q.elim⟩
     rw [this]
     exact hd.keep (Hp.le.refl _) (fun _ _ h=>h) fun b hb=>hb.elim
  refine .row v' ty sz _ (us++news) (fun k j b=>k<l.length∧Bs k j b) _ (fun x hx=> ?_) (by rw [List.length_append];exact hown) (fun u hu=> ?_) (fun k j x t g1 g2=> ?_) (fun k j x t g1 g2=> ?_) (fun b=> ?_) (fun k j x t g1 g2 b hb=> ?_) (fun k j x t k' j' x' t' g1 g2 g3 g4 hne b hb hb'=> ?_)
  ·rcases List.mem_append.1 hx with h|h
   ·exact hz x h
   ·exact hz' x h
  ·rcases List.mem_append.1 hu with h|h
   ·exact hone u h
   ·exact hone' u h
  ·obtain ⟨u,hu,hd⟩:=val k j x t g1 g2
   rw [hu];exact hd
  ·obtain ⟨u,hu,hd⟩:=val k j x t g1 g2
   rw [hu];rfl
  ·constructor
   ·rintro (q|⟨k,j,x,t,g1,g2,q⟩)
    ·exact .inl q
    ·have hlt:=(List.getElem?_eq_some_iff.1 g1).1
     exact .inr ⟨k,j,x,t,by rw [List.getElem?_append_left hlt];exact g1,g2,hlt,q⟩
   ·rintro (q|⟨k,j,x,t,g1,g2,hlt,q⟩)
    ·exact .inl q
    ·rw [List.getElem?_append_left hlt] at g1
     exact .inr ⟨k,j,x,t,g1,g2,q⟩
  ·obtain ⟨hlt,hb⟩:=hb
   rw [List.getElem?_append_left hlt] at g1
   rcases hat with h|h
   ·rw [h];exact fun e=>htop k j x t g1 g2 b hb e.symm
   ·rw [h];intro e;cases e;exact absurd (inlt k j x t g1 g2 _ hb) (Nat.lt_irrefl _)
  ·obtain ⟨hlt,hb⟩:=hb
   obtain ⟨hlt',hb'⟩:=hb'
   rw [List.getElem?_append_left hlt] at g1
   rw [List.getElem?_append_left hlt'] at g3
   exact hdis k j x t k' j' x' t' g1 g2 g3 g4 hne b hb hb'
 have htk:=htr.kill i (some L0)
 unfold T.mp at htk
 rw [hkl] at htk
 refine ⟨hbel,hs.ext,hs.new,him,fun j o L ho hL=> ?_,fun j o L ho hL b hb=> ?_,fun j j' o1 o2 L1 L2 b hjj ho ho' hL hL' hb=> ?_,fun j o ho hgg=> ?_⟩
 ·by_cases e:i=j
  ·subst e
   rw [Xh.set_same] at ho
   rw [Bt.set_same] at hL
   cases ho;cases hL
   exact ⟨rfl,fun b hb=>(by show b=v'.ownBlock.getD 0;rw [show v'.ownBlock=some b from hb];rfl),hin,htk⟩
  ·rw [Xh.set_ne _ _ e] at ho
   exact (k.obj j o L ho hL).keep (Hp.le.refl _) (fun _ _ h=>h) fun b hb=>by
    obtain ⟨h1,h2,_⟩:=far j o L ho hL b hb
    exact hg.block b h2 h1
 ·by_cases e:i=j
  ·subst e
   rw [Xh.set_same] at ho
   rw [Bt.set_same] at hL
   cases ho;cases hL
   exact newH b hb
  ·rw [Xh.set_ne _ _ e] at ho
   exact k.sep j o L ho hL b hb
 ·by_cases e:i=j
  ·subst e
   rw [Xh.set_same] at ho
   rw [Bt.set_same] at hL
   cases ho;cases hL
   rw [Xh.set_ne _ _ hjj] at ho'
   exact newfar j' o2 L2 ho' hL' b hb
  ·by_cases e':i=j'
   ·subst e'
    rw [Xh.set_same] at ho'
    rw [Bt.set_same] at hL'
    cases ho';cases hL'
    rw [Xh.set_ne _ _ e] at ho
    intro hc2
    exact newfar j o1 L1 ho hL b hc2 hb
   ·rw [Xh.set_ne _ _ e] at ho
    rw [Xh.set_ne _ _ e'] at ho'
    exact k.inj j j' o1 o2 L1 L2 b hjj ho ho' hL hL' hb
 ·by_cases e:i=j
  ·subst e;exact ⟨_,Bt.set_same _ _ _⟩
  ·rw [Xh.set_ne _ _ e] at ho
   exact (hs.kill i (some L0)).dom j o ho hgg
end
end Go.Proofs.YtaafemnkamfgnaaGreat
namespace Go.Proofs.YtaafemnkamfgnaaGreat
open Go.RowKit
def T.flat:T→Bool
 | .row _ _ _=>false
 |_=>true
def SrcT (h:Xh) (s:S) (sz:Nat) (l:List (List T)):Prop:=
 ∀E H β w u,Sim E H β h w→VS H β u s→(∀x∈l,x.length=sz)∧∃A c news,u= .slice A l.length c∧news.length=l.length*sz∧Rds w w.heap.size A news∧(∀v∈news,v.oneCell'=true)∧
  ∀(k j:Nat) (x:List T) (t:T),l[k]? =some x→x[j]? =some t→∃v,news[k*sz+j]? =some v∧TR E.w.heap.size w H β v t (fun _=>False)
theorem SrcT.ownS {h:Xh} {i:Nat} {ty:TypeId} {sz:Nat} {l:List (List S)} (hi:h i=some (.rowS ty sz l)):SrcT h (.own i) sz (l.map (·.map S.toT)):=by
 intro E H β w u hs hv
 obtain ⟨L,hL,rfl⟩:=Fa hv
 obtain ⟨_,hz,_,us,hown,hone,hc⟩:=hs.obj i _ L hi hL
 obtain ⟨A,c,h1,_⟩:=Il hown
 rw [h1] at hown
 refine ⟨fun x hx=> ?_,A,c,us,by rw [List.length_map];exact h1,by rw [List.length_map];exact hown.1,Rds.own hown,hone,fun k j x t hk hj=> ?_⟩
 ·obtain ⟨y,hy,rfl⟩:=List.mem_map.1 hx
  rw [List.length_map];exact hz y hy
 ·rw [List.getElem?_map] at hk
  cases hy:l[k]? with
  |none=>rw [hy] at hk;cases hk
  |some y=>
   rw [hy] at hk;cases hk
   rw [List.getElem?_map] at hj
   cases hd:y[j]? with
   |none=>rw [hd] at hj;cases hj
   |some d=>
    rw [hd] at hj;cases hj
    obtain ⟨v,hv',hd'⟩:=hc k j y d hy hd
    exact ⟨v,hv',hd'.tr _ (fun _ q=>q)⟩
inductive DestT (h:Xh):S→Nat→TypeId→Nat→List (List T)→Prop where
 |own {i:Nat} {ty:TypeId} {sz:Nat} {ls:List Nat} {l:List (List T)} (hi:h i=some (.tree ty sz ls l)):DestT h (.own i) i ty sz l
 |nil (i:Nat) (ty:TypeId) (sz:Nat):DestT h (.d (.v (.slice none 0 0))) i ty sz []
section
variable {P:Program} {n:Nat} {o:Oper} {f:Fr} {h:Xh}
theorem Hb (ls:List Nat) {i:Nat} {t ty:TypeId} {sz bytes:Nat} {x y:Operand} {l l' lr:List (List T)} (ho:o.op= .call {callee:= .builtin .append,args:= #[x,y],argTypes:= #[t,t]}) (Te:ElemTy P t ty sz bytes)
  (hx:DestT h (ev f x) i ty sz l) (hy:SrcT h (ev f y) sz l') (h63:l.length+l'.length≤maxLen) (hby:(l.length+l'.length)*bytes≤140737488355328) (hlr:l++l'=lr) (hin:T.inLL ls lr=true) (hil:B2 i ls=false):
  Step P n o f h (.own i) (Dw f i) ((h.kill i).set i (.tree ty sz ls lr)):=by
 subst hlr
 intro E H β a w hs hf hop
 have g1:=hop x (by rw [ho];simp [Op.operands,Call.operands])
 have g2:=hop y (by rw [ho];simp [Op.operands,Call.operands])
 obtain ⟨hz',A,c,news,hA,hnl,hr,hone',hc'⟩:=hy E H β w _ hs g2
 generalize hsx:ev f x=sx at hx g1
 have key:∃(us:List Value) (Bs:Nat→Nat→Nat→Prop),w.ownsRow E.w.heap.size ty sz (a.eval x) l.length us∧(∀j o L,i≠j→h j=some o→β j=some L→∀b,o.blk L b→some b≠(a.eval x).ownBlock)∧(∀b,some b=(a.eval x).ownBlock→∀off,H b off=none)∧
   (∀j o L,i≠j→h j=some o→β j=some L→∀b,o.blk L b→∀k m x t,l[k]? =some x→x[m]? =some t→¬Bs k m b)∧(∀k m x t b,l[k]? =some x→x[m]? =some t→Bs k m b→∀off,H b off=none)∧
   (∀x∈l,x.length=sz)∧(∀u∈us,u.oneCell'=true)∧(∀(k j:Nat) (x:List T) (t:T),l[k]? =some x→x[j]? =some t→∃u,us[k*sz+j]? =some u∧TR E.w.heap.size w H β u t (Bs k j))∧
   (∀(k j:Nat) (x':List T) (t:T),l[k]? =some x'→x'[j]? =some t→∀b,Bs k j b→some b≠(a.eval x).ownBlock)∧
   (∀(k j:Nat) (x:List T) (t:T) (k' j':Nat) (x':List T) (t':T),l[k]? =some x→x[j]? =some t→l[k']? =some x'→x'[j']? =some t'→(k≠k'∨j≠j')→∀b,Bs k j b→¬Bs k' j' b):=by
  cases hx with
  |own hi=>
   obtain ⟨L,hL,e⟩:=Fa g1
   obtain ⟨_,_,_,ht⟩:=hs.obj i _ L hi hL
   obtain ⟨us,Bs,hz,hown,hone,hc,hu,hB,htop,hdis⟩:=H1 ht
   rw [e]
   refine ⟨us, Bs, hown, fun j o L' hij hj hL' b hb hc => hs.inj i j _ o L L' b hij hi hj hL hL' ((hB b).2 (.inl hc.symm)) hb, fun b hb => hs.sep i _ L hi hL b ((hB b).2 (.inl hb.symm)),
    fun j o L' hij hj hL' b hb k m x t q1 q2 q3=>hs.inj i j _ o L L' b hij hi hj hL hL' ((hB b).2 (.inr ⟨k,m,x,t,q1,q2,q3⟩)) hb,fun k m x t b q1 q2 q3=>hs.sep i _ L hi hL b ((hB b).2 (.inr ⟨k,m,x,t,q1,q2,q3⟩)),hz,hone,fun k j x t q1 q2=> ?_,
    fun k j x t q1 q2 b q3 q4 => htop k j x t q1 q2 b q3 q4.symm, hdis⟩
   obtain ⟨v,hv⟩:=Option.isSome_iff_exists.1 (hu k j x t q1 q2)
   have:=hc k j x t q1 q2
   rw [hv] at this
   exact ⟨v,hv,this⟩
  |nil=>
   have e:=Dn g1
   rw [e]
   exact ⟨[],fun _ _ _=>False,World.ownsRow_nil _ _ _ _,fun j o L' _ _ _ b _ hc=>(by cases hc),fun b hb=>(by cases hb),fun _ _ _ _ _ _ _ _ _ _ _ _ q _=>(by simp at q),fun _ _ _ _ _ q=>(by simp at q),fun x hx=>(by cases hx),fun u hu=>(by cases hu),fun k j x d hk=>(by simp at hk),fun k j x d hk=>(by simp at hk),fun k j x d _ _ _ _ hk=>(by simp at hk)⟩
 obtain ⟨us,Bs,hown,hfar,hH,hfarB,hHB,hz,hone,hc,htop,hdis⟩:=key
 obtain ⟨v',w',hrun,h2,h3,h4⟩:=Vj (P:=P) (ty:=o.type) E.w.heap.size Te hown c (A:=A) (m:=l'.length) hnl hr hone' h63 hby hs.size
 have hrun':(execOp a.eval o).run P w= .ok (.value v') w':=by
  unfold execOp
  simp only [ho,resolve,invoke,builtin,Sem.run_bind,Sem.run_pure,Result.andThen_ok,List.map_toArray,List.map_cons,List.map_nil,hA,hrun]
 unfold Oper.wp
 rw [hrun']
 obtain ⟨L',hv',hsim⟩:=hs.appendT hfar hH (fun b hb=>(hown.lt b hb.symm).1) hfarB hHB hz hz' hown.1 hone hone' hc hc' htop hdis hin hil h2 h3 h4
 exact ⟨H,β.set i (some L'),v',rfl,hsim,hf.kill i _,by have:=M8 H β i L';rw [hv'] at this;exact this⟩
end
section
variable {P:Program} {n:Nat} {o:Oper} {f:Fr} {h:Xh}
theorem Up {E:Env} {H:Hp} {β:Bt} {a:Act} {w:World} {t ty:TypeId} {sz:Nat} {x:Operand} {z:Value} {cs:List S} (hs:Sim E H β h w) (ho:o.op= .buildSlice t 1 #[(0,x)]) (hu:P.underlying t=some (.slice ty)) (hsz:sizeB P ty sz=true) (hz:zeroB P ty z)
  (hc:Dv h (ev f x)=some cs) (hl:cs.length=sz) (hpos:0<sz) (hmax:sz≤16777216) (hop:∀x∈o.op.operands,VS H β (a.eval x) (ev f x)):
  ∃ys,(execOp a.eval o).run P w= .ok (.value (.slice (some ⟨w.heap.size,0,none⟩) 1 1)) (w.alloc (.cells ys ty))∧ys.size=sz∧∀(j:Nat) (v:Value) (s:S),ys[j]? =some v→cs[j]? =some s→VS H β v s∧v.oneCell'=true:=by
 have hcells0:CellsAt H β ((Array.range (1*sz)).map (z.cells[· % z.cells.size]!)) ((List.range (1*sz)).map fun j=> .d (.v (z.cells[j % z.cells.size]!))):=by
  refine ⟨by simp,fun j v s hj hs'=> ?_⟩
  rw [List.getElem?_map] at hs'
  rw [Array.getElem?_map] at hj
  by_cases hlt:j<1*sz
  ·rw [List.getElem?_range hlt] at hs'
   have hlt':j<sz:=by omega
   have:(Array.range (1*sz))[j]? =some j:=by simp [hlt']
   rw [this] at hj
   cases hj;cases hs'
   exact .d (.v _)
  ·rw [List.getElem?_eq_none (by simpa using hlt)] at hs';cases hs'
 have hfs:Kp h (fun i=>some (i*sz,sz)) (ev f) ((List.range (1*sz)).map fun j=> .d (.v (z.cells[j % z.cells.size]!))) [(0,x)]=some cs:=by
  unfold Kp
  simp only [hc]
  have h1:Nat.beq cs.length sz=true:=by rw [hl];exact Nat.beq_refl _
  have h2:Nat.ble (0*sz+cs.length) ((List.range (1*sz)).map fun j=>S.d (.v (z.cells[j % z.cells.size]!))).length=true:=Nat.ble_eq_true_of_le (by simp;omega)
  rw [h1,h2,Bool.and_true,cond_true]
  unfold Kp
  rw [J1 _ _ _ (by simp;omega)]
  congr 1
  simp [hl]
 obtain ⟨ys,y1,y2⟩:=J3 hs (ρ:=a.eval) [(0,x)] _ _ _ hcells0 (fun y hy=>hop y (by rw [ho];simp at hy;simp [Op.operands,hy])) hfs
 refine ⟨ys, ?_,by rw [y2.1,hl],fun j v s hj hs'=> ?_⟩
 ·unfold execOp
  simp only [ho,Instr.buildSlice,Sem.run_bind,run_underlying hu,Result.andThen_ok,sizeB.run hsz,show ¬1*sz>2 ^ 24 by omega,if_false,show ¬1*sz=0 by omega,zeroB.run hz,Sem.run_pure,List.map_toArray,List.map_cons,List.map_nil]
  rw [show ([(0,x)].map fun (i,x)=>(i,a.eval x))= [(0,a.eval x)] from rfl] at y1
  simp only [y1,newRow,Sem.run_bind,run_newObj,Result.andThen_ok,Sem.run_pure,World.alloc_eq]
 ·have q:=y2.2 j v s hj hs'
  exact ⟨q,P3 hs q (Xp hc s (List.mem_of_getElem? hs'))⟩
theorem Wf {base:Nat} {H:Hp} {β':Bt} {w:World} {ty:TypeId} {sz:Nat} {cs cs':List S} {ys:Array Value} (hb:base≤w.heap.size) (hsz:ys.size=sz) (hcs:cs.length=sz) (hcs':cs'.length=sz)
  (h1:∀(j:Nat) (v:Value) (s:S),ys[j]? =some v→cs[j]? =some s→v.oneCell'=true) (h2:∀(j:Nat) (v:Value) (s:S),ys[j]? =some v→cs'[j]? =some s→VS H β' v s):
  OKo base (w.alloc (.cells ys ty)) H β' ⟨.slice (some ⟨w.heap.size,0,none⟩) 1 1,w.heap.size,sz,noB⟩ (.rowS ty sz [cs']):=by
 refine ⟨rfl,fun x hx=>by rw [List.mem_singleton.1 hx];exact hcs',fun b hb=>by simpa [Value.ownBlock] using hb.symm,ys.toList,⟨by simp [hsz], .inr ⟨w.heap.size,1,ys,rfl,hb,heap_alloc_new w _,Nat.le_refl _,by unfold maxLen;omega,by rw [hsz,Nat.one_mul],by rw [List.take_of_length_le];simp [hsz]⟩⟩,fun u hu=> ?_,fun k j x s hk hj=> ?_⟩
 ·obtain ⟨j,hj⟩:=List.getElem?_of_mem hu
  rw [Array.getElem?_toList] at hj
  have hlt:=(Array.getElem?_eq_some_iff.1 hj).1
  exact h1 j u _ hj (List.getElem?_eq_getElem (by omega))
 ·cases k with
  |succ k=>cases hk
  |zero=>
   cases hk
   have hlt:=(List.getElem?_eq_some_iff.1 hj).1
   rw [Nat.zero_mul,Nat.zero_add,Array.getElem?_toList]
   exact ⟨ys[j]'(by omega), Array.getElem?_eq_getElem (by omega), h2 j _ s (Array.getElem?_eq_getElem (by omega)) hj⟩
theorem Wd (i:Nat) {t ty:TypeId} {sz:Nat} {x:Operand} {z:Value} {cs:List S} (ho:o.op= .buildSlice t 1 #[(0,x)]) (hu:P.underlying t=some (.slice ty)) (hsz:sizeB P ty sz=true) (hz:zeroB P ty z)
  (hc:Dv h (ev f x)=some cs) (hl:cs.length=sz) (hpos:0<sz) (hmax:sz≤16777216):
  Step P n o f h (.own i) (Dw f i) ((h.kill i).set i (.rowS ty sz [S.killL i cs])):=by
 intro E H β a w hs hf hop
 obtain ⟨ys,hr,hys,hv⟩:=Up hs ho hu hsz hz hc hl hpos hmax hop
 unfold Oper.wp
 rw [hr]
 refine ⟨H,_,_,rfl,hs.add i _ ⟨.slice (some ⟨w.heap.size,0,none⟩) 1 1,w.heap.size,sz,noB⟩ _ (fun b hb=>by simpa [XO.blk,Value.ownBlock] using hb.symm) (Wf hs.size hys hl (by rw [S.killL_length];exact hl) (fun j v s hj hs'=>(hv j v s hj hs').2) fun j v s hj hs'=> ?_),hf.kill i _,M8 H β i _⟩
 rw [S.killL_get] at hs'
 cases hj':cs[j]? with
 |none=>rw [hj'] at hs';cases hs'
 |some s0=>rw [hj'] at hs';cases hs';exact (hv j v s0 hj hj').1.kill i _
theorem CStep.slice1 (i:Nat) {t ty:TypeId} {sz:Nat} {x:Operand} {z:Value} {cs:List S} (ho:o.op= .buildSlice t 1 #[(0,x)]) (hu:P.underlying t=some (.slice ty)) (hsz:sizeB P ty sz=true) (hz:zeroB P ty z)
  (hc:Dv h (ev f x)=some cs) (hl:cs.length=sz) (hpos:0<sz) (hmax:sz≤16777216) (hi:h i=none):CStep P o f h [i] (.own i) (h.set i (.rowS ty sz [cs])):=
 ⟨HLe.set _ hi, fun j x e => by
  by_cases e':i=j
  ·subst e';rw [Xh.set_same] at e;cases e;exact .inr ⟨by simp,rfl⟩
  ·rw [Xh.set_ne _ _ e'] at e;exact .inl e,fun hF hle E H β a w hs hβ hop=>by
  have hβi:=hβ i (by simp)
  obtain ⟨ys,hr,hys,hv⟩:=Up (f:=f) hs ho hu hsz hz (Oo (HLe.trans (HLe.set _ hi) hle) hc) hl hpos hmax hop
  unfold Oper.wp
  rw [hr]
  have hiF:=hle i _ (Xh.set_same h i (.rowS ty sz [cs]))
  have hlb:Bt.le β (β.set i (some ⟨.slice (some ⟨w.heap.size,0,none⟩) 1 1,w.heap.size,sz,noB⟩)):=fun j' L' e=>by
   by_cases e':i=j'
   ·subst e';rw [hβi] at e;cases e
   ·rw [Bt.set_ne _ _ e'];exact e
  obtain ⟨k1,k2⟩:=hs.put_new (L:=⟨.slice (some ⟨w.heap.size,0,none⟩) 1 1,w.heap.size,sz,noB⟩) (obj:= .cells ys ty) hβi hiF (fun b hb=>by simpa [XO.blk,Value.ownBlock] using hb.symm)
   (Wf hs.size hys hl hl (fun j v s hj hs'=>(hv j v s hj hs').2) fun j v s hj hs'=>((hv j v s hj hs').1).mono (Hp.le.refl _) hlb)
  exact ⟨H, _, _, rfl, k1, Hp.le.refl _, k2, fun j hj => Bt.set_ne _ _ (fun e => hj (by simp [e])), .own (Bt.set_same β i _)⟩⟩
end
end Go.Proofs.YtaafemnkamfgnaaGreat
namespace Go.Proofs.YtaafemnkamfgnaaGreat
open Go.RowKit
def S.kills:List Nat→S→S
 | [],s=>s
 |i::K,s=>S.kills K (s.kill i)
theorem VS.kills {H:Hp} {β:Bt} {u:Value}:∀(K:List Nat) {s:S},VS H β u s→VS H β u (S.kills K s)
 | [],_,h=>h
 |i::K,s,h=>by
  have k:=h.kill i (β i)
  have e:β.set i (β i)=β:=by
   funext j
   by_cases e:i=j
   ·subst e;rw [Bt.set_same]
   ·rw [Bt.set_ne _ _ e]
  rw [e] at k
  exact VS.kills K k
mutual
theorem S.kill_id {p:Nat→Bool} {i:Nat} (hp:p i=false):∀s:S,s.inB p=true→s.kill i=s
 | .any,_=>rfl
 | .d _,_=>rfl
 | .ptr j k off,h=>by unfold S.kill;rw [Bp (fun e=>by subst e;rw [S.inB,hp] at h;cases h)];rfl
 | .own j,h=>by unfold S.kill;rw [Bp (fun e=>by subst e;rw [S.inB,hp] at h;cases h)];rfl
 | .sub j a b,h=>by unfold S.kill;rw [Bp (fun e=>by subst e;rw [S.inB,hp] at h;cases h)];rfl
 | .agg l,h=>by unfold S.kill;rw [S.killL_id hp l (by simpa [S.inB] using h)]
 | .fn f a c,h=>by rw [S.inB,Bool.and_eq_true] at h;unfold S.kill;rw [S.killL_id hp a h.1,S.killL_id hp c h.2]
 | .tup l,h=>by unfold S.kill;rw [S.killL_id hp l (by simpa [S.inB] using h)]
theorem S.killL_id {p:Nat→Bool} {i:Nat} (hp:p i=false):∀l:List S,S.inBL p l=true→S.killL i l=l
 | [],_=>rfl
 |s::l,h=>by rw [S.inBL,Bool.and_eq_true] at h;rw [S.killL,S.kill_id hp s h.1,S.killL_id hp l h.2]
end
mutual
theorem S.frz_id {p:Nat→Bool} {i:Nat} {x:D} (hp:p i=false):∀s:S,s.inB p=true→s.frz i x=s
 | .any,_=>rfl
 | .d _,_=>rfl
 | .ptr j k off,h=>by unfold S.frz;first|rfl|rw [Bp (fun e=>by subst e;rw [S.inB,hp] at h;cases h)];rfl
 | .own j,h=>by unfold S.frz;rw [Bp (fun e=>by subst e;rw [S.inB,hp] at h;cases h)];rfl
 | .sub j a b,h=>by unfold S.frz;rw [Bp (fun e=>by subst e;rw [S.inB,hp] at h;cases h)];rfl
 | .agg l,h=>by unfold S.frz;rw [S.frzL_id hp l (by simpa [S.inB] using h)]
 | .fn f a c,h=>by rw [S.inB,Bool.and_eq_true] at h;unfold S.frz;rw [S.frzL_id hp a h.1,S.frzL_id hp c h.2]
 | .tup l,h=>by unfold S.frz;rw [S.frzL_id hp l (by simpa [S.inB] using h)]
theorem S.frzL_id {p:Nat→Bool} {i:Nat} {x:D} (hp:p i=false):∀l:List S,S.inBL p l=true→S.frzL i x l=l
 | [],_=>rfl
 |s::l,h=>by rw [S.inBL,Bool.and_eq_true] at h;rw [S.frzL,S.frz_id hp s h.1,S.frzL_id hp l h.2]
end
mutual
theorem S.frp_id {p:Nat→Bool} {i:Nat} {x:List D} (hp:p i=false):∀s:S,s.inB p=true→s.frp i x=s
 | .any,_=>rfl
 | .d _,_=>rfl
 | .ptr j 0 off,h=>by unfold S.frp;rw [Bp (fun e=>by subst e;rw [S.inB,hp] at h;cases h)];rfl
 | .ptr j (k+1) off,h=>by unfold S.frp;rw [Bp (fun e=>by subst e;rw [S.inB,hp] at h;cases h)];rfl
 | .own j,h=>by unfold S.frp;rfl
 | .sub j a b,h=>by unfold S.frp;rfl
 | .agg l,h=>by unfold S.frp;rw [S.frpL_id hp l (by simpa [S.inB] using h)]
 | .fn f a c,h=>by rw [S.inB,Bool.and_eq_true] at h;unfold S.frp;rw [S.frpL_id hp a h.1,S.frpL_id hp c h.2]
 | .tup l,h=>by unfold S.frp;rw [S.frpL_id hp l (by simpa [S.inB] using h)]
theorem S.frpL_id {p:Nat→Bool} {i:Nat} {x:List D} (hp:p i=false):∀l:List S,S.inBL p l=true→S.frpL i x l=l
 | [],_=>rfl
 |s::l,h=>by rw [S.inBL,Bool.and_eq_true] at h;rw [S.frpL,S.frp_id hp s h.1,S.frpL_id hp l h.2]
end
mutual
theorem S.inB_kill {p:Nat→Bool} {i:Nat}:∀s:S,s.inB p=true→(s.kill i).inB (fun j=>p j && !Nat.beq i j)=true
 | .any,_=>rfl
 | .d _,_=>rfl
 | .ptr j k off,h=>by
  unfold S.kill
  cases e:Nat.beq i j with
  |true=>rfl
  |false=>show (p j && !Nat.beq i j)=true;rw [e];simpa [S.inB] using h
 | .own j,h=>by
  unfold S.kill
  cases e:Nat.beq i j with
  |true=>rfl
  |false=>show (p j && !Nat.beq i j)=true;rw [e];simpa [S.inB] using h
 | .sub j a b,h=>by
  unfold S.kill
  cases e:Nat.beq i j with
  |true=>rfl
  |false=>show (p j && !Nat.beq i j)=true;rw [e];simpa [S.inB] using h
 | .agg l,h=>by unfold S.kill;rw [S.inB];exact S.inBL_kill l (by simpa [S.inB] using h)
 | .fn f a c,h=>by rw [S.inB,Bool.and_eq_true] at h;unfold S.kill;rw [S.inB,Bool.and_eq_true];exact ⟨S.inBL_kill a h.1,S.inBL_kill c h.2⟩
 | .tup l,h=>by unfold S.kill;rw [S.inB];exact S.inBL_kill l (by simpa [S.inB] using h)
theorem S.inBL_kill {p:Nat→Bool} {i:Nat}:∀l:List S,S.inBL p l=true→S.inBL (fun j=>p j && !Nat.beq i j) (S.killL i l)=true
 | [],_=>rfl
 |s::l,h=>by rw [S.inBL,Bool.and_eq_true] at h;rw [S.killL,S.inBL,Bool.and_eq_true];exact ⟨S.inB_kill s h.1,S.inBL_kill l h.2⟩
end
mutual
theorem S.inB_all:∀s:S,s.inB (fun _=>true)=true
 | .any=>rfl
 | .d _=>rfl
 | .ptr _ _ _=>rfl
 | .own _=>rfl
 | .sub _ _ _=>rfl
 | .agg l=>by rw [S.inB];exact S.inBL_all l
 | .fn f a c=>by rw [S.inB,S.inBL_all a,S.inBL_all c];rfl
 | .tup l=>by rw [S.inB];exact S.inBL_all l
theorem S.inBL_all:∀l:List S,S.inBL (fun _=>true) l=true
 | []=>rfl
 |s::l=>by rw [S.inBL,S.inB_all s,S.inBL_all l];rfl
end
theorem S.kills_in:∀(K:List Nat) {p:Nat→Bool} (s:S),s.inB p=true→∃q:Nat→Bool,(S.kills K s).inB q=true∧(∀j,p j=false→q j=false)∧∀j,B2 j K=true→q j=false
 | [],p,s,h=>⟨p,h,fun _ h=>h,fun j h=>by cases h⟩
 |i::K,p,s,h=>by
  obtain ⟨q,h1,h2,h3⟩:=S.kills_in K (s.kill i) (S.inB_kill s h)
  refine ⟨q,h1,fun j hj=>h2 j (by rw [hj];rfl),fun j hj=> ?_⟩
  simp only [B2,Bool.or_eq_true] at hj
  rcases hj with hj|hj
  ·rw [Nat.eq_of_beq_eq_true hj];exact h2 i (by rw [Bh];simp)
  ·exact h3 j hj
def gl (n:Nat) (f:Fr) (K:List Nat):List (Nat × S):=(List.range n).map fun t=>(t,S.kills K (f t))
theorem Asp {n:Nat} {f:Fr} {K:List Nat} {t:Nat} {s:S} (h:(t,s)∈gl n f K):t<n∧s=S.kills K (f t):=by
 obtain ⟨t',h1,h2⟩:=List.mem_map.1 h
 cases h2
 exact ⟨List.mem_range.1 h1,rfl⟩
theorem Atz {n:Nat} {f:Fr} {K:List Nat} {t:Nat} (h:t<n):(t,S.kills K (f t))∈gl n f K:=List.mem_map.2 ⟨t,List.mem_range.2 h,rfl⟩
theorem W7 {i:Nat} {g:Nat→S}:∀l:List Nat,S.killG i (l.map fun t=>(t,g t))=l.map fun t=>(t,(g t).kill i)
 | []=>rfl
 |t::l=>by rw [List.map_cons,S.killG,W7 l];rfl
theorem Z6 {i:Nat} {x:D} {g:Nat→S}:∀l:List Nat,S.frzG i x (l.map fun t=>(t,g t))=l.map fun t=>(t,(g t).frz i x)
 | []=>rfl
 |t::l=>by rw [List.map_cons,S.frzG,Z6 l];rfl
theorem Z7 {i:Nat} {x:List D} {g:Nat→S}:∀l:List Nat,S.frpG i x (l.map fun t=>(t,g t))=l.map fun t=>(t,(g t).frp i x)
 | []=>rfl
 |t::l=>by rw [List.map_cons,S.frpG,Z7 l];rfl
theorem Am4 {n:Nat} {f:Fr} {K:List Nat} {i:Nat} (h:B2 i K=true):S.killG i (gl n f K)=gl n f K:=by
 unfold gl
 rw [W7]
 refine List.map_congr_left fun t _=> ?_
 obtain ⟨q,h1,_,h3⟩:=S.kills_in K (f t) (S.inB_all _)
 rw [S.kill_id (h3 i h) _ h1]
theorem Aqj {n:Nat} {f:Fr} {K:List Nat} {i:Nat} {x:D} (h:B2 i K=true):S.frzG i x (gl n f K)=gl n f K:=by
 unfold gl
 rw [Z6]
 refine List.map_congr_left fun t _=> ?_
 obtain ⟨q,h1,_,h3⟩:=S.kills_in K (f t) (S.inB_all _)
 rw [S.frz_id (h3 i h) _ h1]
theorem Aqk {n:Nat} {f:Fr} {K:List Nat} {i:Nat} {x:List D} (h:B2 i K=true):S.frpG i x (gl n f K)=gl n f K:=by
 unfold gl
 rw [Z7]
 refine List.map_congr_left fun t _=> ?_
 obtain ⟨q,h1,_,h3⟩:=S.kills_in K (f t) (S.inB_all _)
 rw [S.frp_id (h3 i h) _ h1]
inductive GL (n:Nat) (f:Fr) (K:List Nat):List (Nat × S)→Prop where
 |z:GL n f K (gl n f K)
 |k {i:Nat} {l:List (Nat × S)} (h:GL n f K l) (hi:B2 i K=true):GL n f K (S.killG i l)
 |f {i:Nat} {x:D} {l:List (Nat × S)} (h:GL n f K l) (hi:B2 i K=true):GL n f K (S.frzG i x l)
 |p {i:Nat} {x:List D} {l:List (Nat × S)} (h:GL n f K l) (hi:B2 i K=true):GL n f K (S.frpG i x l)
theorem GL.eq {n:Nat} {f:Fr} {K:List Nat} {l:List (Nat × S)} (h:GL n f K l):l=gl n f K:=by
 induction h with
 |z=>rfl
 |k h hi ih=>rw [ih,Am4 hi]
 |f h hi ih=>rw [ih,Aqj hi]
 |p h hi ih=>rw [ih,Aqk hi]
def kmi (P:Program) (n':Nat) (fn:Func) (G:Nat) (u:Array Value) (n:Nat) (f:Fr) (K:List Nat) (s:S) (hB:Xh):Cu
 | .normal,f',h=>∃L,h G=some (.ghost u L)∧GL n f K L∧Hz P n' fn f' h s∧HSub h hB
 | .ret,f',h=>∃L,h G=some (.ghost u L)∧GL n f K L∧Hz P n' fn f' h s∧HSub h hB
 |_,_,_=>False
theorem Kk {P:Program} {n':Nat} {fn:Func} {G:Nat} {u:Array Value} {n:Nat} {f f':Fr} {K:List Nat} {s:S} {hB h:Xh} {L:List (Nat × S)} (hG:h G=some (.ghost u L)) (hL:GL n f K L) (hr:Hz P n' fn f' h s) (hh:HSub h hB):
  kmi P n' fn G u n f K s hB .ret f' h:=⟨L,hG,hL,hr,hh⟩
section
variable {P:Program} {n:Nat} {o:Oper} {f:Fr} {h:Xh} {c:Code}
theorem Atq {x:Operand} {args:Array Operand} {tys:Array TypeId} {F:FuncId} {ps cs:List S} {fn:Func} {n':Nat} (G:Nat) (K0:List Nat) (s:S) (hB:Xh) (ho:o.op= .call {callee:= .value x,args:=args,argTypes:=tys})
  (hx:FnS (ev f x) F ps cs) (hcl:Callable P F) (hf:P.funcs[F]? =some fn) (hb:fn.body=some c) (hn:fn.ntmps=n') (hlen:ps.length+args.size+cs.length≤n')
  (hc:∀u f',XW P n' c (kmi P n' fn G u n f' (G::K0) s hB) (Dw (V2 (ps++args.toList.map (ev f)++cs)) G) ((h.kill G).set G (.ghost u (gl n f' (G::K0))))):
  ∀hF,HLe h hF→Ie P n o f hF 987654 s (S.kills (G::K0)) (hF.by (fun k _=>hB k)):=by
 intro hF hle f' he E H β a w hs0 hfv hop
 have hs:Sim E H β h w:=hs0.drop hle
 have hop':∀y∈args,VS H β (a.eval y) (ev f y):=fun y hy=>by
  have hm:y∈o.op.operands:=by rw [ho];simp [Op.operands,Call.operands,hy]
  rw [←he y hm];exact hop y hm
 have hxv:VS H β (a.eval x) (ev f x):=by
  have hm:x∈o.op.operands:=by rw [ho];simp [Op.operands,Call.operands]
  rw [←he x hm];exact hop x hm
 obtain ⟨A,C,hA,hA1,hC1,hA2,hC2⟩:=Xw (hx.vs hxv)
 have hrun:(execOp a.eval o).run P w= .ok (.enter F (A++args.map a.eval++C)) w:=by
  have:=hcl.run (A++args.map a.eval++C) w
  unfold execOp
  simp only [ho,resolve,hA,Deferred.ofValue,Sem.run_bind,Sem.run_pure,Result.andThen_ok,invoke]
  exact this
 unfold Oper.wp
 rw [hrun]
 let L0:Option Loc:=some ⟨.slice none 0 0,0,0,noB⟩
 have hvs:∀(i:Nat) (y:Value) (s:S),(A++args.map a.eval++C)[i]? =some y→(ps++args.toList.map (ev f)++cs)[i]? =some s→VS H β y s:=by
  intro i y s hy hd
  by_cases h1:i<ps.length
  ·rw [List.append_assoc,List.getElem?_append_left h1] at hd
   rw [Array.append_assoc,Array.getElem?_append_left (by omega)] at hy
   exact hA2 i y s hy hd
  ·by_cases h2:i<ps.length+args.size
   ·rw [List.append_assoc,List.getElem?_append_right (by omega),List.getElem?_append_left (by simp;omega)] at hd
    rw [Array.append_assoc,Array.getElem?_append_right (by omega),Array.getElem?_append_left (by simp;omega),hA1] at hy
    rw [List.getElem?_map,Array.getElem?_toList] at hd
    rw [Array.getElem?_map] at hy
    cases hq:args[i - ps.length]? with
    |none=>rw [hq] at hd;cases hd
    |some q=>
     rw [hq] at hd hy
     cases hd;cases hy
     exact hop' q (Array.mem_of_getElem? hq)
   ·rw [List.getElem?_append_right (by simp;omega)] at hd
    rw [Array.getElem?_append_right (by simp;omega)] at hy
    have e:(A++args.map a.eval).size=(ps++args.toList.map (ev f)).length:=by simp [hA1]
    rw [e] at hy
    exact hC2 _ y s hy hd
 have hsz:(A++args.map a.eval++C).size=(ps++args.toList.map (ev f)++cs).length:=by simp [hA1,hC1]
 have hsz2:(A++args.map a.eval++C).size=ps.length+args.size+cs.length:=by simp [hA1,hC1];omega
 generalize hvse:A++args.map a.eval++C=vs at*
 generalize hsse:ps++args.toList.map (ev f)++cs=ss at*
 have hcal:Calls P F vs w fun e w'=>∃v,e= .returned v∧∃H' β',Sim E H' β' hB w'∧FV n H' β' a (fun t=>S.kills (G::K0) (f' t))∧VS H' β' v s:=by
  refine calls_of_wp hf hb ?_
  have s2:Sim E H (β.set G L0) ((h.kill G).set G (.ghost a.tmps (gl n f' (G::K0)))) w:=by
   refine hs.lay G _ _ (fun b hb=>by cases hb) fun t s hm=> ?_
   obtain ⟨h1,rfl⟩:=Asp hm
   exact VS.kills K0 ((hfv.slot t h1).kill G L0)
  have f2:FV n' H (β.set G L0) {tmps:=vs++Array.replicate (fn.ntmps - vs.size) undef,defers:= []} (Dw (V2 ss) G):=by
   refine FV.kill ⟨rfl,by simp [hn];omega,fun t ht=> ?_⟩ G L0
   unfold V2
   cases hd:ss[t]? with
   |none=>
    have hge:ss.length≤t:=List.getElem?_eq_none_iff.1 hd
    have:(vs++Array.replicate (fn.ntmps - vs.size) undef).getD t undef=undef:=by
     rw [Array.getD_eq_getD_getElem?,Array.getElem?_append_right (by omega)]
     rw [Array.getElem?_replicate]
     split<;>rfl
    show VS H β ((vs++Array.replicate (fn.ntmps - vs.size) undef).getD t undef) (.d (.v undef))
    rw [this]
    exact .d (.v _)
   |some s=>
    have hlt:t<ss.length:=(List.getElem?_eq_some_iff.1 hd).1
    have hx : vs[t]? = some (vs[t]'(by omega)) := Array.getElem?_eq_getElem (by omega)
    have : (vs ++ Array.replicate (fn.ntmps - vs.size) undef).getD t undef = vs[t]'(by omega) := by
     rw [Array.getD_eq_getD_getElem?,Array.getElem?_append_left (by omega),hx]
     rfl
    show VS H β ((vs++Array.replicate (fn.ntmps - vs.size) undef).getD t undef) s
    rw [this]
    exact hvs t _ s hx hd
  refine wp_mono (hc a.tmps f' E H _ _ w s2 f2) ?_
  rintro e a' w' ⟨H',β',f1,h',h1,h2,h3⟩
  have fin:(∃L,h' G=some (.ghost a.tmps L)∧GL n f' (G::K0) L∧Hz P n' fn f1 h' s∧HSub h' hB)→
    a'.defers= []∧∃v,(results fn a'.tmps).run P w'= .ok v w'∧∃v',Ending.returned v= .returned v'∧∃H' β',Sim E H' β' hB w'∧FV n H' β' a (fun t=>S.kills (G::K0) (f' t))∧VS H' β' v' s:=by
   rintro ⟨L,g1,g2,g3,g4⟩
   obtain ⟨v,g5,g6⟩:=g3 E H' β' a' w' h1 h2
   have e:=g2.eq
   subst e
   obtain ⟨L',hL⟩:=h1.dom G _ g1 rfl
   have hok:∀t s,(t,s)∈gl n f' (G::K0)→VS H' β' (a.tmps.getD t undef) s:=h1.obj G _ L' g1 hL
   exact ⟨h2.defers,v,g5,v,rfl,H',β',h1.drop g4,⟨hfv.defers,hfv.size,fun t ht=>hok t _ (Atz ht)⟩,g6⟩
  cases e with
  |normal=>exact fin h3
  |ret=>exact fin h3
  |_=>exact h3.elim
 refine hcal.mono ?_
 rintro e w' ⟨v,rfl,H',β',h1,h2,h3⟩
 exact ⟨H',β',v,rfl,h1,h2, .inl rfl,h3⟩
end
theorem Sim.blurT {E:Env} {H:Hp} {β:Bt} {h:Xh} {w:World} (s:Sim E H β h w) {i k m:Nat} {ty sz:Nat} {ls ls':List Nat} {l:List (List T)} {x:List T} (hi:h i=some (.tree ty sz ls l)) (hk:l[k]? =some x) (hmx:m<x.length)
  (hin:T.inLL ls' (l.set k (x.set m .any))=true):∃β',Bt.sim β β'∧Sim E H β' (h.set i (.tree ty sz ls' (l.set k (x.set m .any)))) w:=by
 cases hL:β i with
 |none=>exact ⟨β,fun j L hj=>⟨L,hj,rfl,rfl,rfl⟩,s.blind hL rfl⟩
 |some L=>
  obtain ⟨hsz,hvb,_,ht0⟩:=s.obj i _ L hi hL
  obtain ⟨us,Bs,hz,ho,h1,hc,hu,hB,htop,hdis⟩:=H1 ht0
  obtain ⟨v,hsome⟩:=Option.isSome_iff_exists.1 (hu k m x _ hk (List.getElem?_eq_getElem hmx))
  let Li:Loc:={L with B:=fun b=>L.v.ownBlock=some b∨False∨∃k' j' x' t',l[k']? =some x'∧x'[j']? =some t'∧(k≠k'∨m≠j')∧Bs k' j' b}
  have hsub:∀b,Li.B b→L.B b:=fun b q=>by
   rcases q with q|q|⟨k',j',x',t',g1,g2,_,q⟩
   ·exact (hB b).2 (.inl q)
   ·exact q.elim
   ·exact (hB b).2 (.inr ⟨k',j',x',t',g1,g2,q⟩)
  have htr:TR E.w.heap.size w H β L.v (.row ty sz (l.set k (x.set m .any))) Li.B:=
   TR.put (us:=us) (us':=us) (Bs:=Bs) hz ho h1 hc hu htop hdis hk hmx (B':=fun _=>False) hsome (.any _ _ (fun _ q=>q)) (fun _ _ _ _ _ _ _=>rfl) (fun _ _ _ _ _ _ _ _ _=>rfl) (fun _ q=>q.elim) (fun _ _ _ _ _ _ _ _ q=>q.elim)
  have hsim:=Bt.sim_set (β:=β) (L':=Li) hL rfl rfl rfl
  exact ⟨_,hsim,s.relay (L':=Li) hi hL rfl rfl rfl hsub ⟨hsz,hvb,hin,htr.sim hsim⟩⟩
section
variable {P:Program} {n:Nat} {ops:Array Oper} {rest:List Oper} {K:Cu} {f:Fr} {h:Xh} {c:Code} {i k m ty sz:Nat} {ls:List Nat} {l l':List (List T)} {x:List T}
theorem XL.blurT (ls':List Nat) (hi:h i=some (.tree ty sz ls l)) (hk:l[k]? =some x) (hm:Nat.blt m x.length=true) (hl':l.set k (x.set m .any)=l') (hin':T.inLL ls' l'=true) (hr:XL P n ops rest K f (h.set i (.tree ty sz ls' l'))):XL P n ops rest K f h:=fun hin E H β a w hs hf=>by
 subst hl'
 obtain ⟨β',q1,q2⟩:=hs.blurT hi hk (Eu hm) hin'
 exact hr hin E H β' a w q2 (hf.sim q1)
theorem Alm (ls':List Nat) (hi:h i=some (.tree ty sz ls l)) (hk:l[k]? =some x) (hm:Nat.blt m x.length=true) (hl':l.set k (x.set m .any)=l') (hin':T.inLL ls' l'=true) (hr:XW P n c K f (h.set i (.tree ty sz ls' l'))):XW P n c K f h:=fun E H β a w hs hf=>by
 subst hl'
 obtain ⟨β',q1,q2⟩:=hs.blurT hi hk (Eu hm) hin'
 exact hr E H β' a w q2 (hf.sim q1)
theorem K4 {α:Type} {g:α→List T} (hg:∀x,T.fzL (g x)=true):∀l:List α,T.fzLL (l.map g)=true
 | []=>rfl
 |x::l=>by simp only [List.map_cons,T.fzLL,Bool.and_eq_true];exact ⟨hg x,K4 hg l⟩
theorem Aoo:∀l:List D,T.fzL (l.map T.d)=true
 | []=>rfl
 |x::l=>by simp only [List.map_cons,T.fzL,T.fz,Bool.true_and];exact Aoo l
theorem Akk (l:List (List D)):T.fzLL (l.map (·.map T.d))=true:=K4 (fun x=>Aoo x) l
theorem Jw {α:Type} {g:α→List T} {g':α→List D} (hg:∀x,T.toDL (g x)=g' x):∀l:List α,T.toDLL (l.map g)=l.map g'
 | []=>rfl
 |x::l=>by simp only [List.map_cons,T.toDLL,hg x,Jw hg l]
theorem Air:∀l:List D,T.toDL (l.map T.d)=l
 | []=>rfl
 |x::l=>by simp only [List.map_cons,T.toDL,T.toD,Air l]
theorem Afc (l:List (List D)):T.toDLL (l.map (·.map T.d))=l:=by
 have:=Jw (g:=fun x:List D=>x.map T.d) (g':=fun x=>x) (fun x=>Air x) l
 rw [this,List.map_id']
end
mutual
inductive SnapT (h:Xh):S→D→Prop where
 |s {s:S} {d:D} (hs:Snap h s d):SnapT h s d
 |tree {i:Nat} {e:TypeId} {sz:Nat} {ls:List Nat} {l:List (List T)} {ld:List (List D)} (hi:h i=some (.tree e sz ls l)) (hf:T.fzLL l=true) (hd:T.toDLL l=ld):SnapT h (.own i) (.sl sz ld)
 |agg {l:List S} {l':List D} (hl:SnapTL h l l'):SnapT h (.agg l) (.agg l')
inductive SnapTL (h:Xh):List S→List D→Prop where
 |nil:SnapTL h [] []
 |cons {s:S} {d:D} {l:List S} {l':List D} (hs:SnapT h s d) (hl:SnapTL h l l'):SnapTL h (s::l) (d::l')
end
theorem SnapTL.length {h:Xh}:∀{l:List S} {l':List D},SnapTL h l l'→l.length=l'.length
 |_,_, .nil=>rfl
 |_,_, .cons _ hl=>by simp [hl.length]
mutual
theorem SnapT.mono {h h':Xh} (hle:HLe h h'):∀{s:S} {d:D},SnapT h s d→SnapT h' s d
 |_,_, .s hs=> .s (hs.mono hle (Ws hle))
 |_,_, .tree hi hf hd=> .tree (hle _ _ hi) hf hd
 |_,_, .agg hl=> .agg (SnapTL.mono hle hl)
theorem SnapTL.mono {h h':Xh} (hle:HLe h h'):∀{l:List S} {l':List D},SnapTL h l l'→SnapTL h' l l'
 |_,_, .nil=> .nil
 |_,_, .cons hs hl=> .cons (SnapT.mono hle hs) (SnapTL.mono hle hl)
end
section
variable {E:Env} {H:Hp} {β:Bt} {h:Xh} {w:World} (hs:Sim E H β h w)
include hs
mutual
theorem SnapT.vd:∀{s:S} {d:D},SnapT h s d→∀{u:Value},VS H β u s→VD (wH w) u d
 |_,_, .s hs',_,hv=>Snap.vd hs hs' hv
 |_,_, .tree hi hf hd,_,hv=>by
  subst hd
  obtain ⟨L,hL,rfl⟩:=Fa hv
  obtain ⟨H',_,k2,k3⟩:=hs.freezeT hi hf
  exact (k2 L hL).mono k3.imm.le_wH
 |_,_, .agg hl,_,hv=>by
  obtain ⟨cs,rfl,e1,e2⟩:=Yb hv
  refine .agg cs _ (e1.trans hl.length) fun i x d hx hd=> ?_
  have hlen:=hl.length
  have hil:=(List.getElem?_eq_some_iff.1 hd).1
  exact SnapTL.vd hl (List.getElem?_eq_getElem (by omega)) hd (e2 i x _ hx (List.getElem?_eq_getElem (by omega)))
theorem SnapTL.vd:∀{l:List S} {l':List D},SnapTL h l l'→∀{i:Nat} {s:S} {d:D},l[i]? =some s→l'[i]? =some d→∀{u:Value},VS H β u s→VD (wH w) u d
 |_,_, .cons hsn _,0,_,_,e1,e2,_,hv=>by
  simp only [List.getElem?_cons_zero,Option.some.injEq] at e1 e2
  subst e1 e2;exact SnapT.vd hsn hv
 |_,_, .cons _ hl,i+1,_,_,e1,e2,_,hv=>SnapTL.vd hl (i:=i) (by simpa using e1) (by simpa using e2) hv
end
end
section
variable {P:Program} {n:Nat} {ops:Array Oper} {rest:List Oper} {K:Cu} {f:Fr} {h:Xh} {o:Oper} {F:FuncId} {ds:List D} {args:Array Operand} {tys:Array TypeId} {x:Value}
theorem CStep.lendT (ho:o.op= .call {callee:= .value (.func F),args:=args,argTypes:=tys}) (hx:XC P F ds (fun d=>d= .v x)) (ha:SnapTL h (args.toList.map (ev f)) ds):CStep P o f h [] (.d (.v x)) h:=
 ⟨HLe.refl _, fun _ _ e => .inl e, fun hF hle E H β a w hs _ hop => by
  have hop':∀x∈args,VS H β (a.eval x) (ev f x):=fun x hx=>hop x (by rw [ho];simp [Op.operands,Call.operands,hx])
  have ha:=SnapTL.mono hle ha
  have hl:=ha.length
  rw [List.length_map,Array.length_toList] at hl
  have hrun:(execOp a.eval o).run P w= .ok (.enter F (args.map a.eval)) w:=by
   have:=hx.callable.run (args.map a.eval) w
   unfold execOp
   simp only [ho,resolve,Act.eval,Deferred.ofValue,Sem.run_bind,Sem.run_pure,Result.andThen_ok,invoke,Array.append_empty,Array.empty_append]
   exact this
  unfold Oper.wp
  rw [hrun]
  refine (hx.calls (wH w) w _ (Aii w) (by simpa using hl) (fun i y d hy hd=> ?_)).mono ?_
  ·have hi:i<args.size:=by have:=(List.getElem?_eq_some_iff.1 hd).1;omega
   have hy':y=a.eval args[i]:=by
    rw [Array.getElem?_map,Array.getElem?_eq_getElem hi] at hy
    simpa using hy.symm
   rw [hy']
   exact SnapTL.vd hs ha (by rw [List.getElem?_map,Array.getElem?_toList,Array.getElem?_eq_getElem hi];rfl) hd (hop' _ (Array.getElem_mem hi))
  ·rintro e w' ⟨H',u,r,rfl,rfl,hle',hnew,him,hb,hu⟩
   have hux:=O8 hu
   subst hux
   exact ⟨H, β, u, rfl, hs.call hb (Hp.le.refl _) (fun b o u e => .inl e) (hs.imm.below hb), Hp.le.refl _, fun _ _ h => h, fun _ _ => rfl, .d (.v _)⟩⟩
end
end Go.Proofs.YtaafemnkamfgnaaGreat
namespace Go.Proofs.YtaafemnkamfgnaaGreat
open Go.RowKit
def iv (k:Int):List D:= [.v (.int .i64 k)]
def Cg (l:List Int):List (List D):=l.map iv
structure Pit where
 step:Int
 alter:Int
 oct:Int
 deriving DecidableEq
def Pit.c (p:Pit):List D:= [.v (.int .i64 p.step), .v (.int .i64 p.alter), .v (.int .i64 p.oct)]
structure Hd where
 p:Pit
 tied:Bool
 sh:Int
 deriving DecidableEq
def Hd.c (h:Hd):List D:= [.v (.int .i64 h.p.step), .v (.int .i64 h.p.alter), .v (.int .i64 h.p.oct), .v (.bool h.tied), .v (.int .i64 h.sh)]
structure Gr where
 p:Pit
 log:Int
 slash:Bool
 deriving DecidableEq
def Gr.c (g:Gr):List D:= [.v (.int .i64 g.p.step), .v (.int .i64 g.p.alter), .v (.int .i64 g.p.oct), .v (.int .i64 g.log), .v (.bool g.slash)]
structure Sy where
 text:List UInt8
 link:Int
 deriving DecidableEq
def Sy.c (s:Sy):List D:= [.v (.string ⟨s.text.toArray⟩), .v (.int .i64 s.link)]
structure Val where
 log:Int
 dots:Int
 deriving DecidableEq
def Val.c (v:Val):List D:= [.v (.int .i64 v.log), .v (.int .i64 v.dots)]
structure Ev where
 site:Int
 num:Int
 kind:Int
 v:Val
 heads:List Hd
 graces:List Gr
 art:Int
 orn:Int
 dyn:Int
 lyr:List Sy
 stem:Int
 beam:Int
def hdsD (l:List Hd):D:= .sl 5 (l.map Hd.c)
def grsD (l:List Gr):D:= .sl 5 (l.map Gr.c)
def sysD (l:List Sy):D:= .sl 2 (l.map Sy.c)
def Ev.c (e : Ev) : List D := [.v (.int .i64 e.site), .v (.int .i64 e.num), .v (.int .i64 e.kind), .v (.int .i64 e.v.log), .v (.int .i64 e.v.dots), .sl 5 (e.heads.map Hd.c), .sl 5 (e.graces.map Gr.c),
 .v (.int .i64 e.art), .v (.int .i64 e.orn), .v (.int .i64 e.dyn), .sl 2 (e.lyr.map Sy.c), .v (.int .i64 e.stem), .v (.int .i64 e.beam)]
structure Tp where
 first:Int
 count:Int
 actual:Int
 normal:Int
 deriving DecidableEq
def Tp.c (t:Tp):List D:= [.v (.int .i64 t.first), .v (.int .i64 t.count), .v (.int .i64 t.actual), .v (.int .i64 t.normal)]
structure Vo where
 evs:List Ev
 tups:List Tp
def Vo.c (v:Vo):List D:= [.sl 13 (v.evs.map Ev.c), .sl 4 (v.tups.map Tp.c)]
structure Me where
 count:Int
 unit:Int
 g0:Int
 g1:Int
 g2:Int
 g3:Int
 g4:Int
 g5:Int
 deriving DecidableEq
def Me.gs (m:Me):List Int:= [m.g0,m.g1,m.g2,m.g3,m.g4,m.g5]
def Me.c (m:Me):List D:= [.v (.int .i64 m.count), .v (.int .i64 m.unit), .v (.int .i64 m.g0), .v (.int .i64 m.g1), .v (.int .i64 m.g2), .v (.int .i64 m.g3), .v (.int .i64 m.g4), .v (.int .i64 m.g5)]
structure Pl where
 m:Me
 off:Int
 len:Int
def Pl.c (p:Pl):List D:= [.v (.int .i64 p.m.count), .v (.int .i64 p.m.unit), .v (.int .i64 p.m.g0), .v (.int .i64 p.m.g1), .v (.int .i64 p.m.g2), .v (.int .i64 p.m.g3), .v (.int .i64 p.m.g4), .v (.int .i64 p.m.g5), .v (.int .i64 p.off), .v (.int .i64 p.len)]
theorem B5 {α:Type} {l:List α} {k:Nat} {x:α} (h:l[k]? =some x):l.drop k=x::l.drop (k+1):=by
 obtain ⟨hk,e⟩:=List.getElem?_eq_some_iff.1 h
 rw [←e];exact List.drop_eq_getElem_cons hk
theorem Jz (l:List UInt8):(ByteArray.mk l.toArray).toList=l:=by rw [ByteArray.toList_eq]
theorem Yi {l:List UInt8} {k:Nat} {b:UInt8} (h:l[k]? =some b):(ByteArray.mk l.toArray)[k]? =some b:=by
 obtain ⟨hk,e⟩:=List.getElem?_eq_some_iff.1 h
 have hk':k<(ByteArray.mk l.toArray).size:=by simpa [ByteArray.size] using hk
 rw [getElem?_pos (ByteArray.mk l.toArray) k hk', ←e]
 rfl
theorem C2 {α:Type} {f:α→List D} {l:List α} {k:Nat} {x:α} (h:l[k]? =some x):(l.map f)[k]? =some (f x):=by rw [List.getElem?_map,h];rfl
theorem Ar {α:Type} {l:List α} {k:Nat} (h:k<l.length):∃x,l[k]? =some x:=⟨_,List.getElem?_eq_getElem h⟩
abbrev dI (n:Int):D:= .v (.int .i64 n)
abbrev dB (b:Bool):D:= .v (.bool b)
def I64 (n:Int):Prop:= -9223372036854775808≤n∧n≤9223372036854775807
end Go.Proofs.YtaafemnkamfgnaaGreat
namespace Go.Proofs.YtaafemnkamfgnaaGreat
open Go.RowKit
theorem Ey:sizeB Tryz.prog 3 1=true:=by kernel_rfl
theorem H0:zeroB Tryz.prog 3 (.int .i64 0):=by unfold zeroB;kernel_rfl
theorem Ai:scB Tryz.prog 3=true:=by kernel_rfl
theorem Aum:sizeB Tryz.prog 4 1=true:=by kernel_rfl
theorem M0:scB Tryz.prog 4=true:=by kernel_rfl
theorem Alv:sizeB Tryz.prog 9 1=true:=by kernel_rfl
theorem H9:scB Tryz.prog 9=true:=by kernel_rfl
theorem X0:sizeB Tryz.prog 23 2=true:=by kernel_rfl
theorem Ku:zeroB Tryz.prog 23 (.agg #[.int .i64 0, .int .i64 0]):=by unfold zeroB;kernel_rfl
theorem Kt:aggB Tryz.prog 23 2=true:=by kernel_rfl
theorem Mw:J7 Tryz.prog 23 [(0,1),(1,1)]=true:=by kernel_rfl
theorem Z8:Cj Tryz.prog 23 0 0=true:=by kernel_rfl
theorem Anh:Cj Tryz.prog 23 1 1=true:=by kernel_rfl
theorem Ae7:zeroB Tryz.prog 24 (.agg #[.int .i64 0, .int .i64 0, .int .i64 0, .int .i64 0, .int .i64 0, .int .i64 0]):=by unfold zeroB;kernel_rfl
theorem Rj:aggB Tryz.prog 24 6=true:=by kernel_rfl
theorem Ati:sizeB Tryz.prog 26 8=true:=by kernel_rfl
theorem Ae6:zeroB Tryz.prog 26 (.agg #[.int .i64 0, .int .i64 0, .int .i64 0, .int .i64 0, .int .i64 0, .int .i64 0, .int .i64 0, .int .i64 0]):=by unfold zeroB;kernel_rfl
theorem Bn:aggB Tryz.prog 26 8=true:=by kernel_rfl
theorem Aix:J7 Tryz.prog 26 [(0,1),(1,1),(2,6)]=true:=by kernel_rfl
theorem Iv:Cj Tryz.prog 26 0 0=true:=by kernel_rfl
theorem K6:Cj Tryz.prog 26 1 1=true:=by kernel_rfl
theorem Ps:Cj Tryz.prog 26 2 2=true:=by kernel_rfl
theorem Un:sizeB Tryz.prog 27 1=true:=by kernel_rfl
theorem Ht:scB Tryz.prog 27=true:=by kernel_rfl
theorem Kq:elB Tryz.prog 27 3=true:=by kernel_rfl
theorem Aak:ElemTy Tryz.prog 27 119 3 24:=ElemTy.of (z:=(.agg #[.int .i64 0, .int .i64 0, .bool false])) Tryz.underlying27 (by kernel_rfl) rfl (by omega)
theorem Um:sizeB Tryz.prog 28 1=true:=by kernel_rfl
theorem Df:scB Tryz.prog 28=true:=by kernel_rfl
theorem Em:elB Tryz.prog 28 2=true:=by kernel_rfl
theorem Aaj:ElemTy Tryz.prog 28 78 2 48:=ElemTy.of (z:=(.agg #[.slice none 0 0, .slice none 0 0])) Tryz.underlying28 (by kernel_rfl) rfl (by omega)
theorem E9:sizeB Tryz.prog 30 22=true:=by kernel_rfl
theorem E6:zeroB Tryz.prog 30 (.agg #[.int .i64 0, .int .i64 0, .int .i64 0, .int .i64 0, .int .i64 0, .int .i64 0, .int .i64 0, .int .i64 0, .int .i64 0, .int .i64 0, .int .i64 0, .int .i64 0, .bool false, .int .i64 0, .int .i64 0, .int .i64 0, .int .i64 0, .int .i64 0, .int .i64 0, .string ⟨#[]⟩, .slice none 0 0, .slice none 0 0]):=by unfold zeroB;kernel_rfl
theorem Bj:aggB Tryz.prog 30 22=true:=by kernel_rfl
theorem Qc:J7 Tryz.prog 30 [(0,2),(2,8),(10,1),(11,1),(12,1),(13,1),(14,1),(15,1),(16,1),(17,1),(18,1),(19,1),(20,1),(21,1)]=true:=by kernel_rfl
theorem Nj:Cj Tryz.prog 30 0 0=true:=by kernel_rfl
theorem G6:Cj Tryz.prog 30 1 2=true:=by kernel_rfl
theorem Gb:Cj Tryz.prog 30 2 10=true:=by kernel_rfl
theorem T8:Cj Tryz.prog 30 3 11=true:=by kernel_rfl
theorem T7:Cj Tryz.prog 30 4 12=true:=by kernel_rfl
theorem T6:Cj Tryz.prog 30 5 13=true:=by kernel_rfl
theorem T5:Cj Tryz.prog 30 6 14=true:=by kernel_rfl
theorem T4:Cj Tryz.prog 30 7 15=true:=by kernel_rfl
theorem T3:Cj Tryz.prog 30 8 16=true:=by kernel_rfl
theorem T2:Cj Tryz.prog 30 9 17=true:=by kernel_rfl
theorem Qy:Cj Tryz.prog 30 10 18=true:=by kernel_rfl
theorem Gu:Cj Tryz.prog 30 11 19=true:=by kernel_rfl
theorem C8:Cj Tryz.prog 30 12 20=true:=by kernel_rfl
theorem Bm:Cj Tryz.prog 30 13 21=true:=by kernel_rfl
theorem Nw:sizeB Tryz.prog 32 1=true:=by kernel_rfl
theorem Ju:zeroB Tryz.prog 32 (.int .i64 0):=by unfold zeroB;kernel_rfl
theorem Atk:scB Tryz.prog 32=true:=by kernel_rfl
theorem Nv:sizeB Tryz.prog 36 10=true:=by kernel_rfl
theorem H5:zeroB Tryz.prog 36 (.agg #[.int .i64 0, .int .i64 0, .int .i64 0, .int .i64 0, .int .i64 0, .int .i64 0, .int .i64 0, .int .i64 0, .int .i64 0, .int .i64 0]):=by unfold zeroB;kernel_rfl
theorem Gx:aggB Tryz.prog 36 10=true:=by kernel_rfl
theorem Ov:J7 Tryz.prog 36 [(0,8),(8,1),(9,1)]=true:=by kernel_rfl
theorem Ni:Cj Tryz.prog 36 0 0=true:=by kernel_rfl
theorem G5:Cj Tryz.prog 36 1 8=true:=by kernel_rfl
theorem Cx:Cj Tryz.prog 36 2 9=true:=by kernel_rfl
theorem Aop:elB Tryz.prog 42 5=true:=by kernel_rfl
theorem Ak1:ElemTy Tryz.prog 42 49 5 40:=ElemTy.of (z:=(.agg #[.int .i64 0, .int .i64 0, .int .i64 0, .int .i64 0, .int .i64 0])) Tryz.underlying42 (by kernel_rfl) rfl (by omega)
theorem Dt:elB Tryz.prog 45 1=true:=by kernel_rfl
theorem Q4:ElemTy Tryz.prog 45 3 1 8:=ElemTy.of (z:=(.int .i64 0)) Tryz.underlying45 (by kernel_rfl) rfl (by omega)
theorem Agw:sizeB Tryz.prog 49 5=true:=by kernel_rfl
theorem Mk:zeroB Tryz.prog 49 (.agg #[.int .i64 0, .int .i64 0, .int .i64 0, .int .i64 0, .int .i64 0]):=by unfold zeroB;kernel_rfl
theorem Alg:aggB Tryz.prog 49 5=true:=by kernel_rfl
theorem Yp:J7 Tryz.prog 49 [(0,1),(1,1),(2,1),(3,1),(4,1)]=true:=by kernel_rfl
theorem Ang:Cj Tryz.prog 49 3 3=true:=by kernel_rfl
theorem Hq:sizeB Tryz.prog 54 2=true:=by kernel_rfl
theorem Ft:zeroB Tryz.prog 54 (.agg #[.int .i64 0, .int .i64 0]):=by unfold zeroB;kernel_rfl
theorem El:aggB Tryz.prog 54 2=true:=by kernel_rfl
theorem Yo:J7 Tryz.prog 54 [(0,1),(1,1)]=true:=by kernel_rfl
theorem T1:Cj Tryz.prog 54 0 0=true:=by kernel_rfl
theorem Nh:Cj Tryz.prog 54 1 1=true:=by kernel_rfl
theorem Nu:sizeB Tryz.prog 55 1=true:=by kernel_rfl
theorem Hs:scB Tryz.prog 55=true:=by kernel_rfl
theorem R0:elB Tryz.prog 55 5=true:=by kernel_rfl
theorem Ak0:ElemTy Tryz.prog 55 200 5 40:=ElemTy.of (z:=(.agg #[.int .i64 0, .int .i64 0, .int .i64 0, .bool false, .int .i64 0])) Tryz.underlying55 (by kernel_rfl) rfl (by omega)
theorem Agv:sizeB Tryz.prog 56 1=true:=by kernel_rfl
theorem Nz:scB Tryz.prog 56=true:=by kernel_rfl
theorem U7:elB Tryz.prog 56 5=true:=by kernel_rfl
theorem Akz:ElemTy Tryz.prog 56 203 5 40:=ElemTy.of (z:=(.agg #[.int .i64 0, .int .i64 0, .int .i64 0, .int .i64 0, .bool false])) Tryz.underlying56 (by kernel_rfl) rfl (by omega)
theorem Agu:sizeB Tryz.prog 57 1=true:=by kernel_rfl
theorem Ji:scB Tryz.prog 57=true:=by kernel_rfl
theorem Ld:elB Tryz.prog 57 2=true:=by kernel_rfl
theorem Aky:ElemTy Tryz.prog 57 171 2 24:=ElemTy.of (z:=(.agg #[.string ⟨#[]⟩, .int .i64 0])) Tryz.underlying57 (by kernel_rfl) rfl (by omega)
theorem C4:sizeB Tryz.prog 59 13=true:=by kernel_rfl
theorem Cc:zeroB Tryz.prog 59 (.agg #[.int .i64 0, .int .i64 0, .int .i64 0, .int .i64 0, .int .i64 0, .slice none 0 0, .slice none 0 0, .int .i64 0, .int .i64 0, .int .i64 0, .slice none 0 0, .int .i64 0, .int .i64 0]):=by unfold zeroB;kernel_rfl
theorem Bq:aggB Tryz.prog 59 13=true:=by kernel_rfl
theorem Qb:J7 Tryz.prog 59 [(0,2),(2,1),(3,2),(5,1),(6,1),(7,1),(8,1),(9,1),(10,1),(11,1),(12,1)]=true:=by kernel_rfl
theorem Iu:Cj Tryz.prog 59 0 0=true:=by kernel_rfl
theorem Dj:Cj Tryz.prog 59 1 2=true:=by kernel_rfl
theorem Hy:Cj Tryz.prog 59 2 3=true:=by kernel_rfl
theorem C7:Cj Tryz.prog 59 3 5=true:=by kernel_rfl
theorem Ga:Cj Tryz.prog 59 4 6=true:=by kernel_rfl
theorem G4:Cj Tryz.prog 59 5 7=true:=by kernel_rfl
theorem K5:Cj Tryz.prog 59 6 8=true:=by kernel_rfl
theorem Js:Cj Tryz.prog 59 7 9=true:=by kernel_rfl
theorem Ep:Cj Tryz.prog 59 8 10=true:=by kernel_rfl
theorem It:Cj Tryz.prog 59 9 11=true:=by kernel_rfl
theorem J2:Cj Tryz.prog 59 10 12=true:=by kernel_rfl
theorem Xz:sizeB Tryz.prog 75 1=true:=by kernel_rfl
theorem Iz:scB Tryz.prog 75=true:=by kernel_rfl
theorem Lc:elB Tryz.prog 75 2=true:=by kernel_rfl
theorem Aai:ElemTy Tryz.prog 75 84 2 16:=ElemTy.of (z:=(.agg #[.int .i64 0, .int .i64 0])) Tryz.underlying75 (by kernel_rfl) rfl (by omega)
theorem An8:sizeB Tryz.prog 76 1=true:=by kernel_rfl
theorem Eg:scB Tryz.prog 76=true:=by kernel_rfl
theorem Ic:elB Tryz.prog 76 2=true:=by kernel_rfl
theorem Akx:ElemTy Tryz.prog 76 82 2 48:=ElemTy.of (z:=(.agg #[.slice none 0 0, .slice none 0 0])) Tryz.underlying76 (by kernel_rfl) rfl (by omega)
theorem Jf:sizeB Tryz.prog 78 2=true:=by kernel_rfl
theorem Fe:zeroB Tryz.prog 78 (.agg #[.slice none 0 0, .slice none 0 0]):=by unfold zeroB;kernel_rfl
theorem F2:aggB Tryz.prog 78 2=true:=by kernel_rfl
theorem Aiw:J7 Tryz.prog 78 [(0,1),(1,1)]=true:=by kernel_rfl
theorem Ea:Cj Tryz.prog 78 0 0=true:=by kernel_rfl
theorem Cm:Cj Tryz.prog 78 1 1=true:=by kernel_rfl
theorem Rm:sizeB Tryz.prog 79 1=true:=by kernel_rfl
theorem Aot:zeroB Tryz.prog 79 (.slice none 0 0):=by unfold zeroB;kernel_rfl
theorem Cz:scB Tryz.prog 79=true:=by kernel_rfl
theorem F5:elB Tryz.prog 79 13=true:=by kernel_rfl
theorem Gv:ElemTy Tryz.prog 79 59 13 152:=ElemTy.of (z:=(.agg #[.int .i64 0, .int .i64 0, .int .i64 0, .int .i64 0, .int .i64 0, .slice none 0 0, .slice none 0 0, .int .i64 0, .int .i64 0, .int .i64 0, .slice none 0 0, .int .i64 0, .int .i64 0])) Tryz.underlying79 (by kernel_rfl) rfl (by omega)
theorem Ge:sizeB Tryz.prog 80 1=true:=by kernel_rfl
theorem Aos:zeroB Tryz.prog 80 (.slice none 0 0):=by unfold zeroB;kernel_rfl
theorem B7:scB Tryz.prog 80=true:=by kernel_rfl
theorem E3:elB Tryz.prog 80 4=true:=by kernel_rfl
theorem F1:ElemTy Tryz.prog 80 157 4 32:=ElemTy.of (z:=(.agg #[.int .i64 0, .int .i64 0, .int .i64 0, .int .i64 0])) Tryz.underlying80 (by kernel_rfl) rfl (by omega)
theorem Bu:sizeB Tryz.prog 82 2=true:=by kernel_rfl
theorem Bf:zeroB Tryz.prog 82 (.agg #[.slice none 0 0, .slice none 0 0]):=by unfold zeroB;kernel_rfl
theorem Ax:aggB Tryz.prog 82 2=true:=by kernel_rfl
theorem C6:J7 Tryz.prog 82 [(0,1),(1,1)]=true:=by kernel_rfl
theorem Bo:Cj Tryz.prog 82 0 0=true:=by kernel_rfl
theorem B6:Cj Tryz.prog 82 1 1=true:=by kernel_rfl
theorem Xy:sizeB Tryz.prog 84 2=true:=by kernel_rfl
theorem Oq:zeroB Tryz.prog 84 (.agg #[.int .i64 0, .int .i64 0]):=by unfold zeroB;kernel_rfl
theorem Lx:aggB Tryz.prog 84 2=true:=by kernel_rfl
theorem Ari:J7 Tryz.prog 84 [(0,1),(1,1)]=true:=by kernel_rfl
theorem Anf:Cj Tryz.prog 84 0 0=true:=by kernel_rfl
theorem Qa:sizeB Tryz.prog 119 3=true:=by kernel_rfl
theorem Mr:zeroB Tryz.prog 119 (.agg #[.int .i64 0, .int .i64 0, .bool false]):=by unfold zeroB;kernel_rfl
theorem J6:aggB Tryz.prog 119 3=true:=by kernel_rfl
theorem Akn:Cj Tryz.prog 119 0 0=true:=by kernel_rfl
theorem Arf:sizeB Tryz.prog 127 20=true:=by kernel_rfl
theorem X9:zeroB Tryz.prog 127 (.agg #[.int .i64 0, .int .i64 0, .int .i64 0, .int .i64 0, .int .i64 0, .int .i64 0, .int .i64 0, .int .i64 0, .int .i64 0, .int .i64 0, .int .i64 0, .int .i64 0, .bool false, .int .i64 0, .int .i64 0, .int .i64 0, .int .i64 0, .int .i64 0, .int .i64 0, .string ⟨#[]⟩]):=by unfold zeroB;kernel_rfl
theorem Aq4:aggB Tryz.prog 127 20=true:=by kernel_rfl
theorem Aph:J7 Tryz.prog 127 [(0,2),(2,8),(10,1),(11,1),(12,1),(13,1),(14,1),(15,1),(16,1),(17,1),(18,1),(19,1)]=true:=by kernel_rfl
theorem Fc:sizeB Tryz.prog 157 4=true:=by kernel_rfl
theorem Dy:zeroB Tryz.prog 157 (.agg #[.int .i64 0, .int .i64 0, .int .i64 0, .int .i64 0]):=by unfold zeroB;kernel_rfl
theorem B9:aggB Tryz.prog 157 4=true:=by kernel_rfl
theorem Bw:Cj Tryz.prog 157 0 0=true:=by kernel_rfl
theorem Dl:Cj Tryz.prog 157 1 1=true:=by kernel_rfl
theorem N9:Cj Tryz.prog 157 2 2=true:=by kernel_rfl
theorem Q3:Cj Tryz.prog 157 3 3=true:=by kernel_rfl
theorem As1:elB Tryz.prog 159 2=true:=by kernel_rfl
theorem Mo:ElemTy Tryz.prog 159 54 2 16:=ElemTy.of (z:=(.agg #[.int .i64 0, .int .i64 0])) Tryz.underlying159 (by kernel_rfl) rfl (by omega)
theorem Yn:sizeB Tryz.prog 171 2=true:=by kernel_rfl
theorem O4:zeroB Tryz.prog 171 (.agg #[.string ⟨#[]⟩, .int .i64 0]):=by unfold zeroB;kernel_rfl
theorem Mq:aggB Tryz.prog 171 2=true:=by kernel_rfl
theorem Apg:J7 Tryz.prog 171 [(0,1),(1,1)]=true:=by kernel_rfl
theorem Hl:Cj Tryz.prog 171 0 0=true:=by kernel_rfl
theorem Q2:Cj Tryz.prog 171 1 1=true:=by kernel_rfl
theorem Hf:aggB Tryz.prog 198 3=true:=by kernel_rfl
theorem Q1:Cj Tryz.prog 198 0 0=true:=by kernel_rfl
theorem Q0:Cj Tryz.prog 198 1 1=true:=by kernel_rfl
theorem Qz:Cj Tryz.prog 198 2 2=true:=by kernel_rfl
theorem Ym:sizeB Tryz.prog 200 5=true:=by kernel_rfl
theorem S6:zeroB Tryz.prog 200 (.agg #[.int .i64 0, .int .i64 0, .int .i64 0, .bool false, .int .i64 0]):=by unfold zeroB;kernel_rfl
theorem R3:aggB Tryz.prog 200 5=true:=by kernel_rfl
theorem Xf:Cj Tryz.prog 200 0 0=true:=by kernel_rfl
theorem Akm:Cj Tryz.prog 200 1 3=true:=by kernel_rfl
theorem Xe:Cj Tryz.prog 200 2 4=true:=by kernel_rfl
theorem Yl:sizeB Tryz.prog 203 5=true:=by kernel_rfl
theorem S5:zeroB Tryz.prog 203 (.agg #[.int .i64 0, .int .i64 0, .int .i64 0, .int .i64 0, .bool false]):=by unfold zeroB;kernel_rfl
theorem V5:aggB Tryz.prog 203 5=true:=by kernel_rfl
theorem Akl:Cj Tryz.prog 203 0 0=true:=by kernel_rfl
theorem Xd:Cj Tryz.prog 203 1 3=true:=by kernel_rfl
theorem As0:elB Tryz.prog 243 1=true:=by kernel_rfl
theorem Ak2:elB Tryz.prog 254 1=true:=by kernel_rfl
theorem Are:sizeB Tryz.prog 271 7=true:=by kernel_rfl
theorem X8:zeroB Tryz.prog 271 (.agg #[.int .i64 0, .int .i64 0, .int .i64 0, .int .i64 0, .int .i64 0, .int .i64 0, .int .i64 0]):=by unfold zeroB;kernel_rfl
theorem Aq3:aggB Tryz.prog 271 7=true:=by kernel_rfl
theorem Ah9:Callable Tryz.prog 9:=⟨_,Tryz.func9,rfl,by decide⟩
theorem Ae5:Callable Tryz.prog 14:=⟨_,Tryz.func14,rfl,by decide⟩
theorem S3:Callable Tryz.prog 15:=⟨_,Tryz.func15,rfl,by decide⟩
theorem S2:Callable Tryz.prog 16:=⟨_,Tryz.func16,rfl,by decide⟩
theorem Ae4:Callable Tryz.prog 18:=⟨_,Tryz.func18,rfl,by decide⟩
theorem Ae3:Callable Tryz.prog 19:=⟨_,Tryz.func19,rfl,by decide⟩
theorem Ae2:Callable Tryz.prog 20:=⟨_,Tryz.func20,rfl,by decide⟩
theorem Ae1:Callable Tryz.prog 21:=⟨_,Tryz.func21,rfl,by decide⟩
theorem Ae0:Callable Tryz.prog 28:=⟨_,Tryz.func28,rfl,by decide⟩
theorem Aez:Callable Tryz.prog 30:=⟨_,Tryz.func30,rfl,by decide⟩
theorem Aey:Callable Tryz.prog 33:=⟨_,Tryz.func33,rfl,by decide⟩
theorem Aex:Callable Tryz.prog 34:=⟨_,Tryz.func34,rfl,by decide⟩
theorem Aew:Callable Tryz.prog 35:=⟨_,Tryz.func35,rfl,by decide⟩
theorem Aev:Callable Tryz.prog 36:=⟨_,Tryz.func36,rfl,by decide⟩
theorem Aeu:Callable Tryz.prog 37:=⟨_,Tryz.func37,rfl,by decide⟩
theorem Aet:Callable Tryz.prog 38:=⟨_,Tryz.func38,rfl,by decide⟩
theorem Aes:Callable Tryz.prog 39:=⟨_,Tryz.func39,rfl,by decide⟩
theorem Aer:Callable Tryz.prog 52:=⟨_,Tryz.func52,rfl,by decide⟩
theorem Aeq:Callable Tryz.prog 53:=⟨_,Tryz.func53,rfl,by decide⟩
theorem Aep:Callable Tryz.prog 54:=⟨_,Tryz.func54,rfl,by decide⟩
theorem Aeo:Callable Tryz.prog 55:=⟨_,Tryz.func55,rfl,by decide⟩
theorem S1:Callable Tryz.prog 56:=⟨_,Tryz.func56,rfl,by decide⟩
theorem Aen:Callable Tryz.prog 57:=⟨_,Tryz.func57,rfl,by decide⟩
theorem Aem:Callable Tryz.prog 58:=⟨_,Tryz.func58,rfl,by decide⟩
theorem Ael:Callable Tryz.prog 59:=⟨_,Tryz.func59,rfl,by decide⟩
theorem Aek:Callable Tryz.prog 61:=⟨_,Tryz.func61,rfl,by decide⟩
theorem Aej:Callable Tryz.prog 62:=⟨_,Tryz.func62,rfl,by decide⟩
theorem Aei:Callable Tryz.prog 63:=⟨_,Tryz.func63,rfl,by decide⟩
theorem Aeh:Callable Tryz.prog 64:=⟨_,Tryz.func64,rfl,by decide⟩
theorem Aeg:Callable Tryz.prog 65:=⟨_,Tryz.func65,rfl,by decide⟩
theorem Aef:Callable Tryz.prog 66:=⟨_,Tryz.func66,rfl,by decide⟩
theorem Aee:Callable Tryz.prog 67:=⟨_,Tryz.func67,rfl,by decide⟩
theorem Aed:Callable Tryz.prog 69:=⟨_,Tryz.func69,rfl,by decide⟩
theorem Aec:Callable Tryz.prog 70:=⟨_,Tryz.func70,rfl,by decide⟩
theorem Aeb:Callable Tryz.prog 71:=⟨_,Tryz.func71,rfl,by decide⟩
theorem Aea:Callable Tryz.prog 72:=⟨_,Tryz.func72,rfl,by decide⟩
theorem Ad9:Callable Tryz.prog 73:=⟨_,Tryz.func73,rfl,by decide⟩
theorem Ad8:Callable Tryz.prog 74:=⟨_,Tryz.func74,rfl,by decide⟩
theorem Ad7:Callable Tryz.prog 76:=⟨_,Tryz.func76,rfl,by decide⟩
theorem Ad6:Callable Tryz.prog 77:=⟨_,Tryz.func77,rfl,by decide⟩
theorem Ad5:Callable Tryz.prog 78:=⟨_,Tryz.func78,rfl,by decide⟩
theorem Ad4:Callable Tryz.prog 79:=⟨_,Tryz.func79,rfl,by decide⟩
theorem Ad3:Callable Tryz.prog 80:=⟨_,Tryz.func80,rfl,by decide⟩
theorem Ad2:Callable Tryz.prog 81:=⟨_,Tryz.func81,rfl,by decide⟩
theorem S0:Callable Tryz.prog 82:=⟨_,Tryz.func82,rfl,by decide⟩
theorem Ad1:Callable Tryz.prog 83:=⟨_,Tryz.func83,rfl,by decide⟩
theorem Ad0:Callable Tryz.prog 84:=⟨_,Tryz.func84,rfl,by decide⟩
theorem Adz:Callable Tryz.prog 92:=⟨_,Tryz.func92,rfl,by decide⟩
theorem Ady:Callable Tryz.prog 93:=⟨_,Tryz.func93,rfl,by decide⟩
theorem Adx:Callable Tryz.prog 94:=⟨_,Tryz.func94,rfl,by decide⟩
theorem Adw:Callable Tryz.prog 95:=⟨_,Tryz.func95,rfl,by decide⟩
theorem Adv:Callable Tryz.prog 96:=⟨_,Tryz.func96,rfl,by decide⟩
theorem Adu:Callable Tryz.prog 99:=⟨_,Tryz.func99,rfl,by decide⟩
theorem Ac1:Callable Tryz.prog 100:=⟨_,Tryz.func100,rfl,by decide⟩
theorem Ac0:Callable Tryz.prog 101:=⟨_,Tryz.func101,rfl,by decide⟩
theorem Acz:Callable Tryz.prog 102:=⟨_,Tryz.func102,rfl,by decide⟩
theorem Acy:Callable Tryz.prog 103:=⟨_,Tryz.func103,rfl,by decide⟩
theorem Acx:Callable Tryz.prog 104:=⟨_,Tryz.func104,rfl,by decide⟩
theorem Acw:Callable Tryz.prog 105:=⟨_,Tryz.func105,rfl,by decide⟩
theorem Acv:Callable Tryz.prog 107:=⟨_,Tryz.func107,rfl,by decide⟩
theorem Acu:Callable Tryz.prog 108:=⟨_,Tryz.func108,rfl,by decide⟩
theorem Acs:Callable Tryz.prog 109:=⟨_,Tryz.func109,rfl,by decide⟩
theorem Acr:Callable Tryz.prog 110:=⟨_,Tryz.func110,rfl,by decide⟩
theorem Rf:Callable Tryz.prog 111:=⟨_,Tryz.func111,rfl,by decide⟩
theorem Acq:Callable Tryz.prog 115:=⟨_,Tryz.func115,rfl,by decide⟩
theorem Acp:Callable Tryz.prog 116:=⟨_,Tryz.func116,rfl,by decide⟩
theorem Aco:Callable Tryz.prog 128:=⟨_,Tryz.func128,rfl,by decide⟩
theorem Acn:Callable Tryz.prog 129:=⟨_,Tryz.func129,rfl,by decide⟩
theorem Acm:Callable Tryz.prog 130:=⟨_,Tryz.func130,rfl,by decide⟩
theorem Acl:Callable Tryz.prog 131:=⟨_,Tryz.func131,rfl,by decide⟩
theorem Re:Callable Tryz.prog 132:=⟨_,Tryz.func132,rfl,by decide⟩
theorem Ack:Callable Tryz.prog 133:=⟨_,Tryz.func133,rfl,by decide⟩
theorem Acj:Callable Tryz.prog 134:=⟨_,Tryz.func134,rfl,by decide⟩
theorem Aci:Callable Tryz.prog 135:=⟨_,Tryz.func135,rfl,by decide⟩
theorem Ach:Callable Tryz.prog 136:=⟨_,Tryz.func136,rfl,by decide⟩
theorem Acg:Callable Tryz.prog 138:=⟨_,Tryz.func138,rfl,by decide⟩
theorem Acf:Callable Tryz.prog 139:=⟨_,Tryz.func139,rfl,by decide⟩
theorem Rd:Callable Tryz.prog 140:=⟨_,Tryz.func140,rfl,by decide⟩
theorem Rc:Callable Tryz.prog 141:=⟨_,Tryz.func141,rfl,by decide⟩
theorem Rb:Callable Tryz.prog 142:=⟨_,Tryz.func142,rfl,by decide⟩
theorem Ace:Callable Tryz.prog 143:=⟨_,Tryz.func143,rfl,by decide⟩
theorem Acd:Callable Tryz.prog 144:=⟨_,Tryz.func144,rfl,by decide⟩
theorem Acc:Callable Tryz.prog 145:=⟨_,Tryz.func145,rfl,by decide⟩
theorem Acb:Callable Tryz.prog 152:=⟨_,Tryz.func152,rfl,by decide⟩
theorem Aca:Callable Tryz.prog 153:=⟨_,Tryz.func153,rfl,by decide⟩
theorem Ab9:Callable Tryz.prog 154:=⟨_,Tryz.func154,rfl,by decide⟩
theorem Ab8:Callable Tryz.prog 155:=⟨_,Tryz.func155,rfl,by decide⟩
theorem Ab7:Callable Tryz.prog 156:=⟨_,Tryz.func156,rfl,by decide⟩
theorem Ab6:Callable Tryz.prog 157:=⟨_,Tryz.func157,rfl,by decide⟩
theorem Ab5:Callable Tryz.prog 158:=⟨_,Tryz.func158,rfl,by decide⟩
theorem Ab4:Callable Tryz.prog 159:=⟨_,Tryz.func159,rfl,by decide⟩
theorem Ab3:Callable Tryz.prog 160:=⟨_,Tryz.func160,rfl,by decide⟩
theorem Ab2:Callable Tryz.prog 161:=⟨_,Tryz.func161,rfl,by decide⟩
theorem Ab1:Callable Tryz.prog 162:=⟨_,Tryz.func162,rfl,by decide⟩
theorem Ab0:Callable Tryz.prog 163:=⟨_,Tryz.func163,rfl,by decide⟩
theorem Abz:Callable Tryz.prog 164:=⟨_,Tryz.func164,rfl,by decide⟩
theorem Aby:Callable Tryz.prog 165:=⟨_,Tryz.func165,rfl,by decide⟩
theorem Abx:Callable Tryz.prog 166:=⟨_,Tryz.func166,rfl,by decide⟩
theorem Abw:Callable Tryz.prog 167:=⟨_,Tryz.func167,rfl,by decide⟩
theorem Abv:Callable Tryz.prog 168:=⟨_,Tryz.func168,rfl,by decide⟩
theorem Abu:Callable Tryz.prog 169:=⟨_,Tryz.func169,rfl,by decide⟩
theorem Abt:Callable Tryz.prog 170:=⟨_,Tryz.func170,rfl,by decide⟩
theorem Abs:Callable Tryz.prog 172:=⟨_,Tryz.func172,rfl,by decide⟩
theorem Abr:Callable Tryz.prog 173:=⟨_,Tryz.func173,rfl,by decide⟩
theorem Abq:Callable Tryz.prog 174:=⟨_,Tryz.func174,rfl,by decide⟩
theorem Abp:Callable Tryz.prog 175:=⟨_,Tryz.func175,rfl,by decide⟩
theorem Abo:Callable Tryz.prog 176:=⟨_,Tryz.func176,rfl,by decide⟩
theorem Abn:Callable Tryz.prog 177:=⟨_,Tryz.func177,rfl,by decide⟩
theorem Abm:Callable Tryz.prog 179:=⟨_,Tryz.func179,rfl,by decide⟩
theorem Abl:Callable Tryz.prog 180:=⟨_,Tryz.func180,rfl,by decide⟩
theorem Abk:Callable Tryz.prog 181:=⟨_,Tryz.func181,rfl,by decide⟩
theorem Abj:Callable Tryz.prog 182:=⟨_,Tryz.func182,rfl,by decide⟩
theorem Abi:Callable Tryz.prog 183:=⟨_,Tryz.func183,rfl,by decide⟩
theorem Abh:Callable Tryz.prog 184:=⟨_,Tryz.func184,rfl,by decide⟩
theorem Abg:Callable Tryz.prog 185:=⟨_,Tryz.func185,rfl,by decide⟩
theorem Abf:Callable Tryz.prog 186:=⟨_,Tryz.func186,rfl,by decide⟩
theorem Abe:Callable Tryz.prog 187:=⟨_,Tryz.func187,rfl,by decide⟩
theorem Abd:Callable Tryz.prog 188:=⟨_,Tryz.func188,rfl,by decide⟩
theorem Abc:Callable Tryz.prog 189:=⟨_,Tryz.func189,rfl,by decide⟩
theorem Abb:Callable Tryz.prog 190:=⟨_,Tryz.func190,rfl,by decide⟩
theorem Aba:Callable Tryz.prog 191:=⟨_,Tryz.func191,rfl,by decide⟩
theorem Aa9:Callable Tryz.prog 192:=⟨_,Tryz.func192,rfl,by decide⟩
theorem Ra:Callable Tryz.prog 193:=⟨_,Tryz.func193,rfl,by decide⟩
theorem Aa8:Callable Tryz.prog 194:=⟨_,Tryz.func194,rfl,by decide⟩
theorem Aa7:Callable Tryz.prog 195:=⟨_,Tryz.func195,rfl,by decide⟩
theorem Aa6:Callable Tryz.prog 196:=⟨_,Tryz.func196,rfl,by decide⟩
theorem Aa5:Callable Tryz.prog 197:=⟨_,Tryz.func197,rfl,by decide⟩
theorem Aa4:Callable Tryz.prog 199:=⟨_,Tryz.func199,rfl,by decide⟩
theorem Aa3:Callable Tryz.prog 200:=⟨_,Tryz.func200,rfl,by decide⟩
theorem Aa2:Callable Tryz.prog 201:=⟨_,Tryz.func201,rfl,by decide⟩
theorem Aa1:Callable Tryz.prog 202:=⟨_,Tryz.func202,rfl,by decide⟩
theorem Aa0:Callable Tryz.prog 203:=⟨_,Tryz.func203,rfl,by decide⟩
theorem Aaz:Callable Tryz.prog 204:=⟨_,Tryz.func204,rfl,by decide⟩
theorem Aay:Callable Tryz.prog 205:=⟨_,Tryz.func205,rfl,by decide⟩
theorem Aax:Callable Tryz.prog 206:=⟨_,Tryz.func206,rfl,by decide⟩
theorem Aaw:Callable Tryz.prog 207:=⟨_,Tryz.func207,rfl,by decide⟩
theorem Aav:Callable Tryz.prog 208:=⟨_,Tryz.func208,rfl,by decide⟩
theorem Aau:Callable Tryz.prog 209:=⟨_,Tryz.func209,rfl,by decide⟩
theorem Aat:Callable Tryz.prog 210:=⟨_,Tryz.func210,rfl,by decide⟩
theorem Aas:Callable Tryz.prog 213:=⟨_,Tryz.func213,rfl,by decide⟩
end Go.Proofs.YtaafemnkamfgnaaGreat
namespace Go.Proofs.YtaafemnkamfgnaaGreat
open Go.RowKit
def Y0:Nat→Int
 |0=>0|1=>2|2=>4|3=>5|4=>7|5=>9|_=>11
theorem Apm (k:Nat):0≤Y0 k∧Y0 k≤11:=by unfold Y0;split<;>omega
def Ai4:List D:= [dI 0,dI 2,dI 4,dI 5,dI 7,dI 9,dI 11]
theorem Ai3 (k:Nat) (h:k<7):Ai4[k]? =some (dI (Y0 k)):=by
 match k,h with
 |0,_=>rfl|1,_=>rfl|2,_=>rfl|3,_=>rfl|4,_=>rfl|5,_=>rfl|6,_=>rfl
 |k+7,h=>omega
def Pit.inR (p:Pit):Prop:=0≤p.step∧p.step≤6∧ -2≤p.alter∧p.alter≤2∧ -1≤p.oct∧p.oct≤9
instance (p:Pit):Decidable p.inR:=by unfold Pit.inR;exact inferInstance
def Pit.n (p:Pit):Int:=12*(p.oct+1)+Y0 p.step.toNat+p.alter
def Pit.good (p:Pit):Prop:=p.inR∧0≤p.n∧p.n≤127
instance (p:Pit):Decidable p.good:=by unfold Pit.good;exact inferInstance
def Pit.err (p:Pit):Int:=if p.good then 0 else 18
def Pit.num (p:Pit):Int:=if p.good then p.n else 0
theorem Yz  :XC Tryz.prog 213 [] (fun r=>r= .agg Ai4):=by
 refine An Aas Tryz.func213 R R lb<|zr<|XL.step R (Aq 0 (l:= [.d (dI 0), .d (dI 0), .d (dI 0), .d (dI 0), .d (dI 0), .d (dI 0), .d (dI 0)]) R X8 (by kernel_rfl))<|znr<|zp (Ae (s':= .d (.agg [dI 0,dI 2,dI 4,dI 5,dI 7,dI 9,dI 11])) (Ac (Pi R Tryz.underlying271 Ey X8 R)) (by kernel_rfl))<|?_
 refine XL.step R (Af (l':= [.d (dI 0), .d (dI 2), .d (dI 4), .d (dI 5), .d (dI 7), .d (dI 9), .d (dI 11)]) R R R R Are R lb (by kernel_rfl))<|zn<|zt<|?_
 exact Jb R (RV.cells R R R Aq3 lb R) (R)
theorem Uv (p:Pit) (h:p.inR):XC Tryz.prog 209 [.agg (Pit.c p)] (fun r=>r=dI p.n):=by
 obtain ⟨k,hk⟩:∃k:Nat,p.step=k:=⟨p.step.toNat,by have:=h.1;omega⟩
 have hb:=Apm k
 have h':=h
 simp only [Pit.inR] at h
 refine An Aau Tryz.func209 R R lb<|zr<|XL.step R (Ap 1 (l:= [.d (dI p.step), .d (dI p.alter), .d (dI p.oct)]) R R (by kernel_rfl))<|za R R<|zn<|zs<|Bv [] (by kernel_rfl) (by kernel_rfl) (by kernel_rfl) (by decide)<|yp (Aa R R Qz)<|yp (Ab R R Ai R R)<|yp (Al R R R (by omega) (by omega))<|yp (L9 R R R (by omega) (by omega))<|?_
 refine ChK.cons R (CStep.call R (Yz) R)<|yp (Aa R R Q1)<|yp (Ab R R Ai R R)<|yp (Wo (k:=k) R R R hk Tryz.underlying271 Ai Ey (by omega) (Ai3 k (by omega)))<|yp (Al R R R (by omega) (by omega))<|yp (Aa R R Q0)<|yp (Ab R R Ai R R)<|yp (Al R R R (by omega) (by omega))<|ya R R<|?_
 refine ChK.nil ⟨by kernel_rfl, ?_⟩
 exact zt<|z1 R R (rI (by rw [Pit.n,hk];rfl))
theorem Pit.inR_mk {p:Pit} (h1:¬p.step<0) (h2:¬6<p.step) (h3:¬p.alter< -2) (h4:¬2<p.alter) (h5:¬p.oct< -1) (h6:¬9<p.oct):p.inR:=⟨by omega,by omega,by omega,by omega,by omega,by omega⟩
theorem Pit.err_no {p:Pit} (h:¬p.good):18=p.err:=by rw [Pit.err,if_neg h]
theorem Pit.err_ok {p:Pit} (h:p.good):0=p.err:=by rw [Pit.err,if_pos h]
theorem Ajf (p:Pit):XC Tryz.prog 208 [.agg (Pit.c p)] (fun r=>r=dI p.err):=by
 refine An Aav Tryz.func208 R R lb<|zr<|XL.step R (Ap 1 (l:= [.d (dI p.step), .d (dI p.alter), .d (dI p.oct)]) R R (by kernel_rfl))<|za R R<|zn<|zs<|zr<|zp (Aa R R Q1)<|zp (Ab R R Ai R R)<|zp (Au R R R)<|zm R R<|?_
 refine XL.dec 7 R (fun g7=> ?_) (fun g7=> ?_)
 refine zk 3 R<|zq R R R<|zm R R<|zk 3 R<|zq R R R<|zm R R<|zk 3 R<|zq R R R<|zm R R<|zk 3 R<|zq R R R<|zm R R<|zk 3 R<|zq R R R<|?_
 exact zn<|Av (by kernel_rfl) R<|zr<|za R R<|zn<|zt<|z1 R R (rI (Pit.err_no fun h=>by obtain ⟨⟨h1,h2,h3,h4,h5,h6⟩,_⟩:=h;omega))
 refine zp (Aa R R Q1)<|zp (Ab R R Ai R R)<|zp (Bb R R R)<|zq R R R<|zm R R<|?_
 refine XL.dec 12 R (fun g12=> ?_) (fun g12=> ?_)
 refine zk 3 R<|zq R R R<|zm R R<|zk 3 R<|zq R R R<|zm R R<|zk 3 R<|zq R R R<|zm R R<|zk 3 R<|zq R R R<|zn<|Av (by kernel_rfl) R<|zr<|?_
 exact za R R<|zn<|zt<|z1 R R (rI (Pit.err_no fun h=>by obtain ⟨⟨h1,h2,h3,h4,h5,h6⟩,_⟩:=h;omega))
 refine zp (Aa R R Q0)<|zp (Ab R R Ai R R)<|zp (Au R R R)<|zq R R R<|zm R R<|?_
 refine XL.dec 17 R (fun g17=> ?_) (fun g17=> ?_)
 exact zk 3 R<|zq R R R<|zm R R<|zk 3 R<|zq R R R<|zm R R<|zk 3 R<|zq R R R<|zn<|Av (by kernel_rfl) R<|zr<|za R R<|zn<|zt<|z1 R R (rI (Pit.err_no fun h=>by obtain ⟨⟨h1,h2,h3,h4,h5,h6⟩,_⟩:=h;omega))
 refine zp (Aa R R Q0)<|zp (Ab R R Ai R R)<|zp (Bb R R R)<|zq R R R<|zm R R<|?_
 refine XL.dec 22 R (fun g22=> ?_) (fun g22=> ?_)
 exact zk 3 R<|zq R R R<|zm R R<|zk 3 R<|zq R R R<|zn<|Av (by kernel_rfl) R<|zr<|za R R<|zn<|zt<|z1 R R (rI (Pit.err_no fun h=>by obtain ⟨⟨h1,h2,h3,h4,h5,h6⟩,_⟩:=h;omega))
 refine zp (Aa R R Qz)<|zp (Ab R R Ai R R)<|zp (Au R R R)<|zq R R R<|zm R R<|?_
 refine XL.dec 27 R (fun g27=> ?_) (fun g27=> ?_)
 exact zk 3 R<|zq R R R<|zn<|Av (by kernel_rfl) R<|zr<|za R R<|zn<|zt<|z1 R R (rI (Pit.err_no fun h=>by obtain ⟨⟨h1,h2,h3,h4,h5,h6⟩,_⟩:=h;omega))
 refine zp (Aa R R Qz)<|zp (Ab R R Ai R R)<|zp (Bb R R R)<|zq R R R<|zn<|?_
 refine zd R (fun c31=> ?_) (fun c31=> ?_)
 exact zr<|za R R<|zn<|zt<|z1 R R (rI (Pit.err_no fun h=>by obtain ⟨⟨h1,h2,h3,h4,h5,h6⟩,_⟩:=h;omega))
 refine zi<|zs<|zs<|?_
 have hin:p.inR:=by refine Pit.inR_mk ?_ ?_ ?_ ?_ ?_ ?_<;>assumption
 refine Ag (by kernel_rfl)<|zp (Ae (s':= .d (.agg (Pit.c p))) (Ac (Ad R R Hf R lb)) (by kernel_rfl))<|XL.call1 R R (Uv _ (by assumption)) R<|za R R<|znr<|zm R R<|zp (Au R R R)<|zm R R<|?_
 refine XL.dec 36 R (fun g36=> ?_) (fun g36=> ?_)
 exact zk 2 R<|zq R R R<|zn<|Av (by kernel_rfl) R<|zr<|za R R<|zn<|zt<|z1 R R (rI (Pit.err_no fun h=>by obtain ⟨_,h1,h2⟩:=h;omega))
 refine zm R R<|zp (Bb R R R)<|zq R R R<|zn<|?_
 refine zd R (fun c39=> ?_) (fun c39=> ?_)
 exact zr<|za R R<|zn<|zt<|z1 R R (rI (Pit.err_no fun h=>by obtain ⟨_,h1,h2⟩:=h;omega))
 exact zi<|zr<|za R R<|zn<|zt<|z1 R R (rI (Pit.err_ok ⟨hin,by omega,by omega⟩))
theorem Pit.err_num {p:Pit} (h:p.err≠0):0=p.num∧p.err=18:=by unfold Pit.err at h ⊢;unfold Pit.num;split<;>simp_all
theorem Pit.of_err {p:Pit} (h:¬p.err≠0):p.good:=by unfold Pit.err at h;split at h<;>simp_all
theorem Pit.num_ok {p:Pit} (h:p.good):p.num=p.n:=by rw [Pit.num,if_pos h]
theorem Pit.num_bd (p:Pit):0≤p.num∧p.num≤127:=by
 unfold Pit.num
 split
 ·rename_i h;exact h.2
 ·omega
theorem Ahb (p:Pit):XC Tryz.prog 204 [.agg (Pit.c p)] (fun r=>r= .tup [dI p.num,dI p.err]):=by
 refine An Aaz Tryz.func204 R R lb<|zr<|XL.step R (Ap 1 (l:= [.d (dI p.step), .d (dI p.alter), .d (dI p.oct)]) R R (by kernel_rfl))<|za R R<|za R R<|zn<|zs<|zr<|zp (Ae (s':= .d (.agg (Pit.c p))) (Ac (Ad R R Hf R lb)) (by kernel_rfl))<|XL.call1 R R (Ajf _) R<|za R R<|znr<|zm R R<|zp (A1 R R R)<|?_
 refine zn<|?_
 refine zd R (fun c8=> ?_) (fun c8=> ?_)
 refine zr<|zm R R<|za R R<|za R R<|zn<|zt<|?_
 exact A6 R (RV.tmp R R) (RV.tmp R R) (r2 (rI (Pit.err_num c8).1) R)
 refine zi<|zs<|?_
 have hg:=Pit.of_err c8
 have hin:=hg.1
 refine Ag (by kernel_rfl)<|zp (Ae (s':= .d (.agg (Pit.c p))) (Ac (Ad R R Hf R lb)) (by kernel_rfl))<|XL.call1 R R (Uv _ (by assumption)) R<|za R R<|za R R<|zn<|zt<|?_
 exact A6 R (RV.tmp R R) (RV.tmp R R) (r2 (rI (Pit.num_ok hg).symm) (rI (Pit.err_ok hg)))
theorem Pt (p:Pit):XC Tryz.prog 187 [.agg (Pit.c p)] (fun r=>r= .tup [dI p.num,dI p.err]):=by
 have hb:=p.num_bd
 refine An Abe Tryz.func187 R R lb<|zr<|XL.step R (Ap 1 (l:= [.d (dI p.step), .d (dI p.alter), .d (dI p.oct)]) R R (by kernel_rfl))<|za R R<|za R R<|znr<|zp (Ae (s':= .d (.agg (Pit.c p))) (Ac (Ad R R Hf R lb)) (by kernel_rfl))<|XL.call1 R R (Ahb _) R<|zm R R<|zp (A0 R R R)<|zp (A0 R R R)<|za R R<|za R R<|zn<|?_
 refine zs<|zr<|zm R R<|zp (A1 R R R)<|zm R R<|?_
 refine XL.dec 13 R (fun g13=> ?_) (fun g13=> ?_)
 refine zk 2 R<|zq R R R<|zm R R<|zk 2 R<|zq R R R<|zn<|Av (by kernel_rfl) R<|zr<|za R R<|za R R<|zn<|zt<|?_
 exact A6 R (RV.tmp R R) (RV.tmp R R) (r2 (rI (Pit.err_num g13).1) (rI (Pit.err_num g13).2.symm))
 refine zm R R<|zp (Au R R R)<|zq R R R<|zm R R<|?_
 refine XL.dec 17 R (fun g17=> ?_) (fun g17=> ?_)
 refine zk 2 R<|zq R R R<|zn<|Av (by kernel_rfl) R<|zr<|za R R<|za R R<|zn<|zt<|?_
 exact A6 R (RV.tmp R R) (RV.tmp R R) (by exfalso;omega)
 refine zm R R<|zp (Bb R R R)<|zq R R R<|zn<|?_
 refine zd R (fun c20=> ?_) (fun c20=> ?_)
 refine zr<|za R R<|za R R<|zn<|zt<|?_
 exact A6 R (RV.tmp R R) (RV.tmp R R) (by exfalso;omega)
 refine zi<|zr<|zm R R<|za R R<|za R R<|zn<|zt<|?_
 exact A6 R (RV.tmp R R) (RV.tmp R R) (r2 R (rI (Pit.err_ok (Pit.of_err g13))))
end Go.Proofs.YtaafemnkamfgnaaGreat
namespace Go.Proofs.YtaafemnkamfgnaaGreat
open Go.RowKit
theorem Ci {P:Program} {w:World} (d t:Nat) (h:P.underlying t=some (.int .i64)) (a b:Int):(Op.equalIn (d+1) t (.int .i64 a) (.int .i64 b)).run P w= .ok (decide (a=b)) w:=by
 rw [run_equalIn_int w d t .i64 .i64 a b h];by_cases e:a=b<;>simp [e]
theorem Nm {P:Program} {w:World} (d t:Nat) (h:P.underlying t=some .bool) (a b:Bool):(Op.equalIn (d+1) t (.bool a) (.bool b)).run P w= .ok (decide (a=b)) w:=by
 rw [run_equalIn_bool' w d t a b h];cases a<;>cases b<;>rfl
theorem Af8 {P:Program} {w:World} (d t:Nat) (h:P.underlying t=some .string) (a b:ByteArray):(Op.equalIn (d+1) t (.string a) (.string b)).run P w= .ok (decide (a.toList=b.toList)) w:=by
 rw [run_equalIn_string w d t a b h];by_cases e:a.toList=b.toList<;>simp [e]
theorem Eb {P:Program} {t:TypeId} {fs:Array Field} (h:P.underlying t=some (.struct fs)):P.fieldsOf t=fs:=by unfold Program.fieldsOf;rw [h]
theorem Bc {P:Program} {t:TypeId} (hs:scB P t=true) (w:World) {cs:Array Value} {off:Nat} {v:Value} (h:cs[off]? =some v):(part t cs off).run P w= .ok v w:=by
 unfold part;simp only [Sem.run_bind,scB.isAgg hs,Result.andThen_ok,Bool.false_eq_true,if_false,h,Sem.run_pure]
theorem K8 {P:Program} {t n:Nat} (hs:aggB P t n=true) (w:World) {cs ds:Array Value} {off:Nat} (h:cs.extract off (off+n)=ds):(part t cs off).run P w= .ok (.agg ds) w:=by
 unfold part;simp only [Sem.run_bind,(aggB.isAgg hs w).1,Result.andThen_ok,if_true,(aggB.isAgg hs w).2,h,Sem.run_pure]
section
variable {P:Program} {w:World} {d:Nat} {xs ys:Array Value} {f:Field} {fs:List Field} {a b:Value} {p q:Prop} [Decidable p] [Decidable q]
theorem Cb (hn : f.name ≠ "_") (ha : (part f.type xs f.offset).run P w = .ok a w) (hb : (part f.type ys f.offset).run P w = .ok b w) (he : (Op.equalIn d f.type a b).run P w = .ok (decide p) w) (hr : (Op.eqFields d xs ys fs).run P w = .ok (decide q) w) :
  (Op.eqFields d xs ys (f::fs)).run P w= .ok (decide (p∧q)) w:=by
 unfold Op.eqFields
 rw [if_pos hn]
 simp only [Sem.run_bind,ha,hb,he,Result.andThen_ok,Sem.run_ite,hr,Sem.run_pure]
 by_cases h:p<;>simp [h]
theorem Gj (hn : f.name ≠ "_") (ha : (part f.type xs f.offset).run P w = .ok a w) (hb : (part f.type ys f.offset).run P w = .ok b w) (he : (Op.equalIn d f.type a b).run P w = .ok (decide p) w) :
  (Op.eqFields d xs ys [f]).run P w= .ok (decide p) w:=by
 unfold Op.eqFields
 rw [if_pos hn]
 simp only [Sem.run_bind,ha,hb,he,Result.andThen_ok,Sem.run_ite,Op.eqFields,Sem.run_pure]
 by_cases h:p<;>simp [h]
end
theorem Vy (d:Nat) (w:World) (a0:Int) (a1:Int) (b0:Int) (b1:Int):(Op.equalIn (d+2) 23 (.agg #[.int .i64 a0, .int .i64 a1]) (.agg #[.int .i64 b0, .int .i64 b1])).run Tryz.prog w= .ok (decide (a0=b0∧a1=b1)) w:=by
 rw [show d+2=(d+1)+1 from rfl,run_equalIn_struct w (d+1) 23 _ _ (by kernel_rfl) (by kernel_rfl),Eb Tryz.underlying23]
 exact Cb (by decide) (Bc Ai w rfl) (Bc Ai w rfl) (Ci (d+0) 3 Tryz.underlying3 _ _) (Gj (by decide) (Bc Ai w rfl) (Bc Ai w rfl) (Ci (d+0) 3 Tryz.underlying3 _ _))
theorem Amj {t':TypeId} {o:Oper} {e:Operand→S} {h:Xh} {x y:Operand} {a0:Int} {a1:Int} {b0:Int} {b1:Int} (ho:o.op= .binOp .eql 23 x y t') (hx:e x= .d (.agg [.v (.int .i64 a0), .v (.int .i64 a1)])) (hy:e y= .d (.agg [.v (.int .i64 b0), .v (.int .i64 b1)])):A9 Tryz.prog o e h (.d (.v (.bool (decide (a0=b0∧a1=b1))))):=by
 refine Eo ho hx hy rfl rfl (by kernel_rfl) fun w=> ?_
 refine (run_eql_struct w 23 #[.int .i64 a0, .int .i64 a1] #[.int .i64 b0, .int .i64 b1]).trans ?_
 have hq:=Vy 9998 w a0 a1 b0 b1
 simp only [Nat.reduceAdd] at hq
 rw [hq]
 simp only [Result.andThen_ok]
theorem Amd {t':TypeId} {o:Oper} {e:Operand→S} {h:Xh} {x y:Operand} {a0:Int} {a1:Int} {b0:Int} {b1:Int} (ho:o.op= .binOp .neq 23 x y t') (hx:e x= .d (.agg [.v (.int .i64 a0), .v (.int .i64 a1)])) (hy:e y= .d (.agg [.v (.int .i64 b0), .v (.int .i64 b1)])):A9 Tryz.prog o e h (.d (.v (.bool (decide (¬(a0=b0∧a1=b1)))))):=by
 refine Eo ho hx hy rfl rfl (by kernel_rfl) fun w=> ?_
 refine (run_neq_struct w 23 #[.int .i64 a0, .int .i64 a1] #[.int .i64 b0, .int .i64 b1]).trans ?_
 have hq:=Vy 9998 w a0 a1 b0 b1
 simp only [Nat.reduceAdd] at hq
 rw [hq]
 simp only [Result.andThen_ok,decide_not]
theorem Aqt (d:Nat) (w:World) (a0:Int) (a1:Int) (a2:Int) (a3:Int) (a4:Int) (b0:Int) (b1:Int) (b2:Int) (b3:Int) (b4:Int):(Op.equalIn (d+2) 49 (.agg #[.int .i64 a0, .int .i64 a1, .int .i64 a2, .int .i64 a3, .int .i64 a4]) (.agg #[.int .i64 b0, .int .i64 b1, .int .i64 b2, .int .i64 b3, .int .i64 b4])).run Tryz.prog w= .ok (decide (a0=b0∧a1=b1∧a2=b2∧a3=b3∧a4=b4)) w:=by
 rw [show d+2=(d+1)+1 from rfl,run_equalIn_struct w (d+1) 49 _ _ (by kernel_rfl) (by kernel_rfl),Eb Tryz.underlying49]
 exact Cb (by decide) (Bc Ai w rfl) (Bc Ai w rfl) (Ci (d+0) 3 Tryz.underlying3 _ _) (Cb (by decide) (Bc Ai w rfl) (Bc Ai w rfl) (Ci (d+0) 3 Tryz.underlying3 _ _) (Cb (by decide) (Bc Ai w rfl) (Bc Ai w rfl) (Ci (d+0) 3 Tryz.underlying3 _ _) (Cb (by decide) (Bc Ai w rfl) (Bc Ai w rfl) (Ci (d+0) 3 Tryz.underlying3 _ _) (Gj (by decide) (Bc Ai w rfl) (Bc Ai w rfl) (Ci (d+0) 3 Tryz.underlying3 _ _)))))
theorem Amh {t':TypeId} {o:Oper} {e:Operand→S} {h:Xh} {x y:Operand} {a0:Int} {a1:Int} {a2:Int} {a3:Int} {a4:Int} {b0:Int} {b1:Int} {b2:Int} {b3:Int} {b4:Int} (ho:o.op= .binOp .eql 49 x y t') (hx:e x= .d (.agg [.v (.int .i64 a0), .v (.int .i64 a1), .v (.int .i64 a2), .v (.int .i64 a3), .v (.int .i64 a4)])) (hy:e y= .d (.agg [.v (.int .i64 b0), .v (.int .i64 b1), .v (.int .i64 b2), .v (.int .i64 b3), .v (.int .i64 b4)])):A9 Tryz.prog o e h (.d (.v (.bool (decide (a0=b0∧a1=b1∧a2=b2∧a3=b3∧a4=b4))))):=by
 refine Eo ho hx hy rfl rfl (by kernel_rfl) fun w=> ?_
 refine (run_eql_struct w 49 #[.int .i64 a0, .int .i64 a1, .int .i64 a2, .int .i64 a3, .int .i64 a4] #[.int .i64 b0, .int .i64 b1, .int .i64 b2, .int .i64 b3, .int .i64 b4]).trans ?_
 have hq:=Aqt 9998 w a0 a1 a2 a3 a4 b0 b1 b2 b3 b4
 simp only [Nat.reduceAdd] at hq
 rw [hq]
 simp only [Result.andThen_ok]
theorem Aqs (d:Nat) (w:World) (a0:Int) (a1:Int) (b0:Int) (b1:Int):(Op.equalIn (d+2) 54 (.agg #[.int .i64 a0, .int .i64 a1]) (.agg #[.int .i64 b0, .int .i64 b1])).run Tryz.prog w= .ok (decide (a0=b0∧a1=b1)) w:=by
 rw [show d+2=(d+1)+1 from rfl,run_equalIn_struct w (d+1) 54 _ _ (by kernel_rfl) (by kernel_rfl),Eb Tryz.underlying54]
 exact Cb (by decide) (Bc Ai w rfl) (Bc Ai w rfl) (Ci (d+0) 3 Tryz.underlying3 _ _) (Gj (by decide) (Bc Ai w rfl) (Bc Ai w rfl) (Ci (d+0) 3 Tryz.underlying3 _ _))
theorem Amg {t':TypeId} {o:Oper} {e:Operand→S} {h:Xh} {x y:Operand} {a0:Int} {a1:Int} {b0:Int} {b1:Int} (ho:o.op= .binOp .eql 54 x y t') (hx:e x= .d (.agg [.v (.int .i64 a0), .v (.int .i64 a1)])) (hy:e y= .d (.agg [.v (.int .i64 b0), .v (.int .i64 b1)])):A9 Tryz.prog o e h (.d (.v (.bool (decide (a0=b0∧a1=b1))))):=by
 refine Eo ho hx hy rfl rfl (by kernel_rfl) fun w=> ?_
 refine (run_eql_struct w 54 #[.int .i64 a0, .int .i64 a1] #[.int .i64 b0, .int .i64 b1]).trans ?_
 have hq:=Aqs 9998 w a0 a1 b0 b1
 simp only [Nat.reduceAdd] at hq
 rw [hq]
 simp only [Result.andThen_ok]
theorem Aqr (d:Nat) (w:World) (a0:Int) (a1:Int) (b0:Int) (b1:Int):(Op.equalIn (d+2) 84 (.agg #[.int .i64 a0, .int .i64 a1]) (.agg #[.int .i64 b0, .int .i64 b1])).run Tryz.prog w= .ok (decide (a0=b0∧a1=b1)) w:=by
 rw [show d+2=(d+1)+1 from rfl,run_equalIn_struct w (d+1) 84 _ _ (by kernel_rfl) (by kernel_rfl),Eb Tryz.underlying84]
 exact Cb (by decide) (Bc Ai w rfl) (Bc Ai w rfl) (Ci (d+0) 3 Tryz.underlying3 _ _) (Gj (by decide) (Bc Ai w rfl) (Bc Ai w rfl) (Ci (d+0) 3 Tryz.underlying3 _ _))
theorem Zc {t':TypeId} {o:Oper} {e:Operand→S} {h:Xh} {x y:Operand} {a0:Int} {a1:Int} {b0:Int} {b1:Int} (ho:o.op= .binOp .neq 84 x y t') (hx:e x= .d (.agg [.v (.int .i64 a0), .v (.int .i64 a1)])) (hy:e y= .d (.agg [.v (.int .i64 b0), .v (.int .i64 b1)])):A9 Tryz.prog o e h (.d (.v (.bool (decide (¬(a0=b0∧a1=b1)))))):=by
 refine Eo ho hx hy rfl rfl (by kernel_rfl) fun w=> ?_
 refine (run_neq_struct w 84 #[.int .i64 a0, .int .i64 a1] #[.int .i64 b0, .int .i64 b1]).trans ?_
 have hq:=Aqr 9998 w a0 a1 b0 b1
 simp only [Nat.reduceAdd] at hq
 rw [hq]
 simp only [Result.andThen_ok,decide_not]
theorem Anu (d:Nat) (w:World) (a0:Int) (a1:Int) (a2:Bool) (b0:Int) (b1:Int) (b2:Bool):(Op.equalIn (d+2) 119 (.agg #[.int .i64 a0, .int .i64 a1, .bool a2]) (.agg #[.int .i64 b0, .int .i64 b1, .bool b2])).run Tryz.prog w= .ok (decide (a0=b0∧a1=b1∧a2=b2)) w:=by
 rw [show d+2=(d+1)+1 from rfl,run_equalIn_struct w (d+1) 119 _ _ (by kernel_rfl) (by kernel_rfl),Eb Tryz.underlying119]
 exact Cb (by decide) (Bc Ai w rfl) (Bc Ai w rfl) (Ci (d+0) 3 Tryz.underlying3 _ _) (Cb (by decide) (Bc Ai w rfl) (Bc Ai w rfl) (Ci (d+0) 3 Tryz.underlying3 _ _) (Gj (by decide) (Bc M0 w rfl) (Bc M0 w rfl) (Nm (d+0) 4 Tryz.underlying4 _ _)))
theorem Wm {t':TypeId} {o:Oper} {e:Operand→S} {h:Xh} {x y:Operand} {a0:Int} {a1:Int} {a2:Bool} {b0:Int} {b1:Int} {b2:Bool} (ho:o.op= .binOp .neq 119 x y t') (hx:e x= .d (.agg [.v (.int .i64 a0), .v (.int .i64 a1), .v (.bool a2)])) (hy:e y= .d (.agg [.v (.int .i64 b0), .v (.int .i64 b1), .v (.bool b2)])):A9 Tryz.prog o e h (.d (.v (.bool (decide (¬(a0=b0∧a1=b1∧a2=b2)))))):=by
 refine Eo ho hx hy rfl rfl (by kernel_rfl) fun w=> ?_
 refine (run_neq_struct w 119 #[.int .i64 a0, .int .i64 a1, .bool a2] #[.int .i64 b0, .int .i64 b1, .bool b2]).trans ?_
 have hq:=Anu 9998 w a0 a1 a2 b0 b1 b2
 simp only [Nat.reduceAdd] at hq
 rw [hq]
 simp only [Result.andThen_ok,decide_not]
theorem Ans (d:Nat) (w:World) (a0:Int) (a1:Int) (a2:Int) (a3:Int) (b0:Int) (b1:Int) (b2:Int) (b3:Int):(Op.equalIn (d+2) 157 (.agg #[.int .i64 a0, .int .i64 a1, .int .i64 a2, .int .i64 a3]) (.agg #[.int .i64 b0, .int .i64 b1, .int .i64 b2, .int .i64 b3])).run Tryz.prog w= .ok (decide (a0=b0∧a1=b1∧a2=b2∧a3=b3)) w:=by
 rw [show d+2=(d+1)+1 from rfl,run_equalIn_struct w (d+1) 157 _ _ (by kernel_rfl) (by kernel_rfl),Eb Tryz.underlying157]
 exact Cb (by decide) (Bc Ai w rfl) (Bc Ai w rfl) (Ci (d+0) 3 Tryz.underlying3 _ _) (Cb (by decide) (Bc Ai w rfl) (Bc Ai w rfl) (Ci (d+0) 3 Tryz.underlying3 _ _) (Cb (by decide) (Bc Ai w rfl) (Bc Ai w rfl) (Ci (d+0) 3 Tryz.underlying3 _ _) (Gj (by decide) (Bc Ai w rfl) (Bc Ai w rfl) (Ci (d+0) 3 Tryz.underlying3 _ _))))
theorem Ajj {t':TypeId} {o:Oper} {e:Operand→S} {h:Xh} {x y:Operand} {a0:Int} {a1:Int} {a2:Int} {a3:Int} {b0:Int} {b1:Int} {b2:Int} {b3:Int} (ho:o.op= .binOp .neq 157 x y t') (hx:e x= .d (.agg [.v (.int .i64 a0), .v (.int .i64 a1), .v (.int .i64 a2), .v (.int .i64 a3)])) (hy:e y= .d (.agg [.v (.int .i64 b0), .v (.int .i64 b1), .v (.int .i64 b2), .v (.int .i64 b3)])):A9 Tryz.prog o e h (.d (.v (.bool (decide (¬(a0=b0∧a1=b1∧a2=b2∧a3=b3)))))):=by
 refine Eo ho hx hy rfl rfl (by kernel_rfl) fun w=> ?_
 refine (run_neq_struct w 157 #[.int .i64 a0, .int .i64 a1, .int .i64 a2, .int .i64 a3] #[.int .i64 b0, .int .i64 b1, .int .i64 b2, .int .i64 b3]).trans ?_
 have hq:=Ans 9998 w a0 a1 a2 a3 b0 b1 b2 b3
 simp only [Nat.reduceAdd] at hq
 rw [hq]
 simp only [Result.andThen_ok,decide_not]
theorem Aah (d:Nat) (w:World) (a0:ByteArray) (a1:Int) (b0:ByteArray) (b1:Int):(Op.equalIn (d+2) 171 (.agg #[.string a0, .int .i64 a1]) (.agg #[.string b0, .int .i64 b1])).run Tryz.prog w= .ok (decide (a0.toList=b0.toList∧a1=b1)) w:=by
 rw [show d+2=(d+1)+1 from rfl,run_equalIn_struct w (d+1) 171 _ _ (by kernel_rfl) (by kernel_rfl),Eb Tryz.underlying171]
 exact Cb (by decide) (Bc H9 w rfl) (Bc H9 w rfl) (Af8 (d+0) 9 Tryz.underlying9 _ _) (Gj (by decide) (Bc Ai w rfl) (Bc Ai w rfl) (Ci (d+0) 3 Tryz.underlying3 _ _))
theorem Ajm {t':TypeId} {o:Oper} {e:Operand→S} {h:Xh} {x y:Operand} {a0:ByteArray} {a1:Int} {b0:ByteArray} {b1:Int} (ho:o.op= .binOp .eql 171 x y t') (hx:e x= .d (.agg [.v (.string a0), .v (.int .i64 a1)])) (hy:e y= .d (.agg [.v (.string b0), .v (.int .i64 b1)])):A9 Tryz.prog o e h (.d (.v (.bool (decide (a0.toList=b0.toList∧a1=b1))))):=by
 refine Eo ho hx hy rfl rfl (by kernel_rfl) fun w=> ?_
 refine (run_eql_struct w 171 #[.string a0, .int .i64 a1] #[.string b0, .int .i64 b1]).trans ?_
 have hq:=Aah 9998 w a0 a1 b0 b1
 simp only [Nat.reduceAdd] at hq
 rw [hq]
 simp only [Result.andThen_ok]
theorem Aji {t':TypeId} {o:Oper} {e:Operand→S} {h:Xh} {x y:Operand} {a0:ByteArray} {a1:Int} {b0:ByteArray} {b1:Int} (ho:o.op= .binOp .neq 171 x y t') (hx:e x= .d (.agg [.v (.string a0), .v (.int .i64 a1)])) (hy:e y= .d (.agg [.v (.string b0), .v (.int .i64 b1)])):A9 Tryz.prog o e h (.d (.v (.bool (decide (¬(a0.toList=b0.toList∧a1=b1)))))):=by
 refine Eo ho hx hy rfl rfl (by kernel_rfl) fun w=> ?_
 refine (run_neq_struct w 171 #[.string a0, .int .i64 a1] #[.string b0, .int .i64 b1]).trans ?_
 have hq:=Aah 9998 w a0 a1 b0 b1
 simp only [Nat.reduceAdd] at hq
 rw [hq]
 simp only [Result.andThen_ok,decide_not]
theorem Aag (d:Nat) (w:World) (a0:Int) (a1:Int) (a2:Int) (b0:Int) (b1:Int) (b2:Int):(Op.equalIn (d+2) 198 (.agg #[.int .i64 a0, .int .i64 a1, .int .i64 a2]) (.agg #[.int .i64 b0, .int .i64 b1, .int .i64 b2])).run Tryz.prog w= .ok (decide (a0=b0∧a1=b1∧a2=b2)) w:=by
 rw [show d+2=(d+1)+1 from rfl,run_equalIn_struct w (d+1) 198 _ _ (by kernel_rfl) (by kernel_rfl),Eb Tryz.underlying198]
 exact Cb (by decide) (Bc Ai w rfl) (Bc Ai w rfl) (Ci (d+0) 3 Tryz.underlying3 _ _) (Cb (by decide) (Bc Ai w rfl) (Bc Ai w rfl) (Ci (d+0) 3 Tryz.underlying3 _ _) (Gj (by decide) (Bc Ai w rfl) (Bc Ai w rfl) (Ci (d+0) 3 Tryz.underlying3 _ _)))
theorem Anr (d:Nat) (w:World) (a0:Int) (a1:Int) (a2:Int) (a3:Bool) (a4:Int) (b0:Int) (b1:Int) (b2:Int) (b3:Bool) (b4:Int):(Op.equalIn (d+3) 200 (.agg #[.int .i64 a0, .int .i64 a1, .int .i64 a2, .bool a3, .int .i64 a4]) (.agg #[.int .i64 b0, .int .i64 b1, .int .i64 b2, .bool b3, .int .i64 b4])).run Tryz.prog w= .ok (decide ((a0=b0∧a1=b1∧a2=b2)∧a3=b3∧a4=b4)) w:=by
 rw [show d+3=(d+2)+1 from rfl,run_equalIn_struct w (d+2) 200 _ _ (by kernel_rfl) (by kernel_rfl),Eb Tryz.underlying200]
 exact Cb (by decide) (K8 Hf w rfl) (K8 Hf w rfl) (Aag (d) w _ _ _ _ _ _) (Cb (by decide) (Bc M0 w rfl) (Bc M0 w rfl) (Nm (d+1) 4 Tryz.underlying4 _ _) (Gj (by decide) (Bc Ai w rfl) (Bc Ai w rfl) (Ci (d+1) 3 Tryz.underlying3 _ _)))
theorem Ajh {t':TypeId} {o:Oper} {e:Operand→S} {h:Xh} {x y:Operand} {a0:Int} {a1:Int} {a2:Int} {a3:Bool} {a4:Int} {b0:Int} {b1:Int} {b2:Int} {b3:Bool} {b4:Int} (ho:o.op= .binOp .neq 200 x y t') (hx:e x= .d (.agg [.v (.int .i64 a0), .v (.int .i64 a1), .v (.int .i64 a2), .v (.bool a3), .v (.int .i64 a4)])) (hy:e y= .d (.agg [.v (.int .i64 b0), .v (.int .i64 b1), .v (.int .i64 b2), .v (.bool b3), .v (.int .i64 b4)])):A9 Tryz.prog o e h (.d (.v (.bool (decide (¬((a0=b0∧a1=b1∧a2=b2)∧a3=b3∧a4=b4)))))):=by
 refine Eo ho hx hy rfl rfl (by kernel_rfl) fun w=> ?_
 refine (run_neq_struct w 200 #[.int .i64 a0, .int .i64 a1, .int .i64 a2, .bool a3, .int .i64 a4] #[.int .i64 b0, .int .i64 b1, .int .i64 b2, .bool b3, .int .i64 b4]).trans ?_
 have hq:=Anr 9997 w a0 a1 a2 a3 a4 b0 b1 b2 b3 b4
 simp only [Nat.reduceAdd] at hq
 rw [hq]
 simp only [Result.andThen_ok,decide_not]
theorem Anq (d:Nat) (w:World) (a0:Int) (a1:Int) (a2:Int) (a3:Int) (a4:Bool) (b0:Int) (b1:Int) (b2:Int) (b3:Int) (b4:Bool):(Op.equalIn (d+3) 203 (.agg #[.int .i64 a0, .int .i64 a1, .int .i64 a2, .int .i64 a3, .bool a4]) (.agg #[.int .i64 b0, .int .i64 b1, .int .i64 b2, .int .i64 b3, .bool b4])).run Tryz.prog w= .ok (decide ((a0=b0∧a1=b1∧a2=b2)∧a3=b3∧a4=b4)) w:=by
 rw [show d+3=(d+2)+1 from rfl,run_equalIn_struct w (d+2) 203 _ _ (by kernel_rfl) (by kernel_rfl),Eb Tryz.underlying203]
 exact Cb (by decide) (K8 Hf w rfl) (K8 Hf w rfl) (Aag (d) w _ _ _ _ _ _) (Cb (by decide) (Bc Ai w rfl) (Bc Ai w rfl) (Ci (d+1) 3 Tryz.underlying3 _ _) (Gj (by decide) (Bc M0 w rfl) (Bc M0 w rfl) (Nm (d+1) 4 Tryz.underlying4 _ _)))
theorem Ajg {t':TypeId} {o:Oper} {e:Operand→S} {h:Xh} {x y:Operand} {a0:Int} {a1:Int} {a2:Int} {a3:Int} {a4:Bool} {b0:Int} {b1:Int} {b2:Int} {b3:Int} {b4:Bool} (ho:o.op= .binOp .neq 203 x y t') (hx:e x= .d (.agg [.v (.int .i64 a0), .v (.int .i64 a1), .v (.int .i64 a2), .v (.int .i64 a3), .v (.bool a4)])) (hy:e y= .d (.agg [.v (.int .i64 b0), .v (.int .i64 b1), .v (.int .i64 b2), .v (.int .i64 b3), .v (.bool b4)])):A9 Tryz.prog o e h (.d (.v (.bool (decide (¬((a0=b0∧a1=b1∧a2=b2)∧a3=b3∧a4=b4)))))):=by
 refine Eo ho hx hy rfl rfl (by kernel_rfl) fun w=> ?_
 refine (run_neq_struct w 203 #[.int .i64 a0, .int .i64 a1, .int .i64 a2, .int .i64 a3, .bool a4] #[.int .i64 b0, .int .i64 b1, .int .i64 b2, .int .i64 b3, .bool b4]).trans ?_
 have hq:=Anq 9997 w a0 a1 a2 a3 a4 b0 b1 b2 b3 b4
 simp only [Nat.reduceAdd] at hq
 rw [hq]
 simp only [Result.andThen_ok,decide_not]
end Go.Proofs.YtaafemnkamfgnaaGreat
namespace Go.Proofs.YtaafemnkamfgnaaGreat
open Go.RowKit
def B0 (n m:Int):Int:=if n<0∨m<n then 2 else 0
theorem Ug {n m:Int} (h:n<0∨m<n):2=B0 n m:=by rw [B0,if_pos h]
theorem Agl {n m:Int} (h:¬n<0) (h':¬m<n):0=B0 n m:=by rw [B0,if_neg (by omega)]
theorem Cr (n m:Int):XC Tryz.prog 161 [.v (.int .i64 n), .v (.int .i64 m)] (fun r=>r=dI (B0 n m)):=by
 refine An Ab2 Tryz.func161 R R lb<|zr<|za R R<|zn<|zs<|zr<|zm R R<|zp (Au R R R)<|zm R R<|?_
 refine XL.dec 7 R (fun g7=> ?_) (fun g7=> ?_)
 exact zk 3 R<|zq R R R<|zn<|Av (by kernel_rfl) R<|zr<|za R R<|zn<|zt<|z1 R R (rI (Ug (by omega)))
 refine zm R R<|zm R R<|zp (Bb R R R)<|zq R R R<|zn<|?_
 refine zd R (fun c11=> ?_) (fun c11=> ?_)
 exact zr<|za R R<|zn<|zt<|z1 R R (rI (Ug (by omega)))
 exact zi<|zr<|za R R<|zn<|zt<|z1 R R (rI (Agl g7 c11))
def Es:List Int→Int
 | []=>0
 |e::l=>if e≠0 then e else Es l
theorem Adm {l:List Int} {k:Nat} {x:Int} (h:l[k]? =some x) (hx:¬x≠0):Es (l.drop k)=Es (l.drop (k+1)):=by rw [B5 h,Es,if_neg hx]
theorem Ahv {l:List Int} {k:Nat} {x:Int} (h:l[k]? =some x) (hx:x≠0):Es (l.drop k)=x:=by rw [B5 h,Es,if_pos hx]
theorem Ahw {l:List Int} {k:Nat} (h:k=l.length):Es (l.drop k)=0:=by rw [h,List.drop_length];rfl
theorem Iw (l:List Int):XC Tryz.prog 160 [.sl 1 (Cg l)] (fun r=>r=dI (Es l)):=by
 refine An Ab3 Tryz.func160 R R lb<|zr<|za R R<|zn<|zs<|zr<|zm R R<|XL.len R R R Tryz.underlying243 fun hl6=>zm R R<|zn<|Ah<|?_
 refine Az (α:=Nat) (fun k=>k≤l.length∧Es (l.drop k)=Es l) (fun k=>mkF [(5, .d (.sl 1 (Cg l))),(6, .d (dI l.length)),(7, .d (dI k))]) (fun k=>mkH []) (fun k=>l.length - k) (0) (⟨Nat.zero_le _,by rw [List.drop_zero]⟩) ?_ ?_ ?_
 exact fz ⟨sr,sr,sr,trivial⟩
 exact HSub.nil
 intro k hk0
 obtain ⟨hk,hf⟩:=hk0
 refine zr<|zp (Au R R R)<|zn<|zs<|?_
 refine zd R (fun c8=> ?_) (fun c8=> ?_)
 have hk0a:k<l.length:=by omega
 obtain ⟨x0,hx0⟩:=Ar hk0a
 refine zi<|zs<|Ah<|zr<|zp (Ao R R R As0 hx0)<|zp (Bg R R Atk)<|za R R<|znr<|zm R R<|zp (A1 R R R)<|zn<|?_
 refine zd R (fun c12=> ?_) (fun c12=> ?_)
 exact zr<|zm R R<|za R R<|zn<|zt<|z1 R R (rI (by rw [←hf,Ahv hx0 c12]))
 refine zi<|Ag (by kernel_rfl)<|zp (Al R R R (by omega) (by omega))<|zm R R<|zn<|?_
 exact Am (k+1) (⟨by omega,by rw [←Adm hx0 c12];exact hf⟩) (by omega) (fz ⟨sr,sr,sr,trivial⟩) (HSub.nil)
 have hk0b:k=l.length:=by omega
 exact At<|zr<|za R R<|zn<|zt<|z1 R R (rI (by rw [←hf,Ahw hk0b]))
def Rk (h:Hd):Int:=Es [h.p.err,B0 h.sh 2]
theorem Ao1 (h:Hd):XC Tryz.prog 186 [.agg (Hd.c h)] (fun r=>r=dI (Rk h)):=by
 refine An Abf Tryz.func186 R R lb<|zr<|XL.step R (Ap 1 (l:= [.d (dI h.p.step), .d (dI h.p.alter), .d (dI h.p.oct), .d (dB h.tied), .d (dI h.sh)]) R R (by kernel_rfl))<|za R R<|znr<|zp (Aa R R Xf)<|zp (Ae (s':= .d (.agg (Pit.c h.p))) (Ac (Ad R R Hf R lb)) (by kernel_rfl))<|XL.call1 R R (Pt _) R<|zm R R<|zp (A0 R R R)<|?_
 exact zp (A0 R R R)<|za R R<|za R R<|znr<|zm R R<|zp (Aa R R Xe)<|zp (Ab R R Ai R R)<|XL.call1 R R (Cr _ _) R<|XL.step R (Hg (l:=Cg [h.p.err,(B0 h.sh 2)]) R Tryz.underlying243 Nw Ju (by kernel_rfl) R (by omega) (by omega))<|XL.call1 R R (Iw _) R<|za R R<|zn<|zt<|z1 R R (R)
def Rx (l:List Hd):Int:=match l.getLast? with|some h=>h.p.num|none=> -1
theorem Qv {l:List Hd} {k:Nat} {x:Hd} (h:l[k]? =some x):Rx (l.take (k+1))=x.p.num:=by rw [B3 h,Rx,List.getLast?_concat]
def H7 (last:Int):List Hd→Int
 | []=>0
 |h::t=>if Rk h≠0 then Rk h else if h.p.num≤last then 25 else H7 h.p.num t
def E2 (l:List Hd):Int:=if l.length=0 then 4 else if 10<l.length then 9 else H7 (-1) l
theorem Ok {l:List Hd} (h1:¬(l.length:Int)=0) (h2:¬10<(l.length:Int)):E2 l=H7 (-1) l:=by rw [E2,if_neg (by omega),if_neg (by omega)]
theorem Z3 (l:List Hd):XC Tryz.prog 165 [.sl 5 (l.map Hd.c)] (fun r=>r=dI (E2 l)):=by
 refine An Aby Tryz.func165 R R lb<|zr<|za R R<|zn<|zs<|Ah<|zr<|zm R R<|XL.len R R R Tryz.underlying55 fun hl11=>zp (Bi R R R)<|za R R<|zn<|?_
 refine zd R (fun c9=> ?_) (fun c9=> ?_)
 exact zr<|za R R<|zn<|zt<|z1 R R (rI (by rw [E2,if_pos (by omega)]))
 refine zr<|zm R R<|XL.len R R R Tryz.underlying55 fun hl15=>zp (Bb R R R)<|za R R<|zn<|?_
 refine zd R (fun c13=> ?_) (fun c13=> ?_)
 exact zr<|za R R<|zn<|zt<|z1 R R (rI (by rw [E2,if_neg (by omega),if_pos (by omega)]))
 refine zi<|zr<|za R R<|zn<|zs<|zr<|zm R R<|XL.len R R R Tryz.underlying55 fun hl18=>zm R R<|zn<|Ah<|?_
 refine Az (α:=Nat) (fun k=>k≤l.length∧H7 (Rx (l.take k)) (l.drop k)=H7 (-1) l) (fun k=>mkF [(3, .d (dI (Rx (l.take k)))),(17, .d (.sl 5 (l.map Hd.c))),(18, .d (dI l.length)),(19, .d (dI k))]) (fun k=>mkH []) (fun k=>l.length - k) (0) (⟨Nat.zero_le _,by rw [List.drop_zero];rfl⟩) ?_ ?_ ?_
 exact fz ⟨sr,sr,sr,sr,trivial⟩
 exact HSub.nil
 intro k hk1
 obtain ⟨hk,hf⟩:=hk1
 refine zr<|zp (Au R R R)<|zn<|zs<|?_
 refine zd R (fun c20=> ?_) (fun c20=> ?_)
 have hk1a:k<l.length:=by omega
 obtain ⟨x1,hx1⟩:=Ar hk1a
 rw [B5 hx1,H7] at hf
 refine zi<|zs<|Ah<|zr<|zp (Ao R R R R0 hx1)<|zp (Ae (s':= .d (.agg (Hd.c x1))) (Ay R R R3 lb) (by kernel_rfl))<|XL.step R (Aq 5 (l:= [.d (dI 0), .d (dI 0), .d (dI 0), .d (dB false), .d (dI 0)]) R S6 (by kernel_rfl))<|?_
 refine XL.step R (Af (l':= [.d (dI x1.p.step), .d (dI x1.p.alter), .d (dI x1.p.oct), .d (dB x1.tied), .d (dI x1.sh)]) R R R R Ym R lb (by kernel_rfl))<|zn<|zs<|zr<|zp (Ae (s':= .d (.agg (Hd.c x1))) (Ac (Ad R R R3 R lb)) (by kernel_rfl))<|XL.call1 R R (Ao1 _) R<|za R R<|znr<|zm R R<|zp (A1 R R R)<|zn<|?_
 refine zd R (fun c26=> ?_) (fun c26=> ?_)
 exact zr<|zm R R<|za R R<|zn<|zt<|z1 R R (rI (by rw [Ok c9 c13, ←hf,if_pos c26]))
 refine zi<|zr<|zp (Aa R R Xf)<|zp (Ae (s':= .d (.agg (Pit.c x1.p))) (Ac (Ad R R Hf R lb)) (by kernel_rfl))<|XL.call1 R R (Pt _) R<|zm R R<|zp (A0 R R R)<|zp (A0 R R R)<|za R R<|za R R<|zn<|zs<|zr<|zm R R<|?_
 refine zm R R<|zp (N1 R R R)<|zn<|?_
 refine zd R (fun c36=> ?_) (fun c36=> ?_)
 exact zr<|za R R<|zn<|zt<|z1 R R (rI (by rw [Ok c9 c13, ←hf,if_neg c26,if_pos c36]))
 refine zi<|Ag (by kernel_rfl)<|zm R R<|za R R<|zn<|Ag (by kernel_rfl)<|zp (Al R R R (by omega) (by omega))<|zm R R<|zn<|?_
 exact Am (k+1) (⟨by omega,by rw [if_neg c26,if_neg c36] at hf;rw [Qv hx1];exact hf⟩) (by omega) (fz ⟨.same (sI (Qv hx1).symm),sr,sr,sr,trivial⟩) (HSub.nil)
 have hk1b:k=l.length:=by omega
 exact At<|zr<|za R R<|zn<|zt<|z1 R R (rI (by rw [Ok c9 c13, ←hf,hk1b,List.drop_length];rfl))
def K3:List Gr→Int
 | []=>0
 |g::t=>if g.p.err≠0 then g.p.err else if g.log<1∨6<g.log then 2 else K3 t
def Is (l:List Gr):Int:=if 8<l.length then 9 else K3 l
theorem Km {l:List Gr} (h2:¬8<(l.length:Int)):Is l=K3 l:=by rw [Is,if_neg (by omega)]
theorem Xc (l:List Gr):XC Tryz.prog 166 [.sl 5 (l.map Gr.c)] (fun r=>r=dI (Is l)):=by
 refine An Abx Tryz.func166 R R lb<|zr<|za R R<|zn<|zs<|zr<|zm R R<|XL.len R R R Tryz.underlying56 fun hl8=>zp (Bb R R R)<|zn<|?_
 refine zd R (fun c9=> ?_) (fun c9=> ?_)
 exact zr<|za R R<|zn<|zt<|z1 R R (rI (by rw [Is,if_pos (by omega)]))
 refine zi<|zs<|zr<|zm R R<|XL.len R R R Tryz.underlying56 fun hl11=>zm R R<|zn<|Ah<|?_
 refine Az (α:=Nat) (fun k=>k≤l.length∧K3 (l.drop k)=K3 l) (fun k=>mkF [(10, .d (.sl 5 (l.map Gr.c))),(11, .d (dI l.length)),(12, .d (dI k))]) (fun k=>mkH []) (fun k=>l.length - k) (0) (⟨Nat.zero_le _,by rw [List.drop_zero]⟩) ?_ ?_ ?_
 exact fz ⟨sr,sr,sr,trivial⟩
 exact HSub.nil
 intro k hk0
 obtain ⟨hk,hf⟩:=hk0
 refine zr<|zp (Au R R R)<|zn<|zs<|?_
 refine zd R (fun c13=> ?_) (fun c13=> ?_)
 have hk0a:k<l.length:=by omega
 obtain ⟨x0,hx0⟩:=Ar hk0a
 rw [B5 hx0,K3] at hf
 refine zi<|zs<|Ah<|zr<|zp (Ao R R R U7 hx0)<|zp (Ae (s':= .d (.agg (Gr.c x0))) (Ay R R V5 lb) (by kernel_rfl))<|XL.step R (Aq 4 (l:= [.d (dI 0), .d (dI 0), .d (dI 0), .d (dI 0), .d (dB false)]) R S5 (by kernel_rfl))<|?_
 refine XL.step R (Af (l':= [.d (dI x0.p.step), .d (dI x0.p.alter), .d (dI x0.p.oct), .d (dI x0.log), .d (dB x0.slash)]) R R R R Yl R lb (by kernel_rfl))<|zn<|zs<|zr<|zp (Aa R R Akl)<|zp (Ae (s':= .d (.agg (Pit.c x0.p))) (Ac (Ad R R Hf R lb)) (by kernel_rfl))<|XL.call1 R R (Pt _) R<|zm R R<|zp (A0 R R R)<|zp (A0 R R R)<|za R R<|za R R<|?_
 refine znr<|zm R R<|zp (A1 R R R)<|zn<|?_
 refine zd R (fun c23=> ?_) (fun c23=> ?_)
 exact zr<|zm R R<|za R R<|zn<|zt<|z1 R R (rI (by rw [Km c9, ←hf,if_pos c23]))
 refine zi<|zr<|zp (Aa R R Xd)<|zp (Ab R R Ai R R)<|zp (Au R R R)<|zm R R<|?_
 refine XL.dec 28 R (fun g28=> ?_) (fun g28=> ?_)
 exact zk 3 R<|zq R R R<|zn<|Av (by kernel_rfl) R<|zr<|za R R<|zn<|zt<|z1 R R (rI (by rw [Km c9, ←hf,if_neg c23,if_pos (by omega)]))
 refine zp (Aa R R Xd)<|zp (Ab R R Ai R R)<|zp (Bb R R R)<|zq R R R<|zn<|?_
 refine zd R (fun c32=> ?_) (fun c32=> ?_)
 exact zr<|za R R<|zn<|zt<|z1 R R (rI (by rw [Km c9, ←hf,if_neg c23,if_pos (by omega)]))
 refine zi<|Ag (by kernel_rfl)<|zp (Al R R R (by omega) (by omega))<|zm R R<|zn<|?_
 exact Am (k+1) (⟨by omega,by rw [if_neg c23,if_neg (by omega)] at hf;exact hf⟩) (by omega) (fz ⟨sr,sr,sr,trivial⟩) (HSub.nil)
 have hk0b:k=l.length:=by omega
 exact At<|zr<|za R R<|zn<|zt<|z1 R R (rI (by rw [Km c9, ←hf,hk0b,List.drop_length];rfl))
def I9 (b:UInt8):Prop:=(b.toNat:Int)<32∨(b.toNat:Int)=127
instance (b:UInt8):Decidable (I9 b):=by unfold I9;exact inferInstance
def Jg (s:Sy):Int:=if s.link<0∨2<s.link then 2 else if 256<s.text.length then 5 else if ∃b∈s.text,I9 b then 6 else if s.text= []∧s.link=1 then 3 else 0
theorem Jy (l:List UInt8):(ByteArray.mk l.toArray).size=l.length:=rfl
theorem Aff {s:Sy} {k:Nat} {b:UInt8} (h1:¬s.link<0) (h2:¬2<s.link) (h3:¬256<(s.text.length:Int)) (h:s.text[k]? =some b) (hb:I9 b):6=Jg s:=by
 rw [Jg,if_neg (by omega),if_neg (by omega),if_pos ⟨b,List.mem_of_getElem? h,hb⟩]
theorem Apb {s:Sy} (h1:¬s.link<0) (h2:¬2<s.link) (h3:¬256<(s.text.length:Int)) (h:∀j b,j<s.text.length→s.text[j]? =some b→¬I9 b):Jg s=if s.text= []∧s.link=1 then 3 else 0:=by
 rw [Jg,if_neg (by omega),if_neg (by omega),if_neg]
 rintro ⟨b,hb,h4⟩
 obtain ⟨j,hj⟩:=List.getElem?_of_mem hb
 exact h j b (List.getElem?_eq_some_iff.1 hj).1 hj h4
theorem Yh {l:List UInt8}:((ByteArray.mk l.toArray).toList==(ByteArray.mk #[]).toList)=decide (l= []):=by
 rw [Jz,show (ByteArray.mk #[]).toList= [] from Jz []]
 by_cases h:l= []<;>simp [h]
end Go.Proofs.YtaafemnkamfgnaaGreat
namespace Go.Proofs.YtaafemnkamfgnaaGreat
open Go.RowKit
theorem Aqz {b:UInt8} (h:(b.toNat:Int)<32):I9 b:= .inl h
theorem Anz {b:UInt8} (h:(b.toNat:Int)=127):I9 b:= .inr h
theorem Aqy {b:UInt8} (h:¬(b.toNat:Int)<32) (h':¬(b.toNat:Int)=127):¬I9 b:=fun h2=>h2.elim h h'
theorem Arg (s:Sy):XC Tryz.prog 188 [.agg (Sy.c s)] (fun r=>r=dI (Jg s)):=by
 refine An Abd Tryz.func188 R R lb<|zr<|XL.step R (Ap 1 (l:= [.d (.v (.string ⟨s.text.toArray⟩)), .d (dI s.link)]) R R (by kernel_rfl))<|za R R<|zn<|zs<|Ah<|zr<|zp (Aa R R Q2)<|zp (Ab R R Ai R R)<|zp (Au R R R)<|zm R R<|?_
 refine XL.dec 8 R (fun g8=> ?_) (fun g8=> ?_)
 exact zk 3 R<|zq R R R<|za R R<|zn<|Av (by kernel_rfl) R<|zr<|za R R<|zn<|zt<|z1 R R (rI (by rw [Jg,if_pos (by omega)]))
 refine zp (Aa R R Q2)<|zp (Ab R R Ai R R)<|zp (Bb R R R)<|zq R R R<|za R R<|zn<|?_
 refine zd R (fun c4=> ?_) (fun c4=> ?_)
 exact zr<|za R R<|zn<|zt<|z1 R R (rI (by rw [Jg,if_pos (by omega)]))
 refine zr<|zp (Aa R R Hl)<|zp (Ab R R H9 R R)<|zp (Lm R R Tryz.underlying9)<|zp (Bb R R R)<|za R R<|zn<|?_
 refine zd R (fun c13=> ?_) (fun c13=> ?_)
 exact zr<|za R R<|zn<|zt<|z1 R R (rI (by rw [Jg,if_neg (by omega),if_pos (by have:=c13;rw [Jy] at this;omega)]))
 refine zi<|zs<|zr<|zp (Aa R R Hl)<|zp (Ab R R H9 R R)<|zp (Lm R R Tryz.underlying9)<|zm R R<|zn<|Ah<|?_
 refine Az (α:=Nat) (fun k=>k≤s.text.length∧∀j b,j<k→s.text[j]? =some b→¬I9 b) (fun k=>mkF [(1, .ptr 1 0 0),(20, .d (dI s.text.length)),(21, .d (dI k))]) (fun k=>mkH [(1, .box ((Sy.c s).map S.d))]) (fun k=>s.text.length - k) (0) (⟨Nat.zero_le _,fun j b h=>absurd h (Nat.not_lt_zero _)⟩) ?_ ?_ ?_
 exact fz ⟨sr, .same (sI (by rw [Jy])),sr,trivial⟩
 exact gz ⟨R,trivial⟩
 intro k hk1
 obtain ⟨hk,hf⟩:=hk1
 refine zr<|zp (Au R R R)<|zn<|zs<|?_
 refine zd R (fun c22=> ?_) (fun c22=> ?_)
 have hkl:k<s.text.length:=by omega
 have hsz:(s.text.length:Int)≤256:=by have:=c13;rw [Jy] at this;omega
 obtain ⟨b,hb⟩:=Ar hkl
 refine zi<|zs<|Ah<|zr<|zm R R<|za R R<|znr<|zp (Aa R R Hl)<|zp (Ab R R H9 R R)<|zm R R<|zp (Ajn R R R Tryz.underlying9 (Yi hb))<|zp (Au R R R)<|zm R R<|?_
 refine XL.dec 29 R (fun g29=> ?_) (fun g29=> ?_)
 exact zk 5 R<|zq R R R<|zn<|Av (by kernel_rfl) R<|zr<|za R R<|zn<|zt<|z1 R R (rI (Aff g8 c4 (by rw [←Jy];exact c13) hb (Aqz g29)))
 refine zp (Aa R R Hl)<|zp (Ab R R H9 R R)<|zm R R<|zp (Ajn R R R Tryz.underlying9 (Yi hb))<|zp (Bi R R R)<|zq R R R<|zn<|?_
 refine zd R (fun c35=> ?_) (fun c35=> ?_)
 exact zr<|za R R<|zn<|zt<|z1 R R (rI (Aff g8 c4 (by rw [←Jy];exact c13) hb (Anz c35)))
 refine zi<|Ag (by kernel_rfl)<|zp (Al R R R (by omega) (by omega))<|zm R R<|zn<|?_
 exact Am (k+1) (⟨by omega,fun j b' hj hb'=>by by_cases e:j=k;(· subst e;rw [hb] at hb';cases hb';exact Aqy g29 c35);(· exact hf j b' (by omega) hb')⟩) (by omega) (fz ⟨sr,sr,sr,trivial⟩) (gz ⟨rfl,trivial⟩)
 have hke:k=s.text.length:=by omega
 have he:=Apb g8 c4 (by rw [←Jy];exact c13) (fun j b hj=>hf j b (by omega))
 refine At<|zs<|zr<|zp (Aa R R Hl)<|zp (Ab R R H9 R R)<|zp (Apw R R R)<|zm R R<|?_
 refine XL.bool 40 R (fun g40=> ?_) (fun g40=> ?_)
 refine zp (Aa R R Q2)<|zp (Ab R R Ai R R)<|zp (Bi R R R)<|zq R R R<|zn<|?_
 refine zd R (fun c44=> ?_) (fun c44=> ?_)
 exact zr<|za R R<|zn<|zt<|z1 R R (rI (by rw [Yh] at g40;rw [he,if_pos ⟨of_decide_eq_true g40,c44⟩]))
 exact zi<|zr<|za R R<|zn<|zt<|z1 R R (rI (by rw [he,if_neg (fun h=>c44 h.2)]))
 exact zk 3 R<|zq R R R<|zn<|A8 (by kernel_rfl) R<|zi<|zr<|za R R<|zn<|zt<|z1 R R (rI (by rw [Yh] at g40;rw [he,if_neg (fun h=>of_decide_eq_false g40 h.1)]))
def Sy.none (s:Sy):Prop:=s.text= []∧s.link=0
instance (s:Sy):Decidable s.none:=by unfold Sy.none;exact inferInstance
theorem Alh (s:Sy):XC Tryz.prog 189 [.agg (Sy.c s)] (fun r=>r=dB (decide s.none)):=by
 refine An Abc Tryz.func189 R R lb<|zr<|XL.step R (Ap 1 (l:= [.d (.v (.string ⟨s.text.toArray⟩)), .d (dI s.link)]) R R (by kernel_rfl))<|za R R<|znr<|zp (Ae (s':= .d (.agg (Sy.c s))) (Ac (Ad R R Mq R lb)) (by kernel_rfl))<|zp (Ae (s':= .d (.agg [.v (.string ⟨#[]⟩),dI 0])) (Ac (A4 R Apg O4 R)) (by kernel_rfl))<|?_
 exact zp (Ajm R R R)<|za R R<|zn<|zt<|z1 R R (rB (by rw [decide_eq_decide,Jz,show (ByteArray.mk #[]).toList= [] from Jz []];rfl))
def Jk (l:List Sy):Int:=Es (l.map Jg)
theorem Ahk {l:List Sy} {k:Nat} {x:Sy} (h:l[k]? =some x) (hx:¬Jg x≠0):Jk (l.drop k)=Jk (l.drop (k+1)):=by rw [B5 h,Jk,List.map_cons,Es,if_neg hx];rfl
theorem Aj0 {l:List Sy} {k:Nat} {x:Sy} (h:l[k]? =some x) (hx:Jg x≠0):Jk (l.drop k)=Jg x:=by rw [B5 h,Jk,List.map_cons,Es,if_pos hx]
def Iq (l:List Sy):Prop:=match l.getLast? with|some s=>s.none|none=>False
instance (l:List Sy):Decidable (Iq l):=by unfold Iq;split<;>exact inferInstance
def Ls (l:List Sy):Int:=if 4<l.length then 9 else if Jk l≠0 then Jk l else if Iq l then 3 else 0
theorem W6 {l:List Sy} (h1:¬4<(l.length:Int)):Ls l=if Jk l≠0 then Jk l else if Iq l then 3 else 0:=by rw [Ls,if_neg (by omega)]
theorem Su {l:List Sy} {s:Sy} (h:l[l.length - 1]? =some s):Iq l↔s.none:=by unfold Iq;rw [List.getLast?_eq_getElem?,h]
theorem Zv {l:List Sy} (h:¬0<(l.length:Int)):¬Iq l:=by
 have:l= []:=List.eq_nil_of_length_eq_zero (by omega)
 subst this;exact fun h=>h
theorem W5 (l:List Sy):XC Tryz.prog 167 [.sl 2 (l.map Sy.c)] (fun r=>r=dI (Ls l)):=by
 refine An Abw Tryz.func167 R R lb<|zr<|za R R<|zn<|zs<|zr<|zm R R<|XL.len R R R Tryz.underlying57 fun hl8=>zp (Bb R R R)<|zn<|?_
 refine zd R (fun c9=> ?_) (fun c9=> ?_)
 exact zr<|za R R<|zn<|zt<|z1 R R (rI (by rw [Ls,if_pos (by omega)]))
 refine zi<|zs<|zr<|zm R R<|XL.len R R R Tryz.underlying57 fun hl11=>zm R R<|zn<|Ah<|?_
 refine Az (α:=Nat) (fun k=>k≤l.length∧Jk (l.drop k)=Jk l) (fun k=>mkF [(0, .d (.sl 2 (l.map Sy.c))),(10, .d (.sl 2 (l.map Sy.c))),(11, .d (dI l.length)),(12, .d (dI k))]) (fun k=>mkH []) (fun k=>l.length - k) (0) (⟨Nat.zero_le _,by rw [List.drop_zero]⟩) ?_ ?_ ?_
 exact fz ⟨sr,sr,sr,sr,trivial⟩
 exact HSub.nil
 intro k hk0
 obtain ⟨hk,hf⟩:=hk0
 refine zr<|zp (Au R R R)<|zn<|zs<|?_
 refine zd R (fun c13=> ?_) (fun c13=> ?_)
 have hk0a:k<l.length:=by omega
 obtain ⟨x0,hx0⟩:=Ar hk0a
 refine zi<|zs<|Ah<|zr<|zp (Ao R R R Ld hx0)<|zp (Ae (s':= .d (.agg (Sy.c x0))) (Ay R R Mq lb) (by kernel_rfl))<|XL.step R (Aq 4 (l:= [.d (.v (.string ⟨#[]⟩)), .d (dI 0)]) R O4 (by kernel_rfl))<|XL.step R (Af (l':= [.d (.v (.string ⟨x0.text.toArray⟩)), .d (dI x0.link)]) R R R R Yn R lb (by kernel_rfl))<|znr<|?_
 refine zp (Ae (s':= .d (.agg (Sy.c x0))) (Ac (Ad R R Mq R lb)) (by kernel_rfl))<|XL.call1 R R (Arg _) R<|za R R<|znr<|zm R R<|zp (A1 R R R)<|zn<|?_
 refine zd R (fun c19=> ?_) (fun c19=> ?_)
 exact zr<|zm R R<|za R R<|zn<|zt<|z1 R R (rI (by rw [W6 c9, ←hf,Aj0 hx0 c19,if_pos c19]))
 refine zi<|Ag (by kernel_rfl)<|zp (Al R R R (by omega) (by omega))<|zm R R<|zn<|?_
 exact Am (k+1) (⟨by omega,by rw [←Ahk hx0 c19];exact hf⟩) (by omega) (fz ⟨sr,sr,sr,sr,trivial⟩) (HSub.nil)
 have hk0b:k=l.length:=by omega
 have hz:Jk l=0:=by rw [←hf,hk0b,List.drop_length];rfl
 have hz2:Ls l=if Iq l then 3 else 0:=by rw [W6 c9,hz,if_neg (by simp)]
 refine At<|zs<|zr<|zm R R<|XL.len R R R Tryz.underlying57 fun hl23=>za R R<|znr<|zm R R<|zp (Bb R R R)<|zm R R<|?_
 refine XL.dec 26 R (fun g26=> ?_) (fun g26=> ?_)
 obtain ⟨s,hs⟩:∃s,l[l.length - 1]? =some s:=Ar (by omega)
 refine zm R R<|zm R R<|zp (Fk R R R (by omega) (by omega))<|zp (Ma R R R (by omega:(l.length:Int) - 1=((l.length - 1:Nat):Int)) Ld hs)<|zp (Ae (s':= .d (.agg (Sy.c s))) (Ay R R Mq lb) (by kernel_rfl))<|XL.call1 R R (Alh _) R<|zq R R R<|zn<|?_
 refine zd R (fun c33=> ?_) (fun c33=> ?_)
 exact zr<|za R R<|zn<|zt<|z1 R R (rI (by rw [hz2,if_pos ((Su hs).2 c33)]))
 exact zi<|zr<|za R R<|zn<|zt<|z1 R R (rI (by rw [hz2,if_neg (fun h=>c33 ((Su hs).1 h))]))
 exact zk 6 R<|zq R R R<|zn<|A8 (by kernel_rfl) R<|zi<|zr<|za R R<|zn<|zt<|z1 R R (rI (by rw [hz2,if_neg (Zv g26)]))
theorem Et {α:Type} {a b:List α} (hl:a.length=b.length) (h:∀j x y,j<a.length→a[j]? =some x→b[j]? =some y→x=y):a=b:=by
 refine List.ext_getElem? fun j=> ?_
 by_cases hj:j<a.length
 ·have h1:a[j]? =some a[j]:=List.getElem?_eq_getElem hj
  have h2 : b[j]? = some (b[j]'(by omega)) := List.getElem?_eq_getElem (by omega)
  rw [h1,h2,h j _ _ hj h1 h2]
 ·rw [List.getElem?_eq_none (by omega),List.getElem?_eq_none (by omega)]
theorem Gh {α:Type} [DecidableEq α] {a b:List α} (h:a≠b):false=decide (a=b):=by rw [decide_eq_false h]
theorem eq_yes {α:Type} [DecidableEq α] {a b:List α} (h:a=b):true=decide (a=b):=by rw [decide_eq_true h]
theorem Hd.eq_of {x y:Hd} (h:¬ ¬((x.p.step=y.p.step∧x.p.alter=y.p.alter∧x.p.oct=y.p.oct)∧x.tied=y.tied∧x.sh=y.sh)):x=y:=by
 obtain ⟨⟨a,b,c⟩,d,e⟩:=x;obtain ⟨⟨a',b',c'⟩,d',e'⟩:=y;simp only [Decidable.not_not] at h;obtain ⟨⟨rfl,rfl,rfl⟩,rfl,rfl⟩:=h;rfl
theorem Hd.ne_of {x y:Hd} (h:¬((x.p.step=y.p.step∧x.p.alter=y.p.alter∧x.p.oct=y.p.oct)∧x.tied=y.tied∧x.sh=y.sh)):x≠y:=by rintro rfl;exact h ⟨⟨rfl,rfl,rfl⟩,rfl,rfl⟩
theorem Gr.eq_of {x y:Gr} (h:¬ ¬((x.p.step=y.p.step∧x.p.alter=y.p.alter∧x.p.oct=y.p.oct)∧x.log=y.log∧x.slash=y.slash)):x=y:=by
 obtain ⟨⟨a,b,c⟩,d,e⟩:=x;obtain ⟨⟨a',b',c'⟩,d',e'⟩:=y;simp only [Decidable.not_not] at h;obtain ⟨⟨rfl,rfl,rfl⟩,rfl,rfl⟩:=h;rfl
theorem Gr.ne_of {x y:Gr} (h:¬((x.p.step=y.p.step∧x.p.alter=y.p.alter∧x.p.oct=y.p.oct)∧x.log=y.log∧x.slash=y.slash)):x≠y:=by rintro rfl;exact h ⟨⟨rfl,rfl,rfl⟩,rfl,rfl⟩
theorem Sy.eq_of {x y:Sy} (h:¬ ¬((ByteArray.mk x.text.toArray).toList=(ByteArray.mk y.text.toArray).toList∧x.link=y.link)):x=y:=by
 obtain ⟨a,b⟩:=x;obtain ⟨a',b'⟩:=y;simp only [Decidable.not_not,Jz] at h;obtain ⟨rfl,rfl⟩:=h;rfl
theorem Sy.ne_of {x y:Sy} (h:¬((ByteArray.mk x.text.toArray).toList=(ByteArray.mk y.text.toArray).toList∧x.link=y.link)):x≠y:=by rintro rfl;exact h ⟨rfl,rfl⟩
theorem Ann (a b:List Hd):XC Tryz.prog 157 [.sl 5 (a.map Hd.c), .sl 5 (b.map Hd.c)] (fun r=>r=dB (decide (a=b))):=by
 refine An Ab6 Tryz.func157 R R lb<|zr<|za R R<|zn<|zs<|zr<|zm R R<|XL.len R R R Tryz.underlying55 fun hl7=>zm R R<|XL.len R R R Tryz.underlying55 fun hl9=>zp (A1 R R R)<|zn<|?_
 refine zd R (fun c10=> ?_) (fun c10=> ?_)
 exact zr<|za R R<|zn<|zt<|z1 R R (rB (Gh (fun h=>c10 (by rw [h]))))
 refine zi<|zs<|zr<|zm R R<|XL.len R R R Tryz.underlying55 fun hl12=>zm R R<|zn<|Ah<|?_
 refine Az (α:=Nat) (fun k=>k≤a.length∧∀j x y,j<k→a[j]? =some x→b[j]? =some y→x=y) (fun k=>mkF [(0, .d (.sl 5 (a.map Hd.c))),(1, .d (.sl 5 (b.map Hd.c))),(12, .d (dI a.length)),(13, .d (dI k))]) (fun k=>mkH []) (fun k=>a.length - k) (0) (⟨Nat.zero_le _,fun j x y h=>absurd h (Nat.not_lt_zero _)⟩) ?_ ?_ ?_
 exact fz ⟨sr,sr,sr,sr,trivial⟩
 exact HSub.nil
 intro k hk0
 obtain ⟨hk,hf⟩:=hk0
 refine zr<|zp (Au R R R)<|zn<|zs<|?_
 refine zd R (fun c14=> ?_) (fun c14=> ?_)
 have hk0a:k<a.length:=by omega
 obtain ⟨x,hx0⟩:=Ar hk0a
 obtain ⟨y,hy⟩:∃y,b[k]? =some y:=Ar (by omega)
 refine zi<|zs<|Ah<|zr<|zm R R<|za R R<|zn<|zs<|Bv [] (by kernel_rfl) (by kernel_rfl) (by kernel_rfl) (by decide)<|ym R R<|ym R R<|yp (Ao R R R R0 hx0)<|yp (Ae (s':= .d (.agg (Hd.c x))) (Ay R R R3 lb) (by kernel_rfl))<|ym R R<|?_
 refine ym R R<|yp (Ao R R R R0 (hy))<|yp (Ae (s':= .d (.agg (Hd.c y))) (Ay R R R3 lb) (by kernel_rfl))<|yp (Ajh R R R)<|?_
 refine ChK.nil ⟨by kernel_rfl, ?_⟩
 refine zd R (fun c24=> ?_) (fun c24=> ?_)
 exact zr<|za R R<|zn<|zt<|z1 R R (rB (Gh (fun h=>Hd.ne_of c24 (by rw [h] at hx0;rw [hx0] at hy;cases hy;rfl))))
 refine zi<|Ag (by kernel_rfl)<|zp (Al R R R (by omega) (by omega))<|zm R R<|zn<|?_
 exact Am (k+1) (⟨by omega,fun j x' y' hj hx' hy'=>by by_cases e:j=k;(· subst e;rw [hx0] at hx';rw [hy] at hy';cases hx';cases hy';exact Hd.eq_of c24);(· exact hf j x' y' (by omega) hx' hy')⟩) (by omega) (fz ⟨sr,sr,sr,sr,trivial⟩) (HSub.nil)
 have hk0b:k=a.length:=by omega
 exact At<|zr<|za R R<|zn<|zt<|z1 R R (rB (eq_yes (Et (by omega) (fun j x y hj=>hf j x y (by omega)))))
theorem Ano (a b:List Gr):XC Tryz.prog 158 [.sl 5 (a.map Gr.c), .sl 5 (b.map Gr.c)] (fun r=>r=dB (decide (a=b))):=by
 refine An Ab5 Tryz.func158 R R lb<|zr<|za R R<|zn<|zs<|zr<|zm R R<|XL.len R R R Tryz.underlying56 fun hl7=>zm R R<|XL.len R R R Tryz.underlying56 fun hl9=>zp (A1 R R R)<|zn<|?_
 refine zd R (fun c10=> ?_) (fun c10=> ?_)
 exact zr<|za R R<|zn<|zt<|z1 R R (rB (Gh (fun h=>c10 (by rw [h]))))
 refine zi<|zs<|zr<|zm R R<|XL.len R R R Tryz.underlying56 fun hl12=>zm R R<|zn<|Ah<|?_
 refine Az (α:=Nat) (fun k=>k≤a.length∧∀j x y,j<k→a[j]? =some x→b[j]? =some y→x=y) (fun k=>mkF [(0, .d (.sl 5 (a.map Gr.c))),(1, .d (.sl 5 (b.map Gr.c))),(12, .d (dI a.length)),(13, .d (dI k))]) (fun k=>mkH []) (fun k=>a.length - k) (0) (⟨Nat.zero_le _,fun j x y h=>absurd h (Nat.not_lt_zero _)⟩) ?_ ?_ ?_
 exact fz ⟨sr,sr,sr,sr,trivial⟩
 exact HSub.nil
 intro k hk0
 obtain ⟨hk,hf⟩:=hk0
 refine zr<|zp (Au R R R)<|zn<|zs<|?_
 refine zd R (fun c14=> ?_) (fun c14=> ?_)
 have hk0a:k<a.length:=by omega
 obtain ⟨x,hx0⟩:=Ar hk0a
 obtain ⟨y,hy⟩:∃y,b[k]? =some y:=Ar (by omega)
 refine zi<|zs<|Ah<|zr<|zm R R<|za R R<|zn<|zs<|Bv [] (by kernel_rfl) (by kernel_rfl) (by kernel_rfl) (by decide)<|ym R R<|ym R R<|yp (Ao R R R U7 hx0)<|yp (Ae (s':= .d (.agg (Gr.c x))) (Ay R R V5 lb) (by kernel_rfl))<|ym R R<|?_
 refine ym R R<|yp (Ao R R R U7 (hy))<|yp (Ae (s':= .d (.agg (Gr.c y))) (Ay R R V5 lb) (by kernel_rfl))<|yp (Ajg R R R)<|?_
 refine ChK.nil ⟨by kernel_rfl, ?_⟩
 refine zd R (fun c24=> ?_) (fun c24=> ?_)
 exact zr<|za R R<|zn<|zt<|z1 R R (rB (Gh (fun h=>Gr.ne_of c24 (by rw [h] at hx0;rw [hx0] at hy;cases hy;rfl))))
 refine zi<|Ag (by kernel_rfl)<|zp (Al R R R (by omega) (by omega))<|zm R R<|zn<|?_
 exact Am (k+1) (⟨by omega,fun j x' y' hj hx' hy'=>by by_cases e:j=k;(· subst e;rw [hx0] at hx';rw [hy] at hy';cases hx';cases hy';exact Gr.eq_of c24);(· exact hf j x' y' (by omega) hx' hy')⟩) (by omega) (fz ⟨sr,sr,sr,sr,trivial⟩) (HSub.nil)
 have hk0b:k=a.length:=by omega
 exact At<|zr<|za R R<|zn<|zt<|z1 R R (rB (eq_yes (Et (by omega) (fun j x y hj=>hf j x y (by omega)))))
theorem Anm (a b:List Sy):XC Tryz.prog 159 [.sl 2 (a.map Sy.c), .sl 2 (b.map Sy.c)] (fun r=>r=dB (decide (a=b))):=by
 refine An Ab4 Tryz.func159 R R lb<|zr<|za R R<|zn<|zs<|zr<|zm R R<|XL.len R R R Tryz.underlying57 fun hl7=>zm R R<|XL.len R R R Tryz.underlying57 fun hl9=>zp (A1 R R R)<|zn<|?_
 refine zd R (fun c10=> ?_) (fun c10=> ?_)
 exact zr<|za R R<|zn<|zt<|z1 R R (rB (Gh (fun h=>c10 (by rw [h]))))
 refine zi<|zs<|zr<|zm R R<|XL.len R R R Tryz.underlying57 fun hl12=>zm R R<|zn<|Ah<|?_
 refine Az (α:=Nat) (fun k=>k≤a.length∧∀j x y,j<k→a[j]? =some x→b[j]? =some y→x=y) (fun k=>mkF [(0, .d (.sl 2 (a.map Sy.c))),(1, .d (.sl 2 (b.map Sy.c))),(12, .d (dI a.length)),(13, .d (dI k))]) (fun k=>mkH []) (fun k=>a.length - k) (0) (⟨Nat.zero_le _,fun j x y h=>absurd h (Nat.not_lt_zero _)⟩) ?_ ?_ ?_
 exact fz ⟨sr,sr,sr,sr,trivial⟩
 exact HSub.nil
 intro k hk0
 obtain ⟨hk,hf⟩:=hk0
 refine zr<|zp (Au R R R)<|zn<|zs<|?_
 refine zd R (fun c14=> ?_) (fun c14=> ?_)
 have hk0a:k<a.length:=by omega
 obtain ⟨x,hx0⟩:=Ar hk0a
 obtain ⟨y,hy⟩:∃y,b[k]? =some y:=Ar (by omega)
 refine zi<|zs<|Ah<|zr<|zm R R<|za R R<|zn<|zs<|Bv [] (by kernel_rfl) (by kernel_rfl) (by kernel_rfl) (by decide)<|ym R R<|ym R R<|yp (Ao R R R Ld hx0)<|yp (Ae (s':= .d (.agg (Sy.c x))) (Ay R R Mq lb) (by kernel_rfl))<|ym R R<|?_
 refine ym R R<|yp (Ao R R R Ld (hy))<|yp (Ae (s':= .d (.agg (Sy.c y))) (Ay R R Mq lb) (by kernel_rfl))<|yp (Aji R R R)<|?_
 refine ChK.nil ⟨by kernel_rfl, ?_⟩
 refine zd R (fun c24=> ?_) (fun c24=> ?_)
 exact zr<|za R R<|zn<|zt<|z1 R R (rB (Gh (fun h=>Sy.ne_of c24 (by rw [h] at hx0;rw [hx0] at hy;cases hy;rfl))))
 refine zi<|Ag (by kernel_rfl)<|zp (Al R R R (by omega) (by omega))<|zm R R<|zn<|?_
 exact Am (k+1) (⟨by omega,fun j x' y' hj hx' hy'=>by by_cases e:j=k;(· subst e;rw [hx0] at hx';rw [hy] at hy';cases hx';cases hy';exact Sy.eq_of c24);(· exact hf j x' y' (by omega) hx' hy')⟩) (by omega) (fz ⟨sr,sr,sr,sr,trivial⟩) (HSub.nil)
 have hk0b:k=a.length:=by omega
 exact At<|zr<|za R R<|zn<|zt<|z1 R R (rB (eq_yes (Et (by omega) (fun j x y hj=>hf j x y (by omega)))))
theorem Xk (n:Int):XC Tryz.prog 162 [.v (.int .i64 n)] (fun r=>r=dB (decide (1≤n∧n≤4))):=by
 refine An Ab1 Tryz.func162 R R lb<|zr<|za R R<|znr<|zm R R<|zp (Gg R R R)<|zm R R<|?_
 refine XL.dec 5 R (fun g5=> ?_) (fun g5=> ?_)
 exact zm R R<|zp (N1 R R R)<|zq R R R<|za R R<|zn<|zt<|z1 R R (rB (by rw [decide_eq_decide];omega))
 exact zk 2 R<|zq R R R<|za R R<|zn<|zt<|z1 R R (rB (by rw [eq_comm,decide_eq_false_iff_not];omega))
def Fw (n:Int):Int:=if n<0 then 0 else if n / 16 % 2=1 then 16 else 0
theorem Akt {n:Int} (h:¬n<0):((n.toNat &&& (16:Int).toNat:Nat):Int)=Fw n:=by
 rw [show (16:Int).toNat=2 ^ 4 from rfl,Aq2,Fw,if_neg h]
 split<;>split<;>omega
theorem Af5 (n:Int) (hn:n≤9223372036854775807):XC Tryz.prog 185 [.v (.int .i64 n)] (fun r=>r=dI (Fw n)):=by
 refine An Abg Tryz.func185 R R lb<|zr<|za R R<|zn<|zs<|zr<|zm R R<|zp (Au R R R)<|zn<|?_
 refine zd R (fun c4=> ?_) (fun c4=> ?_)
 exact zr<|za R R<|zn<|zt<|z1 R R (rI (by rw [Fw,if_pos c4]))
 exact zi<|zr<|zm R R<|zp (Aof R R R (by omega) (by omega) (by omega) (by omega))<|za R R<|zn<|zt<|z1 R R (rI (Akt c4))
end Go.Proofs.YtaafemnkamfgnaaGreat
namespace Go.Proofs.YtaafemnkamfgnaaGreat
open Go.RowKit
def Ev.same (a b:Ev):Prop:=a.kind=b.kind∧a.v=b.v∧a.art=b.art∧a.orn=b.orn∧a.dyn=b.dyn∧a.stem=b.stem∧a.beam=b.beam∧a.heads=b.heads∧a.graces=b.graces∧a.lyr=b.lyr
instance (a b:Ev):Decidable (a.same b):=by unfold Ev.same;exact inferInstance
theorem Val.eq_of {x y:Val} (h:x.log=y.log∧x.dots=y.dots):x=y:=by obtain ⟨a,b⟩:=x;obtain ⟨c,d⟩:=y;obtain ⟨rfl,rfl⟩:=h;rfl
theorem I0 {a b:Ev} (h:¬a.same b):false=decide (a.same b):=by rw [decide_eq_false h]
theorem Afm (a b:Ev):XC Tryz.prog 138 [.agg (Ev.c a), .agg (Ev.c b)] (fun r=>r=dB (decide (a.same b))):=by
 refine An Acg Tryz.func138 R R lb<|zr<|XL.step R (Ap 2 (l:= [.d (dI a.site), .d (dI a.num), .d (dI a.kind), .d (dI a.v.log), .d (dI a.v.dots), .d (.sl 5 (a.heads.map Hd.c)), .d (.sl 5 (a.graces.map Gr.c)), .d (dI a.art), .d (dI a.orn), .d (dI a.dyn), .d (.sl 2 (a.lyr.map Sy.c)), .d (dI a.stem), .d (dI a.beam)]) R R (by kernel_rfl))<|?_
 refine XL.step R (Ap 3 (l:= [.d (dI b.site), .d (dI b.num), .d (dI b.kind), .d (dI b.v.log), .d (dI b.v.dots), .d (.sl 5 (b.heads.map Hd.c)), .d (.sl 5 (b.graces.map Gr.c)), .d (dI b.art), .d (dI b.orn), .d (dI b.dyn), .d (.sl 2 (b.lyr.map Sy.c)), .d (dI b.stem), .d (dI b.beam)]) R R (by kernel_rfl))<|za R R<|znr<|zp (Aa R R Dj)<|zp (Ab R R Ai R R)<|?_
 refine zp (Aa R R Dj)<|zp (Ab R R Ai R R)<|zp (Bi R R R)<|zm R R<|?_
 refine XL.dec 10 R (fun g10=> ?_) (fun g10=> ?_)
 refine zp (Aa R R Hy)<|zp (Ae (s':= .d (.agg (Val.c a.v))) (Ac (Ad R R El R lb)) (by kernel_rfl))<|zp (Aa R R Hy)<|zp (Ae (s':= .d (.agg (Val.c b.v))) (Ac (Ad R R El R lb)) (by kernel_rfl))<|zp (Amg R R R)<|zq R R R<|zm R R<|?_
 refine XL.dec 17 R (fun g17=> ?_) (fun g17=> ?_)
 refine zp (Aa R R G4)<|zp (Ab R R Ai R R)<|zp (Aa R R G4)<|zp (Ab R R Ai R R)<|zp (Bi R R R)<|zq R R R<|zm R R<|?_
 refine XL.dec 24 R (fun g24=> ?_) (fun g24=> ?_)
 refine zp (Aa R R K5)<|zp (Ab R R Ai R R)<|zp (Aa R R K5)<|zp (Ab R R Ai R R)<|zp (Bi R R R)<|zq R R R<|zm R R<|?_
 refine XL.dec 31 R (fun g31=> ?_) (fun g31=> ?_)
 refine zp (Aa R R Js)<|zp (Ab R R Ai R R)<|zp (Aa R R Js)<|zp (Ab R R Ai R R)<|zp (Bi R R R)<|zq R R R<|zm R R<|?_
 refine XL.dec 38 R (fun g38=> ?_) (fun g38=> ?_)
 refine zp (Aa R R It)<|zp (Ab R R Ai R R)<|zp (Aa R R It)<|zp (Ab R R Ai R R)<|zp (Bi R R R)<|zq R R R<|zm R R<|?_
 refine XL.dec 45 R (fun g45=> ?_) (fun g45=> ?_)
 refine zp (Aa R R J2)<|zp (Ab R R Ai R R)<|zp (Aa R R J2)<|zp (Ab R R Ai R R)<|zp (Bi R R R)<|zq R R R<|zm R R<|?_
 refine XL.dec 52 R (fun g52=> ?_) (fun g52=> ?_)
 refine zp (Aa R R C7)<|zp (Ab R R Hs R R)<|zp (Aa R R C7)<|zp (Ab R R Hs R R)<|XL.call1 R R (Ann _ _) R<|zq R R R<|zm R R<|?_
 refine XL.dec 59 R (fun g59=> ?_) (fun g59=> ?_)
 refine zp (Aa R R Ga)<|zp (Ab R R Nz R R)<|zp (Aa R R Ga)<|zp (Ab R R Nz R R)<|XL.call1 R R (Ano _ _) R<|zq R R R<|zm R R<|?_
 refine XL.dec 66 R (fun g66=> ?_) (fun g66=> ?_)
 exact zp (Aa R R Ep)<|zp (Ab R R Ji R R)<|zp (Aa R R Ep)<|zp (Ab R R Ji R R)<|XL.call1 R R (Anm _ _) R<|zq R R R<|za R R<|zn<|zt<|z1 R R (rB (by rw [decide_eq_decide];exact ⟨fun h=>⟨g10,Val.eq_of g17,g24,g31,g38,g45,g52,g59,g66,h⟩,fun h=>h.2.2.2.2.2.2.2.2.2⟩))
 exact zk 5 R<|zq R R R<|za R R<|zn<|zt<|z1 R R (rB (I0 fun h=>g66 h.2.2.2.2.2.2.2.2.1))
 exact zk 5 R<|zq R R R<|zm R R<|zk 5 R<|zq R R R<|za R R<|zn<|zt<|z1 R R (rB (I0 fun h=>g59 h.2.2.2.2.2.2.2.1))
 exact zk 5 R<|zq R R R<|zm R R<|zk 5 R<|zq R R R<|zm R R<|zk 5 R<|zq R R R<|za R R<|zn<|zt<|z1 R R (rB (I0 fun h=>g52 h.2.2.2.2.2.2.1))
 exact zk 5 R<|zq R R R<|zm R R<|zk 5 R<|zq R R R<|zm R R<|zk 5 R<|zq R R R<|zm R R<|zk 5 R<|zq R R R<|za R R<|zn<|zt<|z1 R R (rB (I0 fun h=>g45 h.2.2.2.2.2.1))
 refine zk 5 R<|zq R R R<|zm R R<|zk 5 R<|zq R R R<|zm R R<|zk 5 R<|zq R R R<|zm R R<|zk 5 R<|zq R R R<|zm R R<|zk 5 R<|zq R R R<|?_
 exact za R R<|zn<|zt<|z1 R R (rB (I0 fun h=>g38 h.2.2.2.2.1))
 refine zk 5 R<|zq R R R<|zm R R<|zk 5 R<|zq R R R<|zm R R<|zk 5 R<|zq R R R<|zm R R<|zk 5 R<|zq R R R<|zm R R<|zk 5 R<|zq R R R<|?_
 exact zm R R<|zk 5 R<|zq R R R<|za R R<|zn<|zt<|z1 R R (rB (I0 fun h=>g31 h.2.2.2.1))
 refine zk 5 R<|zq R R R<|zm R R<|zk 5 R<|zq R R R<|zm R R<|zk 5 R<|zq R R R<|zm R R<|zk 5 R<|zq R R R<|zm R R<|zk 5 R<|zq R R R<|?_
 exact zm R R<|zk 5 R<|zq R R R<|zm R R<|zk 5 R<|zq R R R<|za R R<|zn<|zt<|z1 R R (rB (I0 fun h=>g24 h.2.2.1))
 refine zk 5 R<|zq R R R<|zm R R<|zk 5 R<|zq R R R<|zm R R<|zk 5 R<|zq R R R<|zm R R<|zk 5 R<|zq R R R<|zm R R<|zk 5 R<|zq R R R<|?_
 exact zm R R<|zk 5 R<|zq R R R<|zm R R<|zk 5 R<|zq R R R<|zm R R<|zk 5 R<|zq R R R<|za R R<|zn<|zt<|z1 R R (rB (I0 fun h=>g17 (by rw [h.2.1];exact ⟨rfl,rfl⟩)))
 refine zk 5 R<|zq R R R<|zm R R<|zk 5 R<|zq R R R<|zm R R<|zk 5 R<|zq R R R<|zm R R<|zk 5 R<|zq R R R<|zm R R<|zk 5 R<|zq R R R<|?_
 refine zm R R<|zk 5 R<|zq R R R<|zm R R<|zk 5 R<|zq R R R<|zm R R<|zk 5 R<|zq R R R<|zm R R<|zk 5 R<|zq R R R<|za R R<|zn<|?_
 exact zt<|z1 R R (rB (I0 fun h=>g10 h.1))
def Ev.strip (e:Ev):Ev:=
 if e.kind=1∨¬(1≤e.kind∧e.kind≤4) then e else
 ⟨e.site,e.num,e.kind,if e.kind≠3 then e.v else ⟨0,0⟩, [], [],if e.kind≠4 then Fw e.art else 0,0,e.dyn, [],0,0⟩
theorem Vh {e:Ev} (h:e.kind=1):e=e.strip:=by rw [Ev.strip,if_pos (.inl h)]
theorem Apf {e:Ev} (h:¬(1≤e.kind∧e.kind≤4)):e=e.strip:=by rw [Ev.strip,if_pos (.inr h)]
theorem Ape {e:Ev} (h:¬e.kind=1) (h2:¬ ¬(1≤e.kind∧e.kind≤4)) (h3:e.kind≠3) (h4:e.kind≠4):(⟨e.site,e.num,e.kind,e.v, [], [],Fw e.art,0,e.dyn, [],0,0⟩:Ev)=e.strip:=by rw [Ev.strip,if_neg (by omega),if_pos h3,if_pos h4]
theorem Apd {e:Ev} (h:¬e.kind=1) (h2:¬ ¬(1≤e.kind∧e.kind≤4)) (h3:e.kind≠3) (h4:¬e.kind≠4):(⟨e.site,e.num,e.kind,e.v, [], [],0,0,e.dyn, [],0,0⟩:Ev)=e.strip:=by rw [Ev.strip,if_neg (by omega),if_pos h3,if_neg h4]
theorem Apc {e:Ev} (h:¬e.kind=1) (h2:¬ ¬(1≤e.kind∧e.kind≤4)) (h3:¬e.kind≠3) (h4:e.kind≠4):(⟨e.site,e.num,e.kind,⟨0,0⟩, [], [],Fw e.art,0,e.dyn, [],0,0⟩:Ev)=e.strip:=by rw [Ev.strip,if_neg (by omega),if_neg h3,if_pos h4]
theorem Ac4 {a b:Ev} (h:a=b):D.agg (Ev.c a)= .agg (Ev.c b):=by rw [h]
theorem Alw (e:Ev) (he:e.art≤9223372036854775807):XC Tryz.prog 163 [.agg (Ev.c e)] (fun r=>r= .agg (Ev.c e.strip)):=by
 refine An Ab0 Tryz.func163 R R lb<|zr<|XL.step R (Ap 1 (l:= [.d (dI e.site), .d (dI e.num), .d (dI e.kind), .d (dI e.v.log), .d (dI e.v.dots), .d (.sl 5 (e.heads.map Hd.c)), .d (.sl 5 (e.graces.map Gr.c)), .d (dI e.art), .d (dI e.orn), .d (dI e.dyn), .d (.sl 2 (e.lyr.map Sy.c)), .d (dI e.stem), .d (dI e.beam)]) R R (by kernel_rfl))<|?_
 refine XL.step R (Aq 2 (l:= [.d (dI 0), .d (dI 0), .d (dI 0), .d (dI 0), .d (dI 0), .d (.v (.slice none 0 0)), .d (.v (.slice none 0 0)), .d (dI 0), .d (dI 0), .d (dI 0), .d (.v (.slice none 0 0)), .d (dI 0), .d (dI 0)]) R Cc (by kernel_rfl))<|zn<|zs<|zr<|zp (Aa R R Dj)<|zp (Ab R R Ai R R)<|zp (Bi R R R)<|zm R R<|?_
 refine XL.dec 7 R (fun g7=> ?_) (fun g7=> ?_)
 refine zk 4 R<|zq R R R<|zn<|Av (by kernel_rfl) R<|zr<|zp (Ae (s':= .d (.agg (Ev.c e))) (Ac (Ad R R Bq R lb)) (by kernel_rfl))<|?_
 refine XL.step R (Af (l':= [.d (dI e.site), .d (dI e.num), .d (dI e.kind), .d (dI e.v.log), .d (dI e.v.dots), .d (.sl 5 (e.heads.map Hd.c)), .d (.sl 5 (e.graces.map Gr.c)), .d (dI e.art), .d (dI e.orn), .d (dI e.dyn), .d (.sl 2 (e.lyr.map Sy.c)), .d (dI e.stem), .d (dI e.beam)]) R R R R C4 R lb (by kernel_rfl))<|zn<|zt<|?_
 exact Jb R (RV.cells R R R Bq lb R) (Ac4 (Vh g7))
 refine zp (Aa R R Dj)<|zp (Ab R R Ai R R)<|XL.call1 R R (Xk _) R<|zp (En R R)<|zq R R R<|zn<|?_
 refine zd R (fun c12=> ?_) (fun c12=> ?_)
 refine zr<|zp (Ae (s':= .d (.agg (Ev.c e))) (Ac (Ad R R Bq R lb)) (by kernel_rfl))<|?_
 refine XL.step R (Af (l':= [.d (dI e.site), .d (dI e.num), .d (dI e.kind), .d (dI e.v.log), .d (dI e.v.dots), .d (.sl 5 (e.heads.map Hd.c)), .d (.sl 5 (e.graces.map Gr.c)), .d (dI e.art), .d (dI e.orn), .d (dI e.dyn), .d (.sl 2 (e.lyr.map Sy.c)), .d (dI e.stem), .d (dI e.beam)]) R R R R C4 R lb (by kernel_rfl))<|zn<|zt<|?_
 exact Jb R (RV.cells R R R Bq lb R) (Ac4 (Apf c12))
 refine zi<|zr<|zp (Aa R R Iu)<|zp (Ae (s':= .d (.agg [dI e.site,dI e.num])) (Ac (Ad R R Kt R lb)) (by kernel_rfl))<|zp (Aa R R Dj)<|zp (Ab R R Ai R R)<|zp (Aa R R Js)<|zp (Ab R R Ai R R)<|?_
 refine zp (Ae (s':= .d (.agg [dI e.site,dI e.num,dI e.kind,dI 0,dI 0, .v (.slice none 0 0), .v (.slice none 0 0),dI 0,dI 0,dI e.dyn, .v (.slice none 0 0),dI 0,dI 0])) (Ac (A4 R Qb Cc R)) (by kernel_rfl))<|?_
 refine XL.step R (Aq 3 (l:= [.d (dI 0), .d (dI 0), .d (dI 0), .d (dI 0), .d (dI 0), .d (.v (.slice none 0 0)), .d (.v (.slice none 0 0)), .d (dI 0), .d (dI 0), .d (dI 0), .d (.v (.slice none 0 0)), .d (dI 0), .d (dI 0)]) R Cc (by kernel_rfl))<|?_
 refine XL.step R (Af (l':= [.d (dI e.site), .d (dI e.num), .d (dI e.kind), .d (dI 0), .d (dI 0), .d (.v (.slice none 0 0)), .d (.v (.slice none 0 0)), .d (dI 0), .d (dI 0), .d (dI e.dyn), .d (.v (.slice none 0 0)), .d (dI 0), .d (dI 0)]) R R R R C4 R lb (by kernel_rfl))<|zn<|zs<|zr<|zp (Aa R R Dj)<|zp (Ab R R Ai R R)<|zp (A1 R R R)<|zn<|?_
 refine zd R (fun c23=> ?_) (fun c23=> ?_)
 refine Ag (by kernel_rfl)<|zp (Aa R R Hy)<|zp (Ae (s':= .d (.agg (Val.c e.v))) (Ac (Ad R R El R lb)) (by kernel_rfl))<|zp (Aa R R Hy)<|?_
 refine XL.step R (Af (l':= [.d (dI e.site), .d (dI e.num), .d (dI e.kind), .d (dI e.v.log), .d (dI e.v.dots), .d (.v (.slice none 0 0)), .d (.v (.slice none 0 0)), .d (dI 0), .d (dI 0), .d (dI e.dyn), .d (.v (.slice none 0 0)), .d (dI 0), .d (dI 0)]) R R R R Hq R lb (by kernel_rfl))<|zn<|zs<|zr<|zp (Aa R R Dj)<|zp (Ab R R Ai R R)<|zp (A1 R R R)<|zn<|?_
 refine zd R (fun c29=> ?_) (fun c29=> ?_)
 refine Ag (by kernel_rfl)<|zp (Aa R R G4)<|zp (Ab R R Ai R R)<|XL.call1 R R (Af5 _ (by assumption)) R<|zp (Aa R R G4)<|?_
 refine XL.step R (Af (l':= [.d (dI e.site), .d (dI e.num), .d (dI e.kind), .d (dI e.v.log), .d (dI e.v.dots), .d (.v (.slice none 0 0)), .d (.v (.slice none 0 0)), .d (dI (Fw e.art)), .d (dI 0), .d (dI e.dyn), .d (.v (.slice none 0 0)), .d (dI 0), .d (dI 0)]) R R R R Ey R lb (by kernel_rfl))<|znr<|?_
 refine zp (Ae (s':= .d (.agg [dI e.site,dI e.num,dI e.kind,dI e.v.log,dI e.v.dots, .v (.slice none 0 0), .v (.slice none 0 0),dI (Fw e.art),dI 0,dI e.dyn, .v (.slice none 0 0),dI 0,dI 0])) (Ac (Ad R R Bq R lb)) (by kernel_rfl))<|?_
 refine XL.step R (Af (l':= [.d (dI e.site), .d (dI e.num), .d (dI e.kind), .d (dI e.v.log), .d (dI e.v.dots), .d (.v (.slice none 0 0)), .d (.v (.slice none 0 0)), .d (dI (Fw e.art)), .d (dI 0), .d (dI e.dyn), .d (.v (.slice none 0 0)), .d (dI 0), .d (dI 0)]) R R R R C4 R lb (by kernel_rfl))<|zn<|zt<|?_
 exact Jb R (RV.sub (RV.cells R R R Bq lb R) (.agg (.cons (.same R) (.cons (.same R) (.cons (.same R) (.cons (.same R) (.cons (.same R) (.cons (.nil 5) (.cons (.nil 5) (.cons (.same R) (.cons (.same R) (.cons (.same R) (.cons (.nil 2) (.cons (.same R) (.cons (.same R) (.nil)))))))))))))))) (Ac4 (Ape g7 c12 c23 c29))
 refine zi<|zr<|zp (Ae (s':= .d (.agg [dI e.site,dI e.num,dI e.kind,dI e.v.log,dI e.v.dots, .v (.slice none 0 0), .v (.slice none 0 0),dI 0,dI 0,dI e.dyn, .v (.slice none 0 0),dI 0,dI 0])) (Ac (Ad R R Bq R lb)) (by kernel_rfl))<|?_
 refine XL.step R (Af (l':= [.d (dI e.site), .d (dI e.num), .d (dI e.kind), .d (dI e.v.log), .d (dI e.v.dots), .d (.v (.slice none 0 0)), .d (.v (.slice none 0 0)), .d (dI 0), .d (dI 0), .d (dI e.dyn), .d (.v (.slice none 0 0)), .d (dI 0), .d (dI 0)]) R R R R C4 R lb (by kernel_rfl))<|zn<|zt<|?_
 exact Jb R (RV.sub (RV.cells R R R Bq lb R) (.agg (.cons (.same R) (.cons (.same R) (.cons (.same R) (.cons (.same R) (.cons (.same R) (.cons (.nil 5) (.cons (.nil 5) (.cons (.same R) (.cons (.same R) (.cons (.same R) (.cons (.nil 2) (.cons (.same R) (.cons (.same R) (.nil)))))))))))))))) (Ac4 (Apd g7 c12 c23 c29))
 refine zi<|zs<|zr<|zp (Aa R R Dj)<|zp (Ab R R Ai R R)<|zp (A1 R R R)<|zn<|?_
 refine zd R (fun c29=> ?_) (fun c29=> ?_)
 refine Ag (by kernel_rfl)<|zp (Aa R R G4)<|zp (Ab R R Ai R R)<|XL.call1 R R (Af5 _ (by assumption)) R<|zp (Aa R R G4)<|?_
 refine XL.step R (Af (l':= [.d (dI e.site), .d (dI e.num), .d (dI e.kind), .d (dI 0), .d (dI 0), .d (.v (.slice none 0 0)), .d (.v (.slice none 0 0)), .d (dI (Fw e.art)), .d (dI 0), .d (dI e.dyn), .d (.v (.slice none 0 0)), .d (dI 0), .d (dI 0)]) R R R R Ey R lb (by kernel_rfl))<|znr<|?_
 refine zp (Ae (s':= .d (.agg [dI e.site,dI e.num,dI e.kind,dI 0,dI 0, .v (.slice none 0 0), .v (.slice none 0 0),dI (Fw e.art),dI 0,dI e.dyn, .v (.slice none 0 0),dI 0,dI 0])) (Ac (Ad R R Bq R lb)) (by kernel_rfl))<|?_
 refine XL.step R (Af (l':= [.d (dI e.site), .d (dI e.num), .d (dI e.kind), .d (dI 0), .d (dI 0), .d (.v (.slice none 0 0)), .d (.v (.slice none 0 0)), .d (dI (Fw e.art)), .d (dI 0), .d (dI e.dyn), .d (.v (.slice none 0 0)), .d (dI 0), .d (dI 0)]) R R R R C4 R lb (by kernel_rfl))<|zn<|zt<|?_
 exact Jb R (RV.sub (RV.cells R R R Bq lb R) (.agg (.cons (.same R) (.cons (.same R) (.cons (.same R) (.cons (.same R) (.cons (.same R) (.cons (.nil 5) (.cons (.nil 5) (.cons (.same R) (.cons (.same R) (.cons (.same R) (.cons (.nil 2) (.cons (.same R) (.cons (.same R) (.nil)))))))))))))))) (Ac4 (Apc g7 c12 c23 c29))
 refine zi<|zr<|zp (Ae (s':= .d (.agg [dI e.site,dI e.num,dI e.kind,dI 0,dI 0, .v (.slice none 0 0), .v (.slice none 0 0),dI 0,dI 0,dI e.dyn, .v (.slice none 0 0),dI 0,dI 0])) (Ac (Ad R R Bq R lb)) (by kernel_rfl))<|?_
 refine XL.step R (Af (l':= [.d (dI e.site), .d (dI e.num), .d (dI e.kind), .d (dI 0), .d (dI 0), .d (.v (.slice none 0 0)), .d (.v (.slice none 0 0)), .d (dI 0), .d (dI 0), .d (dI e.dyn), .d (.v (.slice none 0 0)), .d (dI 0), .d (dI 0)]) R R R R C4 R lb (by kernel_rfl))<|zn<|zt<|?_
 exact Jb R (RV.sub (RV.cells R R R Bq lb R) (.agg (.cons (.same R) (.cons (.same R) (.cons (.same R) (.cons (.same R) (.cons (.same R) (.cons (.nil 5) (.cons (.nil 5) (.cons (.same R) (.cons (.same R) (.cons (.same R) (.cons (.nil 2) (.cons (.same R) (.cons (.same R) (.nil)))))))))))))))) (by exfalso;omega)
def Dg (v:Val):Int:=if -1≤v.log∧v.log≤8∧0≤v.dots∧v.dots≤3 then 0 else 17
theorem Nq {v:Val} (h:¬(-1≤v.log∧v.log≤8∧0≤v.dots∧v.dots≤3)):17=Dg v:=by rw [Dg,if_neg h]
theorem V9 {v:Val} (h: -1≤v.log∧v.log≤8∧0≤v.dots∧v.dots≤3):0=Dg v:=by rw [Dg,if_pos h]
theorem Wu {v:Val} (h:¬Dg v≠0): -1≤v.log∧v.log≤8∧0≤v.dots∧v.dots≤3:=by
 unfold Dg at h;split at h
 ·assumption
 ·omega
theorem Xn (v:Val):XC Tryz.prog 164 [.agg (Val.c v)] (fun r=>r=dI (Dg v)):=by
 refine An Abz Tryz.func164 R R lb<|zr<|XL.step R (Ap 1 (l:= [.d (dI v.log), .d (dI v.dots)]) R R (by kernel_rfl))<|za R R<|zn<|zs<|zr<|zp (Aa R R T1)<|zp (Ab R R Ai R R)<|zp (Au R R R)<|zm R R<|?_
 refine XL.dec 6 R (fun g6=> ?_) (fun g6=> ?_)
 exact zk 3 R<|zq R R R<|zm R R<|zk 3 R<|zq R R R<|zm R R<|zk 3 R<|zq R R R<|zn<|Av (by kernel_rfl) R<|zr<|za R R<|zn<|zt<|z1 R R (rI (Nq (by omega)))
 refine zp (Aa R R T1)<|zp (Ab R R Ai R R)<|zp (Bb R R R)<|zq R R R<|zm R R<|?_
 refine XL.dec 11 R (fun g11=> ?_) (fun g11=> ?_)
 exact zk 3 R<|zq R R R<|zm R R<|zk 3 R<|zq R R R<|zn<|Av (by kernel_rfl) R<|zr<|za R R<|zn<|zt<|z1 R R (rI (Nq (by omega)))
 refine zp (Aa R R Nh)<|zp (Ab R R Ai R R)<|zp (Au R R R)<|zq R R R<|zm R R<|?_
 refine XL.dec 16 R (fun g16=> ?_) (fun g16=> ?_)
 exact zk 3 R<|zq R R R<|zn<|Av (by kernel_rfl) R<|zr<|za R R<|zn<|zt<|z1 R R (rI (Nq (by omega)))
 refine zp (Aa R R Nh)<|zp (Ab R R Ai R R)<|zp (Bb R R R)<|zq R R R<|zn<|?_
 refine zd R (fun c20=> ?_) (fun c20=> ?_)
 exact zr<|za R R<|zn<|zt<|z1 R R (rI (Nq (by omega)))
 exact zi<|zr<|za R R<|zn<|zt<|z1 R R (rI (V9 (by omega)))
def Fd (p:Int):Nat→Int × Int
 |0=>(p,p)
 |n+1=>((Fd p n).1 / 2,(Fd p n).2+(Fd p n).1 / 2)
theorem Oa {p:Int} (h0:0≤p) (n:Nat):0≤(Fd p n).1∧(Fd p n).1≤p∧0≤(Fd p n).2∧(Fd p n).2≤p*(n+1):=by
 induction n with
 |zero=>simp [Fd];omega
 |succ n ih=>
  have e:p*((n+1:Nat)+1:Int)=p*(n+1)+p:=by rw [Int.natCast_add,Int.mul_add];simp
  simp only [Fd]
  rw [e]
  omega
def F7 (v:Val):Int:=3870720 / 2 ^ (v.log+1).toNat
def C5 (v:Val):Int:=(Fd (F7 v) v.dots.toNat).2
theorem Sq (v:Val):0≤F7 v∧F7 v≤3870720:=by
 unfold F7
 have h:(0:Int)<2 ^ (v.log+1).toNat:=Int.pow_pos (by omega)
 exact ⟨Int.ediv_nonneg (by omega) (by omega),Int.ediv_le_self _ (by omega)⟩
theorem Xl (v:Val) (hv: -1≤v.log∧v.log≤8∧0≤v.dots∧v.dots≤3):XC Tryz.prog 179 [.agg (Val.c v)] (fun r=>r=dI (C5 v)):=by
 have hp:=Sq v
 refine An Abm Tryz.func179 R R lb<|zr<|XL.step R (Ap 1 (l:= [.d (dI v.log), .d (dI v.dots)]) R R (by kernel_rfl))<|za R R<|znr<|zp (Aa R R T1)<|zp (Ab R R Ai R R)<|zp (Al R R R (by omega) (by omega))<|zp (Aoe R R R (by omega) (by omega))<|za R R<|znr<|zm R R<|za R R<|zn<|?_
 refine zs<|zr<|zp (Aa R R Nh)<|zp (Ab R R Ai R R)<|zm R R<|zn<|Ah<|?_
 refine Az (α:=Nat) (fun k=>(k:Int)≤v.dots) (fun k=>mkF [(2, .d (dI 0)),(3, .d (dI (Fd (F7 v) k).1)),(4, .d (dI (Fd (F7 v) k).2)),(11, .d (dI v.dots)),(12, .d (dI k))]) (fun k=>mkH []) (fun k=>v.dots.toNat - k) (0) (hv.2.2.1) ?_ ?_ ?_
 exact fz ⟨sr,sr,sr,sr,sr,trivial⟩
 exact HSub.nil
 intro k hk0
 refine zr<|zp (Au R R R)<|zn<|zs<|?_
 refine zd R (fun c13=> ?_) (fun c13=> ?_)
 have hb:=Oa hp.1 k
 have hb2:F7 v*((k:Int)+1)≤3870720*4:=Int.mul_le_mul hp.2 (by omega) (by omega) (by omega)
 refine zi<|zs<|Ah<|zr<|zm R R<|zp (Jj R R R (by omega) (by omega) (by omega))<|za R R<|zng<|zm R R<|zm R R<|zp (Al R R R (by omega) (by omega))<|za R R<|zn<|Ag (by kernel_rfl)<|?_
 refine zp (Al R R R (by omega) (by omega))<|zm R R<|zn<|?_
 exact Am (k+1) (by omega) (by omega) (fz ⟨sr,sr,sr,sr,sr,trivial⟩) (HSub.nil)
 have hke:v.dots.toNat=k:=by omega
 exact At<|zr<|zm R R<|za R R<|zn<|zt<|z1 R R (rI (by rw [C5,hke]))
def P5 (v:Val):Int:=if Dg v=0 then C5 v else 0
theorem Ao4 {v:Val} (h:Dg v≠0):0=P5 v:=by rw [P5,if_neg h]
theorem Afa {v:Val} (h:¬Dg v≠0):C5 v=P5 v∧0=Dg v:=⟨by rw [P5,if_pos (by omega)],by omega⟩
theorem Ak6 (v:Val):XC Tryz.prog 205 [.agg (Val.c v)] (fun r=>r= .tup [dI (P5 v),dI (Dg v)]):=by
 refine An Aay Tryz.func205 R R lb<|zr<|XL.step R (Ap 1 (l:= [.d (dI v.log), .d (dI v.dots)]) R R (by kernel_rfl))<|za R R<|za R R<|zn<|zs<|zr<|zp (Ae (s':= .d (.agg (Val.c v))) (Ac (Ad R R El R lb)) (by kernel_rfl))<|XL.call1 R R (Xn _) R<|za R R<|znr<|zm R R<|zp (A1 R R R)<|?_
 refine zn<|?_
 refine zd R (fun c8=> ?_) (fun c8=> ?_)
 refine zr<|zm R R<|za R R<|za R R<|zn<|zt<|?_
 exact A6 R (RV.tmp R R) (RV.tmp R R) (r2 (rI (Ao4 c8)) R)
 refine zi<|zs<|?_
 have hv:=Wu c8
 refine Ag (by kernel_rfl)<|zp (Ae (s':= .d (.agg (Val.c v))) (Ac (Ad R R El R lb)) (by kernel_rfl))<|XL.call1 R R (Xl _ (by assumption)) R<|za R R<|za R R<|zn<|zt<|?_
 exact A6 R (RV.tmp R R) (RV.tmp R R) (r2 (rI (Afa c8).1) (rI (Afa c8).2))
def Ev.e1 (e:Ev):Int:=Es [B0 e.site 99,B0 e.num 1073741824]
def Ev.e2 (e:Ev):Int:=Es [E2 e.heads,Is e.graces,Ls e.lyr]
def Ev.e3 (e:Ev):Int:=Es [B0 e.art 31,B0 e.orn 4,B0 e.dyn 9,B0 e.stem 2,B0 e.beam 2]
def Ev.err (e:Ev):Int:=
 if e.e1≠0 then e.e1 else if ¬(1≤e.kind∧e.kind≤4) then 11 else if ¬e.same e.strip then 3 else if e.kind≠3∧Dg e.v≠0 then 17
 else if e.kind=1∧e.e2≠0 then e.e2 else e.e3
theorem At4 {e:Ev} (h:e.e1≠0):e.e1=e.err:=by rw [Ev.err,if_pos h]
theorem At3 {e:Ev} (h:¬e.e1≠0) (h2:¬(1≤e.kind∧e.kind≤4)):11=e.err:=by rw [Ev.err,if_neg h,if_pos h2]
theorem At2 {e:Ev} (h:¬e.e1≠0) (h2:¬ ¬(1≤e.kind∧e.kind≤4)) (h3:¬e.same e.strip):3=e.err:=by rw [Ev.err,if_neg h,if_neg h2,if_pos h3]
theorem At1 {e:Ev} (h:¬e.e1≠0) (h2:¬ ¬(1≤e.kind∧e.kind≤4)) (h3:¬ ¬e.same e.strip) (h4:e.kind≠3) (h5:Dg e.v≠0):17=e.err:=by rw [Ev.err,if_neg h,if_neg h2,if_neg h3,if_pos ⟨h4,h5⟩]
theorem At0 {e:Ev} (h:¬e.e1≠0) (h2:¬ ¬(1≤e.kind∧e.kind≤4)) (h3:¬ ¬e.same e.strip) (h4:¬(e.kind≠3∧Dg e.v≠0)) (h5:e.kind=1) (h6:e.e2≠0):e.e2=e.err:=by rw [Ev.err,if_neg h,if_neg h2,if_neg h3,if_neg h4,if_pos ⟨h5,h6⟩]
theorem Ahz {e:Ev} (h:¬e.e1≠0) (h2:¬ ¬(1≤e.kind∧e.kind≤4)) (h3:¬ ¬e.same e.strip) (h4:¬(e.kind≠3∧Dg e.v≠0)) (h5:¬(e.kind=1∧e.e2≠0)):e.e3=e.err:=by rw [Ev.err,if_neg h,if_neg h2,if_neg h3,if_neg h4,if_neg h5]
theorem Q6 (e:Ev) (he:e.art≤9223372036854775807):XC Tryz.prog 144 [.agg (Ev.c e)] (fun r=>r=dI e.err):=by
 refine An Acd Tryz.func144 R R lb<|zr<|XL.step R (Ap 1 (l:= [.d (dI e.site), .d (dI e.num), .d (dI e.kind), .d (dI e.v.log), .d (dI e.v.dots), .d (.sl 5 (e.heads.map Hd.c)), .d (.sl 5 (e.graces.map Gr.c)), .d (dI e.art), .d (dI e.orn), .d (dI e.dyn), .d (.sl 2 (e.lyr.map Sy.c)), .d (dI e.stem), .d (dI e.beam)]) R R (by kernel_rfl))<|za R R<|zn<|zs<|zs<|?_
 refine Bv [] (by kernel_rfl) (by kernel_rfl) (by kernel_rfl) (by decide)<|yp (Aa R R Iu)<|yp (Aa R R Z8)<|yp (Ab R R Ai R R)<|ChK.cons R (CStep.call R (Cr _ _) R)<|yp (Aa R R Iu)<|yp (Aa R R Anh)<|yp (Ab R R Ai R R)<|ChK.cons R (CStep.call R (Cr _ _) R)<|?_
 refine ChK.cons R (CStep.slice (l:=Cg [(B0 e.site 99),(B0 e.num 1073741824)]) R Tryz.underlying243 Nw Ju (by kernel_rfl) R (by omega) (by omega))<|ChK.cons R (CStep.call R (Iw _) R)<|ya R R<|?_
 refine ChK.nil ⟨by kernel_rfl, ?_⟩
 refine zr<|zm R R<|zp (A1 R R R)<|zn<|?_
 refine zd R (fun c16=> ?_) (fun c16=> ?_)
 exact zr<|zm R R<|za R R<|zn<|zt<|z1 R R (rI (At4 c16))
 refine zi<|zs<|zr<|zp (Aa R R Dj)<|zp (Ab R R Ai R R)<|XL.call1 R R (Xk _) R<|zp (En R R)<|zn<|?_
 refine zd R (fun c21=> ?_) (fun c21=> ?_)
 exact zr<|za R R<|zn<|zt<|z1 R R (rI (At3 c16 c21))
 refine zi<|zs<|zs<|Bv [] (by kernel_rfl) (by kernel_rfl) (by kernel_rfl) (by decide)<|yp (Ae (s':= .d (.agg (Ev.c e))) (Ac (Ad R R Bq R lb)) (by kernel_rfl))<|yp (Ae (s':= .d (.agg (Ev.c e))) (Ac (Ad R R Bq R lb)) (by kernel_rfl))<|ChK.cons R (CStep.call R (Alw _ (by assumption)) R)<|ChK.cons R (CStep.call R (Afm _ _) R)<|?_
 refine yp (En R R)<|?_
 refine ChK.nil ⟨by kernel_rfl, ?_⟩
 refine zd R (fun c26=> ?_) (fun c26=> ?_)
 exact zr<|za R R<|zn<|zt<|z1 R R (rI (At2 c16 c21 c26))
 refine zi<|zs<|zr<|zp (Aa R R Dj)<|zp (Ab R R Ai R R)<|zp (A1 R R R)<|zm R R<|?_
 refine XL.dec 30 R (fun g30=> ?_) (fun g30=> ?_)
 refine zp (Aa R R Hy)<|zp (Ae (s':= .d (.agg (Val.c e.v))) (Ac (Ad R R El R lb)) (by kernel_rfl))<|XL.call1 R R (Xn _) R<|zp (A1 R R R)<|zq R R R<|zn<|?_
 refine zd R (fun c35=> ?_) (fun c35=> ?_)
 exact zr<|za R R<|zn<|zt<|z1 R R (rI (At1 c16 c21 c26 g30 c35))
 refine zi<|zs<|zr<|zp (Aa R R Dj)<|zp (Ab R R Ai R R)<|zp (Bi R R R)<|zn<|?_
 refine zd R (fun c38=> ?_) (fun c38=> ?_)
 refine zs<|Bv [] (by kernel_rfl) (by kernel_rfl) (by kernel_rfl) (by decide)<|yp (Aa R R C7)<|yp (Ab R R Hs R R)<|ChK.cons R (CStep.call R (Z3 _) R)<|yp (Aa R R Ga)<|yp (Ab R R Nz R R)<|ChK.cons R (CStep.call R (Xc _) R)<|yp (Aa R R Ep)<|yp (Ab R R Ji R R)<|ChK.cons R (CStep.call R (W5 _) R)<|?_
 refine ChK.cons R (CStep.slice (l:=Cg [(E2 e.heads),(Is e.graces),(Ls e.lyr)]) R Tryz.underlying243 Nw Ju (by kernel_rfl) R (by omega) (by omega))<|ChK.cons R (CStep.call R (Iw _) R)<|ya R R<|?_
 refine ChK.nil ⟨by kernel_rfl, ?_⟩
 refine zr<|zm R R<|zp (A1 R R R)<|zn<|?_
 refine zd R (fun c51=> ?_) (fun c51=> ?_)
 exact zr<|zm R R<|za R R<|zn<|zt<|z1 R R (rI (At0 c16 c21 c26 (fun h=>c35 h.2) c38 c51))
 refine zi<|zs<|Bv [] (by kernel_rfl) (by kernel_rfl) (by kernel_rfl) (by decide)<|yp (Aa R R G4)<|yp (Ab R R Ai R R)<|ChK.cons R (CStep.call R (Cr _ _) R)<|yp (Aa R R K5)<|yp (Ab R R Ai R R)<|ChK.cons R (CStep.call R (Cr _ _) R)<|yp (Aa R R Js)<|yp (Ab R R Ai R R)<|ChK.cons R (CStep.call R (Cr _ _) R)<|?_
 refine yp (Aa R R It)<|yp (Ab R R Ai R R)<|ChK.cons R (CStep.call R (Cr _ _) R)<|yp (Aa R R J2)<|yp (Ab R R Ai R R)<|ChK.cons R (CStep.call R (Cr _ _) R)<|?_
 refine ChK.cons R (CStep.slice (l:=Cg [(B0 e.art 31),(B0 e.orn 4),(B0 e.dyn 9),(B0 e.stem 2),(B0 e.beam 2)]) R Tryz.underlying243 Nw Ju (by kernel_rfl) R (by omega) (by omega))<|ChK.cons R (CStep.call R (Iw _) R)<|ya R R<|?_
 refine ChK.nil ⟨by kernel_rfl, ?_⟩
 exact zt<|z1 R R (rI (Ahz c16 c21 c26 (fun h=>c35 h.2) (fun h=>c51 h.2)))
 refine zi<|zs<|Bv [] (by kernel_rfl) (by kernel_rfl) (by kernel_rfl) (by decide)<|yp (Aa R R G4)<|yp (Ab R R Ai R R)<|ChK.cons R (CStep.call R (Cr _ _) R)<|yp (Aa R R K5)<|yp (Ab R R Ai R R)<|ChK.cons R (CStep.call R (Cr _ _) R)<|yp (Aa R R Js)<|yp (Ab R R Ai R R)<|ChK.cons R (CStep.call R (Cr _ _) R)<|?_
 refine yp (Aa R R It)<|yp (Ab R R Ai R R)<|ChK.cons R (CStep.call R (Cr _ _) R)<|yp (Aa R R J2)<|yp (Ab R R Ai R R)<|ChK.cons R (CStep.call R (Cr _ _) R)<|?_
 refine ChK.cons R (CStep.slice (l:=Cg [(B0 e.art 31),(B0 e.orn 4),(B0 e.dyn 9),(B0 e.stem 2),(B0 e.beam 2)]) R Tryz.underlying243 Nw Ju (by kernel_rfl) R (by omega) (by omega))<|ChK.cons R (CStep.call R (Iw _) R)<|ya R R<|?_
 refine ChK.nil ⟨by kernel_rfl, ?_⟩
 exact zt<|z1 R R (rI (Ahz c16 c21 c26 (fun h=>c35 h.2) (fun h=>c38 h.1)))
 refine zk 4 R<|zq R R R<|zn<|A8 (by kernel_rfl) R<|zi<|zs<|zr<|zp (Aa R R Dj)<|zp (Ab R R Ai R R)<|zp (Bi R R R)<|zn<|?_
 refine zd R (fun c38=> ?_) (fun c38=> ?_)
 refine zs<|Bv [] (by kernel_rfl) (by kernel_rfl) (by kernel_rfl) (by decide)<|yp (Aa R R C7)<|yp (Ab R R Hs R R)<|ChK.cons R (CStep.call R (Z3 _) R)<|yp (Aa R R Ga)<|yp (Ab R R Nz R R)<|ChK.cons R (CStep.call R (Xc _) R)<|yp (Aa R R Ep)<|yp (Ab R R Ji R R)<|ChK.cons R (CStep.call R (W5 _) R)<|?_
 refine ChK.cons R (CStep.slice (l:=Cg [(E2 e.heads),(Is e.graces),(Ls e.lyr)]) R Tryz.underlying243 Nw Ju (by kernel_rfl) R (by omega) (by omega))<|ChK.cons R (CStep.call R (Iw _) R)<|ya R R<|?_
 refine ChK.nil ⟨by kernel_rfl, ?_⟩
 refine zr<|zm R R<|zp (A1 R R R)<|zn<|?_
 refine zd R (fun c51=> ?_) (fun c51=> ?_)
 exact zr<|zm R R<|za R R<|zn<|zt<|z1 R R (by exfalso;omega)
 refine zi<|zs<|Bv [] (by kernel_rfl) (by kernel_rfl) (by kernel_rfl) (by decide)<|yp (Aa R R G4)<|yp (Ab R R Ai R R)<|ChK.cons R (CStep.call R (Cr _ _) R)<|yp (Aa R R K5)<|yp (Ab R R Ai R R)<|ChK.cons R (CStep.call R (Cr _ _) R)<|yp (Aa R R Js)<|yp (Ab R R Ai R R)<|ChK.cons R (CStep.call R (Cr _ _) R)<|?_
 refine yp (Aa R R It)<|yp (Ab R R Ai R R)<|ChK.cons R (CStep.call R (Cr _ _) R)<|yp (Aa R R J2)<|yp (Ab R R Ai R R)<|ChK.cons R (CStep.call R (Cr _ _) R)<|?_
 refine ChK.cons R (CStep.slice (l:=Cg [(B0 e.art 31),(B0 e.orn 4),(B0 e.dyn 9),(B0 e.stem 2),(B0 e.beam 2)]) R Tryz.underlying243 Nw Ju (by kernel_rfl) R (by omega) (by omega))<|ChK.cons R (CStep.call R (Iw _) R)<|ya R R<|?_
 refine ChK.nil ⟨by kernel_rfl, ?_⟩
 exact zt<|z1 R R (by exfalso;omega)
 refine zi<|zs<|Bv [] (by kernel_rfl) (by kernel_rfl) (by kernel_rfl) (by decide)<|yp (Aa R R G4)<|yp (Ab R R Ai R R)<|ChK.cons R (CStep.call R (Cr _ _) R)<|yp (Aa R R K5)<|yp (Ab R R Ai R R)<|ChK.cons R (CStep.call R (Cr _ _) R)<|yp (Aa R R Js)<|yp (Ab R R Ai R R)<|ChK.cons R (CStep.call R (Cr _ _) R)<|?_
 refine yp (Aa R R It)<|yp (Ab R R Ai R R)<|ChK.cons R (CStep.call R (Cr _ _) R)<|yp (Aa R R J2)<|yp (Ab R R Ai R R)<|ChK.cons R (CStep.call R (Cr _ _) R)<|?_
 refine ChK.cons R (CStep.slice (l:=Cg [(B0 e.art 31),(B0 e.orn 4),(B0 e.dyn 9),(B0 e.stem 2),(B0 e.beam 2)]) R Tryz.underlying243 Nw Ju (by kernel_rfl) R (by omega) (by omega))<|ChK.cons R (CStep.call R (Iw _) R)<|ya R R<|?_
 refine ChK.nil ⟨by kernel_rfl, ?_⟩
 exact zt<|z1 R R (rI (Ahz c16 c21 c26 (fun h=>g30 h.1) (fun h=>c38 h.1)))
def Ev.len (e:Ev):Int:=if e.err≠0∨e.kind=3 then 0 else P5 e.v
theorem Atu {e:Ev} (h:e.err≠0):0=e.len:=by rw [Ev.len,if_pos (.inl h)]
theorem Att {e:Ev} (h:e.kind=3):0=e.len:=by rw [Ev.len,if_pos (.inr h)]
theorem Ats {e:Ev} (h:¬e.err≠0) (h2:¬e.kind=3):P5 e.v=e.len:=by rw [Ev.len,if_neg (by omega)]
theorem Agn {e:Ev} (h:¬e.err≠0) (h2:¬e.kind=3):Dg e.v=e.err:=by
 have h0:e.err=0:=by omega
 rw [h0]
 unfold Ev.err at h0
 split at h0
 ·rename_i h1;exact absurd h0 h1
 ·split at h0
  ·omega
  ·split at h0
   ·omega
   ·split at h0
    ·omega
    ·rename_i h4;by_cases h5:Dg e.v=0
     ·exact h5
     ·exact absurd ⟨h2,h5⟩ h4
theorem Agk (e:Ev) (he:e.art≤9223372036854775807):XC Tryz.prog 190 [.agg (Ev.c e)] (fun r=>r= .tup [dI e.len,dI e.err]):=by
 refine An Abb Tryz.func190 R R lb<|zr<|XL.step R (Ap 1 (l:= [.d (dI e.site), .d (dI e.num), .d (dI e.kind), .d (dI e.v.log), .d (dI e.v.dots), .d (.sl 5 (e.heads.map Hd.c)), .d (.sl 5 (e.graces.map Gr.c)), .d (dI e.art), .d (dI e.orn), .d (dI e.dyn), .d (.sl 2 (e.lyr.map Sy.c)), .d (dI e.stem), .d (dI e.beam)]) R R (by kernel_rfl))<|za R R<|za R R<|zn<|zs<|zr<|?_
 refine zp (Ae (s':= .d (.agg (Ev.c e))) (Ac (Ad R R Bq R lb)) (by kernel_rfl))<|XL.call1 R R (Q6 _ (by assumption)) R<|za R R<|znr<|zm R R<|zp (A1 R R R)<|zm R R<|?_
 refine XL.dec 9 R (fun g9=> ?_) (fun g9=> ?_)
 refine zk 3 R<|zq R R R<|zn<|Av (by kernel_rfl) R<|zr<|zm R R<|za R R<|za R R<|zn<|zt<|?_
 exact A6 R (RV.tmp R R) (RV.tmp R R) (r2 (rI (Atu g9)) R)
 refine zp (Aa R R Dj)<|zp (Ab R R Ai R R)<|zp (Bi R R R)<|zq R R R<|zn<|?_
 refine zd R (fun c13=> ?_) (fun c13=> ?_)
 refine zr<|zm R R<|za R R<|za R R<|zn<|zt<|?_
 exact A6 R (RV.tmp R R) (RV.tmp R R) (r2 (rI (Att c13)) R)
 refine zi<|zr<|zp (Aa R R Hy)<|zp (Ae (s':= .d (.agg (Val.c e.v))) (Ac (Ad R R El R lb)) (by kernel_rfl))<|XL.call1 R R (Ak6 _) R<|zp (A0 R R R)<|zp (A0 R R R)<|za R R<|za R R<|zn<|zt<|?_
 exact A6 R (RV.tmp R R) (RV.tmp R R) (r2 (rI (Ats g9 c13)) (rI (Agn g9 c13)))
end Go.Proofs.YtaafemnkamfgnaaGreat
namespace Go.Proofs.YtaafemnkamfgnaaGreat
open Go.RowKit
def Tp.e (t:Tp):Int:=t.first+t.count
def Tp.ok (t:Tp):Prop:=0≤t.first∧t.first≤128∧1≤t.count∧t.count≤128∧1≤t.actual∧t.actual≤32∧1≤t.normal∧t.normal≤32
def Tp.has (t:Tp) (n:Int):Prop:=t.first≤n∧n - t.first<t.count
instance (t:Tp) (n:Int):Decidable (t.has n):=by unfold Tp.has;exact inferInstance
theorem Ha (t:Tp) (h:t.ok):XC Tryz.prog 194 [.agg (Tp.c t)] (fun r=>r=dI t.e):=by
 have h2:=h
 simp only [Tp.ok] at h2
 exact An Aa8 Tryz.func194 R R lb<|zr<|XL.step R (Ap 1 (l:= [.d (dI t.first), .d (dI t.count), .d (dI t.actual), .d (dI t.normal)]) R R (by kernel_rfl))<|za R R<|znr<|zp (Aa R R Bw)<|zp (Ab R R Ai R R)<|zp (Aa R R Dl)<|zp (Ab R R Ai R R)<|zp (Al R R R (by omega) (by omega))<|za R R<|zn<|zt<|z1 R R (rI R)
theorem Sz (t:Tp) (n:Int) (h:t.ok) (h0:0≤n) (h1:n≤128):XC Tryz.prog 173 [.agg (Tp.c t), .v (.int .i64 n)] (fun r=>r=dB (decide (t.has n))):=by
 have h2:=h
 simp only [Tp.ok] at h2
 refine An Abr Tryz.func173 R R lb<|zr<|XL.step R (Ap 2 (l:= [.d (dI t.first), .d (dI t.count), .d (dI t.actual), .d (dI t.normal)]) R R (by kernel_rfl))<|za R R<|znr<|zm R R<|zp (Aa R R Bw)<|zp (Ab R R Ai R R)<|zp (Gg R R R)<|zm R R<|?_
 refine XL.dec 9 R (fun g9=> ?_) (fun g9=> ?_)
 exact zm R R<|zp (Aa R R Bw)<|zp (Ab R R Ai R R)<|zp (Fk R R R (by omega) (by omega))<|zp (Aa R R Dl)<|zp (Ab R R Ai R R)<|zp (Au R R R)<|zq R R R<|za R R<|zn<|zt<|z1 R R (rB (by rw [decide_eq_decide];unfold Tp.has;omega))
 exact zk 7 R<|zq R R R<|za R R<|zn<|zt<|z1 R R (rB (by rw [eq_comm,decide_eq_false_iff_not];unfold Tp.has;omega))
def Kd (a b:Tp):Int:=if a.first≠b.first then (if a.first<b.first then -1 else 1) else if a.count≠b.count then (if b.count<a.count then -1 else 1) else 0
theorem Aml (a b:Tp):XC Tryz.prog 196 [.agg (Tp.c a), .agg (Tp.c b)] (fun r=>r=dI (Kd a b)):=by
 refine An Aa6 Tryz.func196 R R lb<|zr<|XL.step R (Ap 2 (l:= [.d (dI a.first), .d (dI a.count), .d (dI a.actual), .d (dI a.normal)]) R R (by kernel_rfl))<|XL.step R (Ap 3 (l:= [.d (dI b.first), .d (dI b.count), .d (dI b.actual), .d (dI b.normal)]) R R (by kernel_rfl))<|za R R<|zn<|zs<|zr<|zp (Aa R R Bw)<|zp (Ab R R Ai R R)<|zp (Aa R R Bw)<|?_
 refine zp (Ab R R Ai R R)<|zp (A1 R R R)<|zn<|?_
 refine zd R (fun c9=> ?_) (fun c9=> ?_)
 refine zs<|zr<|zp (Aa R R Bw)<|zp (Ab R R Ai R R)<|zp (Aa R R Bw)<|zp (Ab R R Ai R R)<|zp (Au R R R)<|zn<|?_
 refine zd R (fun c14=> ?_) (fun c14=> ?_)
 exact zr<|za R R<|zn<|zt<|z1 R R (rI (by rw [Kd,if_pos c9,if_pos c14]))
 exact zi<|zr<|za R R<|zn<|zt<|z1 R R (rI (by rw [Kd,if_pos c9,if_neg c14]))
 refine zi<|zs<|zr<|zp (Aa R R Dl)<|zp (Ab R R Ai R R)<|zp (Aa R R Dl)<|zp (Ab R R Ai R R)<|zp (A1 R R R)<|zn<|?_
 refine zd R (fun c19=> ?_) (fun c19=> ?_)
 refine zs<|zr<|zp (Aa R R Dl)<|zp (Ab R R Ai R R)<|zp (Aa R R Dl)<|zp (Ab R R Ai R R)<|zp (Bb R R R)<|zn<|?_
 refine zd R (fun c24=> ?_) (fun c24=> ?_)
 exact zr<|za R R<|zn<|zt<|z1 R R (rI (by rw [Kd,if_neg c9,if_pos c19,if_pos c24]))
 exact zi<|zr<|za R R<|zn<|zt<|z1 R R (rI (by rw [Kd,if_neg c9,if_pos c19,if_neg c24]))
 exact zi<|zr<|za R R<|zn<|zt<|z1 R R (rI (by rw [Kd,if_neg c9,if_neg c19]))
theorem Y6 (n:Int):XC Tryz.prog 195 [.v (.int .i64 n)] (fun r=>r=dB (decide (1≤n∧n≤32))):=by
 refine An Aa7 Tryz.func195 R R lb<|zr<|za R R<|znr<|zm R R<|zp (Gg R R R)<|zm R R<|?_
 refine XL.dec 5 R (fun g5=> ?_) (fun g5=> ?_)
 exact zm R R<|zp (N1 R R R)<|zq R R R<|za R R<|zn<|zt<|z1 R R (rB (by rw [decide_eq_decide];omega))
 exact zk 2 R<|zq R R R<|za R R<|zn<|zt<|z1 R R (rB (by rw [eq_comm,decide_eq_false_iff_not];omega))
theorem Ana {a b:Int} (ha:0≤a) (hb:0<b):Int.gcd b (a % b)=Int.gcd a b:=by
 rw [Int.gcd_comm a b,Int.gcd_comm b (a % b),Int.gcd_comm b a]
 obtain ⟨m,rfl⟩:=Int.eq_ofNat_of_zero_le ha
 obtain ⟨n,rfl⟩:=Int.eq_ofNat_of_zero_le (Int.le_of_lt hb)
 rw [show ((m:Int) % (n:Int))=((m % n:Nat):Int) from by simp]
 simp only [Int.gcd_natCast_natCast]
 rw [Nat.gcd_comm m n, ←Nat.gcd_rec n m]
theorem Ah2 (a b:Int) (ha:0≤a) (hb:0≤b):XC Tryz.prog 210 [.v (.int .i64 a), .v (.int .i64 b)] (fun r=>r=dI (Int.gcd a b)):=by
 refine An Aat Tryz.func210 R R lb<|zr<|za R R<|zn<|zs<|Ah<|?_
 refine Az (α:=Int × Int) (fun p=>0≤p.1∧0≤p.2∧Int.gcd p.1 p.2=Int.gcd a b) (fun p=>mkF [(0, .d (dI p.1)),(1, .d (dI p.2)),(4, .d (dI 0))]) (fun p=>mkH []) (fun p=>p.2.toNat) ((a,b)) (⟨ha,hb,R⟩) ?_ ?_ ?_
 exact fz ⟨sr,sr,sr,trivial⟩
 exact HSub.nil
 intro p hk0
 obtain ⟨h1,h2,h3⟩:=hk0
 refine zs<|zr<|zm R R<|zp (Bb R R R)<|zn<|?_
 refine zd R (fun c6=> ?_) (fun c6=> ?_)
 refine zi<|Ah<|Bv [] (by kernel_rfl) (by kernel_rfl) (by kernel_rfl) (by decide)<|ym R R<|ym R R<|ym R R<|yp (Fu R R R (by omega) (by omega))<|ya R R<|ya R R<|?_
 refine ChK.nil ⟨by kernel_rfl, ?_⟩
 refine Ry<|?_
 exact Am ((p.2,p.1 % p.2)) (⟨h2,Int.emod_nonneg _ (by omega),by rw [←h3];exact Ana h1 c6⟩) (by have:=Int.emod_lt_of_pos p.1 c6;have:=Int.emod_nonneg p.1 (show p.2≠0 by omega);simp only;omega) (fz ⟨sr,sr,sr,trivial⟩) (HSub.nil)
 have he:p.2=0:=by omega
 have hg:p.1=(Int.gcd a b:Int):=by rw [←h3,he,Int.gcd_zero_right];omega
 exact At<|zr<|zm R R<|za R R<|zn<|zt<|z1 R R (rI hg)
theorem Rw {a b:Int} (h:0≤a) (h1:1≤b):a≤a*b:=by
 have:=Int.mul_le_mul_of_nonneg_left h1 h
 omega
def hits (l:List Tp) (n:Int):Nat:=(l.filter fun t=>decide (t.has n)).length
def Fy (n:Int) (p:Int × Int) (t:Tp):Int × Int:=
 if t.has n then (p.1*t.normal / (Int.gcd (p.1*t.normal) (p.2*t.actual):Int),p.2*t.actual / (Int.gcd (p.1*t.normal) (p.2*t.actual):Int)) else p
def Bk (l:List Tp) (n:Int):Int × Int:=l.foldl (Fy n) (1,1)
theorem Ir (l:List Tp) (t:Tp) (n:Int):hits (l++ [t]) n=hits l n+(if t.has n then 1 else 0):=by
 unfold hits
 rw [List.filter_append,List.length_append]
 by_cases h:t.has n<;>simp [h]
theorem Qw (l:List Tp) (k:Nat) (n:Int):hits (l.take k) n≤hits l n:=by
 unfold hits
 exact ((List.take_sublist k l).filter _).length_le
theorem Aki (l:List Tp) (k:Nat) (n:Int):hits (l.drop k) n≤hits l n:=by
 unfold hits
 exact ((List.drop_sublist k l).filter _).length_le
theorem Pg (l:List Tp) (t:Tp) (n:Int):Bk (l++ [t]) n=Fy n (Bk l n) t:=by
 unfold Bk
 rw [List.foldl_append]
 rfl
theorem Afr {l:List Tp} (h:∀t∈l,t.ok) (k:Nat):∀t∈l.take k,t.ok:=fun t ht=>h t (List.mem_of_mem_take ht)
theorem Apy {l:List Tp} (h:∀t∈l,t.ok) (k:Nat):∀t∈l.drop k,t.ok:=fun t ht=>h t (List.mem_of_mem_drop ht)
theorem Pv {a b:Int} (ha:1≤a) (hb:1≤b):1≤a / (Int.gcd a b:Int)∧a / (Int.gcd a b:Int)≤a∧1≤(Int.gcd a b:Int)∧(Int.gcd a b:Int)≤a:=by
 have hg:0<Int.gcd a b:=Int.gcd_pos_of_ne_zero_left b (by omega)
 have hd:(Int.gcd a b:Int) ∣ a:=Int.gcd_dvd_left a b
 have hle:(Int.gcd a b:Int)≤a:=Int.le_of_dvd (by omega) hd
 refine ⟨?_,Int.ediv_le_self _ (by omega),by omega,hle⟩
 exact (Int.le_ediv_iff_mul_le (by omega)).2 (by omega)
theorem Adf {n:Int} {p:Int × Int} {t:Tp} (ht:t.ok) {B:Int} (h1:1≤p.1) (h2:p.1≤B) (h3:1≤p.2) (h4:p.2≤B):
  1≤(Fy n p t).1∧(Fy n p t).1≤(if t.has n then B*32 else B)∧1≤(Fy n p t).2∧(Fy n p t).2≤(if t.has n then B*32 else B):=by
 unfold Fy
 obtain ⟨_,_,_,_,q1,q2,q3,q4⟩:=ht
 split
 ·have e1:1≤p.1*t.normal:=Int.le_trans h1 (Rw (by omega) q3)
  have e2:1≤p.2*t.actual:=Int.le_trans h3 (Rw (by omega) q1)
  have e3:p.1*t.normal≤B*32:=Int.mul_le_mul h2 q4 (by omega) (by omega)
  have e4:p.2*t.actual≤B*32:=Int.mul_le_mul h4 q2 (by omega) (by omega)
  have g1:=Pv e1 e2
  have g2:=Pv e2 e1
  rw [Int.gcd_comm] at g2
  exact ⟨g1.1,by omega,g2.1,by omega⟩
 ·exact ⟨h1,h2,h3,h4⟩
theorem Ta {α:Type} {p:List α→Prop} (h0:p []) (hs:∀l a,p l→p (l++ [a])) (l:List α):p l:=by
 have:∀k,k≤l.length→p (l.take k):=by
  intro k
  induction k with
  |zero=>intro _;rw [List.take_zero];exact h0
  |succ k ih=>
   intro hk
   have e:l[k]? =some l[k]:=List.getElem?_eq_getElem (by omega)
   rw [B3 e]
   exact hs _ _ (ih (by omega))
 have h:=this l.length (Nat.le_refl _)
 rwa [List.take_length] at h
theorem Wl (l:List Tp) (n:Int):(∀t∈l,t.ok)→1≤(Bk l n).1∧(Bk l n).1≤32 ^ hits l n∧1≤(Bk l n).2∧(Bk l n).2≤32 ^ hits l n:=by
 refine Ta (p:=fun l=>(∀t∈l,t.ok)→1≤(Bk l n).1∧(Bk l n).1≤32 ^ hits l n∧1≤(Bk l n).2∧(Bk l n).2≤32 ^ hits l n) (fun _=>by simp [Bk,hits]) (fun l t ih hl=> ?_) l
 obtain ⟨h1,h2,h3,h4⟩:=ih (fun t ht=>hl t (List.mem_append_left _ ht))
 have:=Adf (n:=n) (hl t (List.mem_append_right _ (List.mem_singleton.2 rfl))) h1 h2 h3 h4
 rw [Pg,Ir]
 split at this
 ·rename_i h;rw [if_pos h,Int.pow_succ];exact this
 ·rename_i h;rw [if_neg h];exact this
theorem Th {l:List Tp} {n:Int} (hl:∀t∈l,t.ok) (h:hits l n≤3):1≤(Bk l n).1∧(Bk l n).1≤32768∧1≤(Bk l n).2∧(Bk l n).2≤32768:=by
 have:=Wl l n hl
 have e:(32:Int) ^ hits l n≤32768:=by
  generalize hits l n=k at*
  match k,h with
  |0,_=>decide
  |1,_=>decide
  |2,_=>decide
  |3,_=>decide
  |k+4,h=>omega
 omega
theorem Wk {l:List Tp} {k:Nat} {t:Tp} {n:Int} (h:l[k]? =some t) (ht:t.has n):Bk (l.take (k+1)) n=((Bk (l.take k) n).1*t.normal / (Int.gcd ((Bk (l.take k) n).1*t.normal) ((Bk (l.take k) n).2*t.actual):Int),(Bk (l.take k) n).2*t.actual / (Int.gcd ((Bk (l.take k) n).1*t.normal) ((Bk (l.take k) n).2*t.actual):Int)):=by
 rw [B3 h,Pg,Fy,if_pos ht]
theorem Ut {l:List Tp} {k:Nat} {t:Tp} {n:Int} (h:l[k]? =some t) (ht:¬t.has n):Bk (l.take (k+1)) n=Bk (l.take k) n:=by
 rw [B3 h,Pg,Fy,if_neg ht]
theorem Ag4 (l:List Tp) (n:Int) (hl:∀t∈l,t.ok) (hh:hits l n≤3) (h0:0≤n) (h1:n≤128):XC Tryz.prog 206 [.sl 4 (l.map Tp.c), .v (.int .i64 n)] (fun r=>r= .tup [dI (Bk l n).1,dI (Bk l n).2]):=by
 refine An Aax Tryz.func206 R R lb<|zr<|za R R<|za R R<|znr<|za R R<|za R R<|zn<|zs<|zr<|zm R R<|XL.len R R R Tryz.underlying80 fun hl10=>zm R R<|zn<|?_
 refine Ah<|?_
 refine Az (α:=Nat) (fun k=>k≤l.length) (fun k=>mkF [(1, .d (dI n)),(4, .d (dI (Bk (l.take k) n).1)),(5, .d (dI (Bk (l.take k) n).2)),(9, .d (.sl 4 (l.map Tp.c))),(10, .d (dI l.length)),(11, .d (dI k))]) (fun k=>mkH []) (fun k=>l.length - k) (0) (Nat.zero_le _) ?_ ?_ ?_
 exact fz ⟨sr,sr,sr,sr,sr,sr,trivial⟩
 exact HSub.nil
 intro k hk0
 refine zr<|zp (Au R R R)<|zn<|zs<|?_
 refine zd R (fun c12=> ?_) (fun c12=> ?_)
 have hk0a:k<l.length:=by omega
 obtain ⟨x0,hx0⟩:=Ar hk0a
 have hok:x0.ok:=hl x0 (List.mem_of_getElem? hx0)
 have hb:=Th (n:=n) (Afr hl k) (Nat.le_trans (Qw l k n) hh)
 have hok2:=hok
 simp only [Tp.ok] at hok2
 have e1:1≤(Bk (l.take k) n).1*x0.normal:=Int.le_trans hb.1 (Rw (by omega) (by omega))
 have e2:1≤(Bk (l.take k) n).2*x0.actual:=Int.le_trans hb.2.2.1 (Rw (by omega) (by omega))
 have e3:(Bk (l.take k) n).1*x0.normal≤32768*32:=Int.mul_le_mul hb.2.1 (by omega) (by omega) (by omega)
 have e4:(Bk (l.take k) n).2*x0.actual≤32768*32:=Int.mul_le_mul hb.2.2.2 (by omega) (by omega) (by omega)
 have g1:=Pv e1 e2
 refine zi<|zs<|Ah<|zr<|zp (Ao R R R E3 hx0)<|zp (Ae (s':= .d (.agg (Tp.c x0))) (Ay R R B9 lb) (by kernel_rfl))<|XL.step R (Aq 7 (l:= [.d (dI 0), .d (dI 0), .d (dI 0), .d (dI 0)]) R Dy (by kernel_rfl))<|XL.step R (Af (l':= [.d (dI x0.first), .d (dI x0.count), .d (dI x0.actual), .d (dI x0.normal)]) R R R R Fc R lb (by kernel_rfl))<|znr<|?_
 refine zp (Ae (s':= .d (.agg (Tp.c x0))) (Ac (Ad R R B9 R lb)) (by kernel_rfl))<|zm R R<|XL.call1 R R (Sz _ _ (by assumption) (by omega) (by omega)) R<|zn<|?_
 refine zd R (fun c17=> ?_) (fun c17=> ?_)
 refine zs<|Bv [] (by kernel_rfl) (by kernel_rfl) (by kernel_rfl) (by decide)<|ym R R<|yp (Aa R R Q3)<|yp (Ab R R Ai R R)<|yp (L9 R R R (by omega) (by omega))<|ym R R<|yp (Aa R R N9)<|yp (Ab R R Ai R R)<|yp (L9 R R R (by omega) (by omega))<|ya R R<|ya R R<|?_
 refine ChK.nil ⟨by kernel_rfl, ?_⟩
 refine zr<|zm R R<|zm R R<|XL.call1 R R (Ah2 _ _ (by omega) (by omega)) R<|za R R<|zn<|Bv [] (by kernel_rfl) (by kernel_rfl) (by kernel_rfl) (by decide)<|ym R R<|ym R R<|yp (Jj R R R (by omega) (by omega) (by omega))<|ym R R<|ym R R<|yp (Jj R R R (by omega) (by omega) (by omega))<|ya R R<|?_
 refine ya R R<|?_
 refine ChK.nil ⟨by kernel_rfl, ?_⟩
 refine Ag (by kernel_rfl)<|zp (Al R R R (by omega) (by omega))<|zm R R<|zn<|?_
 exact Am (k+1) (by omega) (by omega) (fz ⟨sr, .same (sI (by rw [Wk hx0 c17])), .same (sI (by rw [Wk hx0 c17])),sr,sr,sr,trivial⟩) (HSub.nil)
 refine zi<|Ag (by kernel_rfl)<|zp (Al R R R (by omega) (by omega))<|zm R R<|zn<|?_
 exact Am (k+1) (by omega) (by omega) (fz ⟨sr, .same (sI (by rw [Ut hx0 c17])), .same (sI (by rw [Ut hx0 c17])),sr,sr,sr,trivial⟩) (HSub.nil)
 have hk0b:k=l.length:=by omega
 have ht:l.take k=l:=by rw [hk0b,List.take_length]
 refine At<|zr<|zm R R<|zm R R<|za R R<|za R R<|zn<|zt<|?_
 exact A6 R (RV.tmp R R) (RV.tmp R R) (r2 (rI (by rw [ht])) (rI (by rw [ht])))
def D9 (l:List Tp) (n w:Int):Int:=if w<0∨7741440<w then 0 else if w*(Bk l n).1 % (Bk l n).2≠0 then 0 else w*(Bk l n).1 / (Bk l n).2
def D1 (l:List Tp) (n w:Int):Int:=if w<0∨7741440<w then 2 else if w*(Bk l n).1 % (Bk l n).2≠0 then 16 else 0
theorem Rn {l:List Tp} {n w:Int} (h:w<0∨7741440<w):0=D9 l n w∧2=D1 l n w:=by simp only [D9,D1,if_pos h];exact ⟨trivial,trivial⟩
theorem Afl {l:List Tp} {n w:Int} (h1:¬w<0) (h2:¬7741440<w) (h:w*(Bk l n).1 % (Bk l n).2≠0):0=D9 l n w∧16=D1 l n w:=by simp only [D9,D1,if_neg (show ¬(w<0∨7741440<w) by omega),if_pos h];exact ⟨trivial,trivial⟩
theorem Afk {l:List Tp} {n w:Int} (h1:¬w<0) (h2:¬7741440<w) (h:¬w*(Bk l n).1 % (Bk l n).2≠0):w*(Bk l n).1 / (Bk l n).2=D9 l n w∧0=D1 l n w:=by simp only [D9,D1,if_neg (show ¬(w<0∨7741440<w) by omega),if_neg h];exact ⟨trivial,trivial⟩
theorem Y2 {l:List Tp} {n w:Int} (hl:∀t∈l,t.ok) (hh:hits l n≤3):0≤D9 l n w∧D9 l n w≤253671505920:=by
 have hb:=Th hl hh
 unfold D9
 split
 ·omega
 ·split
  ·omega
  ·have e1:0≤w*(Bk l n).1:=Int.mul_nonneg (by omega) (by omega)
   have e2:w*(Bk l n).1≤7741440*32768:=Int.mul_le_mul (by omega) hb.2.1 (by omega) (by omega)
   exact ⟨Int.ediv_nonneg e1 (by omega),Int.le_trans (Int.ediv_le_self _ e1) (by omega)⟩
theorem Y1 (l:List Tp) (n w:Int) (hl:∀t∈l,t.ok) (hh:hits l n≤3) (h0:0≤n) (h1:n≤128):XC Tryz.prog 191 [.sl 4 (l.map Tp.c), .v (.int .i64 n), .v (.int .i64 w)] (fun r=>r= .tup [dI (D9 l n w),dI (D1 l n w)]):=by
 have hb:=Th hl hh
 refine An Aba Tryz.func191 R R lb<|zr<|za R R<|za R R<|zn<|zs<|zr<|zm R R<|zp (Au R R R)<|zm R R<|?_
 refine XL.dec 12 R (fun g12=> ?_) (fun g12=> ?_)
 refine zk 2 R<|zq R R R<|zn<|Av (by kernel_rfl) R<|zr<|za R R<|za R R<|zn<|zt<|?_
 exact A6 R (RV.tmp R R) (RV.tmp R R) (r2 (rI (Rn (.inl g12)).1) (rI (Rn (l:=l) (n:=n) (.inl g12)).2))
 refine zm R R<|zp (Bb R R R)<|zq R R R<|zn<|?_
 refine zd R (fun c15=> ?_) (fun c15=> ?_)
 refine zr<|za R R<|za R R<|zn<|zt<|?_
 exact A6 R (RV.tmp R R) (RV.tmp R R) (r2 (rI (Rn (.inr c15)).1) (rI (Rn (l:=l) (n:=n) (.inr c15)).2))
 refine zi<|zr<|zm R R<|zm R R<|XL.call1 R R (Ag4 _ _ (by assumption) (by assumption) (by omega) (by omega)) R<|zm R R<|zp (A0 R R R)<|zp (A0 R R R)<|za R R<|za R R<|zn<|zs<|zs<|?_
 have e1:0≤w*(Bk l n).1:=Int.mul_nonneg (by omega) (by omega)
 have e2:w*(Bk l n).1≤7741440*32768:=Int.mul_le_mul (by omega) hb.2.1 (by omega) (by omega)
 refine Ag (by kernel_rfl)<|zm R R<|zm R R<|zp (L9 R R R (by omega) (by omega))<|zm R R<|zp (Fu R R R (by omega) (by omega))<|zp (A1 R R R)<|zn<|?_
 refine zd R (fun c27=> ?_) (fun c27=> ?_)
 refine zr<|za R R<|za R R<|zn<|zt<|?_
 exact A6 R (RV.tmp R R) (RV.tmp R R) (r2 (rI (Afl g12 c15 c27).1) (rI (Afl g12 c15 c27).2))
 refine zi<|zr<|zm R R<|zm R R<|zp (L9 R R R (by omega) (by omega))<|zm R R<|zp (Jj R R R (by omega) (by omega) (by omega))<|za R R<|za R R<|zn<|zt<|?_
 exact A6 R (RV.tmp R R) (RV.tmp R R) (r2 (rI (Afk g12 c15 c27).1) (rI (Afk g12 c15 c27).2))
end Go.Proofs.YtaafemnkamfgnaaGreat
namespace Go.Proofs.YtaafemnkamfgnaaGreat
open Go.RowKit
def Tp.inR (t:Tp) (n:Int):Prop:=1≤t.count∧t.count≤n∧0≤t.first∧t.first≤n - t.count∧(1≤t.actual∧t.actual≤32)∧(1≤t.normal∧t.normal≤32)∧t.actual≠t.normal
instance (t:Tp) (n:Int):Decidable (t.inR n):=by unfold Tp.inR;exact inferInstance
theorem Tp.inR.ok {t:Tp} {n:Int} (h:t.inR n) (hn:n≤128):t.ok:=by unfold Tp.inR at h;unfold Tp.ok;omega
def Cp (t:Tp):List Tp→List Tp
 | []=> []
 |o::r=>if o.e≤t.first then Cp t r else o::r
def D3 (t:Tp) (s:List Tp):Prop:=s.length=3∨match s with| []=>False|o::_=>o.e<t.e
instance (t:Tp) (s:List Tp):Decidable (D3 t s):=by unfold D3;cases s<;>exact inferInstance
def Iy (p:Option Tp) (t:Tp):Prop:=match p with|some q=>0<Kd q t|none=>False
instance (p:Option Tp) (t:Tp):Decidable (Iy p t):=by unfold Iy;cases p<;>exact inferInstance
def Ex (n:Int):Option Tp→List Tp→List Tp→Int
 |_,_, []=>0
 |p,s,t::l=>if ¬t.inR n then 2 else if Iy p t then 25 else if D3 t (Cp t s) then 21 else Ex n (some t) (t::Cp t s) l
def D6 (l:List Tp) (n:Int):Int:=if n<0∨128<n then 2 else if 16<l.length then 9 else Ex n none [] l
def stk (l:List Tp) (k:Nat):List Tp:=(l.take k).foldl (fun s t=>t::Cp t s) []
def Uu (l:List Tp) (k:Nat):Option Tp:=match k with|0=>none|k+1=>l[k]?
theorem Ca {l:List Tp} {k:Nat} {t:Tp} (h:l[k]? =some t):stk l (k+1)=t::Cp t (stk l k):=by
 unfold stk;rw [B3 h,List.foldl_append];rfl
theorem F3 (l:List Tp) (k:Nat):Uu l (k+1)=l[k]? :=rfl
theorem Ik (t:Tp) (s:List Tp):∀x∈Cp t s,x∈s:=by
 induction s with
 |nil=>exact fun x hx=>hx
 |cons o r ih=>
  intro x hx
  unfold Cp at hx
  split at hx
  ·exact List.mem_cons_of_mem _ (ih x hx)
  ·exact hx
theorem Al9 (t:Tp) (s:List Tp):(Cp t s).length≤s.length:=by
 induction s with
 |nil=>exact Nat.le_refl _
 |cons o r ih=>
  unfold Cp
  split
  ·exact Nat.le_trans ih (Nat.le_succ _)
  ·exact Nat.le_refl _
theorem Y9 {t o:Tp} {r s:List Tp} (hs:s=o::r) (h:o.e≤t.first):Cp t s=Cp t r:=by rw [hs,Cp,if_pos h]
theorem Afq {t o:Tp} {r s:List Tp} (hs:s=o::r) (h:¬o.e≤t.first):Cp t s=s:=by rw [hs,Cp,if_neg h]
theorem Za {t:Tp} {s:List Tp} (hs:¬(0:Int)<s.reverse.length):Cp t s=s:=by
 have:s= []:=List.eq_nil_of_length_eq_zero (by rw [List.length_reverse] at hs;omega)
 rw [this];rfl
theorem Ou {s:List Tp} (h:(0:Int)<s.reverse.length):∃o r,s=o::r:=by
 cases s with
 |nil=>simp at h
 |cons o r=>exact ⟨o,r,rfl⟩
theorem Mm {s r:List Tp} {o:Tp} (h:s=o::r):s.reverse[s.length - 1]? =some o:=by rw [h];simp
theorem Lh {s r:List Tp} {o:Tp} (h:s=o::r):((s.reverse).length:Int) - 1=((s.length - 1:Nat):Int):=by rw [h];simp
theorem Ot {s r:List Tp} {o:Tp} (h:s=o::r):s.length - 1<s.reverse.length:=by rw [h];simp
theorem Afb {s r:List Tp} {o:Tp} (h:s=o::r):some (XO.row 157 4 ((s.reverse.map Tp.c).take (s.length - 1)))=some (XO.row 157 4 (r.reverse.map Tp.c)):=by
 rw [h, ←List.map_take];simp
theorem Ig {s:List Tp} {t:Tp} {l:List Tp} (h:l=t::s):some (XO.row 157 4 (s.reverse.map Tp.c++ [Tp.c t]))=some (XO.row 157 4 (l.reverse.map Tp.c)):=by
 rw [h];simp
theorem Uw {t:Tp} {s:List Tp} (h:(s.reverse.length:Int)=3):D3 t s:= .inl (by rw [List.length_reverse] at h;omega)
theorem Pj {t o:Tp} {s r:List Tp} (hs:s=o::r) (h:o.e<t.e):D3 t s:=by subst hs;exact .inr h
theorem Rq {t o:Tp} {s r:List Tp} (h3:¬(s.reverse.length:Int)=3) (hs:s=o::r) (h:¬o.e<t.e):¬D3 t s:=by
 subst hs;rw [List.length_reverse] at h3;exact fun k=>k.elim (fun k=>by omega) h
theorem Pk {t:Tp} {s:List Tp} (h3:¬(s.reverse.length:Int)=3) (h:¬(0:Int)<s.reverse.length):¬D3 t s:=by
 have:s= []:=List.eq_nil_of_length_eq_zero (by rw [List.length_reverse] at h;omega)
 subst this;exact fun k=>k.elim (fun k=>by simp at k) fun k=>k
theorem Gy {n:Int} {l:List Tp} {k:Nat} {t:Tp} {p s} (h:l[k]? =some t) (h1:¬t.inR n):Ex n p s (l.drop k)=2:=by rw [B5 h,Ex,if_pos h1]
theorem Ada {n:Int} {l:List Tp} {k:Nat} {t:Tp} {p s} (h:l[k]? =some t) (h1:t.inR n) (h2:Iy p t):Ex n p s (l.drop k)=25:=by rw [B5 h,Ex,if_neg (fun h=>h h1),if_pos h2]
theorem Gl {n:Int} {l:List Tp} {k:Nat} {t:Tp} {p s} (h:l[k]? =some t) (h1:t.inR n) (h2:¬Iy p t) (h3:D3 t (Cp t s)):Ex n p s (l.drop k)=21:=by rw [B5 h,Ex,if_neg (fun h=>h h1),if_neg h2,if_pos h3]
theorem Gm {n:Int} {l:List Tp} {k:Nat} {t:Tp} {p s} (h:l[k]? =some t) (h1:t.inR n) (h2:¬Iy p t) (h3:¬D3 t (Cp t s)):Ex n p s (l.drop k)=Ex n (some t) (t::Cp t s) (l.drop (k+1)):=by
 rw [B5 h,Ex,if_neg (fun h=>h h1),if_neg h2,if_neg h3]
theorem An7 {l:List Tp} {n:Int} (h:n<0∨128<n):2=D6 l n:=by rw [D6,if_pos h]
theorem Ath {l:List Tp} {n:Int} (h:¬n<0) (h1:¬128<n) (h2:16<(l.length:Int)):9=D6 l n:=by rw [D6,if_neg (by omega),if_pos (by omega)]
theorem Gk {l:List Tp} {n e:Int} (h:¬n<0) (h1:¬128<n) (h2:¬16<(l.length:Int)) (he:e=Ex n none [] l):e=D6 l n:=by rw [D6,if_neg (by omega),if_neg (by omega),he]
theorem Aid {l:List Tp} {k:Nat} {t:Tp} (h:¬(0:Int)<k):¬Iy (Uu l k) t:=by
 have:k=0:=by omega
 subst this;exact fun h=>h
theorem Ac5 {l:List Tp} {k:Nat} {t q:Tp} (hk:0<k) (h:l[k - 1]? =some q):Iy (Uu l k) t↔0<Kd q t:=by
 cases k with
 |zero=>omega
 |succ k=>rw [F3,show l[k]? =some q from h];exact Iff.rfl
theorem Wb (l:List Tp) (n:Int):XC Tryz.prog 172 [.sl 4 (l.map Tp.c), .v (.int .i64 n)] (fun r=>r=dI (D6 l n)):=by
 refine An Abs Tryz.func172 R R lb<|zr<|za R R<|zn<|zs<|zr<|zm R R<|zp (Au R R R)<|zm R R<|?_
 refine XL.dec 11 R (fun g11=> ?_) (fun g11=> ?_)
 exact zk 2 R<|zq R R R<|zn<|Av (by kernel_rfl) R<|zr<|za R R<|zn<|zt<|z1 R R (rI (An7 (by omega)))
 refine zm R R<|zp (Bb R R R)<|zq R R R<|zn<|?_
 refine zd R (fun c14=> ?_) (fun c14=> ?_)
 exact zr<|za R R<|zn<|zt<|z1 R R (rI (An7 (by omega)))
 refine zi<|zs<|zr<|zm R R<|XL.len R R R Tryz.underlying80 fun hl16=>zp (Bb R R R)<|zn<|?_
 refine zd R (fun c17=> ?_) (fun c17=> ?_)
 exact zr<|za R R<|zn<|zt<|z1 R R (rI (Ath g11 c14 c17))
 refine zi<|zr<|XL.step R (Aq 5 (l:= [.d (.v (.slice none 0 0))]) R Aos (by kernel_rfl))<|znr<|zp (Ar2 R)<|zp (Aw R (by conv=>lhs;whnf))<|?_
 refine zn<|zs<|zr<|zm R R<|XL.len R R R Tryz.underlying80 fun hl20=>zm R R<|zn<|Ah<|E7 900 5 0 157 4 (l':= [.own 900]) R R (by decide) (by kernel_rfl)<|?_
 refine Az (α:=Nat) (fun k=>k≤l.length∧Ex n (Uu l k) (stk l k) (l.drop k)=Ex n none [] l∧(stk l k).length≤3∧∀t∈stk l k,t.inR n) (fun k=>mkF [(0, .d (.sl 4 (l.map Tp.c))),(1, .d (dI n)),(6, .fn 193 [] [.ptr 5 0 0]),(19, .d (.sl 4 (l.map Tp.c))),(20, .d (dI l.length)),(21, .d (dI k))]) (fun k=>mkH [(5, .box [.own 900]),(900, .row 157 4 ((stk l k).reverse.map Tp.c))]) (fun k=>l.length - k) (0) (⟨Nat.zero_le _,by rw [List.drop_zero];rfl,Nat.zero_le _,fun t ht=>by cases ht⟩) ?_ ?_ ?_
 exact fz ⟨sr,sr,sr,sr,sr,sr,trivial⟩
 exact gz ⟨R,R,trivial⟩
 intro k hk0
 obtain ⟨hk,hgo,hst,hall⟩:=hk0
 refine zr<|zp (Au R R R)<|zn<|zs<|?_
 refine zd R (fun c22=> ?_) (fun c22=> ?_)
 have hk0a:k<l.length:=by omega
 obtain ⟨x0,hx0⟩:=Ar hk0a
 refine zi<|zs<|Ah<|zr<|zm R R<|zp (Ao R R R E3 hx0)<|zp (Ae (s':= .d (.agg (Tp.c x0))) (Ay R R B9 lb) (by kernel_rfl))<|XL.step R (Aq 8 (l:= [.d (dI 0), .d (dI 0), .d (dI 0), .d (dI 0)]) R Dy (by kernel_rfl))<|za R R<|?_
 refine XL.step R (Af (l':= [.d (dI x0.first), .d (dI x0.count), .d (dI x0.actual), .d (dI x0.normal)]) R R R R Fc R lb (by kernel_rfl))<|zn<|zs<|zr<|zp (Aa R R Dl)<|zp (Ab R R Ai R R)<|zp (Au R R R)<|zm R R<|?_
 refine XL.dec 29 R (fun g29=> ?_) (fun g29=> ?_)
 refine zk 4 R<|zq R R R<|zm R R<|zk 3 R<|zq R R R<|zm R R<|zk 7 R<|zq R R R<|zm R R<|zk 4 R<|zq R R R<|zm R R<|zk 4 R<|zq R R R<|?_
 exact zm R R<|zk 5 R<|zq R R R<|zn<|Av (by kernel_rfl) R<|zr<|za R R<|zn<|zt<|z1 R R (rI (Gk g11 c14 c17 (by rw [←hgo,Gy hx0 (by unfold Tp.inR;omega)])))
 refine zp (Aa R R Dl)<|zp (Ab R R Ai R R)<|zm R R<|zp (Bb R R R)<|zq R R R<|zm R R<|?_
 refine XL.dec 35 R (fun g35=> ?_) (fun g35=> ?_)
 refine zk 3 R<|zq R R R<|zm R R<|zk 7 R<|zq R R R<|zm R R<|zk 4 R<|zq R R R<|zm R R<|zk 4 R<|zq R R R<|zm R R<|zk 5 R<|zq R R R<|?_
 exact zn<|Av (by kernel_rfl) R<|zr<|za R R<|zn<|zt<|z1 R R (rI (Gk g11 c14 c17 (by rw [←hgo,Gy hx0 (by unfold Tp.inR;omega)])))
 refine zp (Aa R R Bw)<|zp (Ab R R Ai R R)<|zp (Au R R R)<|zq R R R<|zm R R<|?_
 refine XL.dec 40 R (fun g40=> ?_) (fun g40=> ?_)
 refine zk 7 R<|zq R R R<|zm R R<|zk 4 R<|zq R R R<|zm R R<|zk 4 R<|zq R R R<|zm R R<|zk 5 R<|zq R R R<|zn<|Av (by kernel_rfl) R<|zr<|?_
 exact za R R<|zn<|zt<|z1 R R (rI (Gk g11 c14 c17 (by rw [←hgo,Gy hx0 (by unfold Tp.inR;omega)])))
 refine zp (Aa R R Bw)<|zp (Ab R R Ai R R)<|zm R R<|zp (Aa R R Dl)<|zp (Ab R R Ai R R)<|zp (Fk R R R (by omega) (by omega))<|zp (Bb R R R)<|zq R R R<|zm R R<|?_
 refine XL.dec 49 R (fun g49=> ?_) (fun g49=> ?_)
 exact zk 4 R<|zq R R R<|zm R R<|zk 4 R<|zq R R R<|zm R R<|zk 5 R<|zq R R R<|zn<|Av (by kernel_rfl) R<|zr<|za R R<|zn<|zt<|z1 R R (rI (Gk g11 c14 c17 (by rw [←hgo,Gy hx0 (by unfold Tp.inR;omega)])))
 refine zp (Aa R R N9)<|zp (Ab R R Ai R R)<|XL.call1 R R (Y6 _) R<|zp (En R R)<|zq R R R<|zm R R<|?_
 refine XL.dec 55 R (fun g55=> ?_) (fun g55=> ?_)
 exact zk 4 R<|zq R R R<|zm R R<|zk 5 R<|zq R R R<|zn<|Av (by kernel_rfl) R<|zr<|za R R<|zn<|zt<|z1 R R (rI (Gk g11 c14 c17 (by rw [←hgo,Gy hx0 (by unfold Tp.inR;omega)])))
 refine zp (Aa R R Q3)<|zp (Ab R R Ai R R)<|XL.call1 R R (Y6 _) R<|zp (En R R)<|zq R R R<|zm R R<|?_
 refine XL.dec 61 R (fun g61=> ?_) (fun g61=> ?_)
 exact zk 5 R<|zq R R R<|zn<|Av (by kernel_rfl) R<|zr<|za R R<|zn<|zt<|z1 R R (rI (Gk g11 c14 c17 (by rw [←hgo,Gy hx0 (by unfold Tp.inR;omega)])))
 refine zp (Aa R R N9)<|zp (Ab R R Ai R R)<|zp (Aa R R Q3)<|zp (Ab R R Ai R R)<|zp (Bi R R R)<|zq R R R<|zn<|?_
 refine zd R (fun c67=> ?_) (fun c67=> ?_)
 exact zr<|za R R<|zn<|zt<|z1 R R (rI (Gk g11 c14 c17 (by rw [←hgo,Gy hx0 (by unfold Tp.inR;omega)])))
 have hin:x0.inR n:=by unfold Tp.inR;omega
 have hok:x0.ok:=hin.ok (by omega)
 refine zi<|zs<|zs<|?_
 by_cases q69:(0:Int)<(k:Int)
 obtain ⟨q,hq⟩:∃q,l[k - 1]? =some q:=Ar (by omega)
 refine Bv [] (by kernel_rfl) (by kernel_rfl) (by kernel_rfl) (by decide)<|ym R R<|yp (Ec (Bb R R R) (q69))<|ym R R<|ym R R<|ym R R<|yp (Fk R R R (by omega) (by omega))<|yp (Ma R R R (by omega:(k:Int) - 1=((k - 1:Nat):Int)) E3 hq)<|yp (Ae (s':= .d (.agg (Tp.c q))) (Ay R R B9 lb) (by kernel_rfl))<|?_
 refine yp (Ae (s':= .d (.agg (Tp.c x0))) (Ac (Ad R R B9 R lb)) (by kernel_rfl))<|ChK.cons R (CStep.call R (Aml _ _) R)<|yp (Bb R R R)<|yp (Be R R (by conv=>lhs;whnf))<|?_
 refine ChK.nil ⟨by kernel_rfl, ?_⟩
 refine zd R (fun c79=> ?_) (fun c79=> ?_)
 exact zr<|za R R<|zn<|zt<|z1 R R (rI (Gk g11 c14 c17 (by rw [←hgo,Ada hx0 hin ((Ac5 (by omega) hq).2 c79)])))
 have hna:¬Iy (Uu l k) x0:=fun h=>c79 ((Ac5 (by omega) hq).1 h)
 refine zi<|zr<|zp (As R (by conv=>lhs;whnf))<|?_
 refine zp (Ae (s':= .d (.agg (Tp.c x0))) (Ac (Ad R R B9 R lb)) (by kernel_rfl))<|?_
 refine XL.inl 900001 [(0, .d (.sl 4 (l.map Tp.c))),(1, .d (dI n)),(6, .fn 193 [] [.ptr 5 0 0]),(19, .d (.sl 4 (l.map Tp.c))),(20, .d (dI l.length)),(21, .d (dI k))] R R .s Ra Tryz.func193 R R lb (by simp only [List.forall_mem_cons];exact ⟨⟨Nat.le_of_ble_eq_true rfl,rfl⟩,⟨⟨Nat.le_of_ble_eq_true rfl,rfl⟩,⟨⟨Nat.le_of_ble_eq_true rfl,rfl⟩,⟨⟨Nat.le_of_ble_eq_true rfl,rfl⟩,⟨⟨Nat.le_of_ble_eq_true rfl,rfl⟩,⟨⟨Nat.le_of_ble_eq_true rfl,rfl⟩,fun p hp=>(by cases hp)⟩⟩⟩⟩⟩⟩) fun u1=>?_
 refine zr<|XL.step R (Ap 1002 (l:= [.d (dI x0.first), .d (dI x0.count), .d (dI x0.actual), .d (dI x0.normal)]) R R (by kernel_rfl))<|za R R<|zn<|zs<|Ah<|?_
 refine Az (α:=List Tp) (fun s=>Cp x0 s=Cp x0 (stk l k)∧s.length≤3∧∀t∈s,t.inR n) (fun s=>mkF [(1, .ptr 5 0 0),(2, .ptr 1002 0 0),(3, .d (dB false))]) (fun s=>mkH [(5, .box [.own 900]),(900, .row 157 4 (s.reverse.map Tp.c)),(1002, .box ((Tp.c x0).map S.d)),(900001, .ghost u1 [(0, .d (.sl 4 (l.map Tp.c))),(1, .d (dI n)),(6, .fn 193 [] [.ptr 5 0 0]),(19, .d (.sl 4 (l.map Tp.c))),(20, .d (dI l.length)),(21, .d (dI k))])]) (fun s=>s.length) ((stk l k)) (⟨R,hst,hall⟩) ?_ ?_ ?_
 exact fz ⟨sr,sr,sr,trivial⟩
 exact gz ⟨R,R,R,R,trivial⟩
 intro s hk0i
 obtain ⟨hp,hl3,hso⟩:=hk0i
 have hrl:s.reverse.length=s.length:=List.length_reverse
 refine zs<|zs<|?_
 by_cases q7i:(0:Int)<(s.reverse.length:Int)
 obtain ⟨o,r,hs⟩:=Ou q7i
 have hoo:o.ok:=(hso o (by rw [hs];exact List.mem_cons_self)).ok (by omega)
 refine Bv [] (by kernel_rfl) (by kernel_rfl) (by kernel_rfl) (by decide)<|yp (Ab R R B7 R R)<|yp (Bz R R R Tryz.underlying80)<|yp (Ec (Bb R R R) (q7i))<|ym R R<|yp (Ab R R B7 R R)<|yp (Ab R R B7 R R)<|yp (Bz R R R Tryz.underlying80)<|yp (Fk R R R (by omega) (by omega))<|yp (Ck R R R (Lh hs) R E3 (Ot hs))<|?_
 refine yp (Ae (s':= .d (.agg (Tp.c o))) (Ew R R B9 R (C2 (Mm hs)) lb) (by kernel_rfl))<|ChK.cons R (CStep.call R (Ha _ (by assumption)) R)<|yp (Aa R R Bw)<|yp (Ab R R Ai R R)<|yp (N1 R R R)<|yp (Be R R (by conv=>lhs;whnf))<|?_
 refine ChK.nil ⟨by kernel_rfl, ?_⟩
 refine zd R (fun c19i=> ?_) (fun c19i=> ?_)
 refine zi<|Ah<|Ag (by kernel_rfl)<|zp (Ab R R B7 R R)<|zp (Ab R R B7 R R)<|zp (Bz R R R Tryz.underlying80)<|zp (Fk R R R (by omega) (by omega))<|XL.step R (Ox R R R E3 (Bd.ati R (Lh hs)) (by simp))<|XL.step R (Af (l':= [.own 900]) R R R R Ge R lb (by kernel_rfl))<|zn<|Ry<|?_
 exact Am (r) (⟨by rw [←Y9 hs c19i];exact hp,by rw [hs] at hl3;simp at hl3;omega,fun t ht=>hso t (by rw [hs];exact List.mem_cons_of_mem _ ht)⟩) (by rw [hs];simp) (fz ⟨sr,sr,sr,trivial⟩) (gz ⟨rfl,Afb hs,rfl,rfl,trivial⟩)
 have hend:=Afq hs c19i
 refine At<|zs<|zr<|zp (Ab R R B7 R R)<|zp (Bz R R R Tryz.underlying80)<|za R R<|zn<|zs<|?_
 by_cases q28i:(s.reverse.length:Int)=(3:Int)
 have hov:D3 x0 (Cp x0 (stk l k)):=by rw [←hp,hend];exact Uw q28i
 refine Bv [] (by kernel_rfl) (by kernel_rfl) (by kernel_rfl) (by decide)<|ym R R<|yp (Ec (Bi R R R) (q28i))<|ym R R<|ChK.skip R<|ChK.skip R<|ChK.skip R<|ChK.skip R<|ChK.skip R<|ChK.skip R<|ChK.skip R<|ChK.skip R<|ChK.skip R<|ChK.skip R<|?_
 refine ChK.skip R<|ChK.skip R<|ChK.skip R<|yp (Be R R (by conv=>lhs;whnf))<|?_
 refine ChK.nil ⟨by kernel_rfl, ?_⟩
 refine Av (by kernel_rfl) R<|zr<|za R R<|zn<|zt<|?_
 refine (Dr (l:= [(0, .d (.sl 4 (l.map Tp.c))),(1, .d (dI n)),(6, .fn 193 [] [.ptr 5 0 0]),(19, .d (.sl 4 (l.map Tp.c))),(20, .d (dI l.length)),(21, .d (dI k))]) (by kernel_rfl) (rs1 R (RV.tmp R R)) ?_).2
 exact zp (D2 R R)<|zn<|Av (by kernel_rfl) R<|zr<|za R R<|zn<|zt<|z1 R R (rI (Gk g11 c14 c17 (by rw [←hgo,Gl hx0 hin hna hov])))
 by_cases q31i:(0:Int)<(s.reverse.length:Int)
 obtain ⟨o,r,hs⟩:=Ou q31i
 have hoo:o.ok:=(hso o (by rw [hs];exact List.mem_cons_self)).ok (by omega)
 refine Bv [] (by kernel_rfl) (by kernel_rfl) (by kernel_rfl) (by decide)<|ym R R<|yp (Hc (Bi R R R) (q28i))<|ym R R<|ym R R<|yp (Ec (Bb R R R) (q31i))<|ym R R<|yp (Ae (s':= .d (.agg (Tp.c x0))) (Ac (Ad R R B9 R lb)) (by kernel_rfl))<|ChK.cons R (CStep.call R (Ha _ (by assumption)) R)<|yp (Ab R R B7 R R)<|ym R R<|?_
 refine yp (Fk R R R (by omega) (by omega))<|yp (Ck R R R (Lh hs) R E3 (Ot hs))<|yp (Ae (s':= .d (.agg (Tp.c o))) (Ew R R B9 R (C2 (Mm hs)) lb) (by kernel_rfl))<|ChK.cons R (CStep.call R (Ha _ (by assumption)) R)<|yp (Bb R R R)<|yp (Be R R (by conv=>lhs;whnf))<|?_
 refine yp (Be R R (by conv=>lhs;whnf))<|?_
 refine ChK.nil ⟨by kernel_rfl, ?_⟩
 refine zd R (fun c43i=> ?_) (fun c43i=> ?_)
 have hov:D3 x0 (Cp x0 (stk l k)):=by rw [←hp,hend];exact Pj hs c43i
 refine zr<|za R R<|zn<|zt<|?_
 refine (Dr (l:= [(0, .d (.sl 4 (l.map Tp.c))),(1, .d (dI n)),(6, .fn 193 [] [.ptr 5 0 0]),(19, .d (.sl 4 (l.map Tp.c))),(20, .d (dI l.length)),(21, .d (dI k))]) (by kernel_rfl) (rs1 R (RV.tmp R R)) ?_).2
 exact zp (D2 R R)<|zn<|Av (by kernel_rfl) R<|zr<|za R R<|zn<|zt<|z1 R R (rI (Gk g11 c14 c17 (by rw [←hgo,Gl hx0 hin hna hov])))
 have hov:¬D3 x0 (Cp x0 (stk l k)):=by rw [←hp,hend];exact Rq q28i hs c43i
 refine zi<|zr<|zp (Ab R R B7 R R)<|zp (Ae (s':= .d (.agg (Tp.c x0))) (Ac (Ad R R B9 R lb)) (by kernel_rfl))<|XL.step R (Br 1046 R Tryz.underlying80 Fc Dy R R (by omega) (by omega))<|XL.step R (A5 R F1 (.own R) (Src.own R) (by unfold maxLen;simp;omega) (by simp;omega))<|?_
 refine XL.step R (Af (l':= [.own 900]) R R R R Ge R lb (by kernel_rfl))<|znr<|za R R<|zn<|zt<|?_
 refine (Dr (l:= [(0, .d (.sl 4 (l.map Tp.c))),(1, .d (dI n)),(6, .fn 193 [] [.ptr 5 0 0]),(19, .d (.sl 4 (l.map Tp.c))),(20, .d (dI l.length)),(21, .d (dI k))]) (by kernel_rfl) (rs1 R (RV.tmp R R)) ?_).2
 refine zp (D2 R R)<|zn<|A8 (by kernel_rfl) R<|zi<|Ag (by kernel_rfl)<|zp (Al R R R (by omega) (by omega))<|zm R R<|zn<|?_
 exact Am (k+1) (⟨by omega,by rw [F3,hx0,Ca hx0, ←Gm hx0 hin hna hov];exact hgo,by rw [Ca hx0,List.length_cons, ←hp,hend];omega,fun t ht=>by rw [Ca hx0] at ht;rcases List.mem_cons.1 ht with e|e;(· rw [e];exact hin);(· exact hall t (Ik _ _ t e))⟩) (by omega) (fz ⟨sr,sr,sr,sr,sr,sr,trivial⟩) (gz ⟨rfl,Ig (by rw [Ca hx0, ←hp,hend]),trivial⟩)
 have hov:¬D3 x0 (Cp x0 (stk l k)):=by rw [←hp,hend];exact Pk q28i q31i
 refine Bv [] (by kernel_rfl) (by kernel_rfl) (by kernel_rfl) (by decide)<|ym R R<|yp (Hc (Bi R R R) (q28i))<|ym R R<|ym R R<|yp (Hc (Bb R R R) (q31i))<|ym R R<|ChK.skip R<|ChK.skip R<|ChK.skip R<|ChK.skip R<|ChK.skip R<|ChK.skip R<|ChK.skip R<|?_
 refine ChK.skip R<|ChK.skip R<|yp (Be R R (by conv=>lhs;whnf))<|?_
 refine yp (Be R R (by conv=>lhs;whnf))<|?_
 refine ChK.nil ⟨by kernel_rfl, ?_⟩
 refine A8 (by kernel_rfl) R<|zi<|zr<|zp (Ab R R B7 R R)<|zp (Ae (s':= .d (.agg (Tp.c x0))) (Ac (Ad R R B9 R lb)) (by kernel_rfl))<|XL.step R (Br 1046 R Tryz.underlying80 Fc Dy R R (by omega) (by omega))<|XL.step R (A5 R F1 (.own R) (Src.own R) (by unfold maxLen;simp;omega) (by simp;omega))<|?_
 refine XL.step R (Af (l':= [.own 900]) R R R R Ge R lb (by kernel_rfl))<|znr<|za R R<|zn<|zt<|?_
 refine (Dr (l:= [(0, .d (.sl 4 (l.map Tp.c))),(1, .d (dI n)),(6, .fn 193 [] [.ptr 5 0 0]),(19, .d (.sl 4 (l.map Tp.c))),(20, .d (dI l.length)),(21, .d (dI k))]) (by kernel_rfl) (rs1 R (RV.tmp R R)) ?_).2
 refine zp (D2 R R)<|zn<|A8 (by kernel_rfl) R<|zi<|Ag (by kernel_rfl)<|zp (Al R R R (by omega) (by omega))<|zm R R<|zn<|?_
 exact Am (k+1) (⟨by omega,by rw [F3,hx0,Ca hx0, ←Gm hx0 hin hna hov];exact hgo,by rw [Ca hx0,List.length_cons, ←hp,hend];omega,fun t ht=>by rw [Ca hx0] at ht;rcases List.mem_cons.1 ht with e|e;(· rw [e];exact hin);(· exact hall t (Ik _ _ t e))⟩) (by omega) (fz ⟨sr,sr,sr,sr,sr,sr,trivial⟩) (gz ⟨rfl,Ig (by rw [Ca hx0, ←hp,hend]),trivial⟩)
 have hend:=Za (t:=x0) q7i
 refine Bv [] (by kernel_rfl) (by kernel_rfl) (by kernel_rfl) (by decide)<|yp (Ab R R B7 R R)<|yp (Bz R R R Tryz.underlying80)<|yp (Hc (Bb R R R) (q7i))<|ym R R<|ChK.skip R<|ChK.skip R<|ChK.skip R<|ChK.skip R<|ChK.skip R<|ChK.skip R<|ChK.skip R<|ChK.skip R<|ChK.skip R<|?_
 refine ChK.skip R<|yp (Be R R (by conv=>lhs;whnf))<|?_
 refine ChK.nil ⟨by kernel_rfl, ?_⟩
 refine A8 (by kernel_rfl) R<|At<|zs<|zr<|zp (Ab R R B7 R R)<|zp (Bz R R R Tryz.underlying80)<|za R R<|zn<|zs<|?_
 by_cases q28i:(s.reverse.length:Int)=(3:Int)
 have hov:D3 x0 (Cp x0 (stk l k)):=by rw [←hp,hend];exact Uw q28i
 refine Bv [] (by kernel_rfl) (by kernel_rfl) (by kernel_rfl) (by decide)<|ym R R<|yp (Ec (Bi R R R) (q28i))<|ym R R<|ChK.skip R<|ChK.skip R<|ChK.skip R<|ChK.skip R<|ChK.skip R<|ChK.skip R<|ChK.skip R<|ChK.skip R<|ChK.skip R<|ChK.skip R<|?_
 refine ChK.skip R<|ChK.skip R<|ChK.skip R<|yp (Be R R (by conv=>lhs;whnf))<|?_
 refine ChK.nil ⟨by kernel_rfl, ?_⟩
 refine Av (by kernel_rfl) R<|zr<|za R R<|zn<|zt<|?_
 refine (Dr (l:= [(0, .d (.sl 4 (l.map Tp.c))),(1, .d (dI n)),(6, .fn 193 [] [.ptr 5 0 0]),(19, .d (.sl 4 (l.map Tp.c))),(20, .d (dI l.length)),(21, .d (dI k))]) (by kernel_rfl) (rs1 R (RV.tmp R R)) ?_).2
 exact zp (D2 R R)<|zn<|Av (by kernel_rfl) R<|zr<|za R R<|zn<|zt<|z1 R R (rI (Gk g11 c14 c17 (by rw [←hgo,Gl hx0 hin hna hov])))
 by_cases q31i:(0:Int)<(s.reverse.length:Int)
 obtain ⟨o,r,hs⟩:=Ou q31i
 have hoo:o.ok:=(hso o (by rw [hs];exact List.mem_cons_self)).ok (by omega)
 refine Bv [] (by kernel_rfl) (by kernel_rfl) (by kernel_rfl) (by decide)<|ym R R<|yp (Hc (Bi R R R) (q28i))<|ym R R<|ym R R<|yp (Ec (Bb R R R) (q31i))<|ym R R<|yp (Ae (s':= .d (.agg (Tp.c x0))) (Ac (Ad R R B9 R lb)) (by kernel_rfl))<|ChK.cons R (CStep.call R (Ha _ (by assumption)) R)<|yp (Ab R R B7 R R)<|ym R R<|?_
 refine yp (Fk R R R (by omega) (by omega))<|yp (Ck R R R (Lh hs) R E3 (Ot hs))<|yp (Ae (s':= .d (.agg (Tp.c o))) (Ew R R B9 R (C2 (Mm hs)) lb) (by kernel_rfl))<|ChK.cons R (CStep.call R (Ha _ (by assumption)) R)<|yp (Bb R R R)<|yp (Be R R (by conv=>lhs;whnf))<|?_
 refine yp (Be R R (by conv=>lhs;whnf))<|?_
 refine ChK.nil ⟨by kernel_rfl, ?_⟩
 refine zd R (fun c43i=> ?_) (fun c43i=> ?_)
 have hov:D3 x0 (Cp x0 (stk l k)):=by rw [←hp,hend];exact Pj hs c43i
 refine zr<|za R R<|zn<|zt<|?_
 refine (Dr (l:= [(0, .d (.sl 4 (l.map Tp.c))),(1, .d (dI n)),(6, .fn 193 [] [.ptr 5 0 0]),(19, .d (.sl 4 (l.map Tp.c))),(20, .d (dI l.length)),(21, .d (dI k))]) (by kernel_rfl) (rs1 R (RV.tmp R R)) ?_).2
 exact zp (D2 R R)<|zn<|Av (by kernel_rfl) R<|zr<|za R R<|zn<|zt<|z1 R R (rI (Gk g11 c14 c17 (by rw [←hgo,Gl hx0 hin hna hov])))
 have hov:¬D3 x0 (Cp x0 (stk l k)):=by rw [←hp,hend];exact Rq q28i hs c43i
 refine zi<|zr<|zp (Ab R R B7 R R)<|zp (Ae (s':= .d (.agg (Tp.c x0))) (Ac (Ad R R B9 R lb)) (by kernel_rfl))<|XL.step R (Br 1046 R Tryz.underlying80 Fc Dy R R (by omega) (by omega))<|XL.step R (A5 R F1 (.own R) (Src.own R) (by unfold maxLen;simp;omega) (by simp;omega))<|?_
 refine XL.step R (Af (l':= [.own 900]) R R R R Ge R lb (by kernel_rfl))<|znr<|za R R<|zn<|zt<|?_
 refine (Dr (l:= [(0, .d (.sl 4 (l.map Tp.c))),(1, .d (dI n)),(6, .fn 193 [] [.ptr 5 0 0]),(19, .d (.sl 4 (l.map Tp.c))),(20, .d (dI l.length)),(21, .d (dI k))]) (by kernel_rfl) (rs1 R (RV.tmp R R)) ?_).2
 refine zp (D2 R R)<|zn<|A8 (by kernel_rfl) R<|zi<|Ag (by kernel_rfl)<|zp (Al R R R (by omega) (by omega))<|zm R R<|zn<|?_
 exact Am (k+1) (⟨by omega,by rw [F3,hx0,Ca hx0, ←Gm hx0 hin hna hov];exact hgo,by rw [Ca hx0,List.length_cons, ←hp,hend];omega,fun t ht=>by rw [Ca hx0] at ht;rcases List.mem_cons.1 ht with e|e;(· rw [e];exact hin);(· exact hall t (Ik _ _ t e))⟩) (by omega) (fz ⟨sr,sr,sr,sr,sr,sr,trivial⟩) (gz ⟨rfl,Ig (by rw [Ca hx0, ←hp,hend]),trivial⟩)
 have hov:¬D3 x0 (Cp x0 (stk l k)):=by rw [←hp,hend];exact Pk q28i q31i
 refine Bv [] (by kernel_rfl) (by kernel_rfl) (by kernel_rfl) (by decide)<|ym R R<|yp (Hc (Bi R R R) (q28i))<|ym R R<|ym R R<|yp (Hc (Bb R R R) (q31i))<|ym R R<|ChK.skip R<|ChK.skip R<|ChK.skip R<|ChK.skip R<|ChK.skip R<|ChK.skip R<|ChK.skip R<|?_
 refine ChK.skip R<|ChK.skip R<|yp (Be R R (by conv=>lhs;whnf))<|?_
 refine yp (Be R R (by conv=>lhs;whnf))<|?_
 refine ChK.nil ⟨by kernel_rfl, ?_⟩
 refine A8 (by kernel_rfl) R<|zi<|zr<|zp (Ab R R B7 R R)<|zp (Ae (s':= .d (.agg (Tp.c x0))) (Ac (Ad R R B9 R lb)) (by kernel_rfl))<|XL.step R (Br 1046 R Tryz.underlying80 Fc Dy R R (by omega) (by omega))<|XL.step R (A5 R F1 (.own R) (Src.own R) (by unfold maxLen;simp;omega) (by simp;omega))<|?_
 refine XL.step R (Af (l':= [.own 900]) R R R R Ge R lb (by kernel_rfl))<|znr<|za R R<|zn<|zt<|?_
 refine (Dr (l:= [(0, .d (.sl 4 (l.map Tp.c))),(1, .d (dI n)),(6, .fn 193 [] [.ptr 5 0 0]),(19, .d (.sl 4 (l.map Tp.c))),(20, .d (dI l.length)),(21, .d (dI k))]) (by kernel_rfl) (rs1 R (RV.tmp R R)) ?_).2
 refine zp (D2 R R)<|zn<|A8 (by kernel_rfl) R<|zi<|Ag (by kernel_rfl)<|zp (Al R R R (by omega) (by omega))<|zm R R<|zn<|?_
 exact Am (k+1) (⟨by omega,by rw [F3,hx0,Ca hx0, ←Gm hx0 hin hna hov];exact hgo,by rw [Ca hx0,List.length_cons, ←hp,hend];omega,fun t ht=>by rw [Ca hx0] at ht;rcases List.mem_cons.1 ht with e|e;(· rw [e];exact hin);(· exact hall t (Ik _ _ t e))⟩) (by omega) (fz ⟨sr,sr,sr,sr,sr,sr,trivial⟩) (gz ⟨rfl,Ig (by rw [Ca hx0, ←hp,hend]),trivial⟩)
 have hna:=Aid (l:=l) (t:=x0) q69
 refine Bv [] (by kernel_rfl) (by kernel_rfl) (by kernel_rfl) (by decide)<|ym R R<|yp (Hc (Bb R R R) (q69))<|ym R R<|ChK.skip R<|ChK.skip R<|ChK.skip R<|ChK.skip R<|ChK.skip R<|ChK.skip R<|ChK.skip R<|ChK.skip R<|yp (Be R R (by conv=>lhs;whnf))<|?_
 refine ChK.nil ⟨by kernel_rfl, ?_⟩
 refine A8 (by kernel_rfl) R<|zi<|zr<|zp (As R (by conv=>lhs;whnf))<|?_
 refine zp (Ae (s':= .d (.agg (Tp.c x0))) (Ac (Ad R R B9 R lb)) (by kernel_rfl))<|?_
 refine XL.inl 900002 [(0, .d (.sl 4 (l.map Tp.c))),(1, .d (dI n)),(6, .fn 193 [] [.ptr 5 0 0]),(19, .d (.sl 4 (l.map Tp.c))),(20, .d (dI l.length)),(21, .d (dI k))] R R .s Ra Tryz.func193 R R lb (by simp only [List.forall_mem_cons];exact ⟨⟨Nat.le_of_ble_eq_true rfl,rfl⟩,⟨⟨Nat.le_of_ble_eq_true rfl,rfl⟩,⟨⟨Nat.le_of_ble_eq_true rfl,rfl⟩,⟨⟨Nat.le_of_ble_eq_true rfl,rfl⟩,⟨⟨Nat.le_of_ble_eq_true rfl,rfl⟩,⟨⟨Nat.le_of_ble_eq_true rfl,rfl⟩,fun p hp=>(by cases hp)⟩⟩⟩⟩⟩⟩) fun u2=>?_
 refine zr<|XL.step R (Ap 2002 (l:= [.d (dI x0.first), .d (dI x0.count), .d (dI x0.actual), .d (dI x0.normal)]) R R (by kernel_rfl))<|za R R<|zn<|zs<|Ah<|?_
 refine Az (α:=List Tp) (fun s=>Cp x0 s=Cp x0 (stk l k)∧s.length≤3∧∀t∈s,t.inR n) (fun s=>mkF [(1, .ptr 5 0 0),(2, .ptr 2002 0 0),(3, .d (dB false))]) (fun s=>mkH [(5, .box [.own 900]),(900, .row 157 4 (s.reverse.map Tp.c)),(2002, .box ((Tp.c x0).map S.d)),(900002, .ghost u2 [(0, .d (.sl 4 (l.map Tp.c))),(1, .d (dI n)),(6, .fn 193 [] [.ptr 5 0 0]),(19, .d (.sl 4 (l.map Tp.c))),(20, .d (dI l.length)),(21, .d (dI k))])]) (fun s=>s.length) ((stk l k)) (⟨R,hst,hall⟩) ?_ ?_ ?_
 exact fz ⟨sr,sr,sr,trivial⟩
 exact gz ⟨R,R,R,R,trivial⟩
 intro s hk0i
 obtain ⟨hp,hl3,hso⟩:=hk0i
 have hrl:s.reverse.length=s.length:=List.length_reverse
 refine zs<|zs<|?_
 by_cases q7i:(0:Int)<(s.reverse.length:Int)
 obtain ⟨o,r,hs⟩:=Ou q7i
 have hoo:o.ok:=(hso o (by rw [hs];exact List.mem_cons_self)).ok (by omega)
 refine Bv [] (by kernel_rfl) (by kernel_rfl) (by kernel_rfl) (by decide)<|yp (Ab R R B7 R R)<|yp (Bz R R R Tryz.underlying80)<|yp (Ec (Bb R R R) (q7i))<|ym R R<|yp (Ab R R B7 R R)<|yp (Ab R R B7 R R)<|yp (Bz R R R Tryz.underlying80)<|yp (Fk R R R (by omega) (by omega))<|yp (Ck R R R (Lh hs) R E3 (Ot hs))<|?_
 refine yp (Ae (s':= .d (.agg (Tp.c o))) (Ew R R B9 R (C2 (Mm hs)) lb) (by kernel_rfl))<|ChK.cons R (CStep.call R (Ha _ (by assumption)) R)<|yp (Aa R R Bw)<|yp (Ab R R Ai R R)<|yp (N1 R R R)<|yp (Be R R (by conv=>lhs;whnf))<|?_
 refine ChK.nil ⟨by kernel_rfl, ?_⟩
 refine zd R (fun c19i=> ?_) (fun c19i=> ?_)
 refine zi<|Ah<|Ag (by kernel_rfl)<|zp (Ab R R B7 R R)<|zp (Ab R R B7 R R)<|zp (Bz R R R Tryz.underlying80)<|zp (Fk R R R (by omega) (by omega))<|XL.step R (Ox R R R E3 (Bd.ati R (Lh hs)) (by simp))<|XL.step R (Af (l':= [.own 900]) R R R R Ge R lb (by kernel_rfl))<|zn<|Ry<|?_
 exact Am (r) (⟨by rw [←Y9 hs c19i];exact hp,by rw [hs] at hl3;simp at hl3;omega,fun t ht=>hso t (by rw [hs];exact List.mem_cons_of_mem _ ht)⟩) (by rw [hs];simp) (fz ⟨sr,sr,sr,trivial⟩) (gz ⟨rfl,Afb hs,rfl,rfl,trivial⟩)
 have hend:=Afq hs c19i
 refine At<|zs<|zr<|zp (Ab R R B7 R R)<|zp (Bz R R R Tryz.underlying80)<|za R R<|zn<|zs<|?_
 by_cases q28i:(s.reverse.length:Int)=(3:Int)
 have hov:D3 x0 (Cp x0 (stk l k)):=by rw [←hp,hend];exact Uw q28i
 refine Bv [] (by kernel_rfl) (by kernel_rfl) (by kernel_rfl) (by decide)<|ym R R<|yp (Ec (Bi R R R) (q28i))<|ym R R<|ChK.skip R<|ChK.skip R<|ChK.skip R<|ChK.skip R<|ChK.skip R<|ChK.skip R<|ChK.skip R<|ChK.skip R<|ChK.skip R<|ChK.skip R<|?_
 refine ChK.skip R<|ChK.skip R<|ChK.skip R<|yp (Be R R (by conv=>lhs;whnf))<|?_
 refine ChK.nil ⟨by kernel_rfl, ?_⟩
 refine Av (by kernel_rfl) R<|zr<|za R R<|zn<|zt<|?_
 refine (Dr (l:= [(0, .d (.sl 4 (l.map Tp.c))),(1, .d (dI n)),(6, .fn 193 [] [.ptr 5 0 0]),(19, .d (.sl 4 (l.map Tp.c))),(20, .d (dI l.length)),(21, .d (dI k))]) (by kernel_rfl) (rs1 R (RV.tmp R R)) ?_).2
 exact zp (D2 R R)<|zn<|Av (by kernel_rfl) R<|zr<|za R R<|zn<|zt<|z1 R R (rI (Gk g11 c14 c17 (by rw [←hgo,Gl hx0 hin hna hov])))
 by_cases q31i:(0:Int)<(s.reverse.length:Int)
 obtain ⟨o,r,hs⟩:=Ou q31i
 have hoo:o.ok:=(hso o (by rw [hs];exact List.mem_cons_self)).ok (by omega)
 refine Bv [] (by kernel_rfl) (by kernel_rfl) (by kernel_rfl) (by decide)<|ym R R<|yp (Hc (Bi R R R) (q28i))<|ym R R<|ym R R<|yp (Ec (Bb R R R) (q31i))<|ym R R<|yp (Ae (s':= .d (.agg (Tp.c x0))) (Ac (Ad R R B9 R lb)) (by kernel_rfl))<|ChK.cons R (CStep.call R (Ha _ (by assumption)) R)<|yp (Ab R R B7 R R)<|ym R R<|?_
 refine yp (Fk R R R (by omega) (by omega))<|yp (Ck R R R (Lh hs) R E3 (Ot hs))<|yp (Ae (s':= .d (.agg (Tp.c o))) (Ew R R B9 R (C2 (Mm hs)) lb) (by kernel_rfl))<|ChK.cons R (CStep.call R (Ha _ (by assumption)) R)<|yp (Bb R R R)<|yp (Be R R (by conv=>lhs;whnf))<|?_
 refine yp (Be R R (by conv=>lhs;whnf))<|?_
 refine ChK.nil ⟨by kernel_rfl, ?_⟩
 refine zd R (fun c43i=> ?_) (fun c43i=> ?_)
 have hov:D3 x0 (Cp x0 (stk l k)):=by rw [←hp,hend];exact Pj hs c43i
 refine zr<|za R R<|zn<|zt<|?_
 refine (Dr (l:= [(0, .d (.sl 4 (l.map Tp.c))),(1, .d (dI n)),(6, .fn 193 [] [.ptr 5 0 0]),(19, .d (.sl 4 (l.map Tp.c))),(20, .d (dI l.length)),(21, .d (dI k))]) (by kernel_rfl) (rs1 R (RV.tmp R R)) ?_).2
 exact zp (D2 R R)<|zn<|Av (by kernel_rfl) R<|zr<|za R R<|zn<|zt<|z1 R R (rI (Gk g11 c14 c17 (by rw [←hgo,Gl hx0 hin hna hov])))
 have hov:¬D3 x0 (Cp x0 (stk l k)):=by rw [←hp,hend];exact Rq q28i hs c43i
 refine zi<|zr<|zp (Ab R R B7 R R)<|zp (Ae (s':= .d (.agg (Tp.c x0))) (Ac (Ad R R B9 R lb)) (by kernel_rfl))<|XL.step R (Br 2046 R Tryz.underlying80 Fc Dy R R (by omega) (by omega))<|XL.step R (A5 R F1 (.own R) (Src.own R) (by unfold maxLen;simp;omega) (by simp;omega))<|?_
 refine XL.step R (Af (l':= [.own 900]) R R R R Ge R lb (by kernel_rfl))<|znr<|za R R<|zn<|zt<|?_
 refine (Dr (l:= [(0, .d (.sl 4 (l.map Tp.c))),(1, .d (dI n)),(6, .fn 193 [] [.ptr 5 0 0]),(19, .d (.sl 4 (l.map Tp.c))),(20, .d (dI l.length)),(21, .d (dI k))]) (by kernel_rfl) (rs1 R (RV.tmp R R)) ?_).2
 refine zp (D2 R R)<|zn<|A8 (by kernel_rfl) R<|zi<|Ag (by kernel_rfl)<|zp (Al R R R (by omega) (by omega))<|zm R R<|zn<|?_
 exact Am (k+1) (⟨by omega,by rw [F3,hx0,Ca hx0, ←Gm hx0 hin hna hov];exact hgo,by rw [Ca hx0,List.length_cons, ←hp,hend];omega,fun t ht=>by rw [Ca hx0] at ht;rcases List.mem_cons.1 ht with e|e;(· rw [e];exact hin);(· exact hall t (Ik _ _ t e))⟩) (by omega) (fz ⟨sr,sr,sr,sr,sr,sr,trivial⟩) (gz ⟨rfl,Ig (by rw [Ca hx0, ←hp,hend]),trivial⟩)
 have hov:¬D3 x0 (Cp x0 (stk l k)):=by rw [←hp,hend];exact Pk q28i q31i
 refine Bv [] (by kernel_rfl) (by kernel_rfl) (by kernel_rfl) (by decide)<|ym R R<|yp (Hc (Bi R R R) (q28i))<|ym R R<|ym R R<|yp (Hc (Bb R R R) (q31i))<|ym R R<|ChK.skip R<|ChK.skip R<|ChK.skip R<|ChK.skip R<|ChK.skip R<|ChK.skip R<|ChK.skip R<|?_
 refine ChK.skip R<|ChK.skip R<|yp (Be R R (by conv=>lhs;whnf))<|?_
 refine yp (Be R R (by conv=>lhs;whnf))<|?_
 refine ChK.nil ⟨by kernel_rfl, ?_⟩
 refine A8 (by kernel_rfl) R<|zi<|zr<|zp (Ab R R B7 R R)<|zp (Ae (s':= .d (.agg (Tp.c x0))) (Ac (Ad R R B9 R lb)) (by kernel_rfl))<|XL.step R (Br 2046 R Tryz.underlying80 Fc Dy R R (by omega) (by omega))<|XL.step R (A5 R F1 (.own R) (Src.own R) (by unfold maxLen;simp;omega) (by simp;omega))<|?_
 refine XL.step R (Af (l':= [.own 900]) R R R R Ge R lb (by kernel_rfl))<|znr<|za R R<|zn<|zt<|?_
 refine (Dr (l:= [(0, .d (.sl 4 (l.map Tp.c))),(1, .d (dI n)),(6, .fn 193 [] [.ptr 5 0 0]),(19, .d (.sl 4 (l.map Tp.c))),(20, .d (dI l.length)),(21, .d (dI k))]) (by kernel_rfl) (rs1 R (RV.tmp R R)) ?_).2
 refine zp (D2 R R)<|zn<|A8 (by kernel_rfl) R<|zi<|Ag (by kernel_rfl)<|zp (Al R R R (by omega) (by omega))<|zm R R<|zn<|?_
 exact Am (k+1) (⟨by omega,by rw [F3,hx0,Ca hx0, ←Gm hx0 hin hna hov];exact hgo,by rw [Ca hx0,List.length_cons, ←hp,hend];omega,fun t ht=>by rw [Ca hx0] at ht;rcases List.mem_cons.1 ht with e|e;(· rw [e];exact hin);(· exact hall t (Ik _ _ t e))⟩) (by omega) (fz ⟨sr,sr,sr,sr,sr,sr,trivial⟩) (gz ⟨rfl,Ig (by rw [Ca hx0, ←hp,hend]),trivial⟩)
 have hend:=Za (t:=x0) q7i
 refine Bv [] (by kernel_rfl) (by kernel_rfl) (by kernel_rfl) (by decide)<|yp (Ab R R B7 R R)<|yp (Bz R R R Tryz.underlying80)<|yp (Hc (Bb R R R) (q7i))<|ym R R<|ChK.skip R<|ChK.skip R<|ChK.skip R<|ChK.skip R<|ChK.skip R<|ChK.skip R<|ChK.skip R<|ChK.skip R<|ChK.skip R<|?_
 refine ChK.skip R<|yp (Be R R (by conv=>lhs;whnf))<|?_
 refine ChK.nil ⟨by kernel_rfl, ?_⟩
 refine A8 (by kernel_rfl) R<|At<|zs<|zr<|zp (Ab R R B7 R R)<|zp (Bz R R R Tryz.underlying80)<|za R R<|zn<|zs<|?_
 by_cases q28i:(s.reverse.length:Int)=(3:Int)
 have hov:D3 x0 (Cp x0 (stk l k)):=by rw [←hp,hend];exact Uw q28i
 refine Bv [] (by kernel_rfl) (by kernel_rfl) (by kernel_rfl) (by decide)<|ym R R<|yp (Ec (Bi R R R) (q28i))<|ym R R<|ChK.skip R<|ChK.skip R<|ChK.skip R<|ChK.skip R<|ChK.skip R<|ChK.skip R<|ChK.skip R<|ChK.skip R<|ChK.skip R<|ChK.skip R<|?_
 refine ChK.skip R<|ChK.skip R<|ChK.skip R<|yp (Be R R (by conv=>lhs;whnf))<|?_
 refine ChK.nil ⟨by kernel_rfl, ?_⟩
 refine Av (by kernel_rfl) R<|zr<|za R R<|zn<|zt<|?_
 refine (Dr (l:= [(0, .d (.sl 4 (l.map Tp.c))),(1, .d (dI n)),(6, .fn 193 [] [.ptr 5 0 0]),(19, .d (.sl 4 (l.map Tp.c))),(20, .d (dI l.length)),(21, .d (dI k))]) (by kernel_rfl) (rs1 R (RV.tmp R R)) ?_).2
 exact zp (D2 R R)<|zn<|Av (by kernel_rfl) R<|zr<|za R R<|zn<|zt<|z1 R R (rI (Gk g11 c14 c17 (by rw [←hgo,Gl hx0 hin hna hov])))
 by_cases q31i:(0:Int)<(s.reverse.length:Int)
 obtain ⟨o,r,hs⟩:=Ou q31i
 have hoo:o.ok:=(hso o (by rw [hs];exact List.mem_cons_self)).ok (by omega)
 refine Bv [] (by kernel_rfl) (by kernel_rfl) (by kernel_rfl) (by decide)<|ym R R<|yp (Hc (Bi R R R) (q28i))<|ym R R<|ym R R<|yp (Ec (Bb R R R) (q31i))<|ym R R<|yp (Ae (s':= .d (.agg (Tp.c x0))) (Ac (Ad R R B9 R lb)) (by kernel_rfl))<|ChK.cons R (CStep.call R (Ha _ (by assumption)) R)<|yp (Ab R R B7 R R)<|ym R R<|?_
 refine yp (Fk R R R (by omega) (by omega))<|yp (Ck R R R (Lh hs) R E3 (Ot hs))<|yp (Ae (s':= .d (.agg (Tp.c o))) (Ew R R B9 R (C2 (Mm hs)) lb) (by kernel_rfl))<|ChK.cons R (CStep.call R (Ha _ (by assumption)) R)<|yp (Bb R R R)<|yp (Be R R (by conv=>lhs;whnf))<|?_
 refine yp (Be R R (by conv=>lhs;whnf))<|?_
 refine ChK.nil ⟨by kernel_rfl, ?_⟩
 refine zd R (fun c43i=> ?_) (fun c43i=> ?_)
 have hov:D3 x0 (Cp x0 (stk l k)):=by rw [←hp,hend];exact Pj hs c43i
 refine zr<|za R R<|zn<|zt<|?_
 refine (Dr (l:= [(0, .d (.sl 4 (l.map Tp.c))),(1, .d (dI n)),(6, .fn 193 [] [.ptr 5 0 0]),(19, .d (.sl 4 (l.map Tp.c))),(20, .d (dI l.length)),(21, .d (dI k))]) (by kernel_rfl) (rs1 R (RV.tmp R R)) ?_).2
 exact zp (D2 R R)<|zn<|Av (by kernel_rfl) R<|zr<|za R R<|zn<|zt<|z1 R R (rI (Gk g11 c14 c17 (by rw [←hgo,Gl hx0 hin hna hov])))
 have hov:¬D3 x0 (Cp x0 (stk l k)):=by rw [←hp,hend];exact Rq q28i hs c43i
 refine zi<|zr<|zp (Ab R R B7 R R)<|zp (Ae (s':= .d (.agg (Tp.c x0))) (Ac (Ad R R B9 R lb)) (by kernel_rfl))<|XL.step R (Br 2046 R Tryz.underlying80 Fc Dy R R (by omega) (by omega))<|XL.step R (A5 R F1 (.own R) (Src.own R) (by unfold maxLen;simp;omega) (by simp;omega))<|?_
 refine XL.step R (Af (l':= [.own 900]) R R R R Ge R lb (by kernel_rfl))<|znr<|za R R<|zn<|zt<|?_
 refine (Dr (l:= [(0, .d (.sl 4 (l.map Tp.c))),(1, .d (dI n)),(6, .fn 193 [] [.ptr 5 0 0]),(19, .d (.sl 4 (l.map Tp.c))),(20, .d (dI l.length)),(21, .d (dI k))]) (by kernel_rfl) (rs1 R (RV.tmp R R)) ?_).2
 refine zp (D2 R R)<|zn<|A8 (by kernel_rfl) R<|zi<|Ag (by kernel_rfl)<|zp (Al R R R (by omega) (by omega))<|zm R R<|zn<|?_
 exact Am (k+1) (⟨by omega,by rw [F3,hx0,Ca hx0, ←Gm hx0 hin hna hov];exact hgo,by rw [Ca hx0,List.length_cons, ←hp,hend];omega,fun t ht=>by rw [Ca hx0] at ht;rcases List.mem_cons.1 ht with e|e;(· rw [e];exact hin);(· exact hall t (Ik _ _ t e))⟩) (by omega) (fz ⟨sr,sr,sr,sr,sr,sr,trivial⟩) (gz ⟨rfl,Ig (by rw [Ca hx0, ←hp,hend]),trivial⟩)
 have hov:¬D3 x0 (Cp x0 (stk l k)):=by rw [←hp,hend];exact Pk q28i q31i
 refine Bv [] (by kernel_rfl) (by kernel_rfl) (by kernel_rfl) (by decide)<|ym R R<|yp (Hc (Bi R R R) (q28i))<|ym R R<|ym R R<|yp (Hc (Bb R R R) (q31i))<|ym R R<|ChK.skip R<|ChK.skip R<|ChK.skip R<|ChK.skip R<|ChK.skip R<|ChK.skip R<|ChK.skip R<|?_
 refine ChK.skip R<|ChK.skip R<|yp (Be R R (by conv=>lhs;whnf))<|?_
 refine yp (Be R R (by conv=>lhs;whnf))<|?_
 refine ChK.nil ⟨by kernel_rfl, ?_⟩
 refine A8 (by kernel_rfl) R<|zi<|zr<|zp (Ab R R B7 R R)<|zp (Ae (s':= .d (.agg (Tp.c x0))) (Ac (Ad R R B9 R lb)) (by kernel_rfl))<|XL.step R (Br 2046 R Tryz.underlying80 Fc Dy R R (by omega) (by omega))<|XL.step R (A5 R F1 (.own R) (Src.own R) (by unfold maxLen;simp;omega) (by simp;omega))<|?_
 refine XL.step R (Af (l':= [.own 900]) R R R R Ge R lb (by kernel_rfl))<|znr<|za R R<|zn<|zt<|?_
 refine (Dr (l:= [(0, .d (.sl 4 (l.map Tp.c))),(1, .d (dI n)),(6, .fn 193 [] [.ptr 5 0 0]),(19, .d (.sl 4 (l.map Tp.c))),(20, .d (dI l.length)),(21, .d (dI k))]) (by kernel_rfl) (rs1 R (RV.tmp R R)) ?_).2
 refine zp (D2 R R)<|zn<|A8 (by kernel_rfl) R<|zi<|Ag (by kernel_rfl)<|zp (Al R R R (by omega) (by omega))<|zm R R<|zn<|?_
 exact Am (k+1) (⟨by omega,by rw [F3,hx0,Ca hx0, ←Gm hx0 hin hna hov];exact hgo,by rw [Ca hx0,List.length_cons, ←hp,hend];omega,fun t ht=>by rw [Ca hx0] at ht;rcases List.mem_cons.1 ht with e|e;(· rw [e];exact hin);(· exact hall t (Ik _ _ t e))⟩) (by omega) (fz ⟨sr,sr,sr,sr,sr,sr,trivial⟩) (gz ⟨rfl,Ig (by rw [Ca hx0, ←hp,hend]),trivial⟩)
 have hk0b:k=l.length:=by omega
 have hz:Ex n none [] l=0:=by rw [←hgo,hk0b,List.drop_length];rfl
 exact At<|zr<|za R R<|zn<|zt<|z1 R R (rI (Gk g11 c14 c17 hz.symm))
end Go.Proofs.YtaafemnkamfgnaaGreat
