/- Part 8 of what the statements need: lemmas and walks. -/
import Derived.Lib.AppendZeros
import Derived.Test.YtcihalbakenleaaGreatSm7
set_option linter.unusedVariables false
set_option linter.unusedSimpArgs false
set_option linter.unusedSectionVars false
set_option maxRecDepth 20000
set_option maxHeartbeats 8000000
namespace Go.Proofs.YtcihalbakenleaaGreat
open Go.RowKit
section
variable {P:Program} {o:Oper} {e:Operand→S} {h:Xh}
theorem Wb {t el:TypeId} {x:Operand} (ho:o.op= .call {callee:= .builtin .cap,args:= #[x],argTypes:= #[t]}) (hx:e x= .d (.v (.slice none 0 0))) (hu:P.underlying t=some (.slice el)):Bm P o e h (.d (.v (.int .i64 0))):=fun E H β ρ w _ hop=>by
  have g:=hop x (by rw [ho];simp [Op.operands,Call.operands])
  rw [hx] at g
  refine ⟨_, ?_, .d (.v (.int .i64 0))⟩
  unfold execOp
  simp only [ho,resolve,invoke,builtin,Sem.run_bind,Sem.run_pure,Result.andThen_ok,List.map_toArray,List.map_cons,List.map_nil,Ei g]
  unfold Builtin.cap_
  simp only [List.getElem?_toArray,List.getElem?_cons_zero,Sem.run_bind,run_underlying hu,Result.andThen_ok,Sem.run_pure,goInt]
  rfl
theorem Ac4 {t sz:Nat} {x y:Operand} {k:IntKind} (ho:o.op= .slice t x none (some y) none) (hx:e x= .d (.v (.slice none 0 0))) (hy:e y= .d (.v (.int k 0))) (hf:elB P t sz=true):Bm P o e h (.d (.v (.slice none 0 0))):=fun E H β ρ w _ hop=>by
  have g:=hop x (by rw [ho];simp [Op.operands])
  have g2:=hop y (by rw [ho];simp [Op.operands])
  rw [hx] at g
  rw [hy] at g2
  obtain ⟨el,hu,hpos,hsz⟩:=elB.parts hf
  have hb:(Instr.sliceBounds true 0 0 (none:Option Value) (some (ρ y)) none).run P w= .ok (0,0,0) w:=by
    rw [Ei g2]
    exact Mh none (some (.int k 0)) 0 0 0 0 (.inl ⟨rfl,rfl⟩) (.inr ⟨k,rfl⟩) (Nat.le_refl _) (Nat.le_refl _) w
  refine ⟨_, ?_, .d (.v _)⟩
  unfold execOp
  simp only [ho,Ei g,Instr.sliceAt,Option.map_none,Option.map_some,Sem.run_bind,run_underlying hu,Result.andThen_ok,Instr.slice,hb,hsz,Sem.run_pure,Nat.sub_zero,if_true]
end
section
variable {P:Program} {n:Nat} {o:Oper} {f:Fr} {h:Xh}
theorem Agm (i:Nat) {t tn ty:TypeId} {sz bytes:Nat} {x y:Operand} {z:Value} {zs:List D} {k:Nat} {kq kn:IntKind} (ho:o.op= .call {callee:= .builtin .append,args:= #[x,y],argTypes:= #[t,tn]})
    (hx:ev f x= .d (.v (.slice none 0 0))) (hy:ev f y= .d (.v (.int kq k))) (hu:P.underlying t=some (.slice ty)) (hun:P.underlying tn=some (.int kn)) (hinf:(P.info? ty).map (fun i=>(i.zero,i.size,i.bytes))=some (some z,sz,bytes))
    (hzs:z.cells.toList.map D.v=zs) (hzl:z.cells.size=sz) (hz1:∀u∈z.cells,u.oneCell'=true) (hpos:0<sz) (hk:0<k) (hcm:k≤maxLen) (hby:k*bytes≤140737488355328):
    Step P n o f h (.own i) (Hs f i) ((h.kill i).set i (.row ty sz (List.replicate k zs))):=by
  intro E H β a w hs hf hop
  have g1:=hop x (by rw [ho];simp [Op.operands,Call.operands])
  have g2:=hop y (by rw [ho];simp [Op.operands,Call.operands])
  rw [hx] at g1
  rw [hy] at g2
  obtain ⟨inf,hi,hi1,hi2,hi3⟩:=info_parts hinf
  have hcm':k≤9223372036854775807:=Aj9 hcm
  have hrun0:=Lib.run_append_nil_zeros (P:=P) w t tn o.type ty inf z kq kn hu hun hi hi1 k hk (by omega) (by omega) (by rw [hi3];omega)
  have hrun:(execOp a.eval o).run P w= .ok (.value (.slice (some ⟨w.heap.size,0,none⟩) (List.replicate k zs).length (grownCap w k 0 ty))) (w.drew.alloc (.cells (Builtin.zeroCells z.cells k++Builtin.zeroCells z.cells (grownCap w k 0 ty - k)) ty)):=by
    unfold execOp
    simp only [ho,Ei g1,Ei g2,resolve,invoke,builtin,Sem.run_bind,Sem.run_pure,Result.andThen_ok,List.map_toArray,List.map_cons,List.map_nil,hrun0,List.length_replicate]
  unfold Oper.wp
  rw [hrun]
  have hge:=grownCap_ge w k 0 ty
  have hle:=grownCap_le_maxLen w k 0 ty hcm
  have hzsl:zs.length=sz:=by rw [←hzs,List.length_map,Array.length_toList,hzl]
  have hzget : ∀ m q, q < m * sz → (Builtin.zeroCells z.cells m)[q]? = some (z.cells[q % z.cells.size]'(Nat.mod_lt _ (by omega))) := by
    intro m q hq
    unfold Builtin.zeroCells
    rw [Array.getElem?_map]
    have:(Array.range (m*z.cells.size))[q]? =some q:=by rw [hzl];simp [hq]
    rw [this,Option.map_some]
    congr 1
    exact getElem!_pos z.cells (q % z.cells.size) (Nat.mod_lt _ (by omega))
  have hzsz:∀m,(Builtin.zeroCells z.cells m).size=m*sz:=fun m=>by unfold Builtin.zeroCells;simp [hzl]
  have hzone:∀m,∀u∈Builtin.zeroCells z.cells m,u.oneCell'=true:=fun m u hu=>by
    obtain ⟨q,hq⟩:=Array.getElem?_of_mem hu
    have hql:=(Array.getElem?_eq_some_iff.1 hq).1
    rw [hzget m q (by rw [←hzsz];exact hql)] at hq
    cases hq
    exact hz1 _ (Array.getElem_mem _)
  have hsim := hs.drew.add_row i (ty := ty) (sz := sz) (cap := grownCap w k 0 ty) (l := List.replicate k zs) (Builtin.zeroCells z.cells k ++ Builtin.zeroCells z.cells (grownCap w k 0 ty - k)) (fun x hx => by rw [List.eq_of_mem_replicate hx]; exact hzsl) (by rw [List.length_replicate]; exact hge) hle (by
      rw [Array.size_append, hzsz, hzsz, ← Nat.add_mul]; congr 1; omega) (fun u hu => by
      rcases Array.mem_append.1 hu with h|h
      · exact hzone _ u h
      · exact hzone _ u h) (fun k' j x d hk' hj => by
      have hkl:=(List.getElem?_eq_some_iff.1 hk').1
      rw [List.length_replicate] at hkl
      have hx:=List.eq_of_mem_replicate (List.mem_of_getElem? hk')
      subst hx
      have hjl:=(List.getElem?_eq_some_iff.1 hj).1
      rw [hzsl] at hjl
      have h1:(k'+1)*sz≤k*sz:=Nat.mul_le_mul_right _ hkl
      rw [Nat.add_mul] at h1
      refine ⟨_,by rw [Array.getElem?_append_left (by rw [hzsz];omega)];exact hzget k (k'*sz+j) (by omega), ?_⟩
      have e2:(k'*sz+j) % sz=j:=by rw [Nat.mul_comm,Nat.mul_add_mod,Nat.mod_eq_of_lt hjl]
      rw [←hzs,List.getElem?_map,Array.getElem?_toList,Array.getElem?_eq_getElem (by omega)] at hj
      cases hj
      have e3 : z.cells[(k' * sz + j) % z.cells.size]'(Nat.mod_lt _ (by omega)) = z.cells[j]'(by omega) := by congr 1; rw [hzl, e2]
      rw [e3]
      exact .v _)
  exact ⟨H,_,_,rfl,hsim,hf.kill i _,Qk H β i ⟨_,w.heap.size,sz⟩⟩
end
inductive DSubs:List D→List D→Prop where
  |nil:DSubs [] []
  |cons {d d':D} {l l':List D} (h:DSub d d') (hl:DSubs l l'):DSubs (d::l) (d'::l')
mutual
theorem S.frz_kill (i:Nat) (x:D):∀s:S,(s.kill i).frz i x=s.kill i
  | .any=>by simp only [S.kill,S.frz]
  | .d y=>by simp only [S.kill,S.frz]
  | .ptr j k off=>by
    simp only [S.kill]
    by_cases e:i=j
    · subst e;rw [B1];simp only [cond_true,S.frz]
    · rw [Cb e];simp only [cond_false,S.frz]
  | .own j=>by
    simp only [S.kill]
    by_cases e:i=j
    · subst e;rw [B1];simp only [cond_true,S.frz]
    · rw [Cb e];simp only [cond_false,S.frz,Cb e]
  | .sub j a b=>by
    simp only [S.kill]
    by_cases e:i=j
    · subst e;rw [B1];simp only [cond_true,S.frz]
    · rw [Cb e];simp only [cond_false,S.frz,Cb e]
  | .agg l=>by simp only [S.kill,S.frz,S.frzL_kill i x l]
  | .fn f a c=>by simp only [S.kill,S.frz,S.frzL_kill i x a,S.frzL_kill i x c]
  | .tup l=>by simp only [S.kill,S.frz,S.frzL_kill i x l]
theorem S.frzL_kill (i:Nat) (x:D):∀l:List S,S.frzL i x (S.killL i l)=S.killL i l
  | []=>by simp only [S.killL,S.frzL]
  |s::l=>by simp only [S.killL,S.frzL,S.frz_kill i x s,S.frzL_kill i x l]
end
theorem S.frzG_kill (i:Nat) (x:D):∀l:List (Nat × S),S.frzG i x (S.killG i l)=S.killG i l
  | []=>rfl
  |(t,s)::l=>by simp only [S.killG,S.frzG,S.frz_kill i x s,S.frzG_kill i x l]
theorem XO.frz_kill (i:Nat) (x:D) (o:XO):(o.kill i).frz i x=o.kill i:=by
  cases o with
  |box l=>simp only [XO.kill,XO.frz,S.frzL_kill]
  |row e sz l=>rfl
  |rowS e sz l=>
    simp only [XO.kill,XO.frz,List.map_map]
    congr 1
    exact List.map_congr_left fun y _=>S.frzL_kill i x y
  |ghost u l=>simp only [XO.kill,XO.frz,S.frzG_kill]
def Pp (i:Nat):Nat→Option XO→Option XO:=fun k y=>bif Nat.beq i k then none else y.map (XO.kill i)
theorem Wp {i:Nat} (z z':Option XO):Pp i i z=Pp i i z':=by simp only [Pp,B1,cond_true]
section
variable {P:Program} {n:Nat} {o:Oper} {f:Fr} {h:Xh}
theorem Wo {i:Nat} {t ty:TypeId} {sz bytes:Nat} {x y:Operand} {l l' l2:List (List D)} (ho:o.op= .call {callee:= .builtin .append,args:= #[x,y],argTypes:= #[t,t]}) (T:ElemTy P t ty sz bytes)
    (hx:Dest h (ev f x) i ty sz l) (hy:Src h (ev f y) sz l') (h63:l.length+l'.length≤maxLen) (hby:(l.length+l'.length)*bytes≤140737488355328) (hl2:l++l'=l2):
    ∀hF,HLe h hF→Rs P n o f hF i (.d (.sl sz l2)) (S.kill i) (hF.by (Pp i)):=by
  intro hF hle f' he E H β a w hs hf hop
  refine Hy (Po ho T hx hy h63 hby hl2 hF hle f' he E H β a w hs hf hop) ?_
  rintro a' w' ⟨H',β',u,rfl,k1,k2,k3,k4⟩
  obtain ⟨H2,g1,g2,g3⟩:=k1.freeze (i:=i) (e:=ty) (sz:=sz) (l:=l2) (by show Oc i _ i _=_;simp only [Oc,B1,cond_true])
  obtain ⟨L,hL,hu⟩:=Jt k4
  refine ⟨H2,β',u,rfl,g3.drop (fun k o e=> ?_),k2.mono g1 (fun _ _ h=>h),k3, .d (by rw [hu];exact g2 L hL)⟩
  unfold Xh.by Pp at e
  unfold Xh.frz Xh.by Oc
  by_cases e':i=k
  · subst e';simp only [B1,cond_true] at e;cases e
  · simp only [Cb e',cond_false] at e ⊢
    cases hk:hF k with
    |none=>rw [hk] at e;cases e
    |some o1=>rw [hk] at e;cases e;simp only [Option.map_some,XO.frz_kill]
end
section
variable {P:Program} {n:Nat} {c:Code} {K:D3} {f:Fr} {h:Xh}
theorem An6 (t:Nat) {b:Bool} (ht:f t= .d (.v (.bool b))) (h1:b=true→XW P n c K (Dj f t (.d (.v (.bool true)))) h) (h2:b=false→XW P n c K (Dj f t (.d (.v (.bool false)))) h):XW P n c K f h:=by
  have e:∀b',b=b'→Dj f t (.d (.v (.bool b')))=f:=fun b' hb=>by
    funext j
    by_cases e:t=j
    · subst e;simp only [Dj,B1,cond_true];rw [ht,hb]
    · simp only [Dj,Cb e,cond_false]
  cases hb:b with
  |true=>have:=h1 hb;rwa [e true hb] at this
  |false=>have:=h2 hb;rwa [e false hb] at this
theorem Ak2 (t:Nat) {p:Prop} [Decidable p] (ht:f t= .d (.v (.bool (decide p)))) (h1:p→XW P n c K (Dj f t (.d (.v (.bool true)))) h) (h2:¬p→XW P n c K (Dj f t (.d (.v (.bool false)))) h):XW P n c K f h:=
  An6 t ht (fun e=>h1 (of_decide_eq_true e)) (fun e=>h2 (of_decide_eq_false e))
end
end Go.Proofs.YtcihalbakenleaaGreat
namespace Go.Proofs.YtcihalbakenleaaGreat
open Go.RowKit
theorem RVS.cells {P:Program} {n:Nat} {f:Fr} {h:Xh} {a t m i:Nat} {l:List S} (ha:Nat.blt a n=true) (hf:f a= .ptr i 0 0) (hi:h i=some (.box l)) (hs:aggB P t m=true) (hm:m≤l.length):RVS P n f h (.cell a t) (.agg ((l.drop 0).take m)):=fun E H β act w hsim hfv=>by
 have g:=hfv.slot a (Gm ha)
 rw [hf] at g
 obtain ⟨L,h1,h2⟩:=I0 g
 rw [Nat.zero_mul,Nat.zero_add] at h2
 have hp : Bm P ⟨none, .load t (.tmp 0), t, "", #[], none⟩ (fun _ => .ptr i 0 0) h (.agg ((l.drop 0).take m)) := Ac rfl rfl hs hi (by omega)
 obtain ⟨u,r1,r2⟩:=hp E H β (fun _=>act.tmps.getD a undef) w hsim (fun x _=>by rw [h2];have:=VS.ptr (H:=H) 0 0 h1;rw [Nat.zero_mul,Nat.zero_add] at this;exact this)
 rw [I9 rfl h2] at r1
 refine ⟨u, ?_,r2⟩
 unfold Tt
 simp only [Sem.run_bind,h2,asAddr,Sem.run_pure,Result.andThen_ok]
 generalize (loadVar t ⟨L.b,0,none⟩).run P w=r at r1
 cases r with
 |ok v w'=>simp only [Result.andThen_ok,Result.ok.injEq,Next.value.injEq] at r1;obtain ⟨rfl,rfl⟩:=r1;rfl
 |halt x w'=>simp [Result.andThen] at r1
end Go.Proofs.YtcihalbakenleaaGreat
namespace Go.Proofs.YtcihalbakenleaaGreat
open Go.RowKit
theorem St {P:Program} {o:Oper} {e:Operand→S} {h:Xh} {d:D} (d':D) (hp:Bm P o e h (.d d)) (hs:DSub d d'):Bm P o e h (.d d'):=fun E H β ρ w hsim hop=>by
 obtain ⟨u,r1,r2⟩:=hp E H β ρ w hsim hop
 exact ⟨u,r1, .d (hs.vd (Ey r2))⟩
end Go.Proofs.YtcihalbakenleaaGreat
namespace Go.Proofs.YtcihalbakenleaaGreat
open Go.RowKit
theorem XL.rowq {P:Program} {n:Nat} {ops:Array Oper} {rest:List Oper} {K:D3} {f:Fr} {h:Xh} {i:Nat} {e:TypeId} {sz:Nat} {l l':List (List D)} (hi:h i=some (.row e sz l)) (he:l=l') (hr:XL P n ops rest K f (h.set i (.row e sz l'))):XL P n ops rest K f h:=by
 subst he
 have:h.set i (.row e sz l)=h:=by
  funext j
  by_cases k:i=j
  ·subst k;rw [Xh.set_same,hi]
  ·rw [Xh.set_ne _ _ k]
 rwa [this] at hr
theorem CStep.row0 {P:Program} {o:Oper} {f:Fr} {h:Xh} (i:Nat) {t ty:TypeId} {sz:Nat} (ho:o.op= .buildSlice t 0 #[]) (hu:P.underlying t=some (.slice ty)) (hsz:sizeB P ty sz=true) (hi:h i=none):CStep P o f h [i] (.own i) (h.set i (.row ty sz [])):=
 ⟨HLe.set _ hi, fun j x e => by
  by_cases e':i=j
  ·subst e';rw [Xh.set_same] at e;cases e;exact .inr ⟨by simp,rfl⟩
  ·rw [Xh.set_ne _ _ e'] at e;exact .inl e,fun hF hle E H β a w hs hβ hop=>by
  have hβi:=hβ i (by simp)
  have hr:(execOp a.eval o).run P w= .ok (.value (.slice (some ⟨w.heap.size,0,none⟩) 0 0)) (w.alloc (.cells #[] ty)):=by
   have hfl:((#[]:Array (Nat × Operand)).map fun (i,x)=>(i,a.eval x)).toList= []:=by simp
   unfold execOp
   simp only [ho,Instr.buildSlice,Sem.run_bind,run_underlying hu,Result.andThen_ok,sizeB.run hsz,Nat.zero_mul,show ¬(0:Nat)>2 ^ 24 by omega,if_false,if_true,Sem.run_pure,hfl,Instr.fill,newRow,run_newObj,World.alloc_eq,Tz,Array.map_empty]
  unfold Oper.wp
  rw [hr]
  have hiF:=hle i _ (Xh.set_same h i (.row ty sz []))
  obtain ⟨k1,k2⟩:=hs.put_new (L:=⟨.slice (some ⟨w.heap.size,0,none⟩) 0 0,w.heap.size,sz⟩) (obj:= .cells #[] ty) hβi hiF (fun b hb=>by simpa [XO.blk,Value.ownBlock] using hb.symm)
   ⟨rfl,fun x hx=>(by cases hx),fun b hb=>by simpa [Value.ownBlock] using hb.symm, [],⟨by simp, .inr ⟨w.heap.size,0, #[],rfl,hs.size,heap_alloc_new w _,Nat.le_refl _,Nat.zero_le _,by simp,by simp⟩⟩,fun u hu=>(by cases hu),fun k j x d hk=>(by simp at hk)⟩
  exact ⟨H, _, _, rfl, k1, Hp.le.refl _, k2, fun j hj => Bt.set_ne _ _ (fun e => hj (by simp [e])), .own (Bt.set_same β i _)⟩⟩
end Go.Proofs.YtcihalbakenleaaGreat
namespace Go.Proofs.YtcihalbakenleaaGreat
open Go.RowKit
section
variable {E:Env} {H:Hp} {β:Bt} {h:Xh} {w:World}
end
section
variable {P:Program} {n:Nat} {ops:Array Oper} {rest:List Oper} {K:D3} {f:Fr} {h:Xh} {o:Oper} {e:Operand→S}
end
def wH (w:World):Hp:=fun b o=>match w.cell? ⟨b,o,none⟩ with
 |some u=>if u.oneCell'=true then some u else none
 |none=>none
mutual
inductive Snap (h:Xh):S→D→Prop where
 |d (x:D):Snap h (.d x) x
 |own {i:Nat} {e:TypeId} {sz:Nat} {l:List (List D)} (hi:h i=some (.row e sz l)):Snap h (.own i) (.sl sz l)
 |prow {i k off:Nat} {e:TypeId} {sz:Nat} {l:List (List D)} {y:List D} (hi:h i=some (.row e sz l)) (hk:l[k]? =some y):Snap h (.ptr i k off) (.pt (y.drop off))
 |pbox {i:Nat} {cs:List S} {ds:List D} (hi:h i=some (.box cs)) (h1:cs.all (Hj h)=true) (hs:SnapL h cs ds):Snap h (.ptr i 0 0) (.pt ds)
 |fn {F:FuncId} {a c:List S} {a' c':List D} (ha:SnapL h a a') (hc:SnapL h c c'):Snap h (.fn F a c) (.fn F a' c')
inductive SnapL (h:Xh):List S→List D→Prop where
 |nil:SnapL h [] []
 |cons {s:S} {d:D} {l:List S} {l':List D} (hs:Snap h s d) (hl:SnapL h l l'):SnapL h (s::l) (d::l')
end
section
variable {E:Env} {H:Hp} {β:Bt} {h:Xh} {w:World} (hs:Sim E H β h w)
include hs
end
section
variable {P:Program} {n:Nat} {ops:Array Oper} {rest:List Oper} {K:D3} {f:Fr} {h:Xh} {o:Oper} {F:FuncId} {ds:List D} {args:Array Operand} {tys:Array TypeId} {x:Value}
end
section
variable {P:Program} {n:Nat} {ops:Array Oper} {rest:List Oper} {K:D3} {f F:Fr} {h G:Xh} {o:Oper} {c:Code}
def kmeet (P:Program) (n:Nat) (F:Fr) (G:Xh) (dst:Option Tmp) (fn:Func) (n' g:Nat) (u:Array Value):D3
 | .normal,f,h=>∃s l,h g=some (.ghost u l)∧Nb P n' fn f h s∧FSub n (Bw (mkF l) dst s) F∧HSub h G
 | .ret,f,h=>∃s l,h g=some (.ghost u l)∧Nb P n' fn f h s∧FSub n (Bw (mkF l) dst s) F∧HSub h G
 |_,_,_=>False
end
section
variable {P:Program} {n:Nat} {K:D3} {f:Fr} {h:Xh} {c:Code}
theorem XS.xc {F:FuncId} {ds:List D} {s:S} {i:Nat} {e:TypeId} {sz:Nat} {l:List (List D)} {d:D} (hx:XS P F ds s [(i, .row e sz l)]) (hd:norm (s.frz i (.sl sz l))= .d d):XC P F ds (fun r=>r=d):=
 ⟨hx.callable, fun H w vs h1 h2 h3 => (hx.calls H w vs h1 h2 h3).mono fun e w' ⟨H', β, u, he, k1, k2, k3⟩ => by
  obtain ⟨H2,q1,q2,q3⟩:=k1.freeze (i:=i) (by simp only [mkH];exact Xh.set_same _ _ _)
  have hv:=VS.norm ((k2.mono q1 fun _ _ h=>h).frz i _ q2)
  rw [hd] at hv
  exact ⟨H2, u, d, he, rfl, q3.ext, fun b o u e => q3.new b o u e, q3.imm, q3.below, Ey hv⟩⟩
end
end Go.Proofs.YtcihalbakenleaaGreat
namespace Go.Proofs.YtcihalbakenleaaGreat
open Go.RowKit
def Tp.mv (by_:Int) (t:Tp):Tp:={t with first:=t.first+by_}
def B6 (p:Tp→Bool) (by_:Int) (l:List Tp):List Tp:=(l.filter p).map (Tp.mv by_)
theorem Aj1 {p:Tp→Bool} {b:Int} {l:List Tp} {k:Nat} {t:Tp} (h:l[k]? =some t) (hp:p t=true):B6 p b (l.take (k+1))=B6 p b (l.take k)++ [t.mv b]:=by
 rw [Bb h,B6,List.filter_append,List.filter_cons_of_pos hp,List.filter_nil,List.map_append];rfl
theorem Ahh {p:Tp→Bool} {b:Int} {l:List Tp} {k:Nat} {t:Tp} (h:l[k]? =some t) (hp:¬p t=true):B6 p b (l.take (k+1))=B6 p b (l.take k):=by
 rw [Bb h,B6,List.filter_append,List.filter_cons_of_neg hp,List.filter_nil,List.append_nil];rfl
theorem Kf (p:Tp→Bool) (b:Int) (l:List Tp):(B6 p b l).length≤l.length:=by rw [B6,List.length_map];exact List.length_filter_le _ _
theorem Ap3 {b:Bool} (h:b=false):¬b=true:=by rw [h];exact Bool.false_ne_true
theorem S1 (l:List Tp) (F:Nat) (cs:List D) (p:Tp→Bool) (b:Int) (hF:∀t∈l,XC Tryz.prog F (.agg (Tp.c t)::cs) (fun r=>r=dB (p t))) (hl:l.length≤1000) (hb:∀t∈l,p t=true→ -1000000≤t.first+b∧t.first+b≤1000000):XC Tryz.prog 84 [.sl 4 (l.map Tp.c), .fn F [] cs, .v (.int .i64 b)] (fun r=>r= .sl 4 ((B6 p b l).map Tp.c)):=by
 refine Ap Adk Tryz.func84 R R lb<|zr<|za R R<|znr<|za R R<|zn<|zs<|zr<|zm R R<|XL.len R R R Tryz.underlying23 fun hl11=>zm R R<|zn<|Ag<|C9 900 7 102 4 R<|?_
 refine Ax (α:=Nat) (fun k=>k≤l.length) (fun k=>mkF [(1, .d (.fn F [] cs)),(2, .d (dI b)),(6, .d (.v (.slice none 0 0))),(7, .own 900),(10, .d (.sl 4 (l.map Tp.c))),(11, .d (dI l.length)),(12, .d (dI k))]) (fun k=>mkH [(900, .row 102 4 ((B6 p b (l.take k)).map Tp.c))]) (fun k=>l.length - k) (0) (Nat.zero_le _) ?_ ?_ ?_
 exact fz ⟨sr,sr,sr,sr,sr,sr,sr,trivial⟩
 exact gz ⟨R,trivial⟩
 intro k hk0
 refine zr<|zp (At R R R)<|zn<|zs<|?_
 refine zd R (fun c13=> ?_) (fun c13=> ?_)
 have hk0a:k<l.length:=by omega
 obtain ⟨x0,hx0⟩:=As hk0a
 have hml:=Kf p b (l.take k)
 have htl:(l.take k).length≤l.length:=List.length_take_le' _ _
 refine zi<|zs<|Ag<|zr<|zp (Aj R R R E6 hx0)<|zp (Ad (s':= .d (.agg (Tp.c x0))) (Ar R R Co lb) (by kernel_rfl))<|XL.step R (A9 9 (l:= [.d (dI 0), .d (dI 0), .d (dI 0), .d (dI 0)]) R Ex (by kernel_rfl))<|XL.step R (Ai (l':= [.d (dI x0.first), .d (dI x0.count), .d (dI x0.actual), .d (dI x0.normal)]) R R R R Gw R lb (by kernel_rfl))<|znr<|zm R R<|?_
 refine zp (Ad (s':= .d (.agg (Tp.c x0))) (Ae (Ac R R Co R lb)) (by kernel_rfl))<|XL.callv1 (ds:= [_]) R R R (hF x0 (List.mem_of_getElem? hx0)) R<|zn<|?_
 refine Dw (by kernel_rfl) R (fun c18=> ?_) (fun c18=> ?_)
 have hb0:=hb x0 (List.mem_of_getElem? hx0) c18
 refine zr<|zp (Aa R R Df)<|zp (Ab R R Ah R R)<|zm R R<|zp (Ak R R R (by omega) (by omega))<|zp (Aa R R Df)<|XL.step R (Ai (l':= [.d (dI (x0.first+b)), .d (dI x0.count), .d (dI x0.actual), .d (dI x0.normal)]) R R R R C0 R lb (by kernel_rfl))<|zng<|zp (Au R (by conv=>lhs;whnf))<|?_
 refine zp (Ad (s':= .d (.agg [dI (x0.first+b),dI x0.count,dI x0.actual,dI x0.normal])) (Ae (Ac R R Co R lb)) (by kernel_rfl))<|XL.step R (Bi 26 R Tryz.underlying23 Gw Ex R R (by omega) (by omega))<|XL.step R (A4 R Hg (.own R) (Src.own R) (by unfold maxLen;simp;omega) (by simp;omega))<|zp (Aq R (by conv=>lhs;whnf))<|?_
 refine zn<|Af (by kernel_rfl)<|zp (Ak R R R (by omega) (by omega))<|zm R R<|zn<|?_
 exact Al (k+1) (by omega) (by omega) (fz ⟨sr,sr,sr,sr,sr,sr,sr,trivial⟩) (gz ⟨E7 R (Aj1 hx0 c18),trivial⟩)
 refine zi<|Af (by kernel_rfl)<|zp (Ak R R R (by omega) (by omega))<|zm R R<|zn<|?_
 exact Al (k+1) (by omega) (by omega) (fz ⟨sr,sr,sr,sr,sr,sr,sr,trivial⟩) (gz ⟨Aqp (Ahh hx0 (Ap3 c18)).symm,trivial⟩)
 have hk0b:k=l.length:=by omega
 have ht:l.take k=l:=by rw [hk0b,List.take_length]
 refine An<|zr<|zp (Au R (by conv=>lhs;whnf))<|?_
 refine zp (Aq R (by conv=>lhs;whnf))<|?_
 exact zn<|zt<|Bj (i:=900) R<|z1 R R (rSl (by rw [ht]))
theorem Apq (n:Nat) (h:n≤100000):XS Tryz.prog 145 [.v (.slice none 0 0), .v (.int .i64 (n:Nat))] (.own 7001) [(7001, .row 60 13 ((([]:List Ev)).map Ev.c))]:=by
 refine Hv Aa9 Tryz.func145 R R lb (by kernel_rfl) (by kernel_rfl)<|zr<|za R R<|zn<|zs<|zr<|zm R R<|zp (At R R R)<|zn<|?_
 refine zd R (fun c6=> ?_) (fun c6=> ?_)
 exfalso;omega
 refine zi<|zs<|zr<|zm R R<|zm R R<|zp (Wb R R Tryz.underlying22)<|zm R R<|zp (V9 R R Tryz.underlying22)<|zp (C7 R R R (by omega) (by omega))<|zp (Ad (s':= .d (dI (n:Nat))) (C7 R R R (by omega) (by omega)) (sI (by omega)))<|za R R<|znr<|zm R R<|zp (A6 R R R)<|?_
 refine zn<|?_
 refine zd R (fun c16=> ?_) (fun c16=> ?_)
 refine Af (by kernel_rfl)<|zm R R<|zm R R<|zp (Wb R R Tryz.underlying22)<|zp (Ac4 R R R Cv)<|zm R R<|?_
 refine XL.step R (Agm 7001 (z:=(.agg #[.int .i64 0, .int .i64 0, .int .i64 0, .int .i64 0, .int .i64 0, .slice none 0 0, .slice none 0 0, .int .i64 0, .int .i64 0, .int .i64 0, .slice none 0 0, .int .i64 0, .int .i64 0])) (zs:= [dI 0,dI 0,dI 0,dI 0,dI 0, .v (.slice none 0 0), .v (.slice none 0 0),dI 0,dI 0,dI 0, .v (.slice none 0 0),dI 0,dI 0]) (sz:=13) (bytes:=152) R R R Tryz.underlying22 Tryz.underlying3 (by kernel_rfl) (by kernel_rfl) (by kernel_rfl) (by decide) (by decide) (by omega) (by unfold maxLen;omega) (by omega))<|?_
 refine zm R R<|zp (V9 R R Tryz.underlying22)<|XL.step R (To R R R Cv (.at R) (Nat.zero_le _))<|zp (Aq R (by conv=>lhs;whnf))<|?_
 refine znr<|zp (Au R (by conv=>lhs;whnf))<|?_
 refine zp (Aq R (by conv=>lhs;whnf))<|?_
 refine zn<|zt<|?_
 exact ⟨Dt R (RVS.tmp R R),HSub.cons (R) (HSub.nil)⟩
 refine zi<|zr<|zm R R<|za R R<|zn<|C9 7001 4 60 13 R<|zt<|?_
 exact ⟨Dt R (RVS.tmp R R),HSub.cons (R) (HSub.nil)⟩
def Zq (l:List Ev):List D:= [.sl 13 (l.map Ev.c)]
theorem Ta {ls:List (List Ev)} {k:Nat} {x:List Ev} (h:ls[k]? =some x):(ls.take (k+1)).flatten=(ls.take k).flatten++x:=by rw [Bb h,List.flatten_append,List.flatten_singleton]
theorem Z0 {ls:List (List Ev)} (k:Nat):(ls.take k).flatten.length≤ls.flatten.length:=by
 have:ls.flatten=(ls.take k).flatten++(ls.drop k).flatten:=by rw [←List.flatten_append,List.take_append_drop]
 rw [this,List.length_append];omega
theorem Aku (ls:List (List Ev)) (h:ls.flatten.length≤100000):XS Tryz.prog 106 [.sl 1 (ls.map Zq)] (.own 7001) [(7001, .row 60 13 ((ls.flatten).map Ev.c))]:=by
 refine Hv Ab7 Tryz.func106 R R lb (by kernel_rfl) (by kernel_rfl)<|zr<|za R R<|znr<|za R R<|zn<|zs<|zr<|zm R R<|XL.len R R R Tryz.underlying177 fun hl10=>zm R R<|zn<|Ag<|?_
 refine Ax (α:=Nat) (fun k=>k≤ls.length) (fun k=>mkF [(0, .d (.sl 1 (ls.map Zq))),(2, .d (.v (.slice none 0 0))),(3, .d (dI ((ls.take k).flatten.length:Nat))),(9, .d (.sl 1 (ls.map Zq))),(10, .d (dI ls.length)),(11, .d (dI k))]) (fun k=>mkH []) (fun k=>ls.length - k) (0) (Nat.zero_le _) ?_ ?_ ?_
 exact fz ⟨sr,sr,sr,sr,sr,sr,trivial⟩
 exact HSub.nil
 intro k hk0
 refine zr<|zp (At R R R)<|zn<|zs<|?_
 refine zd R (fun c12=> ?_) (fun c12=> ?_)
 have hk0a:k<ls.length:=by omega
 obtain ⟨x0,hx0⟩:=As hk0a
 have h1:=Z0 (ls:=ls) (k+1)
 have h2:(ls.take (k+1)).flatten.length=(ls.take k).flatten.length+x0.length:=by rw [Ta hx0,List.length_append]
 refine zi<|zs<|Ag<|zr<|zp (Aj R R R Akn hx0)<|zp (Aw R R Bl)<|za R R<|znr<|zm R R<|zm R R<|XL.len R R R Tryz.underlying22 fun hl17=>zp (Ak R R R (by omega) (by omega))<|za R R<|znr<|?_
 refine zm R R<|zp (At R R R)<|zn<|?_
 refine zd R (fun c20=> ?_) (fun c20=> ?_)
 exfalso;omega
 refine zi<|Af (by kernel_rfl)<|zp (Ak R R R (by omega) (by omega))<|zm R R<|zn<|?_
 exact Al (k+1) (by omega) (by omega) (fz ⟨sr,sr, .same (sI (by rw [h2];omega)),sr,sr,sr,trivial⟩) (HSub.nil)
 have hk0b:k=ls.length:=by omega
 have h3:=Z0 (ls:=ls) k
 refine An<|zr<|zm R R<|XL.callS R R ((Apq _ (by omega)).lab 7001) R<|zp (Aq R (by conv=>lhs;whnf))<|?_
 refine zn<|zs<|zr<|zm R R<|XL.len R R R Tryz.underlying177 fun hl26=>zm R R<|zn<|Ag<|?_
 refine Ax (α:=Nat) (fun j=>j≤ls.length) (fun j=>mkF [(2, .d (.v (.slice none 0 0))),(6, .own 7001),(25, .d (.sl 1 (ls.map Zq))),(26, .d (dI ls.length)),(27, .d (dI j))]) (fun j=>mkH [(7001, .row 60 13 (((ls.take j).flatten).map Ev.c))]) (fun j=>ls.length - j) (0) (Nat.zero_le _) ?_ ?_ ?_
 exact fz ⟨sr,sr,sr,sr,sr,trivial⟩
 exact gz ⟨R,trivial⟩
 intro j hk2
 refine zr<|zp (At R R R)<|zn<|zs<|?_
 refine zd R (fun c28=> ?_) (fun c28=> ?_)
 have hk2a:j<ls.length:=by omega
 obtain ⟨x2,hx2⟩:=As hk2a
 have h4:=Z0 (ls:=ls) (j+1)
 have h5:(ls.take (j+1)).flatten.length=(ls.take j).flatten.length+x2.length:=by rw [Ta hx2,List.length_append]
 refine zi<|zs<|Ag<|zr<|zp (Aj R R R Akn hx2)<|zp (Aw R R Bl)<|za R R<|zng<|zp (Au R (by conv=>lhs;whnf))<|?_
 refine zm R R<|XL.step R (A4 R Fm (.own R) (Src.sl (by omega)) (by simp only [List.length_map];unfold maxLen;omega) (by simp only [List.length_map];omega))<|zp (Aq R (by conv=>lhs;whnf))<|?_
 refine zn<|Af (by kernel_rfl)<|zp (Ak R R R (by omega) (by omega))<|zm R R<|zn<|?_
 exact Al (j+1) (by omega) (by omega) (fz ⟨sr,sr,sr,sr,sr,trivial⟩) (gz ⟨Ec (Ta hx2),trivial⟩)
 have hk2b:j=ls.length:=by omega
 have ht:ls.take j=ls:=by rw [hk2b,List.take_length]
 refine An<|zr<|zp (Au R (by conv=>lhs;whnf))<|?_
 refine zp (Aq R (by conv=>lhs;whnf))<|?_
 refine zn<|zt<|?_
 exact ⟨Dt R (RVS.tmp R R),HSub.cons (by rw [ht];rfl) (HSub.nil)⟩
def Br (v:Vo) (a n:Nat) (x:Vo):Vo:=
 ⟨v.evs.take a++x.evs++v.evs.drop (a+n),B6 (fun t=>decide (t.first<a)) 0 v.tups++B6 (fun _=>true) a x.tups++B6 (fun t=>decide ((a:Int)+n≤t.first)) (x.evs.length - n) v.tups⟩
structure Sml (v:Vo):Prop where
 evs:v.evs.length≤10000
 tups:v.tups.length≤100
 bd:∀t∈v.tups, -10000≤t.first∧t.first≤10000
theorem Als (v:Vo) (a n:Nat) (x:Vo): [(v.evs.take a).drop 0,x.evs,(v.evs.take v.evs.length).drop (a+n)].flatten=(Br v a n x).evs:=by
 simp [Br,List.flatten_cons]
theorem Agn (v:Vo) (a n:Nat) (x:Vo) (hv:Sml v) (hx:Sml x) (h:a+n≤v.evs.length):XS Tryz.prog 65 [.agg (Vo.c v), .v (.int .i64 (a:Nat)), .v (.int .i64 (n:Nat)), .agg (Vo.c x)] (.agg [.own 7001, .d (.sl 4 ((Br v a n x).tups.map Tp.c))]) [(7001, .row 60 13 (((Br v a n x).evs).map Ev.c))]:=by
 have hve:=hv.evs
 have hxe:=hx.evs
 have hvt:=hv.tups
 have hxt:=hx.tups
 have m1:=Kf (fun t=>decide (t.first<(a:Int))) 0 v.tups
 have m2:=Kf (fun _=>true) a x.tups
 have m3:=Kf (fun t=>decide ((a:Int)+n≤t.first)) (x.evs.length - n) v.tups
 refine Hv Ad2 Tryz.func65 R R lb (by kernel_rfl) (by kernel_rfl)<|zr<|XL.step R (Ay 4 (l:= [.d (.sl 13 (v.evs.map Ev.c)), .d (.sl 4 (v.tups.map Tp.c))]) R R (by kernel_rfl))<|XL.step R (Ay 5 (l:= [.d (dI (a:Nat))]) R R (by kernel_rfl))<|XL.step R (Ay 6 (l:= [.d (dI (n:Nat))]) R R (by kernel_rfl))<|?_
 refine XL.step R (Ay 7 (l:= [.d (.sl 13 (x.evs.map Ev.c)), .d (.sl 4 (x.tups.map Tp.c))]) R R (by kernel_rfl))<|XL.step R (A9 8 (l:= [.d (.v (.slice none 0 0)), .d (.v (.slice none 0 0))]) R Ca (by kernel_rfl))<|zn<|zs<|C1 16 [7001,9] (by kernel_rfl) (by kernel_rfl) (by kernel_rfl) (by kernel_rfl) (by decide)<|yp (Aa R R A0)<|yp (Ab R R Bl R R)<|?_
 refine yp (Ab R R Ah R R)<|yp (F8 R R Cv Bd.no (Bd.at R) (Nat.zero_le _) (by omega))<|yp (Aa R R A0)<|yp (Ab R R Bl R R)<|yp (Aa R R A0)<|yp (Ab R R Bl R R)<|yp (Ab R R Ah R R)<|yp (Ab R R Ah R R)<|yp (Ad (s':= .d (dI (a+n:Nat))) (Ak R R R (by omega) (by omega)) (sI (by omega)))<|?_
 refine yp (F8 R R Cv (Bd.at R) Bd.no (by omega) (Nat.le_refl _))<|ChK.cons R (CStep.slice (l:= [((v.evs.take (a:Nat)).drop 0),x.evs,((v.evs.take v.evs.length).drop (a+n:Nat))].map Zq) R Tryz.underlying177 O1 An2 (by kernel_rfl) R (by omega) (by omega))<|?_
 refine ChK.cons R (CStep.callS R ((Aku _ (by simp only [List.flatten_cons,List.flatten_nil,List.length_append,List.length_nil,List.length_take,List.length_drop];omega)).lab 7001) R (E3 (by kernel_rfl)))<|yp (Ae (Bv R Gc Ca R))<|ChK.cons R (CStep.allocN 9 (l:= [.d (.v (.slice none 0 0)), .d (.v (.slice none 0 0))]) R Ca R R)<|?_
 refine ChK.nil ⟨by kernel_rfl, ?_⟩
 refine XL.step R (Ai (l':= [.own 7001, .d (.v (.slice none 0 0))]) R R R R D7 R lb (by kernel_rfl))<|znr<|XL.freezeP 5 (ds:= [dI (a:Nat)]) R (by kernel_rfl) (by kernel_rfl)<|zp (Ag8 (pd:= []) (cd:= [_]) R R R)<|za R R<|znr<|XL.freezeP 6 (ds:= [dI (n:Nat)]) R (by kernel_rfl) (by kernel_rfl)<|zp (Ag8 (pd:= []) (cd:= [_,_]) R R R)<|za R R<|zn<|zs<|?_
 refine C1 6 [] (by kernel_rfl) (by kernel_rfl) (by kernel_rfl) (by kernel_rfl) (by decide)<|yp (Aa R R B0)<|yp (Ab R R Bz R R)<|yp (Aa R R B0)<|yp (Ab R R Bz R R)<|ym R R<|?_
 refine ChK.cons R (CStep.call R (S1 v.tups 107 [.pt [dI a]] (fun t=>decide (t.first<(a:Int))) (0) (fun t _=>Ao1 t a) (by omega) (fun t ht _=>by have:=hv.bd t ht;omega)) rfl)<|?_
 refine ChK.nil ⟨by kernel_rfl, ?_⟩
 refine XL.step R (A4 R Hg (.nil 35 _ _) (Src.sl (by omega)) (by simp only [List.length_map,List.length_nil];unfold maxLen;omega) (by simp only [List.length_map,List.length_nil];omega))<|zp (Aa R R B0)<|XL.step R (Ai (l':= [.own 7001, .own 35]) R R R R Ie R lb (by kernel_rfl))<|zn<|zs<|?_
 refine C1 6 [] (by kernel_rfl) (by kernel_rfl) (by kernel_rfl) (by kernel_rfl) (by decide)<|yp (Aa R R B0)<|yp (Ab R R Bz R R)<|yp (Aa R R B0)<|yp (Ab R R Bz R R)<|yp (Aw R R Ah)<|ChK.cons R (CStep.call R (S1 x.tups 109 [] (fun _=>true) (a) (fun t _=>Aoz t) (by omega) (fun t ht _=>by have:=hx.bd t ht;omega)) rfl)<|?_
 refine ChK.nil ⟨by kernel_rfl, ?_⟩
 refine XL.step R (A4 R Hg (.own R) (Src.sl (by omega)) (by simp only [List.length_append,List.length_map,List.length_nil];unfold maxLen;omega) (by simp only [List.length_append,List.length_map,List.length_nil];omega))<|zp (Aa R R B0)<|XL.step R (Ai (l':= [.own 7001, .own 35]) R R R R Ie R lb (by kernel_rfl))<|zn<|zs<|?_
 refine C1 11 [] (by kernel_rfl) (by kernel_rfl) (by kernel_rfl) (by kernel_rfl) (by decide)<|yp (Aa R R B0)<|yp (Ab R R Bz R R)<|yp (Aa R R B0)<|yp (Ab R R Bz R R)<|ym R R<|yp (Aa R R A0)<|yp (Ab R R Bl R R)<|yp (Qj R R Tryz.underlying22)<|yp (Aw R R Ah)<|yp (C7 R R R (by omega) (by omega))<|?_
 refine ChK.cons R (CStep.call R (S1 v.tups 108 [.pt [dI a], .pt [dI n]] (fun t=>decide ((a:Int)+n≤t.first)) (x.evs.length - n) (fun t _=>Ao0 t a n (by omega) (by omega)) (by omega) (fun t ht _=>by have:=hv.bd t ht;omega)) rfl)<|?_
 refine ChK.nil ⟨by kernel_rfl, ?_⟩
 refine XL.step R (A4 R Hg (.own R) (Src.sl (by omega)) (by simp only [List.length_append,List.length_map,List.length_nil];unfold maxLen;omega) (by simp only [List.length_append,List.length_map,List.length_nil];omega))<|?_
 refine XL.rowq (i:=35) (l':=(B6 (fun t=>decide (t.first<(a:Int))) 0 v.tups++B6 (fun _=>true) a x.tups++B6 (fun t=>decide ((a:Int)+n≤t.first)) (x.evs.length - n) v.tups).map Tp.c) R (by simp only [List.map_append,List.nil_append])<|zp (Aa R R B0)<|XL.step R (Ai (l':= [.own 7001, .own 35]) R R R R Ie R lb (by kernel_rfl))<|znr<|?_
 refine XL.freeze (i:=35) R<|zp (Ae (Ac R R Bg R lb))<|XL.step R (Ai (l':= [.own 7001, .d (.sl 4 ((B6 (fun t=>decide (t.first<(a:Int))) 0 v.tups++B6 (fun _=>true) a x.tups++B6 (fun t=>decide ((a:Int)+n≤t.first)) (x.evs.length - n) v.tups).map Tp.c))]) R R R R D7 R lb (by kernel_rfl))<|zn<|zt<|?_
 exact ⟨Dt R (RVS.eq (RVS.cells (i:=8) R R R Bg lb) R),HSub.cons (by rw [Als];rfl) (HSub.nil)⟩
theorem Pc (v:Vo) (a n:Nat) (x:Vo) (hv:Sml v) (hx:Sml x) (h:a+n≤v.evs.length):XC Tryz.prog 65 [.agg (Vo.c v),dI (a:Nat),dI (n:Nat), .agg (Vo.c x)] (fun r=>r= .agg (Vo.c (Br v a n x))):=(Agn v a n x hv hx h).xc rfl
end Go.Proofs.YtcihalbakenleaaGreat
namespace Go.Proofs.YtcihalbakenleaaGreat
def Tp.bef (a b:Tp):Prop:=a.first<b.first∨(a.first=b.first∧b.count≤a.count)
instance (a b:Tp):Decidable (a.bef b):=by unfold Tp.bef;exact inferInstance
theorem Vi (a b:Tp):a.bef b↔¬0<Kq a b:=by
 unfold Tp.bef Kq
 split
 ·split<;>omega
 ·split
  ·split<;>omega
  ·omega
theorem Tp.bef.trans {a b c:Tp} (h1:a.bef b) (h2:b.bef c):a.bef c:=by unfold Tp.bef at*;omega
theorem Tp.bef.first {a b:Tp} (h1:a.bef b):a.first≤b.first:=by unfold Tp.bef at*;omega
structure TV (l:List Tp) (n:Int):Prop where
 inR:∀t∈l,t.inR n
 ord:l.Pairwise Tp.bef
 nest:l.Pairwise (fun a b=>b.first<a.e→b.e≤a.e)
 dep:∀e,hits l e≤3
theorem M8 (A B:List Tp) (e:Int):hits (A++B) e=hits A e+hits B e:=by unfold hits;rw [List.filter_append,List.length_append]
theorem TV.nil (n:Int):TV [] n:=⟨fun t h=>(by cases h),List.Pairwise.nil,List.Pairwise.nil,fun e=>Nat.zero_le _⟩
theorem TV.snoc {P:List Tp} {t:Tp} {n:Int}:TV (P++ [t]) n↔TV P n∧t.inR n∧(∀a∈P,a.bef t)∧(∀a∈P,t.first<a.e→t.e≤a.e)∧∀e,t.has e→hits P e≤2:=by
 constructor
 ·intro h
  have ho:=List.pairwise_append.1 h.ord
  have hn:=List.pairwise_append.1 h.nest
  refine ⟨⟨fun x hx=>h.inR x (List.mem_append_left _ hx),ho.1,hn.1,fun e=> ?_⟩,h.inR t (List.mem_append_right _ (List.mem_singleton.2 rfl)),fun a ha=>ho.2.2 a ha t (List.mem_singleton.2 rfl),fun a ha=>hn.2.2 a ha t (List.mem_singleton.2 rfl),fun e he=> ?_⟩
  ·have:=h.dep e;rw [M8] at this;omega
  ·have:=h.dep e;rw [H9,if_pos he] at this;omega
 ·rintro ⟨h,h1,h2,h3,h4⟩
  refine ⟨fun x hx=> ?_,List.pairwise_append.2 ⟨h.ord,List.pairwise_singleton _ _,fun a ha b hb=>by rw [List.mem_singleton.1 hb];exact h2 a ha⟩,List.pairwise_append.2 ⟨h.nest,List.pairwise_singleton _ _,fun a ha b hb=>by rw [List.mem_singleton.1 hb];exact h3 a ha⟩,fun e=> ?_⟩
  ·rcases List.mem_append.1 hx with k|k
   ·exact h.inR x k
   ·rw [List.mem_singleton.1 k];exact h1
  ·rw [H9]
   have:=h.dep e
   split
   ·rename_i k;have:=h4 e k;omega
   ·omega
def G3 (x:Int) (P:List Tp):List Tp:=P.filter fun o=>decide (x<o.e)
structure Rep (P s:List Tp):Prop where
 fil:∀x,(∀q∈P,q.first≤x)→G3 x s=(G3 x P).reverse
 mono:s.Pairwise fun a b=>a.e≤b.e
theorem M3 {t:Tp}:∀{s:List Tp},(s.Pairwise fun a b=>a.e≤b.e)→Cq t s=G3 t.first s
 | [],_=>rfl
 |o::r,h=>by
  have h2:=List.pairwise_cons.1 h
  rw [Cq]
  split
  ·rename_i k
   rw [M3 h2.2,G3,G3,List.filter_cons_of_neg (by simp;omega)]
  ·rename_i k
   refine (List.filter_eq_self.2 fun a ha=> ?_).symm
   rcases List.mem_cons.1 ha with e|e
   ·rw [e];simp;omega
   ·have:=h2.1 a e;simp;omega
theorem Ty {x:Int} {s:List Tp} (h:s.Pairwise fun a b=>a.e≤b.e):(G3 x s).Pairwise fun a b=>a.e≤b.e:=h.sublist List.filter_sublist
theorem Wc {t:Tp} {s:List Tp} (h:s.Pairwise fun a b=>a.e≤b.e):Dm t s↔s.length=3∨∃o∈s,o.e<t.e:=by
 unfold Dm
 cases s with
 |nil=>simp
 |cons o r=>
  have h2:=List.pairwise_cons.1 h
  constructor
  ·rintro (k|k)
   ·exact .inl k
   ·exact .inr ⟨o,List.mem_cons_self,k⟩
  ·rintro (k|⟨a,ha,k⟩)
   ·exact .inl k
   ·rcases List.mem_cons.1 ha with e|e
    ·exact .inr (e ▸ k)
    ·have:=h2.1 a e;exact .inr (by show o.e<t.e;omega)
theorem Rep.pop {P s:List Tp} {t:Tp} (h:Rep P s) (hb:∀a∈P,a.first≤t.first):Cq t s=(G3 t.first P).reverse:=by rw [M3 h.mono,h.fil _ hb]
theorem Agr {x:Int} {P:List Tp} (hb:∀a∈P,a.first≤x):(G3 x P).length=hits P x:=by
 unfold G3 hits
 congr 1
 refine List.filter_congr fun o ho=> ?_
 have:=hb o ho
 rw [decide_eq_decide]
 unfold Tp.e Tp.has
 omega
theorem Rep.over {P s:List Tp} {t:Tp} {n:Int} (h:Rep P s) (hv:TV P n) (hb:∀a∈P,a.first≤t.first):Dm t (Cq t s)↔(∃o∈P,t.first<o.e∧o.e<t.e)∨3≤hits P t.first:=by
 rw [Wc (by rw [M3 h.mono];exact Ty h.mono),h.pop hb,List.length_reverse,Agr hb]
 have:=hv.dep t.first
 constructor
 ·rintro (k|⟨o,ho,k⟩)
  ·exact .inr (by omega)
  ·have:=List.mem_filter.1 (List.mem_reverse.1 ho)
   exact .inl ⟨o,this.1,by simpa using this.2,k⟩
 ·rintro (⟨o,ho,k1,k2⟩|k)
  ·exact .inr ⟨o,List.mem_reverse.2 (List.mem_filter.2 ⟨ho,by simpa using k1⟩),k2⟩
  ·exact .inl (by omega)
theorem Rep.nil:Rep [] []:=⟨fun x _=>rfl,List.Pairwise.nil⟩
theorem Rep.snoc {P s:List Tp} {t:Tp} (h:Rep P s) (hb:∀a∈P,a.first≤t.first) (hno:¬Dm t (Cq t s)):Rep (P++ [t]) (t::Cq t s):=by
 have hm:(Cq t s).Pairwise fun a b=>a.e≤b.e:=by rw [M3 h.mono];exact Ty h.mono
 rw [Wc hm] at hno
 refine ⟨fun x hx=> ?_,List.pairwise_cons.2 ⟨fun a ha=>Int.not_lt.1 fun k=>hno (.inr ⟨a,ha,k⟩),hm⟩⟩
 have hx1:t.first≤x:=hx t (List.mem_append_right _ (List.mem_singleton.2 rfl))
 have h1:G3 x (Cq t s)=(G3 x P).reverse:=by
  rw [M3 h.mono, ←h.fil x (fun q hq=>hx q (List.mem_append_left _ hq)),G3,G3,List.filter_filter]
  refine List.filter_congr fun o _=> ?_
  by_cases k:x<o.e
  ·simp [k];omega
  ·simp [k]
 have h2:G3 x (P++ [t])=G3 x P++G3 x [t]:=List.filter_append _ _
 rw [h2,List.reverse_append, ←h1]
 show List.filter _ (t::Cq t s)=_
 rw [List.filter_cons]
 by_cases k:x<t.e
 ·have h3:G3 x [t]= [t]:=List.filter_cons_of_pos (by simpa using k)
  rw [if_pos (by simpa using k),h3];rfl
 ·have h3:G3 x [t]= []:=List.filter_cons_of_neg (by simpa using k)
  rw [if_neg (by simpa using k),h3];rfl
theorem TV.pre {A B:List Tp} {n:Int} (h:TV (A++B) n):TV A n:=
 ⟨fun t ht=>h.inR t (List.mem_append_left _ ht),(List.pairwise_append.1 h.ord).1,(List.pairwise_append.1 h.nest).1,fun e=>by have:=h.dep e;rw [M8] at this;omega⟩
theorem P2 {P:List Tp} {t:Tp} (ho:P.Pairwise Tp.bef):H8 P.getLast? t↔¬ ∀a∈P,a.bef t:=by
 rcases List.eq_nil_or_concat P with e|⟨Q,q,e⟩
 ·subst e;simp [H8]
 ·rw [List.concat_eq_append] at e;subst e
  rw [List.getLast?_concat]
  show 0<Kq q t↔_
  rw [←Decidable.not_not (p:=0<Kq q t), ←Vi]
  refine not_congr ⟨fun k a ha=> ?_,fun k=>k q (List.mem_append_right _ (List.mem_singleton.2 rfl))⟩
  rcases List.mem_append.1 ha with j|j
  ·exact ((List.pairwise_append.1 ho).2.2 a j q (List.mem_singleton.2 rfl)).trans k
  ·rw [List.mem_singleton.1 j];exact k
theorem TV.step {P:List Tp} {t:Tp} {n:Int} (h:TV P n) (hi:t.inR n) (hb:∀a∈P,a.bef t):TV (P++ [t]) n↔¬((∃o∈P,t.first<o.e∧o.e<t.e)∨3≤hits P t.first):=by
 rw [TV.snoc]
 constructor
 ·rintro ⟨_,_,_,h3,h4⟩ (⟨o,ho,k1,k2⟩|k)
  ·have:=h3 o ho k1;omega
  ·have:=h4 t.first (by unfold Tp.inR at hi;unfold Tp.has;omega);omega
 ·intro k
  refine ⟨h,hi,hb,fun a ha k1=>Int.not_lt.1 fun k2=>k (.inl ⟨a,ha,k1,k2⟩),fun e he=> ?_⟩
  have h5:¬3≤hits P t.first:=fun j=>k (.inr j)
  have h6:hits P e≤hits P t.first:=by
   unfold hits
   rw [←List.countP_eq_length_filter, ←List.countP_eq_length_filter]
   refine List.countP_mono_left fun o ho hh=> ?_
   have h7:=(hb o ho).first
   simp only [decide_eq_true_eq] at hh ⊢
   unfold Tp.has at hh he ⊢
   omega
  omega
theorem Aio (n:Int) (l:List Tp):∀(P s:List Tp),TV P n→Rep P s→(E0 n P.getLast? s l=0↔TV (P++l) n):=by
 induction l with
 |nil=>intro P s h _;rw [List.append_nil];exact ⟨fun _=>h,fun _=>rfl⟩
 |cons t l ih=>
  intro P s h hr
  have ha:P++t::l=(P++ [t])++l:=by simp
  rw [E0]
  split
  ·rename_i k
   exact ⟨fun e=>by omega,fun e=>absurd (e.inR t (by simp)) k⟩
  ·rename_i hi
   have hi:=Decidable.not_not.1 hi
   split
   ·rename_i k
    refine ⟨fun e=>by omega,fun e=>absurd ?_ ((P2 h.ord).1 k)⟩
    rw [ha] at e
    exact (TV.snoc.1 e.pre).2.2.1
   ·rename_i k
    have hb:∀a∈P,a.bef t:=Decidable.not_not.1 fun j=>k ((P2 h.ord).2 j)
    have hb1:∀a∈P,a.first≤t.first:=fun a ha=>(hb a ha).first
    split
    ·rename_i k2
     refine ⟨fun e=>by omega,fun e=> ?_⟩
     rw [ha] at e
     exact absurd ((hr.over h hb1).1 k2) ((h.step hi hb).1 e.pre)
    ·rename_i k2
     have h2:TV (P++ [t]) n:=(h.step hi hb).2 fun j=>k2 ((hr.over h hb1).2 j)
     have:=ih (P++ [t]) (t::Cq t s) h2 (hr.snoc hb1 k2)
     rw [List.getLast?_concat] at this
     rw [ha];exact this
theorem tupErr_iff {l:List Tp} {n:Int}:Eb l n=0↔0≤n∧n≤128∧l.length≤16∧TV l n:=by
 have:=Aio n l [] [] (TV.nil n) Rep.nil
 rw [List.nil_append] at this
 rw [←this]
 unfold Eb
 split
 ·omega
 ·split
  ·omega
  ·show E0 n none [] l=0↔_∧_∧_∧E0 n none [] l=0
   omega
theorem Vy {T:List Tp}:∀{ws:List Int} {i:Nat},Ii T i ws=0↔∀j w,ws[j]? =some w→Dv T ((i+j:Nat):Int) w=0
 | [],i=>⟨fun _ j w h=>by simp at h,fun _=>rfl⟩
 |w::r,i=>by
  rw [Ii]
  split
  ·rename_i k
   exact ⟨fun h=>absurd h k,fun h=>absurd (h 0 w rfl) k⟩
  ·rename_i k
   rw [Vy]
   constructor
   ·intro h j x hj
    cases j with
    |zero=>cases hj;exact Decidable.not_not.1 k
    |succ j=>have:=h j x hj;rwa [show i+1+j=i+(j+1) by omega] at this
   ·intro h j x hj
    have:=h (j+1) x hj;rwa [show i+(j+1)=i+1+j by omega] at this
structure TL (T:List Tp) (ws ls:List Int):Prop where
 wl:ws.length≤128
 tl:T.length≤16
 tv:TV T ws.length
 sc:∀(i:Nat) w,ws[i]? =some w→Dv T i w=0
 un:∀(k:Nat) t,T[k]? =some t→(Fh (T.drop (k+1)) t ws).isSome=true
 ls:ls=C4 T 0 ws
theorem Sh (l:List Tp) (i:Nat):Kl l i=l.drop (i+1):=by unfold Kl;rw [List.take_length]
theorem unitAll_iff {T:List Tp} {ws:List Int}:Kb T ws↔∀(k:Nat) t,T[k]? =some t→(Fh (T.drop (k+1)) t ws).isSome=true:=by
 constructor
 ·intro h k t ht
  have:=h k (List.getElem?_eq_some_iff.1 ht).1
  rwa [Kt ht,Sh] at this
 ·intro h k hk
  have ht:T[k]? =some T[k]:=List.getElem?_eq_getElem hk
  rw [Kt ht,Sh]
  exact h k _ ht
theorem TL_iff {T:List Tp} {ws ls:List Int}:TL T ws ls↔C2 T ws=0∧Fy T ws=0∧ls=Ha T ws:=by
 have hsc:Ii T 0 ws=0↔∀(i:Nat) w,ws[i]? =some w→Dv T i w=0:=by
  rw [Vy]
  exact ⟨fun h i w hw=>by have:=h i w hw;rwa [Nat.zero_add] at this,fun h i w hw=>by rw [Nat.zero_add];exact h i w hw⟩
 constructor
 ·intro h
  have h1:Eb T ws.length=0:=tupErr_iff.2 ⟨by omega,by have:=h.wl;omega,h.tl,h.tv⟩
  have h2:C2 T ws=0:=by rw [C2,if_neg (by omega)];exact hsc.2 h.sc
  refine ⟨h2, ?_, ?_⟩
  ·rw [Fy,if_neg (by omega),if_pos (unitAll_iff.2 h.un)]
  ·rw [Ha,if_pos h2];exact h.ls
 ·rintro ⟨h1,h2,h3⟩
  have h4:Eb T ws.length=0∧Ii T 0 ws=0:=by
   rw [C2] at h1
   split at h1
   ·rename_i k;exact absurd h1 k
   ·rename_i k;exact ⟨by omega,h1⟩
  obtain ⟨_,h5,h6,h7⟩:=tupErr_iff.1 h4.1
  refine ⟨by omega,h6,h7,hsc.1 h4.2, ?_, ?_⟩
  ·rw [Fy,if_neg (by omega)] at h2
   split at h2
   ·rename_i k;exact unitAll_iff.1 k
   ·omega
  ·rw [h3,Ha,if_pos h1]
theorem Pt {i:Int}:∀{B:List Tp} (p:Int × Int),(∀t∈B,¬t.has i)→B.foldl (F0 i) p=p
 | [],p,_=>rfl
 |t::B,p,h=>by
  rw [List.foldl_cons,F0,if_neg (h t List.mem_cons_self)]
  exact Pt p fun x hx=>h x (List.mem_cons_of_mem _ hx)
theorem Ag1 {A B:List Tp} {i:Int} (h:∀t∈B,¬t.has i):A5 (A++B) i=A5 A i:=by
 unfold A5;rw [List.foldl_append,Pt _ h]
theorem Ac2 {A B:List Tp} {i:Int} (h:∀t∈A,¬t.has i):A5 (A++B) i=A5 B i:=by
 unfold A5;rw [List.foldl_append,Pt _ h]
theorem Y7 (t:Tp) (d i:Int):(t.mv d).has (i+d)↔t.has i:=by unfold Tp.has Tp.mv;simp only;omega
theorem Yp (B:List Tp) (d i:Int):A5 (B.map (Tp.mv d)) (i+d)=A5 B i:=by
 unfold A5
 rw [List.foldl_map]
 congr 1
 funext p t
 unfold F0
 by_cases h:t.has i
 ·rw [if_pos h,if_pos ((Y7 t d i).2 h)];rfl
 ·rw [if_neg h,if_neg (fun k=>h ((Y7 t d i).1 k))]
theorem I4 {A B:List Tp} {i j w:Int} (h:A5 A i=A5 B j):Dv A i w=Dv B j w:=by unfold Dv;rw [h]
theorem Qe {A B:List Tp} {i j w:Int} (h:A5 A i=A5 B j):Du A i w=Du B j w:=by unfold Du;rw [h]
theorem N8 {A B:List Tp}:∀{seg:List Int} {i i':Nat} {acc:Int},(∀j,j<seg.length→A5 A ((i+j:Nat):Int)=A5 B ((i'+j:Nat):Int))→Fi A i seg acc=Fi B i' seg acc
 | [],i,i',acc,h=>rfl
 |w::r,i,i',acc,h=>by
  have h0:=h 0 (by simp)
  rw [Nat.add_zero,Nat.add_zero] at h0
  rw [Fi,Fi,I4 h0,Qe h0]
  split
  ·rfl
  ·refine N8 fun j hj=> ?_
   have:=h (j+1) (by simp;omega)
   rwa [show i+(j+1)=i+1+j by omega,show i'+(j+1)=i'+1+j by omega] at this
theorem M6 {A B:List Tp}:∀{ws:List Int} {i i':Nat},(∀j,j<ws.length→A5 A ((i+j:Nat):Int)=A5 B ((i'+j:Nat):Int))→C4 A i ws=C4 B i' ws
 | [],i,i',h=>rfl
 |w::r,i,i',h=>by
  have h0:=h 0 (by simp)
  rw [Nat.add_zero,Nat.add_zero] at h0
  rw [C4,C4,Qe h0,M6 (i':=i'+1)]
  intro j hj
  have:=h (j+1) (by simp;omega)
  rwa [show i+(j+1)=i+1+j by omega,show i'+(j+1)=i'+1+j by omega] at this
theorem R2 (T:List Tp) (b:List Int):∀(a:List Int) (i:Nat),C4 T i (a++b)=C4 T i a++C4 T (i+a.length) b
 | [],i=>rfl
 |w::a,i=>by rw [List.cons_append,C4,C4,R2 T b a (i+1),List.cons_append,List.length_cons,show i+1+a.length=i+(a.length+1) by omega]
theorem Afz (B:List Tp) (d e:Int):hits (B.map (Tp.mv d)) (e+d)=hits B e:=by
 unfold hits
 rw [List.filter_map,List.length_map]
 congr 1
 refine List.filter_congr fun t _=> ?_
 show decide ((t.mv d).has (e+d))=decide (t.has e)
 rw [decide_eq_decide];exact Y7 t d e
theorem Qt {B:List Tp} {e:Int} (h:∀t∈B,¬t.has e):hits B e=0:=by
 unfold hits
 rw [List.filter_eq_nil_iff.2 fun t ht=>by simpa using h t ht];rfl
theorem Ahf (t:Tp) (d:Int):(t.mv d).e=t.e+d:=by unfold Tp.mv Tp.e;simp only;omega
theorem J6 (t:Tp) (d:Int):(t.mv d).first=t.first+d:=rfl
theorem mv_bef {a b:Tp} {d:Int}:(a.mv d).bef (b.mv d)↔a.bef b:=by unfold Tp.bef Tp.mv;simp only;omega
theorem Ahe (t:Tp) (a b:Int):(t.mv a).mv b=t.mv (a+b):=by unfold Tp.mv;simp only [Int.add_assoc]
theorem Ri (t:Tp):t.mv 0=t:=by unfold Tp.mv;simp
theorem Wf {A:List Tp} {n i:Int} (h:∀t∈A,t.e≤n) (hi:n≤i):∀t∈A,¬t.has i:=fun t ht k=>by have:=h t ht;unfold Tp.e at this;unfold Tp.has at k;omega
theorem T9 {B:List Tp} {n i:Int} (h:∀t∈B,0≤t.first) (hi:i<n):∀t∈B.map (Tp.mv n),¬t.has i:=fun t ht k=>by
 obtain ⟨b,hb,rfl⟩:=List.mem_map.1 ht
 have:=h b hb;unfold Tp.has Tp.mv at k;simp only at k;omega
theorem Ak0 {A B:List Tp} {n1 n2:Int} (h1:0≤n1) (h2:0≤n2) (hA:∀t∈A,t.e≤n1) (hB:∀t∈B,0≤t.first):TV (A++B.map (Tp.mv n1)) (n1+n2)↔TV A n1∧TV B n2:=by
 constructor
 ·intro h
  have ho:=List.pairwise_append.1 h.ord
  have hn:=List.pairwise_append.1 h.nest
  refine ⟨⟨fun t ht=> ?_,ho.1,hn.1,fun e=>by have:=h.dep e;rw [M8] at this;omega⟩,⟨fun t ht=> ?_, ?_, ?_,fun e=> ?_⟩⟩
  ·have k1:=h.inR t (List.mem_append_left _ ht);have k2:=hA t ht;unfold Tp.inR at*;unfold Tp.e at k2;omega
  ·have k1:=h.inR (t.mv n1) (List.mem_append_right _ (List.mem_map.2 ⟨t,ht,rfl⟩));have k2:=hB t ht;unfold Tp.inR Tp.mv at k1;unfold Tp.inR;simp only at k1;omega
  ·exact (List.pairwise_map.1 ho.2.1).imp fun k=>mv_bef.1 k
  ·refine (List.pairwise_map.1 hn.2.1).imp fun {a b} k k2=> ?_
   rw [Ahf,Ahf,J6] at k;omega
  ·have:=h.dep (e+n1);rw [M8,Afz] at this;omega
 ·rintro ⟨a,b⟩
  refine ⟨fun t ht=> ?_,List.pairwise_append.2 ⟨a.ord,List.pairwise_map.2 (b.ord.imp fun k=>mv_bef.2 k),fun x hx y hy=> ?_⟩,List.pairwise_append.2 ⟨a.nest,List.pairwise_map.2 (b.nest.imp fun {x y} k=> ?_),fun x hx y hy k=> ?_⟩,fun e=> ?_⟩
  ·rcases List.mem_append.1 ht with k|k
   ·have k1:=a.inR t k;unfold Tp.inR at*;omega
   ·obtain ⟨s,hs,rfl⟩:=List.mem_map.1 k
    have k1:=b.inR s hs;unfold Tp.inR at k1;unfold Tp.inR Tp.mv;simp only;omega
  ·obtain ⟨s,hs,rfl⟩:=List.mem_map.1 hy
   have k1:=a.inR x hx;have k2:=hA x hx;have k3:=hB s hs
   left;unfold Tp.inR at k1;unfold Tp.e at k2;rw [J6];omega
  ·rw [Ahf,Ahf,J6];omega
  ·obtain ⟨s,hs,rfl⟩:=List.mem_map.1 hy
   have k2:=hA x hx;have k3:=hB s hs
   rw [J6] at k;omega
  ·rw [M8]
   by_cases k:e<n1
   ·rw [Qt (T9 hB k)];exact a.dep e
   ·rw [Qt (Wf hA (by omega)),Nat.zero_add]
    have:=b.dep (e - n1)
    have k2:=Afz B n1 (e - n1)
    rw [Int.sub_add_cancel] at k2
    omega
theorem Xo {A B:List Tp} {n1:Nat} (hB:∀t∈B,0≤t.first) {i:Nat} (hi:i<n1):A5 (A++B.map (Tp.mv n1)) i=A5 A i:=Ag1 (T9 hB (by omega))
theorem Ag2 {A B:List Tp} {n1:Nat} (hA:∀t∈A,t.e≤n1) (i:Nat):A5 (A++B.map (Tp.mv n1)) ((n1+i:Nat):Int)=A5 B i:=by
 rw [Ac2 (Wf hA (by omega))]
 have:=Yp B n1 i
 rwa [show (i:Int)+(n1:Int)=((n1+i:Nat):Int) by omega] at this
theorem Zb {A B:List Tp} {w1 w2:List Int} (hA:∀t∈A,t.e≤w1.length) (hB:∀t∈B,0≤t.first):C4 (A++B.map (Tp.mv w1.length)) 0 (w1++w2)=C4 A 0 w1++C4 B 0 w2:=by
 rw [R2]
 congr 1
 ·exact M6 fun j hj=>by rw [Nat.zero_add];exact Xo hB hj
 ·refine M6 fun j hj=> ?_
  rw [Nat.zero_add,Nat.zero_add];exact Ag2 hA j
theorem Alo {t:Tp} {w1 w2:List Int} (h0:0≤t.first) (h:t.e≤w1.length) (hc:1≤t.count):Fz t (w1++w2)=Fz t w1:=by
 unfold Fz
 unfold Tp.e at h
 rw [List.drop_append_of_le_length (by omega),List.take_append_of_le_length (by rw [List.length_drop];omega)]
theorem Ai3 {t:Tp} {w1 w2:List Int} (h0:0≤t.first):Fz (t.mv w1.length) (w1++w2)=Fz t w2:=by
 unfold Fz
 rw [J6,show (t.first+(w1.length:Int)).toNat=w1.length+t.first.toNat by omega, ←List.drop_drop,List.drop_left]
 rfl
theorem Vp {A B:List Tp} {t:Tp} {w1 w2:List Int} (h0:0≤t.first) (h:t.e≤w1.length) (hc:1≤t.count) (hB:∀t∈B,0≤t.first):Fh (A++B.map (Tp.mv w1.length)) t (w1++w2)=Fh A t w1:=by
 unfold Fh
 rw [Alo h0 h hc,N8 (B:=A) (i':=t.first.toNat)]
 intro j hj
 have:(Fz t w1).length≤t.count.toNat:=by unfold Fz;rw [List.length_take];omega
 unfold Tp.e at h
 exact Xo hB (by omega)
theorem Ti {B:List Tp} {t:Tp} {w1 w2:List Int} (h0:0≤t.first):Fh (B.map (Tp.mv w1.length)) (t.mv w1.length) (w1++w2)=Fh B t w2:=by
 unfold Fh
 rw [Ai3 h0,N8 (B:=B) (i':=t.first.toNat)]
 ·rfl
 ·intro j hj
  have:=Yp B w1.length ((t.first.toNat+j:Nat):Int)
  rw [←this]
  congr 1
  rw [J6]
  omega
theorem TL.app {A B:List Tp} {w1 w2 l1 l2:List Int} (h1:TL A w1 l1) (h2:TL B w2 l2) (hw:w1.length+w2.length≤128) (ht:A.length+B.length≤16):TL (A++B.map (Tp.mv w1.length)) (w1++w2) (l1++l2):=by
 have hA:∀t∈A,t.e≤w1.length:=fun t ht=>by have:=h1.tv.inR t ht;unfold Tp.inR at this;unfold Tp.e;omega
 have hB:∀t∈B,0≤t.first:=fun t ht=>by have:=h2.tv.inR t ht;unfold Tp.inR at this;omega
 refine ⟨by rw [List.length_append];exact hw,by rw [List.length_append,List.length_map];exact ht, ?_,fun i w hi=> ?_,fun k t hk=> ?_, ?_⟩
 ·rw [List.length_append,Int.natCast_add];exact (Ak0 (by omega) (by omega) hA hB).2 ⟨h1.tv,h2.tv⟩
 ·by_cases c:i<w1.length
  ·rw [List.getElem?_append_left c] at hi
   rw [I4 (Xo hB c)];exact h1.sc i w hi
  ·rw [List.getElem?_append_right (by omega)] at hi
   have:=Ag2 (B:=B) hA (i - w1.length)
   rw [show w1.length+(i - w1.length)=i by omega] at this
   rw [I4 this];exact h2.sc _ w hi
 ·by_cases c:k<A.length
  ·rw [List.getElem?_append_left c] at hk
   have hm:=List.mem_of_getElem? hk
   have:=h1.tv.inR t hm
   rw [List.drop_append_of_le_length (by omega),Vp (by unfold Tp.inR at this;omega) (hA t hm) (by unfold Tp.inR at this;omega) hB]
   exact h1.un k t hk
  ·rw [List.getElem?_append_right (by omega),List.getElem?_map] at hk
   cases hb:B[k - A.length]? with
   |none=>rw [hb] at hk;cases hk
   |some s=>
    rw [hb] at hk;cases hk
    have hd:(A++B.map (Tp.mv w1.length)).drop (k+1)=(B.drop (k - A.length+1)).map (Tp.mv w1.length):=by
     rw [List.drop_append,List.drop_eq_nil_of_le (by omega),List.nil_append,List.map_drop,show k+1 - A.length=k - A.length+1 by omega]
    rw [hd,Ti (hB s (List.mem_of_getElem? hb))]
    exact h2.un _ s hb
 ·rw [Zb hA hB,h1.ls,h2.ls]
theorem TL.split {A B:List Tp} {w1 w2 ls:List Int} (h:TL (A++B.map (Tp.mv w1.length)) (w1++w2) ls) (hA:∀t∈A,t.e≤w1.length) (hB:∀t∈B,0≤t.first):TL A w1 (ls.take w1.length)∧TL B w2 (ls.drop w1.length):=by
 have hl:=h.wl
 have ht:=h.tl
 rw [List.length_append] at hl ht
 rw [List.length_map] at ht
 have hv:TV A w1.length∧TV B w2.length:=by
  have:=h.tv
  rw [List.length_append,Int.natCast_add] at this
  exact (Ak0 (by omega) (by omega) hA hB).1 this
 have hls:=h.ls
 rw [Zb hA hB] at hls
 have hlg:=Il A w1 0
 refine ⟨⟨by omega,by omega,hv.1,fun i w hi=> ?_,fun k t hk=> ?_, ?_⟩,⟨by omega,by omega,hv.2,fun i w hi=> ?_,fun k t hk=> ?_, ?_⟩⟩
 ·have c:=(List.getElem?_eq_some_iff.1 hi).1
  have:=h.sc i w (by rw [List.getElem?_append_left c];exact hi)
  rwa [I4 (Xo hB c)] at this
 ·have c:=(List.getElem?_eq_some_iff.1 hk).1
  have hm:=List.mem_of_getElem? hk
  have hr:=hv.1.inR t hm
  have:=h.un k t (by rw [List.getElem?_append_left c];exact hk)
  rwa [List.drop_append_of_le_length (by omega),Vp (by unfold Tp.inR at hr;omega) (hA t hm) (by unfold Tp.inR at hr;omega) hB] at this
 ·rw [hls,List.take_left' hlg]
 ·have:=h.sc (w1.length+i) w (by rw [List.getElem?_append_right (by omega),Nat.add_sub_cancel_left];exact hi)
  rwa [I4 (Ag2 hA i)] at this
 ·have:=h.un (A.length+k) (t.mv w1.length) (by rw [List.getElem?_append_right (by omega),Nat.add_sub_cancel_left,List.getElem?_map,hk];rfl)
  have hd:(A++B.map (Tp.mv w1.length)).drop (A.length+k+1)=(B.drop (k+1)).map (Tp.mv w1.length):=by
   rw [List.drop_append,List.drop_eq_nil_of_le (by omega),List.nil_append,List.map_drop,show A.length+k+1 - A.length=k+1 by omega]
  rwa [hd,Ti (hB t (List.mem_of_getElem? hk))] at this
 ·rw [hls,List.drop_left' hlg]
theorem Uf:∀(ws:List Int) (i:Nat),(∀w∈ws,0≤w∧w≤7741440)→C4 [] i ws=ws
 | [],i,_=>rfl
 |w::r,i,h=>by
  have:=h w List.mem_cons_self
  rw [C4,Uf r (i+1) fun x hx=>h x (List.mem_cons_of_mem _ hx),Du,if_neg (by omega)]
  simp [A5]
theorem TL.nil {ws:List Int} (hl:ws.length≤128) (h:∀w∈ws,0≤w∧w≤7741440):TL [] ws ws:=
 ⟨hl,Nat.zero_le _,TV.nil _,fun i w hi=>by have:=h w (List.mem_of_getElem? hi);rw [Dv,if_neg (by omega)];simp [A5],fun k t hk=>by simp at hk,(Uf ws 0 h).symm⟩
theorem Ya {l:List Tp} (h:l.Pairwise Tp.bef) (a:Int):l=l.filter (fun t=>decide (t.first<a))++l.filter (fun t=>decide (a≤t.first)):=by
 induction l with
 |nil=>rfl
 |cons t l ih=>
  have h2:=List.pairwise_cons.1 h
  have ih:=ih h2.2
  by_cases c:t.first<a
  ·rw [List.filter_cons_of_pos (by simpa using c),List.filter_cons_of_neg (by simp;omega),List.cons_append, ←ih]
  ·have:l.filter (fun t=>decide (t.first<a))= []:=List.filter_eq_nil_iff.2 fun x hx=>by have:=(h2.1 x hx).first;simp;omega
   rw [this,List.nil_append] at ih
   rw [List.filter_cons_of_neg (by simpa using c),List.filter_cons_of_pos (by simp;omega),this,List.nil_append, ←ih]
def Td (l:List Tp) (a:Int):Prop:=∀t∈l,t.e≤a∨a≤t.first
theorem TL.cut {T:List Tp} {ws ls:List Int} (h:TL T ws ls) {a:Nat} (ha:a≤ws.length) (hf:Td T a):
  TL (T.filter fun t=>decide (t.first<(a:Int))) (ws.take a) (ls.take a)∧TL ((T.filter fun t=>decide ((a:Int)≤t.first)).map (Tp.mv (-a))) (ws.drop a) (ls.drop a):=by
 have hl:(ws.take a).length=a:=by rw [List.length_take];omega
 have e1:T=(T.filter fun t=>decide (t.first<(a:Int)))++(((T.filter fun t=>decide ((a:Int)≤t.first)).map (Tp.mv (-a))).map (Tp.mv (ws.take a).length)):=by
  rw [List.map_map,hl]
  have:(Tp.mv (a:Int))∘(Tp.mv (-(a:Int)))=id:=by funext t;show (t.mv _).mv _=t;rw [Ahe,Int.add_left_neg,Ri]
  rw [this,List.map_id];exact Ya h.tv.ord a
 have h':TL ((T.filter fun t=>decide (t.first<(a:Int)))++(((T.filter fun t=>decide ((a:Int)≤t.first)).map (Tp.mv (-a))).map (Tp.mv (ws.take a).length))) (ws.take a++ws.drop a) ls:=by
  rw [←e1,List.take_append_drop];exact h
 have:=h'.split (fun t ht=> ?_) (fun t ht=> ?_)
 ·rw [hl] at this;exact this
 ·have k:=List.mem_filter.1 ht
  have k2:=k.2
  simp only [decide_eq_true_eq] at k2
  rcases hf t k.1 with j|j
  ·rw [hl];exact j
  ·omega
 ·obtain ⟨s,hs,rfl⟩:=List.mem_map.1 ht
  have k:=(List.mem_filter.1 hs).2
  simp only [decide_eq_true_eq] at k
  rw [J6];omega
end Go.Proofs.YtcihalbakenleaaGreat
namespace Go.Proofs.YtcihalbakenleaaGreat
open Go.RowKit
def Asa:Ev:=⟨0,0,2,⟨0,0⟩, [], [],0,0,0, [],0,0⟩
theorem Nl (m:Me) (a b:Int):(m.split a b).length≤2049:=by
 unfold Me.split
 split
 ·rename_i h
  unfold Me.splitE at h
  split at h
  ·rename_i h1;exact absurd h h1
  ·split at h
   ·cases h
   ·split at h
    ·cases h
    ·split at h
     ·cases h
     ·have:=Cp (m:=m) (C6 a b+1) a b ⟨by omega,by omega,by omega,by omega,Nat.le_refl _⟩
      unfold C6 at*
      omega
 ·exact Nat.zero_le _
def restsS (m:Me) (a b:Int):List Ev:=Bf Asa (m.split a b) false
def Aq1 (x:Ev) (m:Me) (a b:Int):Int:=if x.err≠0 then x.err else if x.kind=3 then 11 else m.splitE a b
def notesL (x:Ev) (m:Me) (a b:Int):List Ev:=if Aq1 x m a b=0 then Bf x (m.split a b) false else []
end Go.Proofs.YtcihalbakenleaaGreat
namespace Go.Proofs.YtcihalbakenleaaGreat
open Go.RowKit
theorem Ou {v:Vo} {L:Int} (h:ckE v L=0):B5 v L=0∧ckL v L=C8 v L:=by
 have h1:B5 v L=0:=by
  unfold ckE at h
  split at h
  ·cases h
  ·exact h
 exact ⟨h1,by rw [ckL,h,if_neg (by decide)]⟩
theorem Afw {v:Vo} (h:Fv v=0):(G6 v).length=v.evs.length∧C2 v.tups (wrS v.evs)=0:=by
 have h1:C2 v.tups (wrS v.evs)=0:=by
  unfold Fv at h
  split at h
  ·rename_i k;exact absurd h k
  ·split at h
   ·rename_i k;exact absurd h k
   ·rename_i k;exact Decidable.not_not.1 k
 refine ⟨?_,h1⟩
 rw [G6,if_pos h,Ha,if_pos h1,Il,wrS,List.length_map]
theorem U9 {v:Vo} {L:Int} (h:B5 v L=0):(C8 v L).length=v.evs.length:=by
 rw [C8,if_neg (by rw [h];decide)]
 split
 ·rename_i k;rw [k.2];rfl
 ·rename_i k
  have:Fv v=0:=by
   by_cases c1:L<1∨15482880<L
   ·rw [B5,if_pos c1] at h;cases h
   ·by_cases c2:128<v.evs.length
    ·rw [B5,if_neg c1,if_pos c2] at h;cases h
    ·rw [B5,if_neg c1,if_neg c2,if_neg k] at h;exact h
  exact (Afw this).1
theorem H6 {v:Vo} {L:Int} (h:ckE v L=0):(ckL v L).length=v.evs.length:=by
 obtain ⟨h1,h2⟩:=Ou h
 rw [h2];exact U9 h1
theorem Agd (l:List Int) (t:Int):∀n,∃k:Nat,atS l t n=((k:Int),tot (l.take k))∧(k<n∨k=0)
 |0=>⟨0,rfl, .inr rfl⟩
 |n+1=>by
  obtain ⟨k,h1,h2⟩:=Agd l t n
  cases hl:l[n]? with
  |none=>exact ⟨k,by simp only [atS,hl];exact h1,by omega⟩
  |some x=>
   by_cases c:tot (l.take n)≤t∧0<x
   ·exact ⟨n,Ur hl c.1 c.2,by omega⟩
   ·exact ⟨k,by rw [Mq hl c];exact h1,by omega⟩
theorem Ap4 (v:Vo) (L t:Int):∃(k:Nat) (a:Int),atV v L t=((k:Int),a)∧0≤a∧a≤32469952757760∧(atE v L t=0→k<(ckL v L).length∧a=tot ((ckL v L).take k)):=by
 have hN:=K4 v L
 by_cases h:atE v L t≠0
 ·exact ⟨0,0,by rw [atV,if_pos h];rfl,by omega,by omega,fun k=>absurd k h⟩
 ·obtain ⟨k,h1,h2⟩:=Agd (ckL v L) t (ckL v L).length
  have hb:=(hN.take k).tot
  refine ⟨k,_,by rw [atV,if_neg h];exact h1,hb.1,hb.2,fun h0=>⟨?_,rfl⟩⟩
  have:(ckL v L).length≠0:=fun e=>by
   by_cases c:ckE v L≠0
   ·rw [Ach c] at h0;exact c h0
   ·rw [Acg c (by omega)] at h0;cases h0
  omega
theorem Am8 {v:Vo} {L t:Int} (h:atE v L t=0):ckE v L=0∧0≤t∧t<L:=by
 unfold atE at h
 split at h
 ·rename_i c;exact absurd h c
 ·rename_i c
  split at h
  ·cases h
  ·split at h
   ·cases h
   ·omega
theorem As1 {v:Vo} {L t a:Int} {k:Nat} (hE:Evs v.evs) (h:atV v L t=((k:Int),a)):XC Tryz.prog 22 [.agg (Vo.c v),dI L,dI t] (fun r=>r= .tup [dI k,dI a,dI (atE v L t)]):=by
 have:=As4 v L t hE
 rw [h] at this
 exact this
theorem G2 {p:Pl} {v:Vo} (h:p.chk v=0):p.m.err=0∧¬p.bad∧ckE v p.len=0:=by
 unfold Pl.chk at h
 split at h
 ·rename_i c;exact absurd h c
 ·rename_i c
  split at h
  ·cases h
  ·exact ⟨Decidable.not_not.1 c,by assumption,h⟩
theorem len_ok {v:Vo} {L:Int} (h:B5 v L=0):v.evs.length≤128∧(v.tups.length=0∨C2 v.tups (wrS v.evs)=0)∧1≤L∧L≤15482880:=by
 by_cases c1:L<1∨15482880<L
 ·rw [B5,if_pos c1] at h;cases h
 ·by_cases c2:128<v.evs.length
  ·rw [B5,if_neg c1,if_pos c2] at h;cases h
  ·refine ⟨by omega, ?_,by omega,by omega⟩
   by_cases k:v.whole∧v.evs.length=1
   ·left
    obtain ⟨e,he⟩:∃e,v.evs[0]? =some e:=As (by omega)
    have:=Xt (L:=L) (by omega) (by omega) (by omega) k.1 (by omega) he
    rw [h] at this
    by_cases c3:e.err≠0
    ·rw [if_pos c3] at this;exact absurd this.symm c3
    ·rw [if_neg c3] at this
     by_cases c4:0<v.tups.length
     ·rw [if_pos c4] at this;cases this
     ·omega
   ·rw [B5,if_neg c1,if_neg c2,if_neg k] at h
    exact .inr (Afw h).2
theorem Lv {v:Vo} {L:Int} (h:ckE v L=0):Sml v∧v.evs.length≤128:=by
 obtain ⟨h1,_⟩:=Ou h
 obtain ⟨h2,h3,_⟩:=len_ok h1
 refine ⟨⟨by omega, ?_, ?_⟩,h2⟩
 ·rcases h3 with h3|h3
  ·omega
  ·have:=(Kc (fun k=>k h3)).len;omega
 ·rcases h3 with h3|h3
  ·have:v.tups= []:=List.eq_nil_of_length_eq_zero h3
   rw [this];exact fun t ht=>by cases ht
  ·intro t ht
   have:=(Kc (fun k=>k h3)).ok t ht
   unfold Tp.ok at this
   omega
theorem Ga (x:Ev) (vs:List Val) (f:Bool):(Bf x vs f).length=vs.length:=by rw [Bf,List.length_mapIdx]
def Ev.asRest (x:Ev):Ev:=⟨x.site,x.num,2,x.v,x.heads,x.graces,x.art,x.orn,x.dyn,x.lyr,x.stem,x.beam⟩
def Ev.unrest (x:Ev):Ev:=if x.kind=3 then x.asRest else x
def Ev.tiedE (x:Ev):Ev:=⟨x.site,x.num,x.kind,x.v,x.heads.map Hd.tie,x.graces,x.art,x.orn,x.dyn,x.lyr,x.stem,x.beam⟩
theorem Ev.fit.rest {x:Ev} (h:x.fit):x.asRest.fit:=h
theorem Ev.fit.tied {x:Ev} (h:x.fit):x.tiedE.fit:=⟨by show (x.heads.map Hd.tie).length≤1000;rw [List.length_map];exact h.1,h.2⟩
theorem Ev.fit.put {x:Ev} (h:x.fit) (v:Val) (t:Bool):(x.put v t).fit:=⟨by cases t<;>simp only [Ev.put,if_true,Bool.false_eq_true,if_false,List.length_map]<;>exact h.1,h.2⟩
theorem Ev.fit.further {x:Ev} (h:x.fit):x.further.fit:=⟨by show (x.heads.map Hd.plain).length≤1000;rw [List.length_map];exact h.1,Nat.zero_le _,Nat.zero_le _⟩
theorem Pn {x:Ev} (h:x.fit) (vs:List Val) (f:Bool):∀e∈Bf x vs f,e.fit:=by
 intro e he
 obtain ⟨i,hi⟩:=List.getElem?_of_mem he
 rw [Bf,List.getElem?_mapIdx] at hi
 cases hv:vs[i]? with
 |none=>rw [hv] at hi;cases hi
 |some v=>
  rw [hv] at hi;cases hi
  unfold Cc
  split
  ·exact h.further.put _ _
  ·exact h.put _ _
theorem Ux {l:List Ev} (h:l.length≤10000):Sml ⟨l, []⟩:=⟨h,Nat.zero_le _,fun t ht=>by cases ht⟩
def Na (p:Pl) (t:Int) (a w:Int) (x:Ev):List Ev:=Bf x.unrest.tiedE (p.m.split (p.off+a) (p.off+t)) false++Bf x.unrest (p.m.split (p.off+t) (p.off+(a+w))) true
def L5 (v:Vo) (p:Pl) (t:Int) (k:Nat) (a w:Int) (x:Ev):Vo × Int:=
 if 0<H4 v.tups k then (⟨[], []⟩,27) else if p.m.splitE (p.off+a) (p.off+t)≠0 then (⟨[], []⟩,p.m.splitE (p.off+a) (p.off+t)) else if p.m.splitE (p.off+t) (p.off+(a+w))≠0 then (⟨[], []⟩,p.m.splitE (p.off+t) (p.off+(a+w))) else
 if 128<(Br v k 1 ⟨Na p t a w x, []⟩).evs.length then (⟨[], []⟩,9) else (Br v k 1 ⟨Na p t a w x, []⟩,0)
def Fn (v:Vo) (p:Pl) (t:Int):Vo × Int:=
 if atE v p.len t≠0∨(atV v p.len t).2=t then (v,0) else
 match v.evs[(atV v p.len t).1.toNat]?,(ckL v p.len)[(atV v p.len t).1.toNat]? with
 |some x,some w=>L5 v p t (atV v p.len t).1.toNat (atV v p.len t).2 w x
 |_,_=>(⟨[], []⟩,0)
theorem W9 {v:Vo} {p:Pl} {t a:Int} {k:Nat} (hat:atV v p.len t=((k:Int),a)) (h:atE v p.len t≠0∨a=t):Fn v p t=(v,0):=by rw [Fn,hat,if_pos h]
theorem Lf {v:Vo} {p:Pl} {t a w:Int} {k:Nat} {x:Ev} (hat:atV v p.len t=((k:Int),a)) (h:¬(atE v p.len t≠0∨a=t)) (hx:v.evs[k]? =some x) (hw:(ckL v p.len)[k]? =some w):Fn v p t=L5 v p t k a w x:=by
 rw [Fn,hat,if_neg h]
 simp only [Int.toNat_natCast,hx,hw]
theorem Atj {v:Vo} {p:Pl} {t a w:Int} {k:Nat} {x:Ev} (h:0<H4 v.tups k):L5 v p t k a w x=(⟨[], []⟩,27):=by rw [L5,if_pos h]
theorem Ati {v:Vo} {p:Pl} {t a w:Int} {k:Nat} {x:Ev} (h:¬0<H4 v.tups k) (h2:p.m.splitE (p.off+a) (p.off+t)≠0):L5 v p t k a w x=(⟨[], []⟩,p.m.splitE (p.off+a) (p.off+t)):=by rw [L5,if_neg h,if_pos h2]
theorem Ath {v:Vo} {p:Pl} {t a w:Int} {k:Nat} {x:Ev} (h:¬0<H4 v.tups k) (h2:¬p.m.splitE (p.off+a) (p.off+t)≠0) (h3:p.m.splitE (p.off+t) (p.off+(a+w))≠0):L5 v p t k a w x=(⟨[], []⟩,p.m.splitE (p.off+t) (p.off+(a+w))):=by rw [L5,if_neg h,if_neg h2,if_pos h3]
theorem Arv {v:Vo} {p:Pl} {t a w:Int} {k:Nat} {x:Ev} {l:List Ev} (h:¬0<H4 v.tups k) (h2:¬p.m.splitE (p.off+a) (p.off+t)≠0) (h3:¬p.m.splitE (p.off+t) (p.off+(a+w))≠0) (hl:l=Na p t a w x) (h4:128<((Br v k 1 ⟨l, []⟩).evs.length:Int)):L5 v p t k a w x=(⟨[], []⟩,9):=by
 subst hl;rw [L5,if_neg h,if_neg h2,if_neg h3,if_pos (by omega)]
theorem Aru {v:Vo} {p:Pl} {t a w:Int} {k:Nat} {x:Ev} {l:List Ev} (h:¬0<H4 v.tups k) (h2:¬p.m.splitE (p.off+a) (p.off+t)≠0) (h3:¬p.m.splitE (p.off+t) (p.off+(a+w))≠0) (hl:l=Na p t a w x) (h4:¬128<((Br v k 1 ⟨l, []⟩).evs.length:Int)):L5 v p t k a w x=(Br v k 1 ⟨l, []⟩,0):=by
 subst hl;rw [L5,if_neg h,if_neg h2,if_neg h3,if_neg (by omega)]
theorem Q0 {p:Pl} {t a w:Int} {x:Ev} (h:x.kind=3):Bf x.asRest.tiedE (p.m.split (p.off+a) (p.off+t)) false++Bf x.asRest (p.m.split (p.off+t) (p.off+(a+w))) true=Na p t a w x:=by rw [Na,Ev.unrest,if_pos h]
theorem Q1 {p:Pl} {t a w:Int} {x:Ev} (h:¬x.kind=3):Bf x.tiedE (p.m.split (p.off+a) (p.off+t)) false++Bf x (p.m.split (p.off+t) (p.off+(a+w))) true=Na p t a w x:=by rw [Na,Ev.unrest,if_neg h]
theorem Th {x:Ev} (h:x.fit):x.unrest.fit:=by unfold Ev.unrest;split<;>exact h
theorem Yk {v:Vo} {k:Nat} {l:List Ev} (hv:v.fit) (hl:∀e∈l,e.fit) (hs:Sml v) (h:¬128<((Br v k 1 ⟨l, []⟩).evs.length:Int)):(Br v k 1 ⟨l, []⟩).fit:=by
 refine ⟨by omega, ?_,fun e he=> ?_⟩
 ·have h1:=Kf (fun t=>decide (t.first<(k:Int))) 0 v.tups
  have h2:=Kf (fun t=>decide ((k:Int)+(1:Nat)≤t.first)) ((l.length:Int) - (1:Nat)) v.tups
  have h3:=hs.tups
  simp only [Br,List.length_append]
  have h4:(B6 (fun _=>true) (k:Int) []).length=0:=rfl
  omega
 ·simp only [Br] at he
  rcases List.mem_append.1 he with he|he
  ·rcases List.mem_append.1 he with he|he
   ·exact hv.ev e (List.mem_of_mem_take he)
   ·exact hl e he
  ·exact hv.ev e (List.mem_of_mem_drop he)
theorem Zv {p:Pl} {t a w:Int} {x:Ev} (h:x.fit):∀e∈Na p t a w x,e.fit:=by
 intro e he
 rcases List.mem_append.1 he with he|he
 ·exact Pn (Th h).tied _ _ e he
 ·exact Pn (Th h) _ _ e he
theorem r2v {v:Vo} {a:Int} {q:Vo × Int} (h:q=(v,a)):D.tup [.agg (Vo.c v),dI a]= .tup [.agg (Vo.c q.1),dI q.2]:=by rw [h]
theorem Akq (v:Vo) (p:Pl) (t:Int) (hE:Evs v.evs) (hF:v.fit) (hc:p.chk v=0):XC Tryz.prog 48 [.agg (Vo.c v), .agg (Pl.c p), .v (.int .i64 t)] (fun r=>r= .tup [.agg (Vo.c (Fn v p t).1),dI (Fn v p t).2]):=by
 obtain ⟨k,a,hat,ha0,ha1,hak⟩:=Ap4 v p.len t
 obtain ⟨hme,hpb,hck⟩:=G2 hc
 obtain ⟨hsv,hev⟩:=Lv hck
 have hcl:=H6 hck
 have hN:=K4 v p.len
 unfold Pl.bad at hpb
 refine Ap Aeh Tryz.func48 R R lb<|zr<|XL.step R (Ay 3 (l:= [.d (.sl 13 (v.evs.map Ev.c)), .d (.sl 4 (v.tups.map Tp.c))]) R R (by kernel_rfl))<|XL.step R (Ay 4 (l:= [.d (dI p.m.count), .d (dI p.m.unit), .d (dI p.m.g0), .d (dI p.m.g1), .d (dI p.m.g2), .d (dI p.m.g3), .d (dI p.m.g4), .d (dI p.m.g5), .d (dI p.off), .d (dI p.len)]) R R (by kernel_rfl))<|?_
 refine XL.step R (A9 6 (l:= [.d (.v (.slice none 0 0)), .d (.v (.slice none 0 0))]) R Ca (by kernel_rfl))<|za R R<|znr<|zp (Ad (s':= .d (.agg (Vo.c v))) (Ae (Ac R R Bg R lb)) (by kernel_rfl))<|zp (Aa R R Iq)<|zp (Ab R R Ah R R)<|XL.call1 R R (Mg _ _ (by assumption)) R<|zm R R<|zp (Bh R R R)<|zp (Bh R R R)<|za R R<|za R R<|znr<|?_
 refine zp (Ad (s':= .d (.agg (Vo.c v))) (Ae (Ac R R Bg R lb)) (by kernel_rfl))<|zp (Aa R R Iq)<|zp (Ab R R Ah R R)<|zm R R<|XL.call1 R R (As1 hE hat) R<|zm R R<|zp (Bh R R R)<|zp (Bh R R R)<|zp (Bh R R R)<|za R R<|za R R<|za R R<|zn<|zs<|?_
 refine zr<|zm R R<|zp (Bc R R R)<|zm R R<|?_
 refine XL.dec 37 R (fun g37=> ?_) (fun g37=> ?_)
 refine zk 3 R<|zq R R R<|zn<|Ao (by kernel_rfl) R<|zr<|zp (Ad (s':= .d (.agg (Vo.c v))) (Ae (Ac R R Bg R lb)) (by kernel_rfl))<|XL.call1 R R (Ka _ (by assumption)) R<|XL.step R (Ai (l':= [.d (.sl 13 (v.evs.map Ev.c)), .d (.sl 4 (v.tups.map Tp.c))]) R R R R D7 R lb (by kernel_rfl))<|za R R<|zn<|zt<|?_
 exact Bs R (RV.cells R R R Bg lb R) (RV.tmp R R) (r2v (W9 hat (by omega)))
 refine zm R R<|zm R R<|zp (Az R R R)<|zq R R R<|zn<|?_
 refine zd R (fun c41=> ?_) (fun c41=> ?_)
 refine zr<|zp (Ad (s':= .d (.agg (Vo.c v))) (Ae (Ac R R Bg R lb)) (by kernel_rfl))<|XL.call1 R R (Ka _ (by assumption)) R<|XL.step R (Ai (l':= [.d (.sl 13 (v.evs.map Ev.c)), .d (.sl 4 (v.tups.map Tp.c))]) R R R R D7 R lb (by kernel_rfl))<|za R R<|zn<|zt<|?_
 exact Bs R (RV.cells R R R Bg lb R) (RV.tmp R R) (r2v (W9 hat (by omega)))
 refine zi<|zs<|?_
 have hne:¬(atE v p.len t≠0∨a=t):=by omega
 have he0:atE v p.len t=0:=by omega
 obtain ⟨hk,hak2⟩:=hak he0
 obtain ⟨w,hw⟩:∃w,(ckL v p.len)[k]? =some w:=As hk
 obtain ⟨x,hx⟩:∃x,v.evs[k]? =some x:=As (by omega)
 have hwb:=hN.bd w (List.mem_of_getElem? hw)
 obtain ⟨_,ht0,ht1⟩:=Am8 he0
 have hxf:x.fit:=hF.ev x (List.mem_of_getElem? hx)
 have hs1:=Nl p.m (p.off+a) (p.off+t)
 have hs2:=Nl p.m (p.off+t) (p.off+(a+w))
 have hxh:=hxf.1
 refine Af (by kernel_rfl)<|zm R R<|zm R R<|zm R R<|zp (Aj R R R C5 (hw))<|zp (Aw R R Ah)<|zp (Ak R R R (by omega) (by omega))<|za R R<|zn<|zs<|zr<|zp (Aa R R B0)<|zp (Ab R R Bz R R)<|zm R R<|?_
 refine XL.call1 R R (Zw _ _ (by omega) (by omega)) R<|zp (A6 R R R)<|zn<|?_
 refine zd R (fun c54=> ?_) (fun c54=> ?_)
 refine zr<|zp (Ad (s':= .d (.agg [.v (.slice none 0 0), .v (.slice none 0 0)])) (Ae (Bv R Gc Ca R)) (by kernel_rfl))<|XL.step R (Ai (l':= [.d (.v (.slice none 0 0)), .d (.v (.slice none 0 0))]) R R R R D7 R lb (by kernel_rfl))<|za R R<|zn<|zt<|?_
 exact Bs R (RV.sub (RV.cells R R R Bg lb R) (.agg (.cons (.nil 13) (.cons (.nil 4) (.nil))))) (RV.tmp R R) (r2v ((Lf hat hne hx hw).trans (Atj c54)))
 refine zi<|zr<|zp (Aa R R Pw)<|zp (Ad (s':= .d (.agg (Me.c p.m))) (Ae (Ac R R Be R lb)) (by kernel_rfl))<|zp (Aa R R Hm)<|zp (Ab R R Ah R R)<|zm R R<|zp (Ak R R R (by omega) (by omega))<|zp (Aa R R Hm)<|zp (Ab R R Ah R R)<|zm R R<|zp (Ak R R R (by omega) (by omega))<|XL.call1 R R (Qo _ _ _) R<|zm R R<|?_
 refine zp (Bh R R R)<|zp (Bh R R R)<|za R R<|za R R<|zn<|zs<|zr<|zm R R<|zp (Bc R R R)<|zn<|?_
 refine zd R (fun c71=> ?_) (fun c71=> ?_)
 refine zr<|zp (Ad (s':= .d (.agg [.v (.slice none 0 0), .v (.slice none 0 0)])) (Ae (Bv R Gc Ca R)) (by kernel_rfl))<|zm R R<|XL.step R (Ai (l':= [.d (.v (.slice none 0 0)), .d (.v (.slice none 0 0))]) R R R R D7 R lb (by kernel_rfl))<|za R R<|zn<|zt<|?_
 exact Bs R (RV.sub (RV.cells R R R Bg lb R) (.agg (.cons (.nil 13) (.cons (.nil 4) (.nil))))) (RV.tmp R R) (r2v ((Lf hat hne hx hw).trans (Ati c54 c71)))
 refine zi<|zr<|zp (Aa R R Pw)<|zp (Ad (s':= .d (.agg (Me.c p.m))) (Ae (Ac R R Be R lb)) (by kernel_rfl))<|zp (Aa R R Hm)<|zp (Ab R R Ah R R)<|zm R R<|zp (Ak R R R (by omega) (by omega))<|zp (Aa R R Hm)<|zp (Ab R R Ah R R)<|zm R R<|zp (Ak R R R (by omega) (by omega))<|XL.call1 R R (Qo _ _ _) R<|zm R R<|?_
 refine zp (Bh R R R)<|zp (Bh R R R)<|za R R<|za R R<|zn<|zs<|zr<|zm R R<|zp (Bc R R R)<|zn<|?_
 refine zd R (fun c89=> ?_) (fun c89=> ?_)
 refine zr<|zp (Ad (s':= .d (.agg [.v (.slice none 0 0), .v (.slice none 0 0)])) (Ae (Bv R Gc Ca R)) (by kernel_rfl))<|zm R R<|XL.step R (Ai (l':= [.d (.v (.slice none 0 0)), .d (.v (.slice none 0 0))]) R R R R D7 R lb (by kernel_rfl))<|za R R<|zn<|zt<|?_
 exact Bs R (RV.sub (RV.cells R R R Bg lb R) (.agg (.cons (.nil 13) (.cons (.nil 4) (.nil))))) (RV.tmp R R) (r2v ((Lf hat hne hx hw).trans (Ath c54 c71 c89)))
 refine zi<|zr<|zp (Aa R R A0)<|zp (Ab R R Bl R R)<|zm R R<|zp (Aj R R R Cv (hx))<|zp (Ad (s':= .d (.agg (Ev.c x))) (Ar R R A1 lb) (by kernel_rfl))<|?_
 refine XL.step R (A9 16 (l:= [.d (dI 0), .d (dI 0), .d (dI 0), .d (dI 0), .d (dI 0), .d (.v (.slice none 0 0)), .d (.v (.slice none 0 0)), .d (dI 0), .d (dI 0), .d (dI 0), .d (.v (.slice none 0 0)), .d (dI 0), .d (dI 0)]) R B3 (by kernel_rfl))<|?_
 refine XL.step R (Ai (l':= [.d (dI x.site), .d (dI x.num), .d (dI x.kind), .d (dI x.v.log), .d (dI x.v.dots), .d (.sl 5 (x.heads.map Hd.c)), .d (.sl 5 (x.graces.map Gr.c)), .d (dI x.art), .d (dI x.orn), .d (dI x.dyn), .d (.sl 2 (x.lyr.map Sy.c)), .d (dI x.stem), .d (dI x.beam)]) R R R R B4 R lb (by kernel_rfl))<|zn<|zs<|zr<|zp (Aa R R Bp)<|zp (Ab R R Ah R R)<|?_
 refine zp (Az R R R)<|zn<|?_
 refine zd R (fun c99=> ?_) (fun c99=> ?_)
 refine Af (by kernel_rfl)<|zp (Aa R R Bp)<|XL.step R (Ai (l':= [.d (dI x.site), .d (dI x.num), .d (dI 2), .d (dI x.v.log), .d (dI x.v.dots), .d (.sl 5 (x.heads.map Hd.c)), .d (.sl 5 (x.graces.map Gr.c)), .d (dI x.art), .d (dI x.orn), .d (dI x.dyn), .d (.sl 2 (x.lyr.map Sy.c)), .d (dI x.stem), .d (dI x.beam)]) R R R R C0 R lb (by kernel_rfl))<|znr<|?_
 refine zp (Ad (s':= .d (.agg [dI x.site,dI x.num,dI 2,dI x.v.log,dI x.v.dots, .sl 5 (x.heads.map Hd.c), .sl 5 (x.graces.map Gr.c),dI x.art,dI x.orn,dI x.dyn, .sl 2 (x.lyr.map Sy.c),dI x.stem,dI x.beam])) (Ae (Ac R R A1 R lb)) (by kernel_rfl))<|?_
 refine XL.step R (A9 17 (l:= [.d (dI 0), .d (dI 0), .d (dI 0), .d (dI 0), .d (dI 0), .d (.v (.slice none 0 0)), .d (.v (.slice none 0 0)), .d (dI 0), .d (dI 0), .d (dI 0), .d (.v (.slice none 0 0)), .d (dI 0), .d (dI 0)]) R B3 (by kernel_rfl))<|?_
 refine XL.step R (Ai (l':= [.d (dI x.site), .d (dI x.num), .d (dI 2), .d (dI x.v.log), .d (dI x.v.dots), .d (.sl 5 (x.heads.map Hd.c)), .d (.sl 5 (x.graces.map Gr.c)), .d (dI x.art), .d (dI x.orn), .d (dI x.dyn), .d (.sl 2 (x.lyr.map Sy.c)), .d (dI x.stem), .d (dI x.beam)]) R R R R B4 R lb (by kernel_rfl))<|znr<|zp (Aa R R Ba)<|zp (Ab R R Cn R R)<|?_
 refine XL.call1 R R (Qb _ (hxf.1)) R<|zp (Aa R R Ba)<|XL.step R (Ai (l':= [.d (dI x.site), .d (dI x.num), .d (dI 2), .d (dI x.v.log), .d (dI x.v.dots), .d (.sl 5 ((x.heads.map Hd.tie).map Hd.c)), .d (.sl 5 (x.graces.map Gr.c)), .d (dI x.art), .d (dI x.orn), .d (dI x.dyn), .d (.sl 2 (x.lyr.map Sy.c)), .d (dI x.stem), .d (dI x.beam)]) R R R R Km R lb (by kernel_rfl))<|zn<|zs<|?_
 refine J2 8 12 [7001,7002,18] (S.kill 7001) 7001 (Pp 7001) (by kernel_rfl) (by kernel_rfl) (by kernel_rfl) (by kernel_rfl) (by decide)<|ChMK.fr R R (CStep.pure (Ad (s':= .d (.agg (Vo.c v))) (Ae (Ac R R Bg R lb)) (by kernel_rfl))) (CStep.pure (Ad (s':= .d (.agg (Vo.c v))) (Ae (Ac R R Bg R lb)) (by kernel_rfl))) (by exact rfl)<|?_
 refine ChMK.fr R R (CStep.pure (Au R (by conv=>lhs;whnf))) (CStep.pure (Au R (by conv=>lhs;whnf))) (by exact rfl)<|?_
 refine ChMK.bf R (CStep.pure (Ad (s':= .d (.agg [dI x.site,dI x.num,dI 2,dI x.v.log,dI x.v.dots, .sl 5 ((x.heads.map Hd.tie).map Hd.c), .sl 5 (x.graces.map Gr.c),dI x.art,dI x.orn,dI x.dyn, .sl 2 (x.lyr.map Sy.c),dI x.stem,dI x.beam])) (Ae (Ac R R A1 R lb)) (by kernel_rfl))) (by conv=>lhs;whnf)<|?_
 refine ChMK.bf R (CStep.pure (Au R (by conv=>lhs;whnf))) (by conv=>lhs;whnf)<|?_
 refine ChMK.bfO R (CStep.callS R ((M5 (x.asRest.tiedE) _ false hxf.rest.tied (by omega)).lab 7001) R (E3 (by kernel_rfl))) (by conv=>lhs;whnf) (fun _ _=>Wp _ _)<|?_
 refine ChMK.bf R (CStep.pure (Ad (s':= .d (.agg [dI x.site,dI x.num,dI 2,dI x.v.log,dI x.v.dots, .sl 5 (x.heads.map Hd.c), .sl 5 (x.graces.map Gr.c),dI x.art,dI x.orn,dI x.dyn, .sl 2 (x.lyr.map Sy.c),dI x.stem,dI x.beam])) (Ae (Ac R R A1 R lb)) (by kernel_rfl))) (by conv=>lhs;whnf)<|?_
 refine ChMK.bf R (CStep.pure (Au R (by conv=>lhs;whnf))) (by conv=>lhs;whnf)<|?_
 refine ChMK.bfN R (CStep.callS R ((M5 (x.asRest) _ true hxf.rest (by omega)).lab 7002) R (E3 (by kernel_rfl))) (by conv=>lhs;whnf) R R<|?_
 refine ChMK.mu R (Wo (l2:=((Bf x.asRest.tiedE ((p.m.split (p.off+a) (p.off+t))) false)++(Bf x.asRest ((p.m.split (p.off+t) (p.off+(a+w)))) true)).map Ev.c) R Fm (.own R) (Src.own R) (by simp only [List.length_map,Ga];unfold maxLen;omega) (by simp only [List.length_map,Ga];omega) (Afr))<|?_
 refine ChMK.af R (CStep.pure (Ad (s':= .d (.agg [.sl 13 (((Bf x.asRest.tiedE ((p.m.split (p.off+a) (p.off+t))) false)++(Bf x.asRest ((p.m.split (p.off+t) (p.off+(a+w)))) true)).map Ev.c), .v (.slice none 0 0)])) (Ae (Bv R Gc Ca R)) (by kernel_rfl)))<|?_
 refine ChMK.af R (CStep.calls R (Pc v k 1 ⟨((Bf x.asRest.tiedE ((p.m.split (p.off+a) (p.off+t))) false)++(Bf x.asRest ((p.m.split (p.off+t) (p.off+(a+w)))) true)), []⟩ hsv (Ux (by simp only [List.length_append,Ga];omega)) (by omega)) (.cons R (.same R) (.cons R (.same R) (.cons R (.same R) (.cons R (.agg (.cons (.same R) (.cons (.nil 4) (.nil)))) (.nil))))))<|?_
 refine ChMK.frN R R (CStep.allocN 18 (l:= [.d (.v (.slice none 0 0)), .d (.v (.slice none 0 0))]) R Ca R R) (CStep.allocN 18 (l:= [.d (.v (.slice none 0 0)), .d (.v (.slice none 0 0))]) R Ca R R) (by exact rfl) (by exact rfl) R<|?_
 refine ChMK.nil ⟨⟨by kernel_rfl,by kernel_rfl,by kernel_rfl⟩, ?_⟩
 refine XL.step R (Ai (l':= [.d (.sl 13 ((Br v k 1 ⟨((Bf x.asRest.tiedE ((p.m.split (p.off+a) (p.off+t))) false)++(Bf x.asRest ((p.m.split (p.off+t) (p.off+(a+w)))) true)), []⟩).evs.map Ev.c)), .d (.sl 4 ((Br v k 1 ⟨((Bf x.asRest.tiedE ((p.m.split (p.off+a) (p.off+t))) false)++(Bf x.asRest ((p.m.split (p.off+t) (p.off+(a+w)))) true)), []⟩).tups.map Tp.c))]) R R R R D7 R lb (by kernel_rfl))<|?_
 refine zn<|zs<|zr<|zp (Aa R R A0)<|zp (Ab R R Bl R R)<|XL.len R R R Tryz.underlying22 fun hl119=>zp (A6 R R R)<|zn<|?_
 refine zd R (fun c120=> ?_) (fun c120=> ?_)
 refine zr<|zp (Ad (s':= .d (.agg [.v (.slice none 0 0), .v (.slice none 0 0)])) (Ae (Bv R Gc Ca R)) (by kernel_rfl))<|XL.step R (Ai (l':= [.d (.v (.slice none 0 0)), .d (.v (.slice none 0 0))]) R R R R D7 R lb (by kernel_rfl))<|za R R<|zn<|zt<|?_
 exact Bs R (RV.sub (RV.cells R R R Bg lb R) (.agg (.cons (.nil 13) (.cons (.nil 4) (.nil))))) (RV.tmp R R) (r2v ((Lf hat hne hx hw).trans (Arv c54 c71 c89 (by first|exact Q0 c99|exact Q1 c99) c120)))
 have hof:=Yk (k:=k) (l:=_) hF (Zv (p:=p) (t:=t) (a:=a) (w:=w) hxf) hsv (by first|(rw [←Q0 c99];exact c120)|(rw [←Q1 c99];exact c120))
 first|rw [←Q0 c99] at hof|rw [←Q1 c99] at hof
 refine zi<|zr<|zp (Ad (s':= .d (.agg (Vo.c (Br v k 1 ⟨((Bf x.asRest.tiedE ((p.m.split (p.off+a) (p.off+t))) false)++(Bf x.asRest ((p.m.split (p.off+t) (p.off+(a+w)))) true)), []⟩)))) (Ae (Ac R R Bg R lb)) (by kernel_rfl))<|XL.call1 R R (Ka _ (by assumption)) R<|?_
 refine XL.step R (Ai (l':= [.d (.sl 13 ((Br v k 1 ⟨((Bf x.asRest.tiedE ((p.m.split (p.off+a) (p.off+t))) false)++(Bf x.asRest ((p.m.split (p.off+t) (p.off+(a+w)))) true)), []⟩).evs.map Ev.c)), .d (.sl 4 ((Br v k 1 ⟨((Bf x.asRest.tiedE ((p.m.split (p.off+a) (p.off+t))) false)++(Bf x.asRest ((p.m.split (p.off+t) (p.off+(a+w)))) true)), []⟩).tups.map Tp.c))]) R R R R D7 R lb (by kernel_rfl))<|?_
 refine za R R<|zn<|zt<|?_
 exact Bs R (RV.cells R R R Bg lb R) (RV.tmp R R) (r2v ((Lf hat hne hx hw).trans (Aru c54 c71 c89 (by first|exact Q0 c99|exact Q1 c99) c120)))
 refine zi<|zr<|zp (Ad (s':= .d (.agg (Ev.c x))) (Ae (Ac R R A1 R lb)) (by kernel_rfl))<|XL.step R (A9 17 (l:= [.d (dI 0), .d (dI 0), .d (dI 0), .d (dI 0), .d (dI 0), .d (.v (.slice none 0 0)), .d (.v (.slice none 0 0)), .d (dI 0), .d (dI 0), .d (dI 0), .d (.v (.slice none 0 0)), .d (dI 0), .d (dI 0)]) R B3 (by kernel_rfl))<|?_
 refine XL.step R (Ai (l':= [.d (dI x.site), .d (dI x.num), .d (dI x.kind), .d (dI x.v.log), .d (dI x.v.dots), .d (.sl 5 (x.heads.map Hd.c)), .d (.sl 5 (x.graces.map Gr.c)), .d (dI x.art), .d (dI x.orn), .d (dI x.dyn), .d (.sl 2 (x.lyr.map Sy.c)), .d (dI x.stem), .d (dI x.beam)]) R R R R B4 R lb (by kernel_rfl))<|znr<|zp (Aa R R Ba)<|zp (Ab R R Cn R R)<|?_
 refine XL.call1 R R (Qb _ (hxf.1)) R<|zp (Aa R R Ba)<|XL.step R (Ai (l':= [.d (dI x.site), .d (dI x.num), .d (dI x.kind), .d (dI x.v.log), .d (dI x.v.dots), .d (.sl 5 ((x.heads.map Hd.tie).map Hd.c)), .d (.sl 5 (x.graces.map Gr.c)), .d (dI x.art), .d (dI x.orn), .d (dI x.dyn), .d (.sl 2 (x.lyr.map Sy.c)), .d (dI x.stem), .d (dI x.beam)]) R R R R Km R lb (by kernel_rfl))<|zn<|?_
 refine zs<|J2 8 12 [7001,7002,18] (S.kill 7001) 7001 (Pp 7001) (by kernel_rfl) (by kernel_rfl) (by kernel_rfl) (by kernel_rfl) (by decide)<|ChMK.fr R R (CStep.pure (Ad (s':= .d (.agg (Vo.c v))) (Ae (Ac R R Bg R lb)) (by kernel_rfl))) (CStep.pure (Ad (s':= .d (.agg (Vo.c v))) (Ae (Ac R R Bg R lb)) (by kernel_rfl))) (by exact rfl)<|?_
 refine ChMK.fr R R (CStep.pure (Au R (by conv=>lhs;whnf))) (CStep.pure (Au R (by conv=>lhs;whnf))) (by exact rfl)<|?_
 refine ChMK.bf R (CStep.pure (Ad (s':= .d (.agg [dI x.site,dI x.num,dI x.kind,dI x.v.log,dI x.v.dots, .sl 5 ((x.heads.map Hd.tie).map Hd.c), .sl 5 (x.graces.map Gr.c),dI x.art,dI x.orn,dI x.dyn, .sl 2 (x.lyr.map Sy.c),dI x.stem,dI x.beam])) (Ae (Ac R R A1 R lb)) (by kernel_rfl))) (by conv=>lhs;whnf)<|?_
 refine ChMK.bf R (CStep.pure (Au R (by conv=>lhs;whnf))) (by conv=>lhs;whnf)<|?_
 refine ChMK.bfO R (CStep.callS R ((M5 (x.tiedE) _ false hxf.tied (by omega)).lab 7001) R (E3 (by kernel_rfl))) (by conv=>lhs;whnf) (fun _ _=>Wp _ _)<|?_
 refine ChMK.bf R (CStep.pure (Ad (s':= .d (.agg (Ev.c x))) (Ae (Ac R R A1 R lb)) (by kernel_rfl))) (by conv=>lhs;whnf)<|?_
 refine ChMK.bf R (CStep.pure (Au R (by conv=>lhs;whnf))) (by conv=>lhs;whnf)<|?_
 refine ChMK.bfN R (CStep.callS R ((M5 (x) _ true hxf (by omega)).lab 7002) R (E3 (by kernel_rfl))) (by conv=>lhs;whnf) R R<|?_
 refine ChMK.mu R (Wo (l2:=((Bf x.tiedE ((p.m.split (p.off+a) (p.off+t))) false)++(Bf x ((p.m.split (p.off+t) (p.off+(a+w)))) true)).map Ev.c) R Fm (.own R) (Src.own R) (by simp only [List.length_map,Ga];unfold maxLen;omega) (by simp only [List.length_map,Ga];omega) (Afr))<|?_
 refine ChMK.af R (CStep.pure (Ad (s':= .d (.agg [.sl 13 (((Bf x.tiedE ((p.m.split (p.off+a) (p.off+t))) false)++(Bf x ((p.m.split (p.off+t) (p.off+(a+w)))) true)).map Ev.c), .v (.slice none 0 0)])) (Ae (Bv R Gc Ca R)) (by kernel_rfl)))<|?_
 refine ChMK.af R (CStep.calls R (Pc v k 1 ⟨((Bf x.tiedE ((p.m.split (p.off+a) (p.off+t))) false)++(Bf x ((p.m.split (p.off+t) (p.off+(a+w)))) true)), []⟩ hsv (Ux (by simp only [List.length_append,Ga];omega)) (by omega)) (.cons R (.same R) (.cons R (.same R) (.cons R (.same R) (.cons R (.agg (.cons (.same R) (.cons (.nil 4) (.nil)))) (.nil))))))<|?_
 refine ChMK.frN R R (CStep.allocN 18 (l:= [.d (.v (.slice none 0 0)), .d (.v (.slice none 0 0))]) R Ca R R) (CStep.allocN 18 (l:= [.d (.v (.slice none 0 0)), .d (.v (.slice none 0 0))]) R Ca R R) (by exact rfl) (by exact rfl) R<|?_
 refine ChMK.nil ⟨⟨by kernel_rfl,by kernel_rfl,by kernel_rfl⟩, ?_⟩
 refine XL.step R (Ai (l':= [.d (.sl 13 ((Br v k 1 ⟨((Bf x.tiedE ((p.m.split (p.off+a) (p.off+t))) false)++(Bf x ((p.m.split (p.off+t) (p.off+(a+w)))) true)), []⟩).evs.map Ev.c)), .d (.sl 4 ((Br v k 1 ⟨((Bf x.tiedE ((p.m.split (p.off+a) (p.off+t))) false)++(Bf x ((p.m.split (p.off+t) (p.off+(a+w)))) true)), []⟩).tups.map Tp.c))]) R R R R D7 R lb (by kernel_rfl))<|?_
 refine zn<|zs<|zr<|zp (Aa R R A0)<|zp (Ab R R Bl R R)<|XL.len R R R Tryz.underlying22 fun hl119=>zp (A6 R R R)<|zn<|?_
 refine zd R (fun c120=> ?_) (fun c120=> ?_)
 refine zr<|zp (Ad (s':= .d (.agg [.v (.slice none 0 0), .v (.slice none 0 0)])) (Ae (Bv R Gc Ca R)) (by kernel_rfl))<|XL.step R (Ai (l':= [.d (.v (.slice none 0 0)), .d (.v (.slice none 0 0))]) R R R R D7 R lb (by kernel_rfl))<|za R R<|zn<|zt<|?_
 exact Bs R (RV.sub (RV.cells R R R Bg lb R) (.agg (.cons (.nil 13) (.cons (.nil 4) (.nil))))) (RV.tmp R R) (r2v ((Lf hat hne hx hw).trans (Arv c54 c71 c89 (by first|exact Q0 c99|exact Q1 c99) c120)))
 have hof:=Yk (k:=k) (l:=_) hF (Zv (p:=p) (t:=t) (a:=a) (w:=w) hxf) hsv (by first|(rw [←Q0 c99];exact c120)|(rw [←Q1 c99];exact c120))
 first|rw [←Q0 c99] at hof|rw [←Q1 c99] at hof
 refine zi<|zr<|zp (Ad (s':= .d (.agg (Vo.c (Br v k 1 ⟨((Bf x.tiedE ((p.m.split (p.off+a) (p.off+t))) false)++(Bf x ((p.m.split (p.off+t) (p.off+(a+w)))) true)), []⟩)))) (Ae (Ac R R Bg R lb)) (by kernel_rfl))<|XL.call1 R R (Ka _ (by assumption)) R<|?_
 refine XL.step R (Ai (l':= [.d (.sl 13 ((Br v k 1 ⟨((Bf x.tiedE ((p.m.split (p.off+a) (p.off+t))) false)++(Bf x ((p.m.split (p.off+t) (p.off+(a+w)))) true)), []⟩).evs.map Ev.c)), .d (.sl 4 ((Br v k 1 ⟨((Bf x.tiedE ((p.m.split (p.off+a) (p.off+t))) false)++(Bf x ((p.m.split (p.off+t) (p.off+(a+w)))) true)), []⟩).tups.map Tp.c))]) R R R R D7 R lb (by kernel_rfl))<|?_
 refine za R R<|zn<|zt<|?_
 exact Bs R (RV.cells R R R Bg lb R) (RV.tmp R R) (r2v ((Lf hat hne hx hw).trans (Aru c54 c71 c89 (by first|exact Q0 c99|exact Q1 c99) c120)))
def Nc (v:Vo) (p:Pl) (t:Int):Vo × Int:=if p.chk v≠0 then (⟨[], []⟩,p.chk v) else if v.absent then (⟨[], []⟩,10) else if t<0∨p.len<t then (⟨[], []⟩,2) else Fn v p t
theorem Atq {v:Vo} {p:Pl} {t:Int} (h:p.chk v≠0):Nc v p t=(⟨[], []⟩,p.chk v):=by rw [Nc,if_pos h]
theorem Atp {v:Vo} {p:Pl} {t:Int} (h:¬p.chk v≠0) (h2:v.absent):Nc v p t=(⟨[], []⟩,10):=by rw [Nc,if_neg h,if_pos h2]
theorem Ar5 {v:Vo} {p:Pl} {t:Int} (h:¬p.chk v≠0) (h2:¬v.absent) (h3:t<0∨p.len<t):Nc v p t=(⟨[], []⟩,2):=by rw [Nc,if_neg h,if_neg h2,if_pos h3]
theorem Ato {v:Vo} {p:Pl} {t:Int} (h:¬p.chk v≠0) (h2:¬v.absent) (h3:¬(t<0∨p.len<t)):Nc v p t=Fn v p t:=by rw [Nc,if_neg h,if_neg h2,if_neg h3]
theorem Ak1 (v:Vo) (p:Pl) (t:Int) (hE:Evs v.evs) (hF:v.fit):XC Tryz.prog 15 [.agg (Vo.c v), .agg (Pl.c p), .v (.int .i64 t)] (fun r=>r= .tup [.agg (Vo.c (Nc v p t).1),dI (Nc v p t).2]):=by
 refine Ap Aex Tryz.func15 R R lb<|zr<|XL.step R (Ay 3 (l:= [.d (.sl 13 (v.evs.map Ev.c)), .d (.sl 4 (v.tups.map Tp.c))]) R R (by kernel_rfl))<|XL.step R (Ay 4 (l:= [.d (dI p.m.count), .d (dI p.m.unit), .d (dI p.m.g0), .d (dI p.m.g1), .d (dI p.m.g2), .d (dI p.m.g3), .d (dI p.m.g4), .d (dI p.m.g5), .d (dI p.off), .d (dI p.len)]) R R (by kernel_rfl))<|?_
 refine XL.step R (A9 6 (l:= [.d (.v (.slice none 0 0)), .d (.v (.slice none 0 0))]) R Ca (by kernel_rfl))<|za R R<|zn<|zs<|zr<|zp (Ad (s':= .d (.agg (Pl.c p))) (Ae (Ac R R Jy R lb)) (by kernel_rfl))<|zp (Ad (s':= .d (.agg (Vo.c v))) (Ae (Ac R R Bg R lb)) (by kernel_rfl))<|XL.call1 R R (T5 _ _ (by assumption)) R<|za R R<|znr<|?_
 refine zm R R<|zp (Bc R R R)<|zn<|?_
 refine zd R (fun c13=> ?_) (fun c13=> ?_)
 refine zr<|zp (Ad (s':= .d (.agg [.v (.slice none 0 0), .v (.slice none 0 0)])) (Ae (Bv R Gc Ca R)) (by kernel_rfl))<|zm R R<|XL.step R (Ai (l':= [.d (.v (.slice none 0 0)), .d (.v (.slice none 0 0))]) R R R R D7 R lb (by kernel_rfl))<|za R R<|zn<|zt<|?_
 exact Bs R (RV.sub (RV.cells R R R Bg lb R) (.agg (.cons (.nil 13) (.cons (.nil 4) (.nil))))) (RV.tmp R R) (r2v (Atq c13))
 refine zi<|zs<|Ag<|zr<|zp (Ad (s':= .d (.agg (Vo.c v))) (Ae (Ac R R Bg R lb)) (by kernel_rfl))<|XL.call1 R R (Agi _) R<|za R R<|zn<|?_
 refine zd R (fun c16=> ?_) (fun c16=> ?_)
 refine zr<|zp (Ad (s':= .d (.agg [.v (.slice none 0 0), .v (.slice none 0 0)])) (Ae (Bv R Gc Ca R)) (by kernel_rfl))<|XL.step R (Ai (l':= [.d (.v (.slice none 0 0)), .d (.v (.slice none 0 0))]) R R R R D7 R lb (by kernel_rfl))<|za R R<|zn<|zt<|?_
 exact Bs R (RV.sub (RV.cells R R R Bg lb R) (.agg (.cons (.nil 13) (.cons (.nil 4) (.nil))))) (RV.tmp R R) (r2v (Atp c13 c16))
 refine zr<|zm R R<|zp (At R R R)<|zm R R<|?_
 refine XL.dec 23 R (fun g23=> ?_) (fun g23=> ?_)
 refine zk 4 R<|zq R R R<|za R R<|zn<|Ao (by kernel_rfl) R<|zr<|zp (Ad (s':= .d (.agg [.v (.slice none 0 0), .v (.slice none 0 0)])) (Ae (Bv R Gc Ca R)) (by kernel_rfl))<|XL.step R (Ai (l':= [.d (.v (.slice none 0 0)), .d (.v (.slice none 0 0))]) R R R R D7 R lb (by kernel_rfl))<|za R R<|zn<|zt<|?_
 exact Bs R (RV.sub (RV.cells R R R Bg lb R) (.agg (.cons (.nil 13) (.cons (.nil 4) (.nil))))) (RV.tmp R R) (r2v (Ar5 c13 c16 (by omega)))
 refine zm R R<|zp (Aa R R Iq)<|zp (Ab R R Ah R R)<|zp (A6 R R R)<|zq R R R<|za R R<|zn<|?_
 refine zd R (fun c20=> ?_) (fun c20=> ?_)
 refine zr<|zp (Ad (s':= .d (.agg [.v (.slice none 0 0), .v (.slice none 0 0)])) (Ae (Bv R Gc Ca R)) (by kernel_rfl))<|XL.step R (Ai (l':= [.d (.v (.slice none 0 0)), .d (.v (.slice none 0 0))]) R R R R D7 R lb (by kernel_rfl))<|za R R<|zn<|zt<|?_
 exact Bs R (RV.sub (RV.cells R R R Bg lb R) (.agg (.cons (.nil 13) (.cons (.nil 4) (.nil))))) (RV.tmp R R) (r2v (Ar5 c13 c16 (by omega)))
 refine zi<|zs<|?_
 have hc0:p.chk v=0:=by omega
 refine Af (by kernel_rfl)<|zp (Ad (s':= .d (.agg (Vo.c v))) (Ae (Ac R R Bg R lb)) (by kernel_rfl))<|zp (Ad (s':= .d (.agg (Pl.c p))) (Ae (Ac R R Jy R lb)) (by kernel_rfl))<|zm R R<|XL.call1 R R (Akq _ _ _ (by assumption) (by assumption) (by assumption)) R<|zp (Bh R R R)<|zp (Bh R R R)<|?_
 refine XL.step R (Ai (l':= [.d (.sl 13 (((Fn v p t).1).evs.map Ev.c)), .d (.sl 4 (((Fn v p t).1).tups.map Tp.c))]) R R R R D7 R lb (by kernel_rfl))<|za R R<|zn<|zt<|?_
 exact Bs R (RV.cells R R R Bg lb R) (RV.tmp R R) (by rw [←Ato c13 c16 (by omega)];rfl)
end Go.Proofs.YtcihalbakenleaaGreat
namespace Go.Proofs.YtcihalbakenleaaGreat
theorem Gv (x:Int) (l:List Int):tot (x::l)=x+tot l:=by
 have h:∀(l:List Int) (a:Int),l.foldl (· + ·) a=a+tot l:=by
  intro l
  induction l with
  |nil=>intro a;show a=a+0;omega
  |cons y l ih=>
   intro a
   rw [List.foldl_cons,ih]
   show a+y+tot l=a+List.foldl (· + ·) 0 (y::l)
   rw [List.foldl_cons,ih];omega
 unfold tot
 rw [List.foldl_cons,h]
 show 0+x+tot l=x+tot l
 omega
theorem Is:tot []=0:=rfl
theorem Kv (a b:List Int):tot (a++b)=tot a+tot b:=by
 induction a with
 |nil=>rw [List.nil_append,Is];omega
 |cons x a ih=>rw [List.cons_append,Gv,Gv,ih];omega
theorem Ut (a b:List Ev):wrS (a++b)=wrS a++wrS b:=List.map_append
theorem Hx (a:List Ev):(wrS a).length=a.length:=List.length_map _
theorem Ak4 (a:List Ev) (k:Nat):wrS (a.take k)=(wrS a).take k:=List.map_take
theorem Ak5 (a:List Ev) (k:Nat):wrS (a.drop k)=(wrS a).drop k:=List.map_drop
structure VL (v:Vo) (ls:List Int):Prop where
 tl:TL v.tups (wrS v.evs) ls
 ev:∀e∈v.evs,e.err=0∧e.kind≠3
def Vo.rest (v:Vo):Prop:=v.whole∧v.evs.length=1
instance (v:Vo):Decidable v.rest:=by unfold Vo.rest;exact inferInstance
theorem inGo_zero {n:Nat}:∀{l:List Ev} {k:Nat},Eq n k l=0↔∀j e,l[j]? =some e→e.err=0∧¬(e.kind=3∧(0<k+j∨1<n))
 | [],k=>⟨fun _ j e h=>by simp at h,fun _=>rfl⟩
 |e::r,k=>by
  rw [Eq]
  split
  ·rename_i c
   exact ⟨fun h=>absurd h c,fun h=>absurd (h 0 e rfl).1 c⟩
  ·rename_i c
   split
   ·rename_i c2
    exact ⟨fun h=>by omega,fun h=>absurd c2 (h 0 e rfl).2⟩
   ·rename_i c2
    rw [inGo_zero]
    constructor
    ·intro h j x hj
     cases j with
     |zero=>cases hj;exact ⟨Decidable.not_not.1 c,c2⟩
     |succ j=>have:=h j x hj;exact ⟨this.1,fun k=>this.2 ⟨k.1,by omega⟩⟩
    ·intro h j x hj
     have:=h (j+1) x hj;exact ⟨this.1,fun k=>this.2 ⟨k.1,by omega⟩⟩
theorem innE_zero {v:Vo}:Fv v=0↔Eq v.evs.length 0 v.evs=0∧C2 v.tups (wrS v.evs)=0∧Fy v.tups (wrS v.evs)=0:=by
 unfold Fv
 split
 ·omega
 ·split
  ·omega
  ·split<;>omega
theorem Afx {v:Vo} {ls:List Int} (h:¬v.rest):(Fv v=0∧ls=G6 v)↔VL v ls:=by
 rw [innE_zero]
 constructor
 ·rintro ⟨⟨h1,h2,h3⟩,h4⟩
  have h0:Fv v=0:=innE_zero.2 ⟨h1,h2,h3⟩
  rw [G6,if_pos h0] at h4
  refine ⟨TL_iff.2 ⟨h2,h3,h4⟩,fun e he=> ?_⟩
  obtain ⟨j,hj⟩:=List.getElem?_of_mem he
  have h5:=inGo_zero.1 h1 j e hj
  refine ⟨h5.1,fun k=> ?_⟩
  have h6:=fun q=>h5.2 ⟨k,q⟩
  have hl:=(List.getElem?_eq_some_iff.1 hj).1
  have:j=0∧v.evs.length=1:=by omega
  rw [this.1] at hj
  exact h ⟨(J3 hj).2 k,this.2⟩
 ·intro hv
  obtain ⟨h2,h3,h4⟩:=TL_iff.1 hv.tl
  have h1:Eq v.evs.length 0 v.evs=0:=inGo_zero.2 fun j e hj=>by
   have:=hv.ev e (List.mem_of_getElem? hj)
   exact ⟨this.1,fun k=>this.2 k.1⟩
  refine ⟨⟨h1,h2,h3⟩, ?_⟩
  rw [G6,if_pos (innE_zero.2 ⟨h1,h2,h3⟩)];exact h4
theorem VL.norest {v:Vo} {ls:List Int} (h:VL v ls):¬v.rest:=fun k=>by
 obtain ⟨e,he⟩:∃e,v.evs[0]? =some e:=As (by rw [k.2];omega)
 exact (h.ev e (List.mem_of_getElem? he)).2 ((J3 he).1 k.1)
theorem VL.len {v:Vo} {ls:List Int} (h:VL v ls):ls.length=v.evs.length:=by rw [h.tl.ls,Il,Hx]
theorem VL.evs {v:Vo} {ls:List Int} (h:VL v ls):v.evs.length≤128:=by have:=h.tl.wl;rwa [Hx] at this
theorem VL.inn {v:Vo} {ls:List Int} (h:VL v ls):Fv v=0∧G6 v=ls:=by have:=(Afx h.norest).2 h;exact ⟨this.1,this.2.symm⟩
theorem P1 {v:Vo} {L:Int} {ls:List Int} (h:¬v.rest):(ckE v L=0∧ls=ckL v L)↔1≤L∧L≤15482880∧VL v ls∧(v.evs≠ []→tot ls=L):=by
 have hz:∀l:List Ev,l= []↔l.length=0:=fun l=>by cases l<;>simp
 constructor
 ·rintro ⟨h1,h2⟩
  obtain ⟨h3,h4⟩:=Ou h1
  obtain ⟨h5,_,h6,h7⟩:=len_ok h3
  have h8:B5 v L=Fv v:=by rw [B5,if_neg (by omega),if_neg (by omega),if_neg (show ¬(v.whole∧v.evs.length=1) from h)]
  have h9:C8 v L=G6 v:=by rw [C8,if_neg (by omega),if_neg (show ¬(v.whole∧v.evs.length=1) from h)]
  have hv:VL v ls:=(Afx h).1 ⟨by omega,by rw [h2,h4,h9]⟩
  refine ⟨h6,h7,hv,fun hne=> ?_⟩
  rw [h2,h4]
  unfold ckE at h1
  split at h1
  ·omega
  ·rename_i c
   refine Decidable.not_not.1 fun k=>c ⟨h3, ?_,k⟩
   rw [h9,hv.inn.2,hv.len]
   have:=(not_congr (hz v.evs)).1 hne;omega
 ·rintro ⟨h6,h7,hv,ht⟩
  obtain ⟨h1,h2⟩:=hv.inn
  have h5:=hv.evs
  have h8:B5 v L=0:=by rw [B5,if_neg (by omega),if_neg (by omega),if_neg (show ¬(v.whole∧v.evs.length=1) from h)];exact h1
  have h9:C8 v L=ls:=by rw [C8,if_neg (by omega),if_neg (show ¬(v.whole∧v.evs.length=1) from h)];exact h2
  have h10:ckE v L=0:=by
   rw [ckE,if_neg]
   ·exact h8
   ·rintro ⟨_,k1,k2⟩
    rw [h9] at k1 k2
    rw [hv.len] at k1
    exact k2 (ht fun e=>by rw [hz] at e;omega)
  exact ⟨h10,by rw [ckL,if_neg (by omega),h9]⟩
theorem Rq {v:Vo} {L:Int} (h:v.rest) (h1:ckE v L=0):v.tups= []∧ckL v L= [L]∧∃e,v.evs= [e]∧e.err=0∧e.kind=3:=by
 obtain ⟨h3,h4⟩:=Ou h1
 obtain ⟨h5,h2,h6,h7⟩:=len_ok h3
 have h':=h
 obtain ⟨hw,hl⟩:=h
 cases hv:v.evs with
 |nil=>rw [hv] at hl;cases hl
 |cons e l=>
  have hl2:l= []:=by rw [hv] at hl;exact List.eq_nil_of_length_eq_zero (by simpa using hl)
  subst hl2
  have he:v.evs[0]? =some e:=by rw [hv];rfl
  have:=Xt (L:=L) (by omega) (by omega) (by omega) hw (by omega) he
  rw [h3] at this
  refine ⟨?_,by rw [h4,C8,if_neg (by omega),if_pos (show v.whole∧v.evs.length=1 from h')],e,rfl, ?_,(J3 he).1 hw⟩
  ·by_cases c:e.err≠0
   ·rw [if_pos c] at this;exact absurd this.symm c
   ·rw [if_neg c] at this
    by_cases c2:0<v.tups.length
    ·rw [if_pos c2] at this;omega
    ·exact List.eq_nil_of_length_eq_zero (by omega)
  ·by_cases c:e.err≠0
   ·rw [if_pos c] at this;exact absurd this.symm c
   ·exact Decidable.not_not.1 c
def partV (v:Vo) (a n:Nat):Vo:=⟨(v.evs.drop a).take n,(v.tups.filter fun t=>decide ((a:Int)≤t.first∧t.first<(a:Int)+n)).map (Tp.mv (-a))⟩
theorem VL.repl {v x:Vo} {ls lx:List Int} {a n:Nat} (h:VL v ls) (ha:a+n≤v.evs.length) (h1:Td v.tups a) (h2:Td v.tups ((a:Int)+n)) (hx:VL x lx) (hc:v.evs.length - n+x.evs.length≤128)
  (ht:(Br v a n x).tups.length≤16):VL (Br v a n x) (ls.take a++lx++ls.drop (a+n)):=by
 have hwl:=Hx v.evs
 obtain ⟨hA,_⟩:=h.tl.cut (a:=a) (by rw [hwl];omega) h1
 obtain ⟨_,hC⟩:=h.tl.cut (a:=a+n) (by rw [hwl];exact ha) (by rw [Int.natCast_add];exact h2)
 have hXC:=TL.app hx.tl hC (by rw [List.length_drop,hwl,Hx];omega)
 have e0:B6 (fun t=>decide (t.first<(a:Int))) 0 v.tups=v.tups.filter fun t=>decide (t.first<(a:Int)):=by
  unfold B6
  rw [show Tp.mv 0=id from funext Ri,List.map_id]
 have e1:(B6 (fun t=>decide ((a:Int)+n≤t.first)) (x.evs.length - n) v.tups)=((((v.tups.filter fun t=>decide (((a+n:Nat):Int)≤t.first)).map (Tp.mv (-((a+n:Nat):Int)))).map (Tp.mv (wrS x.evs).length)).map (Tp.mv ((wrS v.evs).take a).length)):=by
  unfold B6
  rw [List.map_map,List.map_map,show (((wrS v.evs).take a).length)=a from by rw [List.length_take,hwl];omega,Hx]
  have:(Tp.mv (a:Int))∘((Tp.mv (x.evs.length:Int))∘Tp.mv (-((a+n:Nat):Int)))=Tp.mv (x.evs.length - n):=by
   funext t
   show ((t.mv _).mv _).mv _=_
   rw [Ahe,Ahe];congr 1;omega
  rw [show ((Tp.mv (a:Int))∘(Tp.mv (x.evs.length:Int)))∘Tp.mv (-((a+n:Nat):Int))=Tp.mv (x.evs.length - n) from this,Int.natCast_add]
 have e2:B6 (fun _=>true) a x.tups=x.tups.map (Tp.mv ((wrS v.evs).take a).length):=by
  unfold B6
  rw [List.filter_eq_self.2 (fun _ _=>rfl),show (((wrS v.evs).take a).length)=a from by rw [List.length_take,hwl];omega]
 have et:(Br v a n x).tups=(v.tups.filter fun t=>decide (t.first<(a:Int)))++(x.tups++((v.tups.filter fun t=>decide (((a+n:Nat):Int)≤t.first)).map (Tp.mv (-((a+n:Nat):Int)))).map (Tp.mv (wrS x.evs).length)).map (Tp.mv ((wrS v.evs).take a).length):=by
  show B6 _ 0 v.tups++B6 _ a x.tups++B6 _ _ v.tups=_
  rw [e0,e1,e2,List.map_append,List.append_assoc]
 have ht2:=ht
 rw [et,List.length_append,List.length_map] at ht2
 have hXC:=hXC (by rw [List.length_append,List.length_map] at ht2;omega)
 have hall:=TL.app hA hXC (by rw [List.length_take,List.length_append,List.length_drop,hwl,Hx];omega) ht2
 refine ⟨?_,fun e he=> ?_⟩
 ·rw [et]
  have:wrS (Br v a n x).evs=(wrS v.evs).take a++(wrS x.evs++(wrS v.evs).drop (a+n)):=by
   show wrS (v.evs.take a++x.evs++v.evs.drop (a+n))=_
   rw [Ut,Ut,Ak4,Ak5,List.append_assoc]
  rw [this,List.append_assoc];exact hall
 ·rcases List.mem_append.1 he with k|k
  ·rcases List.mem_append.1 k with k|k
   ·exact h.ev e (List.mem_of_mem_take k)
   ·exact hx.ev e k
  ·exact h.ev e (List.mem_of_mem_drop k)
theorem Amv {d:Int} (h:Es d=0):Da (B7 d)=0∧B8 (B7 d)=d:=by
 unfold Es at h
 split at h
 ·omega
 ·rename_i c
  cases hf:Ht d allV with
  |none=>exact absurd hf c
  |some v=>
   have e:B7 d=v:=by rw [B7,hf];rfl
   rw [e]
   have h1:=List.mem_of_find?_eq_some hf
   have h2:=List.find?_some hf
   obtain ⟨q,_,rfl⟩:=List.mem_map.1 h1
   exact ⟨(P9 (X3 q.2)).symm,by simpa using h2⟩
theorem W3:Es 7560=0:=by decide+kernel
theorem Ais {m:Me} {a:Int}:∀k,0<k→(D4 m a k).2.2=true
 |k+1,_=>by
  by_cases c:(D4 m a k).2.2=false∨m.level (a+7560*(k+1))<(D4 m a k).2.1
  ·rw [If c]
  ·rw [D4,if_neg c]
   cases e:(D4 m a k).2.2 with
   |true=>rfl
   |false=>exact absurd (.inl e) c
theorem Rv {m:Me} {a b:Int} (h:(m.strong a b).2.2=false):C6 a b=0:=by
 by_cases c:C6 a b=0
 ·exact c
 ·have:=Ais (m:=m) (a:=a) (C6 a b) (by omega)
  rw [show D4 m a (C6 a b)=m.strong a b from rfl,h] at this
  cases this
theorem O2 {m:Me}:∀(f:Nat) (a b:Int),SpP f a b→a % 7560=0→b % 7560=0→tot ((D5 m f a b).map B8)=b - a∧∀v∈D5 m f a b,Da v=0
 |0,a,b,h,_,_=>by have:=h.2.2.2.2;omega
 |f+1,a,b,h,ha,hb=>by
  by_cases c:a=b
  ·rw [Cf c];exact ⟨by show (0:Int)=b - a;omega,fun v hv=>by cases hv⟩
  ·by_cases c2:m.simp a b∨(m.strong a b).2.2=false
   ·rw [Ce c c2]
    have h0:Es (b - a)=0:=by
     rcases c2 with k|k
     ·exact k.1
     ·have k2:=Rv k
      have:=h.2.1
      unfold C6 at k2
      have:b - a=7560:=by omega
      rw [this];exact W3
    obtain ⟨h1,h2⟩:=Amv h0
    refine ⟨?_,fun v hv=>by rw [List.mem_singleton.1 hv];exact h1⟩
    rw [List.map_singleton,h2,Gv,Is];omega
   ·have hs:¬m.simp a b:=fun k=>c2 (.inl k)
    have hw:(m.strong a b).2.2=true:=by
     cases e:(m.strong a b).2.2 with
     |true=>rfl
     |false=>exact absurd (.inr e) c2
    obtain ⟨h1,h2,_⟩:=Fs h hw
    obtain ⟨j,_,hj⟩:=Qc hw
    obtain ⟨q1,q2⟩:=O2 f _ _ h1 ha (by rw [hj];omega)
    obtain ⟨q3,q4⟩:=O2 f _ _ h2 (by rw [hj];omega) hb
    rw [Cg c hs hw,List.map_append,Kv]
    refine ⟨by rw [q1,q3];omega,fun v hv=> ?_⟩
    rcases List.mem_append.1 hv with k|k
    ·exact q2 v k
    ·exact q4 v k
theorem Vu {m:Me} {a b:Int} (h:m.splitE a b=0):m.err=0∧0≤a∧a≤b∧b≤4398046511104∧a % 7560=0∧b % 7560=0∧b - a≤15482880∧m.split a b=D5 m (C6 a b+1) a b:=by
 have hs:m.split a b=D5 m (C6 a b+1) a b:=by rw [Me.split,if_pos h]
 unfold Me.splitE at h
 split at h
 ·omega
 ·split at h
  ·omega
  ·split at h
   ·omega
   ·split at h
    ·omega
    ·exact ⟨by omega,by omega,by omega,by omega,by omega,by omega,by omega,hs⟩
theorem Aiv {m:Me} {a b:Int} (h:m.splitE a b=0):tot ((m.split a b).map B8)=b - a∧∀v∈m.split a b,Da v=0:=by
 obtain ⟨_,h1,h2,h3,h4,h5,h6,h7⟩:=Vu h
 rw [h7]
 exact O2 _ a b ⟨h1,h2,h3,h6,Nat.le_refl _⟩ h4 h5
theorem err_iff {e:Ev}:e.err=0↔e.e1=0∧(1≤e.kind∧e.kind≤4)∧e.same e.strip∧(e.kind≠3→Da e.v=0)∧(e.kind=1→e.e2=0)∧e.e3=0:=by
 unfold Ev.err
 split
 ·rename_i c;exact ⟨fun h=>absurd h c,fun h=>absurd h.1 c⟩
 ·rename_i c
  split
  ·rename_i c2;exact ⟨fun h=>by omega,fun h=>absurd h.2.1 c2⟩
  ·rename_i c2
   split
   ·rename_i c3;exact ⟨fun h=>by omega,fun h=>absurd h.2.2.1 c3⟩
   ·rename_i c3
    split
    ·rename_i c4;exact ⟨fun h=>by omega,fun h=>absurd (h.2.2.2.1 c4.1) c4.2⟩
    ·rename_i c4
     split
     ·rename_i c5;exact ⟨fun h=>absurd h c5.2,fun h=>absurd (h.2.2.2.2.1 c5.1) c5.2⟩
     ·rename_i c5
      refine ⟨fun h=>⟨Decidable.not_not.1 c,Decidable.not_not.1 c2,Decidable.not_not.1 c3,fun k=>Decidable.not_not.1 fun j=>c4 ⟨k,j⟩,fun k=>Decidable.not_not.1 fun j=>c5 ⟨k,j⟩,h⟩,fun h=>h.2.2.2.2.2⟩
theorem first_zero {l:List Int}:Cx l=0↔∀x∈l,x=0:=by
 induction l with
 |nil=>simp [Cx]
 |cons x l ih=>
  rw [Cx]
  by_cases h:x=0
  ·rw [if_neg (by omega),ih];simp [h]
  ·rw [if_pos h];simp [h]
theorem Acn {n m:Int}:Bn n m=0↔0≤n∧n≤m:=by
 unfold Bn
 split<;>omega
theorem R5 {f:Hd→Hd} (hp:∀h,(f h).p=h.p):∀{l:List Hd} {n:Int},(∀h∈l,Bn h.sh 2=0→Bn (f h).sh 2=0)→Er n l=0→Er n (l.map f)=0
 | [],n,_,_=>rfl
 |h::t,n,hf,h0=>by
  rw [Er] at h0
  rw [List.map_cons,Er,hp]
  split at h0
  ·rename_i c;exact absurd h0 c
  ·rename_i c
   split at h0
   ·omega
   ·rename_i c2
    have hw:Hq h=0:=Decidable.not_not.1 c
    have hw2:Hq (f h)=0:=by
     unfold Hq at hw ⊢
     rw [first_zero] at hw ⊢
     intro x hx
     have h1:=hw h.p.err (by simp)
     have h2:=hf h List.mem_cons_self (hw _ (by simp))
     rw [hp] at hx
     simp only [List.mem_cons,List.not_mem_nil,or_false] at hx
     rcases hx with e|e
     ·rw [e];exact h1
     ·rw [e];exact h2
    rw [if_neg (by omega),if_neg c2]
    exact R5 hp (fun x hx=>hf x (List.mem_cons_of_mem _ hx)) h0
theorem Qv {f:Hd→Hd} (hp:∀h,(f h).p=h.p) {l:List Hd} (hf:∀h∈l,Bn h.sh 2=0→Bn (f h).sh 2=0) (h:Cj l=0):Cj (l.map f)=0:=by
 unfold Cj at h ⊢
 rw [List.length_map]
 split at h
 ·omega
 ·split at h
  ·omega
  ·rename_i c1 c2
   rw [if_neg c1,if_neg c2];exact R5 hp hf h
theorem Ev.err_put {x:Ev} (h:x.err=0) (hk:x.kind≠3) {v:Val} (hv:Da v=0) (t:Bool):(x.put v t).err=0:=by
 rw [err_iff] at h ⊢
 obtain ⟨h1,h2,h3,h4,h5,h6⟩:=h
 refine ⟨h1,h2, ?_,fun _=>hv,fun k=> ?_,h6⟩
 ·by_cases c:x.kind=1
  ·have:(x.put v t).strip=x.put v t:=(Rb (e:=x.put v t) c).symm
   rw [this];exact ⟨rfl,rfl,rfl,rfl,rfl,rfl,rfl,rfl,rfl,rfl⟩
  ·have hs:x.strip=⟨x.site,x.num,x.kind,x.v, [], [],if x.kind≠4 then Et x.art else 0,0,x.dyn, [],0,0⟩:=by rw [Ev.strip,if_neg (by omega),if_pos hk]
   have hs2:(x.put v t).strip=⟨x.site,x.num,x.kind,v, [], [],if x.kind≠4 then Et x.art else 0,0,x.dyn, [],0,0⟩:=by
    have:¬((x.put v t).kind=1∨¬(1≤(x.put v t).kind∧(x.put v t).kind≤4)):=by show ¬(x.kind=1∨¬(1≤x.kind∧x.kind≤4));omega
    rw [Ev.strip,if_neg this,if_pos (show (x.put v t).kind≠3 from hk)];rfl
   rw [hs] at h3
   rw [hs2]
   obtain ⟨k1,k2,k3,k4,k5,k6,k7,k8,k9,k10⟩:=h3
   refine ⟨k1,rfl,k3,k4,k5,k6,k7, ?_,k9,k10⟩
   show (if t then x.heads.map Hd.tie else x.heads)= []
   rw [show x.heads= [] from k8];cases t<;>rfl
 ·have:=h5 k
  unfold Ev.e2 at this ⊢
  rw [first_zero] at this ⊢
  intro y hy
  simp only [List.mem_cons,List.not_mem_nil,or_false] at hy
  rcases hy with e|e|e
  ·rw [e]
   have h7:=this (Cj x.heads) (by simp)
   show Cj (if t then x.heads.map Hd.tie else x.heads)=0
   cases t with
   |false=>exact h7
   |true=>exact Qv (f:=Hd.tie) (fun _=>rfl) (fun _ _ j=>j) h7
  ·rw [e];exact this _ (by simp [Ev.put])
  ·rw [e];exact this _ (by simp [Ev.put])
theorem Ev.err_further {x:Ev} (h:x.err=0) (hk:x.kind≠3):x.further.err=0:=by
 rw [err_iff] at h ⊢
 obtain ⟨h1,h2,h3,h4,h5,h6⟩:=h
 have h6':=first_zero.1 h6
 refine ⟨by rfl,h2, ?_,fun _=>by rfl,fun k=> ?_, ?_⟩
 ·by_cases c:x.kind=1
  ·have:x.further.strip=x.further:=(Rb (e:=x.further) c).symm
   rw [this];exact ⟨rfl,rfl,rfl,rfl,rfl,rfl,rfl,rfl,rfl,rfl⟩
  ·have hs:x.strip=⟨x.site,x.num,x.kind,x.v, [], [],if x.kind≠4 then Et x.art else 0,0,x.dyn, [],0,0⟩:=by rw [Ev.strip,if_neg (by omega),if_pos hk]
   have hs2:x.further.strip=⟨0,0,x.kind,⟨0,0⟩, [], [],if x.kind≠4 then Et 0 else 0,0,0, [],0,0⟩:=by
    have:¬(x.further.kind=1∨¬(1≤x.further.kind∧x.further.kind≤4)):=by show ¬(x.kind=1∨¬(1≤x.kind∧x.kind≤4));omega
    rw [Ev.strip,if_neg this,if_pos (show x.further.kind≠3 from hk)];rfl
   rw [hs] at h3
   rw [hs2]
   obtain ⟨k1,k2,k3,k4,k5,k6,k7,k8,k9,k10⟩:=h3
   refine ⟨rfl,rfl, ?_,rfl,rfl,k6,rfl, ?_,rfl,rfl⟩
   ·show (0:Int)=if x.kind≠4 then Et 0 else 0
    split<;>rfl
   ·show x.heads.map Hd.plain= []
    rw [show x.heads= [] from k8];rfl
 ·have:=h5 k
  unfold Ev.e2 at this ⊢
  rw [first_zero] at this ⊢
  intro y hy
  simp only [List.mem_cons,List.not_mem_nil,or_false] at hy
  rcases hy with e|e|e
  ·rw [e]
   exact Qv (f:=Hd.plain) (fun _=>rfl) (fun _ _ _=>rfl) (this (Cj x.heads) (by simp))
  ·rw [e];rfl
  ·rw [e];rfl
 ·refine first_zero.2 fun y hy=> ?_
  simp only [List.mem_cons,List.not_mem_nil,or_false] at hy
  rcases hy with e|e|e|e|e
  ·rw [e];rfl
  ·rw [e];rfl
  ·rw [e];rfl
  ·rw [e];exact h6' _ (by simp [Ev.further])
  ·rw [e];rfl
theorem Ev.len_ok {x:Ev} (h:x.err=0) (hk:x.kind≠3):x.len=B8 x.v:=by
 rw [Ev.len,if_neg (by omega),P8,if_pos ((err_iff.1 h).2.2.2.1 hk)]
theorem We {x:Ev} (h:x.err=0) (hk:x.kind≠3) {v:Val} (hv:Da v=0) (n i:Nat) (fu:Bool):(Cc x n fu i v).err=0∧(Cc x n fu i v).kind≠3∧(Cc x n fu i v).v=v:=by
 unfold Cc
 split
 ·exact ⟨Ev.err_put (Ev.err_further h hk) hk hv _,hk,rfl⟩
 ·exact ⟨Ev.err_put h hk hv _,hk,rfl⟩
theorem Ajv {x:Ev} (h:x.err=0) (hk:x.kind≠3) {vs:List Val} (hv:∀v∈vs,Da v=0) (fu:Bool):(∀e∈Bf x vs fu,e.err=0∧e.kind≠3)∧wrS (Bf x vs fu)=vs.map B8:=by
 constructor
 ·intro e he
  obtain ⟨i,hi⟩:=List.getElem?_of_mem he
  rw [Bf,List.getElem?_mapIdx] at hi
  cases hv2:vs[i]? with
  |none=>rw [hv2] at hi;cases hi
  |some v=>
   rw [hv2] at hi;cases hi
   have:=We h hk (hv v (List.mem_of_getElem? hv2)) vs.length i fu
   exact ⟨this.1,this.2.1⟩
 ·unfold wrS
  refine List.ext_getElem? fun i=> ?_
  rw [List.getElem?_map,Bf,List.getElem?_mapIdx,List.getElem?_map]
  cases hv2:vs[i]? with
  |none=>rfl
  |some v=>
   have:=We h hk (hv v (List.mem_of_getElem? hv2)) vs.length i fu
   simp only [Option.map_some]
   rw [Ev.len_ok this.1 this.2.1,this.2.2]
theorem Ah6 {p:Int} (h0:0≤p) (n:Nat):(Ew p n).1+(Ew p n).2≤2*p:=by
 induction n with
 |zero=>simp [Ew];omega
 |succ n ih=>have:=(Kj h0 n).1;simp only [Ew];omega
theorem Aqc {v:Val} (h:Da v=0):0≤B8 v∧B8 v≤7741440:=by
 have h1:=Lh v
 have h2:=Ah6 h1.1 v.dots.toNat
 have h3:=Kj h1.1 v.dots.toNat
 unfold B8
 omega
theorem And {l:List Ev} (h:∀e∈l,e.err=0∧e.kind≠3):∀w∈wrS l,0≤w∧w≤7741440:=by
 intro w hw
 obtain ⟨e,he,rfl⟩:=List.mem_map.1 hw
 have:=h e he
 rw [Ev.len_ok this.1 this.2]
 exact Aqc ((err_iff.1 this.1).2.2.2.1 this.2)
theorem VL.nil {l:List Ev} (h:∀e∈l,e.err=0∧e.kind≠3) (hl:l.length≤128):VL ⟨l, []⟩ (wrS l):=⟨TL.nil (by rw [Hx];exact hl) (And h),h⟩
end Go.Proofs.YtcihalbakenleaaGreat
namespace Go.Proofs.YtcihalbakenleaaGreat
theorem TV.mono {l:List Tp} {n m:Int} (h:TV l n) (hm:n≤m):TV l m:=⟨fun t ht=>by have:=h.inR t ht;unfold Tp.inR at*;omega,h.ord,h.nest,h.dep⟩
theorem TL.err128 {T:List Tp} {ws ls:List Int} (h:TL T ws ls):Eb T 128=0:=tupErr_iff.2 ⟨by omega,by omega,h.tl,h.tv.mono (by have:=h.wl;omega)⟩
theorem Md {T:List Tp} {ws ls:List Int} (h:TL T ws ls) (k:Int):H4 T k=(hits T k:Int):=by rw [H4,if_neg (by have:=h.err128;omega)]
theorem Ny {T:List Tp} {k:Int} (h:hits T k=0):∀t∈T,¬t.has k:=by
 intro t ht hh
 unfold hits at h
 have:=List.eq_nil_of_length_eq_zero h
 rw [List.filter_eq_nil_iff] at this
 exact this t ht (by simpa using hh)
theorem Af1 {T:List Tp} {k:Int} (h:∀t∈T,¬t.has k):Td T k∧Td T (k+1):=by
 refine ⟨fun t ht=> ?_,fun t ht=> ?_⟩<;>(have:=h t ht;unfold Tp.has at this;unfold Tp.e;omega)
theorem Arm {l:List Ev} (h:∀e∈l,e.err=0):Evs l:=fun e he=>by
 have:=first_zero.1 (err_iff.1 (h e he)).2.2.2.2.2 (Bn e.art 31) (by simp)
 rw [Acn] at this
 omega
theorem Kk {v:Vo} {L:Int} (h:ckE v L=0):(∀e∈v.evs,e.err=0)∧Evs v.evs:=by
 have h1:∀e∈v.evs,e.err=0:=by
  by_cases c:v.rest
  ·obtain ⟨_,_,e,he,h2,_⟩:=Rq c h
   intro x hx
   rw [he] at hx
   rw [List.mem_singleton.1 hx];exact h2
  ·obtain ⟨_,_,hv,_⟩:=(P1 c).1 ⟨h,rfl⟩
   exact fun e he=>(hv.ev e he).1
 exact ⟨h1,Arm h1⟩
theorem Ap1 {v x:Vo} {L:Int} {a n:Nat} {lx:List Int} (h:ckE v L=0) (hr:¬v.rest) (ha:a+n≤v.evs.length) (h1:Td v.tups a) (h2:Td v.tups ((a:Int)+n)) (hx:VL x lx)
  (hc:v.evs.length - n+x.evs.length≤128) (ht:(Br v a n x).tups.length≤16) (ht2:v.evs≠ []→tot lx=tot (((ckL v L).drop a).take n)) (hn:(Br v a n x).evs≠ []→v.evs≠ []):
  ckE (Br v a n x) L=0∧ckL (Br v a n x) L=(ckL v L).take a++lx++(ckL v L).drop (a+n)∧¬(Br v a n x).rest:=by
 obtain ⟨h3,h4,hv,h5⟩:=(P1 hr).1 ⟨h,rfl⟩
 have hl:=hv.len
 have hR:=hv.repl ha h1 h2 hx hc ht
 have:=(P1 hR.norest).2 ⟨h3,h4,hR,fun hne=> ?_⟩
 ·exact ⟨this.1,this.2.symm,hR.norest⟩
 ·have hne:=hn hne
  rw [Kv,Kv,ht2 hne]
  have e:ckL v L=(ckL v L).take a++((ckL v L).drop a).take n++(ckL v L).drop (a+n):=by
   rw [List.append_assoc, ←List.drop_drop,List.take_append_drop,List.take_append_drop]
  have:=h5 hne
  rw [e,Kv,Kv] at this
  exact this
theorem Ql (p:Tp→Bool) (b:Int):B6 p b []= []:=rfl
theorem V1 {v:Vo} {a n:Nat} {l:List Ev}:(Br v a n ⟨l, []⟩).tups.length≤v.tups.length:=by
 show (B6 _ 0 v.tups++B6 _ a []++B6 _ _ v.tups).length≤_
 rw [Ql,List.append_nil,List.length_append]
 unfold B6
 rw [List.length_map,List.length_map, ←List.countP_eq_length_filter, ←List.countP_eq_length_filter]
 have:∀l:List Tp,l.countP (fun t=>decide (t.first<(a:Int)))+l.countP (fun t=>decide ((a:Int)+n≤t.first))≤l.length:=by
  intro l
  induction l with
  |nil=>simp
  |cons t l ih=>
   rw [List.countP_cons,List.countP_cons,List.length_cons]
   by_cases c:t.first<(a:Int)
   ·have c2:¬(a:Int)+n≤t.first:=by omega
    simp [c,c2];omega
   ·simp [c];split<;>omega
 exact this _
inductive DivR (v:Vo) (p:Pl) (t:Int):Prop
 |same (h:Fn v p t=(v,0))
 |err (h:(Fn v p t).2≠0) (h1:(Fn v p t).1=⟨[], []⟩)
 |div (k:Nat) (a w:Int) (x:Ev) (hk:v.evs[k]? =some x) (hw:(ckL v p.len)[k]? =some w) (ha:a=tot ((ckL v p.len).take k)) (hat:atV v p.len t=((k:Int),a)) (hat2:atE v p.len t=0) (hne:a≠t) (hd:∀s∈v.tups,¬s.has k)
   (h1:p.m.splitE (p.off+a) (p.off+t)=0) (h2:p.m.splitE (p.off+t) (p.off+(a+w))=0) (hl:(Br v k 1 ⟨Na p t a w x, []⟩).evs.length≤128) (h:Fn v p t=(Br v k 1 ⟨Na p t a w x, []⟩,0))
theorem Up {v:Vo} {L:Int} (h:ckE v L=0):∃ws ls,TL v.tups ws ls:=by
 by_cases c:v.rest
 ·obtain ⟨e,_⟩:=Rq c h
  rw [e];exact ⟨[], [],TL.nil (Nat.zero_le _) fun w hw=>by cases hw⟩
 ·exact ⟨_,_,((P1 c).1 ⟨h,rfl⟩).2.2.1.tl⟩
end Go.Proofs.YtcihalbakenleaaGreat
namespace Go.Proofs.YtcihalbakenleaaGreat
open Go.RowKit
def Cy (v:Vo) (k:Int):Prop:=k<v.evs.length∧H4 v.tups k=0
instance (v:Vo) (k:Int):Decidable (Cy v k):=by unfold Cy;exact inferInstance
theorem tiedTo_iff {a b:List Hd}:Ju a b↔∀p∈a.zip b,p.1.tied=true∧p.1.p=p.2.p:=by
 constructor
 ·intro h p hp
  obtain ⟨j,hj⟩:=List.getElem?_of_mem hp
  rw [List.getElem?_zip_eq_some] at hj
  exact h j p.1 p.2 hj.1 hj.2
 ·intro h j x y hx hy
  exact h (x,y) (List.mem_of_getElem? (List.getElem?_zip_eq_some.2 ⟨hx,hy⟩))
instance (a b:List Hd):Decidable (Ju a b):=decidable_of_iff _ tiedTo_iff.symm
instance (x y:Ev) (s:Int):Decidable (x.conts y s):=by unfold Ev.conts;exact inferInstance
theorem Rp {x y:Ev} {s:Int} (h:x.contB y s=true):x.conts y s:=by unfold Ev.contB at h;exact @of_decide_eq_true _ (Classical.propDecidable _) h
theorem Ot {x y:Ev} {s:Int} (h:x.contB y s=false):¬x.conts y s:=by unfold Ev.contB at h;exact @of_decide_eq_false _ (Classical.propDecidable _) h
def Jl (x y:Ev) (s:Int):Prop:=((x.silent∧y.silent)∧x.kind=y.kind)∨x.conts y s
instance (x y:Ev) (s:Int):Decidable (Jl x y s):=by unfold Jl;exact inferInstance
def Ee (v:Vo) (i k:Nat):Prop:=match v.evs[k - 1]?,v.evs[k]?,v.evs[i]? with
 |some x,some y,some z=>Jl x y z.stem
 |_,_,_=>False
instance (v:Vo) (i k:Nat):Decidable (Ee v i k):=by unfold Ee;split<;>exact inferInstance
theorem Dn {v:Vo} {i k:Nat} {x y z:Ev} (hx:v.evs[k - 1]? =some x) (hy:v.evs[k]? =some y) (hz:v.evs[i]? =some z):Ee v i k↔Jl x y z.stem:=by unfold Ee;rw [hx,hy,hz]
def H0 (v:Vo) (i:Nat):Nat→Nat→Nat
 |0,k=>k
 |f+1,k=>if (Cy v i∧Cy v k)∧Ee v i k then H0 v i f (k+1) else k
def Am (v:Vo) (i:Nat):Nat:=H0 v i v.evs.length (i+1)
theorem O9 {v:Vo} {i k:Nat} (h1:Cy v i) (h2:Cy v k) (h3:Ee v i k):H0 v i (v.evs.length+(i+1) - k) k=H0 v i (v.evs.length+(i+1) - (k+1)) (k+1):=by
 have h4:=h2.1
 obtain ⟨f,hf⟩:∃f,v.evs.length+(i+1) - k=f+1:=⟨v.evs.length+(i+1) - k - 1,by omega⟩
 have hf2:v.evs.length+(i+1) - (k+1)=f:=by omega
 rw [hf,hf2,H0,if_pos ⟨⟨h1,h2⟩,h3⟩]
theorem My {v:Vo} {i k:Nat} (h:¬((Cy v i∧Cy v k)∧Ee v i k)):H0 v i (v.evs.length+(i+1) - k) k=k:=by
 cases v.evs.length+(i+1) - k with
 |zero=>rfl
 |succ f=>rw [H0,if_neg h]
theorem Afi (v:Vo) (k:Int) (h0:0≤k) (hl:v.evs.length≤128):XC Tryz.prog 99 [.v (.int .i64 k), .pt (Vo.c v)] (fun r=>r=dB (decide (Cy v k))):=by
 refine Ap Adb Tryz.func99 R R lb<|zr<|za R R<|znr<|zm R R<|zp (A7 R R A0)<|zp (Aw R R Bl)<|XL.len R R R Tryz.underlying22 fun hl7=>zp (At R R R)<|zm R R<|?_
 refine XL.dec 9 R (fun g9=> ?_) (fun g9=> ?_)
 exact zp (A7 R R B0)<|zp (Aw R R Bz)<|zm R R<|XL.call1 R R (Zw _ _ (by omega) (by omega)) R<|zp (Az R R R)<|zq R R R<|za R R<|zn<|zt<|z1 R R (rB (by rw [decide_eq_decide];exact ⟨fun h=>⟨g9,h⟩,fun h=>h.2⟩))
 exact zk 5 R<|zq R R R<|za R R<|zn<|zt<|z1 R R (rB (by rw [eq_comm,decide_eq_false_iff_not];exact fun h=>g9 h.1))
theorem Aqq (v:Vo) (i:Nat) (hv:v.fit) (hl:v.evs.length≤128) (hi:i<v.evs.length):XC Tryz.prog 60 [.agg (Vo.c v), .v (.int .i64 (i:Nat))] (fun r=>r=dI (Am v i:Nat)):=by
 refine Ap Ad6 Tryz.func60 R R lb<|zr<|XL.step R (Ay 2 (l:= [.d (.sl 13 (v.evs.map Ev.c)), .d (.sl 4 (v.tups.map Tp.c))]) R R (by kernel_rfl))<|za R R<|znr<|XL.freezeP 2 (ds:=Vo.c v) R (by kernel_rfl) (by kernel_rfl)<|zp (Ag8 (pd:= []) (cd:= [_]) R R R)<|za R R<|znr<|zm R R<|zp (Ak R R R (by omega) (by omega))<|za R R<|zn<|zs<|?_
 refine Ag<|?_
 refine Ax (α:=Nat) (fun k=>H0 v i (v.evs.length+(i+1) - k) k=Am v i∧i+1≤k∧(k=i+1∨k≤v.evs.length)) (fun k=>mkF [(1, .d (dI (i:Nat))),(2, .d (.pt (Vo.c v))),(4, .d (dI 0)),(5, .d (.fn 99 [] [.pt (Vo.c v)])),(6, .d (dI (k:Nat)))]) (fun k=>mkH []) (fun k=>v.evs.length - k) (i+1) (⟨by rw [Nat.add_sub_cancel];rfl,Nat.le_refl _, .inl rfl⟩) ?_ ?_ ?_
 exact fz ⟨sr,sr,sr,sr, .same (sI (by omega)),trivial⟩
 exact HSub.nil
 intro k hk0
 obtain ⟨hgo,hk1,hk2⟩:=hk0
 refine zs<|zr<|zm R R<|zm R R<|XL.callv1 (ds:= [_]) R R R (Afi v i (by omega) hl) R<|zm R R<|?_
 refine XL.dec 16 R (fun g16=> ?_) (fun g16=> ?_)
 refine zm R R<|zm R R<|XL.callv1 (ds:= [_]) R R R (Afi v k (by omega) hl) R<|zq R R R<|zn<|?_
 refine zd R (fun c20=> ?_) (fun c20=> ?_)
 refine zi<|Ag<|zs<|?_
 have hkl:=c20.1
 obtain ⟨x,hx⟩:∃x,v.evs[k - 1]? =some x:=As (by omega)
 obtain ⟨y,hy⟩:∃y,v.evs[k]? =some y:=As (by omega)
 obtain ⟨z,hz⟩:∃z,v.evs[i]? =some z:=As hi
 have hyf:=hv.ev y (List.mem_of_getElem? hy)
 refine J2 13 14 [7,8] id 7 (S2 7 (.box [.d (dI x.site), .d (dI x.num), .d (dI x.kind), .d (dI x.v.log), .d (dI x.v.dots), .d (.sl 5 (x.heads.map Hd.c)), .d (.sl 5 (x.graces.map Gr.c)), .d (dI x.art), .d (dI x.orn), .d (dI x.dyn), .d (.sl 2 (x.lyr.map Sy.c)), .d (dI x.stem), .d (dI x.beam)])) (by kernel_rfl) (by kernel_rfl) (by kernel_rfl) (by kernel_rfl) (by decide)<|?_
 refine ChMK.bf R (CStep.pure (A7 R R A0)) (by conv=>lhs;whnf)<|?_
 refine ChMK.bf R (CStep.pure (Aw R R Bl)) (by conv=>lhs;whnf)<|?_
 refine ChMK.bf R (CStep.pure (Au R (by conv=>lhs;whnf))) (by conv=>lhs;whnf)<|?_
 refine ChMK.bf R (CStep.pure (C7 R R R (by omega) (by omega))) (by conv=>lhs;whnf)<|?_
 refine ChMK.bf R (CStep.pure (Dl R R R (by omega) Cv (hx))) (by conv=>lhs;whnf)<|?_
 refine ChMK.bf R (CStep.pure (Ad (s':= .d (.agg (Ev.c x))) (Ar R R A1 lb) (by kernel_rfl))) (by conv=>lhs;whnf)<|?_
 refine ChMK.fr R R (CStep.pure (A7 R R A0)) (CStep.pure (A7 R R A0)) (by exact rfl)<|ChMK.fr R R (CStep.pure (Aw R R Bl)) (CStep.pure (Aw R R Bl)) (by exact rfl)<|ChMK.fr R R (CStep.pure (Au R (by conv=>lhs;whnf))) (CStep.pure (Au R (by conv=>lhs;whnf))) (by exact rfl)<|?_
 refine ChMK.fr R R (CStep.pure (Aj R R R Cv (hy))) (CStep.pure (Aj R R R Cv (hy))) (by exact rfl)<|ChMK.fr R R (CStep.pure (Ad (s':= .d (.agg (Ev.c y))) (Ar R R A1 lb) (by kernel_rfl))) (CStep.pure (Ad (s':= .d (.agg (Ev.c y))) (Ar R R A1 lb) (by kernel_rfl))) (by exact rfl)<|?_
 refine ChMK.bfO R (CStep.allocN 7 (l:= [.d (dI 0), .d (dI 0), .d (dI 0), .d (dI 0), .d (dI 0), .d (.v (.slice none 0 0)), .d (.v (.slice none 0 0)), .d (dI 0), .d (dI 0), .d (dI 0), .d (.v (.slice none 0 0)), .d (dI 0), .d (dI 0)]) R B3 R R) (by conv=>lhs;whnf) (fun _ _=>Amf _ _)<|?_
 refine ChMK.bfN R (CStep.allocN 8 (l:= [.d (dI 0), .d (dI 0), .d (dI 0), .d (dI 0), .d (dI 0), .d (.v (.slice none 0 0)), .d (.v (.slice none 0 0)), .d (dI 0), .d (dI 0), .d (dI 0), .d (.v (.slice none 0 0)), .d (dI 0), .d (dI 0)]) R B3 R R) (by conv=>lhs;whnf) R R<|?_
 refine ChMK.mu R (Apf (l2:= [.d (dI x.site), .d (dI x.num), .d (dI x.kind), .d (dI x.v.log), .d (dI x.v.dots), .d (.sl 5 (x.heads.map Hd.c)), .d (.sl 5 (x.graces.map Gr.c)), .d (dI x.art), .d (dI x.orn), .d (dI x.dyn), .d (.sl 2 (x.lyr.map Sy.c)), .d (dI x.stem), .d (dI x.beam)]) R R R R B4 R lb (by kernel_rfl))<|?_
 refine ChMK.nil ⟨⟨by kernel_rfl,by kernel_rfl,by kernel_rfl⟩, ?_⟩
 refine XL.step R (Ai (l':= [.d (dI y.site), .d (dI y.num), .d (dI y.kind), .d (dI y.v.log), .d (dI y.v.dots), .d (.sl 5 (y.heads.map Hd.c)), .d (.sl 5 (y.graces.map Gr.c)), .d (dI y.art), .d (dI y.orn), .d (dI y.dyn), .d (.sl 2 (y.lyr.map Sy.c)), .d (dI y.stem), .d (dI y.beam)]) R R R R B4 R lb (by kernel_rfl))<|znr<|?_
 refine zp (Ad (s':= .d (.agg (Ev.c x))) (Ae (Ac R R A1 R lb)) (by kernel_rfl))<|XL.call1 R R (Vx _) R<|zm R R<|?_
 refine XL.dec 34 R (fun g34=> ?_) (fun g34=> ?_)
 refine zp (Ad (s':= .d (.agg (Ev.c y))) (Ae (Ac R R A1 R lb)) (by kernel_rfl))<|XL.call1 R R (Vx _) R<|zq R R R<|zm R R<|?_
 refine XL.dec 38 R (fun g38=> ?_) (fun g38=> ?_)
 refine zp (Aa R R Bp)<|zp (Ab R R Ah R R)<|zp (Aa R R Bp)<|zp (Ab R R Ah R R)<|zp (Az R R R)<|zq R R R<|za R R<|zn<|zs<|zs<|?_
 refine Ak2 9 R (fun o9=> ?_) (fun o9=> ?_)
 refine A8 [] (by kernel_rfl) (by kernel_rfl) (by kernel_rfl) (by decide)<|ym R R<|yp (Cr R R)<|ym R R<|ChK.skip R<|ChK.skip R<|ChK.skip R<|ChK.skip R<|ChK.skip R<|ChK.skip R<|ChK.skip R<|ChK.skip R<|ChK.skip R<|ChK.skip R<|?_
 refine yp (Av R R (by conv=>lhs;whnf))<|?_
 refine ChK.nil ⟨by kernel_rfl, ?_⟩
 refine A3 (by kernel_rfl) R<|zi<|Af (by kernel_rfl)<|zm R R<|zp (Ak R R R (by omega) (by omega))<|za R R<|zn<|Gh<|?_
 exact Al (k+1) (⟨by rw [←O9 g16 c20 ((Dn hx hy hz).2 (by first|exact .inl ⟨⟨g34,g38⟩,o9⟩|exact .inr (Rp (H7 c58))))];exact hgo,by omega,by have:=c20.1;omega⟩) (by have:=c20.1;omega) (fz ⟨sr,sr,sr,sr, .same (sI (by omega)),trivial⟩) (HSub.nil)
 refine A8 [] (by kernel_rfl) (by kernel_rfl) (by kernel_rfl) (by decide)<|ym R R<|yp (Cr R R)<|ym R R<|yp (Ad (s':= .d (.agg (Ev.c x))) (Ae (Ac R R A1 R lb)) (by kernel_rfl))<|yp (Ad (s':= .d (.agg (Ev.c y))) (Ae (Ac R R A1 R lb)) (by kernel_rfl))<|yp (A7 R R A0)<|yp (Aw R R Bl)<|ym R R<|yp (Aj R R R Cv (hz))<|?_
 refine yp (A7 R R Do)<|yp (Aw R R Ah)<|ChK.cons R (CStep.call R (S9 _ _ _ (hyf.1)) R)<|yp (Cr R R)<|yp (Av R R (by conv=>lhs;whnf))<|?_
 refine ChK.nil ⟨by kernel_rfl, ?_⟩
 refine Dw (by kernel_rfl) R (fun c58=> ?_) (fun c58=> ?_)
 exact An<|zr<|zm R R<|za R R<|zn<|zt<|z1 R R (rI (by rw [←hgo,My (by first|exact fun h=>g16 h.1.1|exact fun h=>c20 h.1.2|exact fun h=>(fun hj=>hj.elim (fun k=>by first|exact o9 k.2|exact g38 k.1.2|exact g34 k.1.1) (fun k=>Ot (Eg c58) k)) ((Dn hx hy hz).1 h.2))]))
 refine zi<|Af (by kernel_rfl)<|zm R R<|zp (Ak R R R (by omega) (by omega))<|za R R<|zn<|Gh<|?_
 exact Al (k+1) (⟨by rw [←O9 g16 c20 ((Dn hx hy hz).2 (by first|exact .inl ⟨⟨g34,g38⟩,o9⟩|exact .inr (Rp (H7 c58))))];exact hgo,by omega,by have:=c20.1;omega⟩) (by have:=c20.1;omega) (fz ⟨sr,sr,sr,sr, .same (sI (by omega)),trivial⟩) (HSub.nil)
 refine zk 5 R<|zq R R R<|za R R<|zn<|zs<|zs<|A8 [] (by kernel_rfl) (by kernel_rfl) (by kernel_rfl) (by decide)<|ym R R<|yp (Cr R R)<|ym R R<|yp (Ad (s':= .d (.agg (Ev.c x))) (Ae (Ac R R A1 R lb)) (by kernel_rfl))<|yp (Ad (s':= .d (.agg (Ev.c y))) (Ae (Ac R R A1 R lb)) (by kernel_rfl))<|yp (A7 R R A0)<|yp (Aw R R Bl)<|?_
 refine ym R R<|yp (Aj R R R Cv (hz))<|yp (A7 R R Do)<|yp (Aw R R Ah)<|ChK.cons R (CStep.call R (S9 _ _ _ (hyf.1)) R)<|yp (Cr R R)<|yp (Av R R (by conv=>lhs;whnf))<|?_
 refine ChK.nil ⟨by kernel_rfl, ?_⟩
 refine Dw (by kernel_rfl) R (fun c58=> ?_) (fun c58=> ?_)
 exact An<|zr<|zm R R<|za R R<|zn<|zt<|z1 R R (rI (by rw [←hgo,My (by first|exact fun h=>g16 h.1.1|exact fun h=>c20 h.1.2|exact fun h=>(fun hj=>hj.elim (fun k=>by first|exact o9 k.2|exact g38 k.1.2|exact g34 k.1.1) (fun k=>Ot (Eg c58) k)) ((Dn hx hy hz).1 h.2))]))
 refine zi<|Af (by kernel_rfl)<|zm R R<|zp (Ak R R R (by omega) (by omega))<|za R R<|zn<|Gh<|?_
 exact Al (k+1) (⟨by rw [←O9 g16 c20 ((Dn hx hy hz).2 (by first|exact .inl ⟨⟨g34,g38⟩,o9⟩|exact .inr (Rp (H7 c58))))];exact hgo,by omega,by have:=c20.1;omega⟩) (by have:=c20.1;omega) (fz ⟨sr,sr,sr,sr, .same (sI (by omega)),trivial⟩) (HSub.nil)
 refine zk 2 R<|zq R R R<|zm R R<|zk 5 R<|zq R R R<|za R R<|zn<|zs<|zs<|A8 [] (by kernel_rfl) (by kernel_rfl) (by kernel_rfl) (by decide)<|ym R R<|yp (Cr R R)<|ym R R<|yp (Ad (s':= .d (.agg (Ev.c x))) (Ae (Ac R R A1 R lb)) (by kernel_rfl))<|?_
 refine yp (Ad (s':= .d (.agg (Ev.c y))) (Ae (Ac R R A1 R lb)) (by kernel_rfl))<|yp (A7 R R A0)<|yp (Aw R R Bl)<|ym R R<|yp (Aj R R R Cv (hz))<|yp (A7 R R Do)<|yp (Aw R R Ah)<|ChK.cons R (CStep.call R (S9 _ _ _ (hyf.1)) R)<|yp (Cr R R)<|yp (Av R R (by conv=>lhs;whnf))<|?_
 refine ChK.nil ⟨by kernel_rfl, ?_⟩
 refine Dw (by kernel_rfl) R (fun c58=> ?_) (fun c58=> ?_)
 exact An<|zr<|zm R R<|za R R<|zn<|zt<|z1 R R (rI (by rw [←hgo,My (by first|exact fun h=>g16 h.1.1|exact fun h=>c20 h.1.2|exact fun h=>(fun hj=>hj.elim (fun k=>by first|exact o9 k.2|exact g38 k.1.2|exact g34 k.1.1) (fun k=>Ot (Eg c58) k)) ((Dn hx hy hz).1 h.2))]))
 refine zi<|Af (by kernel_rfl)<|zm R R<|zp (Ak R R R (by omega) (by omega))<|za R R<|zn<|Gh<|?_
 exact Al (k+1) (⟨by rw [←O9 g16 c20 ((Dn hx hy hz).2 (by first|exact .inl ⟨⟨g34,g38⟩,o9⟩|exact .inr (Rp (H7 c58))))];exact hgo,by omega,by have:=c20.1;omega⟩) (by have:=c20.1;omega) (fz ⟨sr,sr,sr,sr, .same (sI (by omega)),trivial⟩) (HSub.nil)
 exact An<|zr<|zm R R<|za R R<|zn<|zt<|z1 R R (rI (by rw [←hgo,My (by first|exact fun h=>g16 h.1.1|exact fun h=>c20 h.1.2|exact fun h=>(fun hj=>hj.elim (fun k=>by first|exact o9 k.2|exact g38 k.1.2|exact g34 k.1.1) (fun k=>Ot (Eg c58) k)) ((Dn hx hy hz).1 h.2))]))
 exact zk 3 R<|zq R R R<|zn<|A3 (by kernel_rfl) R<|An<|zr<|zm R R<|za R R<|zn<|zt<|z1 R R (rI (by rw [←hgo,My (by first|exact fun h=>g16 h.1.1|exact fun h=>c20 h.1.2|exact fun h=>(fun hj=>hj.elim (fun k=>by first|exact o9 k.2|exact g38 k.1.2|exact g34 k.1.1) (fun k=>Ot (Eg c58) k)) ((Dn hx hy hz).1 h.2))]))
end Go.Proofs.YtcihalbakenleaaGreat
namespace Go.Proofs.YtcihalbakenleaaGreat
open Go.RowKit
def idxS (p:Int→Bool) (l:List Int):Int:=match l.findIdx? p with|some k=>k|none=> -1
def Oq (on:List Int) (a:Int):Nat:=on.findIdx fun x=>decide (a≤x)
def Anr (on:List Int) (a b:Int):Nat:=Oq on a+((on.drop (Oq on a)).takeWhile fun x=>decide (a≤x∧x<b)).length
def Xl (t:Tp) (f l:Int):Prop:=max t.first f<min (t.first+t.count) l∧(max t.first f≠t.first∨min (t.first+t.count) l≠t.first+t.count)
instance (t:Tp) (f l:Int):Decidable (Xl t f l):=by unfold Xl;exact inferInstance
def As9 (d:Vo) (p:Pl) (a b:Int):Vo × Int × Int × Int:=
 if ∃t∈d.tups,Xl t (Oq (Ea (ckL d p.len)) a) (Anr (Ea (ckL d p.len)) a b) then (⟨[], []⟩,0,0,27) else (d,(Oq (Ea (ckL d p.len)) a:Int),(Anr (Ea (ckL d p.len)) a b:Int),0)
def Ata (v:Vo) (p:Pl) (a b:Int):Vo × Int × Int × Int:=
 if (Fn v p a).2≠0 then (⟨[], []⟩,0,0,(Fn v p a).2) else if (Fn (Fn v p a).1 p b).2≠0 then (⟨[], []⟩,0,0,(Fn (Fn v p a).1 p b).2) else As9 (Fn (Fn v p a).1 p b).1 p a b
def Yl (v:Vo) (p:Pl) (a b:Int):Vo × Int × Int × Int:=
 if p.chk v≠0 then (⟨[], []⟩,0,0,p.chk v) else if v.absent then (⟨[], []⟩,0,0,10) else if a<0∨b<a∨p.len<b then (⟨[], []⟩,0,0,2) else Ata v p a b
end Go.Proofs.YtcihalbakenleaaGreat
