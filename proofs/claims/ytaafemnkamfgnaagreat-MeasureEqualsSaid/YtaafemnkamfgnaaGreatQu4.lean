/- Part 4 of what the statements need: lemmas and walks. -/
import Derived.Lib.SliceRun
import Derived.Test.YtaafemnkamfgnaaGreatQu3
set_option linter.unusedVariables false
set_option linter.unusedSimpArgs false
set_option linter.unusedSectionVars false
namespace Go.Proofs.YtaafemnkamfgnaaGreat
open Go.RowKit
mutual
def S.inB (p:Nat→Bool):S→Bool
  | .any=>true
  | .d _=>true
  | .ptr i _ _=>p i
  | .own i=>p i
  | .sub i _ _=>p i
  | .agg l=>S.inBL p l
  | .fn _ a c=>S.inBL p a && S.inBL p c
  | .tup l=>S.inBL p l
def S.inBL (p:Nat→Bool):List S→Bool
  | []=>true
  |s::l=>S.inB p s && S.inBL p l
end
theorem S.inBL_get {p:Nat→Bool} {l:List S} (h:S.inBL p l=true) {j:Nat} {s:S} (hj:l[j]? =some s):s.inB p=true:=by
  induction l generalizing j with
  |nil=>cases hj
  |cons a l ih=>
    rw [S.inBL,Bool.and_eq_true] at h
    cases j with
    |zero=>cases hj;exact h.1
    |succ j=>exact ih h.2 (by simpa using hj)
theorem VS.within {H:Hp} {β β':Bt} {p:Nat→Bool} {u:Value} {s:S} (hs:VS H β u s) (hp:s.inB p=true) (hb:∀i L,p i=true→β i=some L→β' i=some L):VS H β' u s:=by
  induction hs with
  |any u=>exact .any u
  |d h=>exact .d h
  |ptr k off h=>exact .ptr k off (hb _ _ (by simpa [S.inB] using hp) h)
  |own h=>exact .own (hb _ _ (by simpa [S.inB] using hp) h)
  |sub a b h hv hab hn=>exact .sub a b (hb _ _ (by simpa [S.inB] using hp) h) hv hab hn
  |agg cs l e h ih=>exact .agg cs l e fun i x s hx hs=>ih i x s hx hs (S.inBL_get (by simpa [S.inB] using hp) hs)
  |fn f A C a c ha hc h h' ih ih'=>
    rw [S.inB,Bool.and_eq_true] at hp
    exact .fn f A C a c ha hc (fun i x s hx hs=>ih i x s hx hs (S.inBL_get hp.1 hs)) (fun i x s hx hs=>ih' i x s hx hs (S.inBL_get hp.2 hs))
  |tup cs l e h ih=>exact .tup cs l e fun i x s hx hs=>ih i x s hx hs (S.inBL_get (by simpa [S.inB] using hp) hs)
def XO.isRow:XO→Bool
  | .row _ _ _=>true
  | .tree _ _ [] _=>true
  |_=>false
def Asj (os:List (Nat × XO)) (i:Nat):Bool:=(mkH os i).isSome
def X1 (os:List (Nat × XO)):Bool:=os.all fun p=>p.2.isRow
theorem Afu {os:List (Nat × XO)} {i:Nat} {o:XO} (h:mkH os i=some o):(i,o)∈os:=by
  induction os with
  |nil=>cases h
  |cons p os ih=>
    obtain ⟨j,o'⟩:=p
    simp only [mkH] at h
    by_cases e:j=i
    · subst e;rw [Xh.set_same] at h;cases h;exact List.mem_cons_self
    · rw [Xh.set_ne _ _ e] at h;exact List.mem_cons_of_mem _ (ih h)
theorem Kb {os:List (Nat × XO)} (hr:X1 os=true) {i:Nat} {o:XO} (h:mkH os i=some o):o.isRow=true:=List.all_eq_true.1 hr _ (Afu h)
theorem mkH_lab {os:List (Nat × XO)} {i:Nat}:mkH os i=none↔i∉os.map (·.1):=by
  induction os with
  |nil=>simp [mkH]
  |cons p os ih=>
    obtain ⟨j,o'⟩:=p
    simp only [mkH,List.map_cons,List.mem_cons,not_or]
    by_cases e:j=i
    · subst e;rw [Xh.set_same];simp
    · rw [Xh.set_ne _ _ e,ih];exact ⟨fun h=>⟨fun k=>e k.symm,h⟩,fun h=>h.2⟩
theorem OKo.row_any {base base':Nat} {w:World} {H:Hp} {β β':Bt} {L:Loc} {o:XO} (hr:o.isRow=true) (hb:base'≤base) (h:OKo base w H β L o):OKo base' w H β' L o:=by
  cases o with
  |row e sz l=>
    obtain ⟨h0,hz,hv,us,h2,h3⟩:=h
    refine ⟨h0,hz,hv,us,⟨h2.1, ?_⟩,h3⟩
    rcases h2.2 with h|⟨g,cap,cur,e1,e2,e3⟩
    · exact .inl h
    · exact .inr ⟨g,cap,cur,e1,Nat.le_trans hb e2,e3⟩
  |box l=>cases hr
  |rowS e sz l=>cases hr
  |tree e sz ls l=>
    cases ls with
    |nil=>exact ⟨h.1,h.2.1,h.2.2.1,h.2.2.2.closed h.2.2.1 hb⟩
    |cons _ _=>cases hr
  |ghost u l=>cases hr
structure XS (P:Program) (F:FuncId) (ds:List D) (s:S) (os:List (Nat × XO)):Prop where
  callable:Callable P F
  rows:X1 os=true
  calls:∀(H:Hp) (w:World) (vs:Array Value),Imm H w→vs.size=ds.length→(∀(i:Nat) (x:Value) (d:D),vs[i]? =some x→ds[i]? =some d→VD H x d)→
    Calls P F vs w fun e w'=>∃H' β u,e= .returned u∧Sim ⟨w,H⟩ H' β (mkH os) w'∧VS H' β u s∧∀k,mkH os k=none→β k=none
def KS (P:Program) (n:Nat) (fn:Func) (s:S) (os:List (Nat × XO)):Cu
  | .normal,f,h=>Hz P n fn f h s∧HSub h (mkH os)
  | .ret,f,h=>Hz P n fn f h s∧HSub h (mkH os)
  |_,_,_=>False
theorem D4 {P:Program} {F:FuncId} {fn:Func} {c:Code} {n:Nat} {ds:List D} {s:S} {os:List (Nat × XO)} (hc:Callable P F) (hf:P.funcs[F]? =some fn) (hb:fn.body=some c) (hn:fn.ntmps=n)
    (hl:ds.length≤n) (hr:X1 os=true) (hw:s.inB (Asj os)=true) (h:XW P n c (KS P n fn s os) (V3 ds) (mkH [])):XS P F ds s os:=by
  refine ⟨hc,hr,fun H w vs him hsz hvs=>calls_of_wp hf hb ?_⟩
  have hs:Sim ⟨w,H⟩ H (fun _=>none) (mkH []) w:=
    ⟨Below.refl _ _,Hp.le.refl _,fun b o u e=> .inl e,him,fun i o L e=>(by cases e),fun i o L e=>(by cases e),fun i j o o' L L' b _ e=>(by cases e),fun i o e=>(by cases e)⟩
  have hfv:FV n H (fun _=>none) {tmps:=vs++Array.replicate (fn.ntmps - vs.size) undef,defers:= []} (V3 ds):=by
    refine ⟨rfl,by simp [hn,hsz];omega,fun t ht=> ?_⟩
    unfold V3
    cases hd:ds[t]? with
    |none=>
      have hge:ds.length≤t:=List.getElem?_eq_none_iff.1 hd
      have:(vs++Array.replicate (fn.ntmps - vs.size) undef).getD t undef=undef:=by
        rw [Array.getD_eq_getD_getElem?,Array.getElem?_append_right (by omega)]
        rw [Array.getElem?_replicate]
        split<;>rfl
      show VS H (fun _=>none) ((vs++Array.replicate (fn.ntmps - vs.size) undef).getD t undef) (.d (.v undef))
      rw [this]
      exact .d (.v _)
    |some d=>
      have hlt:t<ds.length:=(List.getElem?_eq_some_iff.1 hd).1
      have hx : vs[t]? = some (vs[t]'(by omega)) := Array.getElem?_eq_getElem (by omega)
      have : (vs ++ Array.replicate (fn.ntmps - vs.size) undef).getD t undef = vs[t]'(by omega) := by
        rw [Array.getD_eq_getD_getElem?,Array.getElem?_append_left (by omega),hx]
        rfl
      show VS H (fun _=>none) ((vs++Array.replicate (fn.ntmps - vs.size) undef).getD t undef) (.d d)
      rw [this]
      exact .d (hvs t _ d hx hd)
  refine wp_mono (h ⟨w,H⟩ H _ _ w hs hfv) ?_
  rintro e a w' ⟨H',β',f',h',h1,h2,h3⟩
  have fin:Hz P n fn f' h' s∧HSub h' (mkH os)→a.defers= []∧∃v,(results fn a.tmps).run P w'= .ok v w'∧∃H' β u,Ending.returned v= .returned u∧Sim ⟨w,H⟩ H' β (mkH os) w'∧VS H' β u s∧∀k,mkH os k=none→β k=none:=by
    rintro ⟨g1,g2⟩
    obtain ⟨u,e1,v1⟩:=g1 _ H' β' a w' h1 h2
    have d:=h1.drop g2
    let β2:Bt:=fun k=>match mkH os k with|none=>none|some _=>β' k
    have hb2:∀k o,mkH os k=some o→β2 k=β' k:=fun k o e=>by simp only [β2,e]
    refine ⟨h2.defers,u,e1,H',β2,u,rfl,⟨d.below,d.ext,d.new,d.imm,fun i o L ho hL=> ?_,fun i o L ho hL=> ?_,fun i j o o' L L' b hij ho ho' hL hL'=> ?_,fun i o ho hg=> ?_⟩,v1.within hw fun i L hp hL=> ?_,fun k hk=>by simp only [β2,hk]⟩
    · rw [hb2 i o ho] at hL
      exact (d.obj i o L ho hL).row_any (Kb hr ho) (Nat.le_refl _)
    · rw [hb2 i o ho] at hL
      exact d.sep i o L ho hL
    · rw [hb2 i o ho] at hL
      rw [hb2 j o' ho'] at hL'
      exact d.inj i j o o' L L' b hij ho ho' hL hL'
    · have:=Kb hr ho
      cases o with
      |row _ _ _=>cases hg
      |box _=>cases hg
      |rowS _ _ _=>cases hg
      |tree _ _ _ _=>cases hg
      |ghost _ _=>cases this
    · unfold Asj at hp
      cases hm:mkH os i with
      |none=>rw [hm] at hp;cases hp
      |some o=>rw [hb2 i o hm];exact hL
  cases e with
  |normal=>exact fin h3
  |ret=>exact fin h3
  |_=>exact h3.elim
def hadd (h:Xh):List (Nat × XO)→Xh
  | []=>h
  |(i,o)::l=>(hadd h l).set i o
theorem N8 {h:Xh} {os:List (Nat × XO)} {i:Nat} {o:XO} (e:mkH os i=some o):hadd h os i=some o:=by
  induction os with
  |nil=>cases e
  |cons p os ih=>
    obtain ⟨j,o'⟩:=p
    simp only [mkH,hadd] at e ⊢
    by_cases e':j=i
    · subst e';rw [Xh.set_same] at e ⊢;exact e
    · rw [Xh.set_ne _ _ e'] at e ⊢;exact ih e
theorem Lt {h:Xh} {os:List (Nat × XO)} {i:Nat} (e:mkH os i=none):hadd h os i=h i:=by
  induction os with
  |nil=>rfl
  |cons p os ih=>
    obtain ⟨j,o'⟩:=p
    simp only [mkH,hadd] at e ⊢
    by_cases e':j=i
    · subst e';rw [Xh.set_same] at e;cases e
    · rw [Xh.set_ne _ _ e'] at e ⊢;exact ih e
def Ri (os:List (Nat × XO)) (β β':Bt):Bt:=fun k=>match mkH os k with|none=>β k|some _=>β' k
theorem Ix {os:List (Nat × XO)} {β β':Bt} {k:Nat} {o:XO} (e:mkH os k=some o):Ri os β β' k=β' k:=by unfold Ri;rw [e]
theorem Rh {os:List (Nat × XO)} {β β':Bt} {k:Nat} (e:mkH os k=none):Ri os β β' k=β k:=by unfold Ri;rw [e]
theorem Sim.callS {E:Env} {H H':Hp} {β β':Bt} {hF:Xh} {w w':World} {os:List (Nat × XO)} (hs:Sim E H β hF w) (hn:∀i,mkH os i≠none→β i=none) (hr:X1 os=true) (hos:∀i o,mkH os i=some o→hF i=some o)
    (hc:Sim ⟨w,H⟩ H' β' (mkH os) w'):Sim E H' (Ri os β β') hF w'∧Bt.le β (Ri os β β'):=by
  have hle:Bt.le β (Ri os β β'):=fun i L e=>by
    cases hm:mkH os i with
    |none=>rw [Rh hm];exact e
    |some o=>rw [hn i (by rw [hm];simp)] at e;cases e
  refine ⟨?_,hle⟩
  have s1:=hs.call hc.below hc.ext hc.new hc.imm
  have old:∀i o L,mkH os i=none→hF i=some o→Ri os β β' i=some L→β i=some L:=fun i o L hm _ hL=>by rwa [Rh hm] at hL
  have lt:∀i o L b,hF i=some o→β i=some L→o.blk L b→b<w.heap.size:=fun i o L b ho hL hb=>((hs.obj i o L ho hL).lt hb).2
  have ge:∀i o L b,mkH os i=some o→β' i=some L→o.blk L b→w.heap.size≤b:=fun i o L b ho hL hb=>((hc.obj i o L ho hL).lt hb).1
  refine ⟨s1.below,s1.ext,s1.new,s1.imm,fun i o L ho hL=> ?_,fun i o L ho hL=> ?_,fun i j o o' L L' b hij ho ho' hL hL' hb=> ?_,fun i o ho hg=> ?_⟩
  · cases hm:mkH os i with
    |none=>exact (s1.obj i o L ho (old i o L hm ho hL)).keep (Hp.le.refl _) hle fun _ _=>rfl
    |some o'=>
      have e:=hos i o' hm
      rw [ho] at e;cases e
      rw [Ix hm] at hL
      exact (hc.obj i o L hm hL).row_any (Kb hr hm) hs.size
  · cases hm:mkH os i with
    |none=>exact s1.sep i o L ho (old i o L hm ho hL)
    |some o'=>
      have e:=hos i o' hm
      rw [ho] at e;cases e
      rw [Ix hm] at hL
      exact hc.sep i o L hm hL
  · cases hm:mkH os i with
    |none=>
      have hL0:=old i o L hm ho hL
      cases hm':mkH os j with
      |none=>exact s1.inj i j o o' L L' b hij ho ho' hL0 (old j o' L' hm' ho' hL') hb
      |some o2=>
        have e:=hos j o2 hm'
        rw [ho'] at e;cases e
        rw [Ix hm'] at hL'
        intro hc'
        have h1:=lt i o L b ho hL0 hb
        have h2:=ge j o' L' b hm' hL' hc'
        omega
    |some o2=>
      have e:=hos i o2 hm
      rw [ho] at e;cases e
      rw [Ix hm] at hL
      cases hm':mkH os j with
      |none=>
        intro hc'
        have h1:=lt j o' L' b ho' (old j o' L' hm' ho' hL') hc'
        have h2:=ge i o L b hm hL hb
        omega
      |some o3=>
        have e:=hos j o3 hm'
        rw [ho'] at e;cases e
        rw [Ix hm'] at hL'
        exact hc.inj i j o o' L L' b hij hm hm' hL hL' hb
  · obtain ⟨L,hL⟩:=hs.dom i o ho hg
    exact ⟨L,hle _ _ hL⟩
section
variable {P:Program} {n:Nat} {ops:Array Oper} {rest:List Oper} {K:Cu} {f:Fr} {h:Xh} {o:Oper} {F:FuncId} {ds:List D} {s:S} {os:List (Nat × XO)} {args:Array Operand} {tys:Array TypeId}
theorem Nn {a:Act} {w:World} (ho:o.op= .call {callee:= .value (.func F),args:=args,argTypes:=tys}) (hc:Callable P F):(execOp a.eval o).run P w= .ok (.enter F (args.map a.eval)) w:=by
  have:=hc.run (args.map a.eval) w
  unfold execOp
  simp only [ho,resolve,Act.eval,Deferred.ofValue,Sem.run_bind,Sem.run_pure,Result.andThen_ok,invoke,Array.append_empty,Array.empty_append]
  exact this
theorem XL.callS (ho:o.op= .call {callee:= .value (.func F),args:=args,argTypes:=tys}) (hw:Bl ops f n o.guard=some true) (hx:XS P F ds s os)
    (ha:args.toList.map (ev f)=ds.map S.d) (hr:XL P n ops rest K (A7 (Er f (os.map (·.1))) o.dst s) (hadd (E1 h (os.map (·.1))) os)):XL P n ops (o::rest) K f h:=by
  refine XL.step (f':=Er f (os.map (·.1))) (s:=s) hw ?_ hr
  intro E H β a w hs hf hop
  have hop':∀x∈args,VS H β (a.eval x) (ev f x):=fun x hx=>hop x (by rw [ho];simp [Op.operands,Call.operands,hx])
  obtain ⟨hsz,hvd⟩:=O2 (a:=a) args ds ha hop'
  unfold Oper.wp
  rw [Nn ho hx.callable]
  refine (hx.calls H w _ hs.imm hsz hvd).mono ?_
  rintro e w' ⟨H',β',u,rfl,k1,k2,k3⟩
  obtain ⟨s1,f1⟩:=Nc (os.map (·.1)) β f h hs hf
  have s2:Sim E H (Fs β (os.map (·.1))) (hadd (E1 h (os.map (·.1))) os) w:=by
    have em:∀i o L,hadd (E1 h (os.map (·.1))) os i=some o→Fs β (os.map (·.1)) i=some L→E1 h (os.map (·.1)) i=some o:=fun i o L e1 e2=>by
      cases hm:mkH os i with
      |none=>rwa [Lt hm] at e1
      |some o'=>
        have:i∈os.map (·.1):=by
          by_cases e:i∈os.map (·.1)
          · exact e
          · rw [mkH_lab.2 e] at hm;cases hm
        rw [F6 _ β i this] at e2;cases e2
    refine ⟨s1.below,s1.ext,s1.new,s1.imm,fun i o L e1 e2=>s1.obj i o L (em i o L e1 e2) e2,fun i o L e1 e2=>s1.sep i o L (em i o L e1 e2) e2,fun i j o o' L L' b hij e1 e1' e2 e2'=>s1.inj i j o o' L L' b hij (em i o L e1 e2) (em j o' L' e1' e2') e2 e2',fun i o e1 hg=> ?_⟩
    cases hm:mkH os i with
    |none=>rw [Lt hm] at e1;exact s1.dom i o e1 hg
    |some o'=>
      rw [N8 hm] at e1;cases e1
      have:=Kb hx.rows hm
      cases o with
      |row _ _ _=>cases hg
      |box _=>cases hg
      |rowS _ _ _=>cases hg
      |tree _ _ _ _=>cases hg
      |ghost _ _=>cases this
  have hn:∀i,mkH os i≠none→Fs β (os.map (·.1)) i=none:=fun i hi=>by
    refine F6 _ β i ?_
    by_cases e:i∈os.map (·.1)
    · exact e
    · exact absurd (mkH_lab.2 e) hi
  obtain ⟨s3,hle⟩:=s2.callS hn hx.rows (fun i o e=>N8 e) k1
  exact ⟨H', _, u, rfl, s3, f1.mono k1.ext hle, k2.mono (Hp.le.refl _) fun i L e => by
    cases hm:mkH os i with
    |none=>rw [k3 i hm] at e;cases e
    | some o' => rw [Ix hm]; exact e⟩
theorem CStep.callS (ho:o.op= .call {callee:= .value (.func F),args:=args,argTypes:=tys}) (hx:XS P F ds s os) (ha:args.toList.map (ev f)=ds.map S.d) (hn:∀i,mkH os i≠none→h i=none):
    CStep P o f h (os.map (·.1)) s (hadd h os):=by
  refine ⟨fun i x e=> ?_,fun i x e=> ?_,fun hF hle E H β a w hs hβ hop=> ?_⟩
  · cases hm:mkH os i with
    |none=>rw [Lt hm];exact e
    |some o'=>rw [hn i (by rw [hm];simp)] at e;cases e
  · cases hm:mkH os i with
    |none=>rw [Lt hm] at e;exact .inl e
    |some o'=>
      rw [N8 hm] at e;cases e
      refine .inr ⟨?_, ?_⟩
      · by_cases e:i∈os.map (·.1)
        · exact e
        · rw [mkH_lab.2 e] at hm;cases hm
      · have:=Kb hx.rows hm
        cases x with
        |row _ _ _=>rfl
        |box _=>cases this
        |rowS _ _ _=>cases this
        |tree _ _ _ _=>rfl
        |ghost _ _=>cases this
  · have hop':∀x∈args,VS H β (a.eval x) (ev f x):=fun x hx=>hop x (by rw [ho];simp [Op.operands,Call.operands,hx])
    obtain ⟨hsz,hvd⟩:=O2 (a:=a) args ds ha hop'
    unfold Oper.wp
    rw [Nn ho hx.callable]
    refine (hx.calls H w _ hs.imm hsz hvd).mono ?_
    rintro e w' ⟨H',β',u,rfl,k1,k2,k3⟩
    have hn':∀i,mkH os i≠none→β i=none:=fun i hi=>by
      refine hβ i ?_
      by_cases e:i∈os.map (·.1)
      · exact e
      · exact absurd (mkH_lab.2 e) hi
    obtain ⟨s3,hle3⟩:=hs.callS hn' hx.rows (fun i o e=>hle i o (N8 e)) k1
    refine ⟨H',_,u,rfl,s3,k1.ext,hle3,fun i hi=>Rh (mkH_lab.2 hi),k2.mono (Hp.le.refl _) fun i L e=> ?_⟩
    cases hm:mkH os i with
    |none=>rw [k3 i hm] at e;cases e
    |some o'=>rw [Ix hm];exact e
end
section
variable {P:Program} {n:Nat} {f:Fr} {h:Xh} {fn:Func}
def RVS (P:Program) (n:Nat) (f:Fr) (h:Xh) (rv:ResultVar) (s:S):Prop:=∀E H β a w,Sim E H β h w→FV n H β a f→∃u,(Uq a.tmps rv).run P w= .ok u w∧VS H β u s
theorem RVS.tmp {t:Nat} {s:S} (ht:Nat.blt t n=true) (hf:f t=s):RVS P n f h (.tmp t) s:=fun E H β a w _ hfv=>⟨_,rfl,by have:=hfv.slot t (Eu ht);rw [hf] at this;exact this⟩
theorem RVS.eq {rv:ResultVar} {s s':S} (h1:RVS P n f h rv s) (e:s=s'):RVS P n f h rv s':=e ▸ h1
theorem Cs {rv:ResultVar} {s:S} (hr:fn.results= #[rv]) (h1:RVS P n f h rv s):Hz P n fn f h s:=fun E H β a w hs hf=>by
  obtain ⟨u,e1,v1⟩:=h1 E H β a w hs hf
  refine ⟨u, ?_,v1⟩
  rw [Gp,hr]
  simp [e1]
theorem XL.eqnil {P:Program} {n:Nat} {ops:Array Oper} {rest:List Oper} {K:Cu} {f:Fr} {h:Xh} {o:Oper} {t t' el:TypeId} {x:Operand} {sz:Nat} {α:Type} {g:α→List D} {l:List α} (ho:o.op= .binOp .eql t x (.const (.slice none 0 0)) t') (hw:Bl ops f n o.guard=some true)
    (hx:ev f x= .d (.sl sz (l.map g))) (hu:P.underlying t=some (.slice el)) (h1:l= []→XL P n ops rest K (A7 f o.dst (.d (.v (.bool true)))) h) (h2:XL P n ops rest K (A7 f o.dst (.d (.v (.bool false)))) h):XL P n ops (o::rest) K f h:=by
  refine XL.stepR (f':=f) (h':=h) (R:=fun s=>∃b,s= .d (.v (.bool b))∧(b=true→l= [])) hw (fun E H β a w hs hf hop=> ?_) ?_
  · have g1:=hop x (by rw [ho];simp [Op.operands])
    rw [hx] at g1
    obtain ⟨A,c,e1,e2,e3,e4,e5⟩:=Rl (D5 g1)
    have hrun:(execOp a.eval o).run P w= .ok (.value (.bool A.isNone)) w:=by
      rw [Afn ho e1 (b:= .slice none 0 0) rfl rfl (by simp),Go.Lib.run_eql_slice_nil w t el A (l.map g).length c 0 0 hu];rfl
    unfold Oper.wp
    rw [hrun]
    refine ⟨H,β,_,_,rfl,hs,hf, .d (.v _),_,rfl,fun hb=> ?_⟩
    have hA:A=none:=by simpa using hb
    have:=e4 hA
    have hlen:l.length=0:=by rw [List.length_map] at e2;omega
    exact List.eq_nil_of_length_eq_zero hlen
  · rintro s ⟨b,rfl,hb⟩
    cases b with
    |true=>exact h1 (hb rfl)
    |false=>exact h2
theorem XS.lab {P:Program} {F:FuncId} {ds:List D} {i:Nat} {e:TypeId} {sz:Nat} {l:List (List D)} (h:XS P F ds (.own i) [(i, .row e sz l)]) (j:Nat):XS P F ds (.own j) [(j, .row e sz l)]:=by
  refine ⟨h.callable,rfl,fun H w vs h1 h2 h3=>(h.calls H w vs h1 h2 h3).mono ?_⟩
  rintro e' w' ⟨H',β,u,rfl,k1,k2,k3⟩
  obtain ⟨L,hL,rfl⟩:=Fa k2
  have hi:mkH [(i,XO.row e sz l)] i=some (.row e sz l):=by simp only [mkH];exact Xh.set_same _ _ _
  let β2:Bt:=fun k=>bif Nat.beq j k then some L else none
  have hj:β2 j=some L:=by simp [β2]
  have hm:∀k o,mkH [(j,XO.row e sz l)] k=some o→k=j∧o= .row e sz l:=fun k o ho=>by
    simp only [mkH] at ho
    by_cases e':j=k
    · subst e';rw [Xh.set_same] at ho;cases ho;exact ⟨rfl,rfl⟩
    · rw [Xh.set_ne _ _ e'] at ho;cases ho
  refine ⟨H',β2,L.v,rfl,⟨k1.below,k1.ext,k1.new,k1.imm,fun k o L' ho hL'=> ?_,fun k o L' ho hL'=> ?_,fun k k' o o' L1 L2 b hkk ho ho'=> ?_,fun k o ho hg=> ?_⟩, .own hj,fun k hk=> ?_⟩
  · obtain ⟨rfl,rfl⟩:=hm k o ho
    rw [hj] at hL';cases hL'
    exact (k1.obj i _ L hi hL).row_any rfl (Nat.le_refl _)
  · obtain ⟨rfl,rfl⟩:=hm k o ho
    rw [hj] at hL';cases hL'
    exact k1.sep i _ L hi hL
  · obtain ⟨rfl,rfl⟩:=hm k o ho
    exact absurd (hm k' o' ho').1.symm hkk
  · obtain ⟨rfl,rfl⟩:=hm k o ho
    cases hg
  · have:j≠k:=fun e'=>by subst e';simp only [mkH] at hk;rw [Xh.set_same] at hk;cases hk
    simp [β2,Bp this]
end
theorem Gt {h:Xh} {j:Nat} {o:XO} (hj:h j=none):∀i,mkH [(j,o)] i≠none→h i=none:=fun i hi=>by
  by_cases e:j=i
  · subst e;exact hj
  · exact absurd (by simp only [mkH];rw [Xh.set_ne _ _ e]) hi
end Go.Proofs.YtaafemnkamfgnaaGreat
namespace Go.Proofs.YtaafemnkamfgnaaGreat
open Go.RowKit
theorem Mx (b o m:Nat):∀(vs:List Value) (i:Nat),storeCells ⟨b,o,none⟩ vs (m+i)=storeCells ⟨b,o+m,none⟩ vs i
 | [],i=>rfl
 |v::vs,i=>by
  have h1:(⟨b,o,none⟩:Addr).add (m+i)=(⟨b,o+m,none⟩:Addr).add i:=by rw [Go.WideShapes.add_plain,Go.WideShapes.add_plain,Nat.add_assoc]
  unfold storeCells
  rw [h1,show m+i+1=m+(i+1) from rfl,Mx b o m vs (i+1)]
theorem Nx {P:Program} {A:Addr}:∀(x y:List Value) (i:Nat) (w w1:World),(storeCells A x i).run P w= .ok () w1→(storeCells A (x++y) i).run P w=(storeCells A y (i+x.length)).run P w1
 | [],y,i,w,w1,h=>by
  unfold storeCells at h
  rw [Sem.run_pure] at h
  cases h
  rfl
 |v::x,y,i,w,w1,h=>by
  have hcons:∀l:List Value,storeCells A (v::l) i=(do store (A.add i) v;storeCells A l (i+1)):=fun l=>rfl
  rw [List.cons_append,hcons,Sem.run_bind]
  rw [hcons,Sem.run_bind] at h
  cases hq:(store (A.add i) v).run P w with
  |ok u w2=>
   rw [hq,Result.andThen_ok] at h
   rw [Result.andThen_ok,Nx x y (i+1) w2 w1 h,List.length_cons,show i+1+x.length=i+(x.length+1) by omega]
  |_=>rw [hq] at h;cases h
section
variable {E:Env} {H:Hp} {β:Bt} {h:Xh} {w:World}
theorem Ai2 {α:Type} (y ds:List α) (h:y.length=ds.length):sets y 0 ds=ds:=by
 rw [J1 ds y 0 (by omega)]
 simp [h]
theorem L3 {P:Program} {i:Nat} {ty:TypeId} {sz:Nat} {L:Loc} (hL:β i=some L) (hLs:L.sz=sz):∀(rows:List (List D)) (k:Nat) (l:List (List D)) (h:Xh) (w:World) (vs:List Value),Sim E H β h w→h i=some (.row ty sz l)→(∀x∈l,x.length=sz)→(∀x∈rows,x.length=sz)→vs.length=rows.length*sz→
  (∀(k j:Nat) (x:List D) (d:D),rows[k]? =some x→x[j]? =some d→∃v,vs[k*sz+j]? =some v∧VD H v d)→(∀v∈vs,v.oneCell'=true)→k+rows.length≤l.length→
  ∃w',(storeCells ⟨L.b,k*sz,none⟩ vs 0).run P w= .ok () w'∧Sim E H β (h.set i (.row ty sz (sets l k rows))) w'
 | [],k,l,h,w,vs,hs,hi,_,_,hlen,_,_,_=>by
  have:vs= []:=List.eq_nil_of_length_eq_zero (by simpa using hlen)
  subst this
  exact ⟨w,rfl,by rw [sets,Xh.set_self hi];exact hs⟩
 |x::rows,k,l,h,w,vs,hs,hi,hz,hz',hlen,hc,hone,hle=>by
  simp only [List.length_cons] at hle hlen
  have hxl:x.length=sz:=hz' x (by simp)
  have hsl:sz≤vs.length:=by rw [hlen,Nat.add_mul];omega
  obtain ⟨y,hy⟩:∃y,l[k]? =some y:=⟨_,List.getElem?_eq_getElem (by omega)⟩
  have hyl:y.length=sz:=hz y (List.mem_of_getElem? hy)
  obtain ⟨w1, r1, r2⟩ := M4 (P := P) (k := k) (off := 0) hL (vs.take sz) x 0 l y h w hs hi hy (by rw [List.length_take]; omega) (fun j v d hj hd => by
   have hjl:j<sz:=by have:=(List.getElem?_eq_some_iff.1 hd).1;omega
   obtain ⟨v',h1,h2⟩:=hc 0 j x d rfl hd
   rw [Nat.zero_mul,Nat.zero_add] at h1
   rw [List.getElem?_take,if_pos hjl,h1] at hj
   cases hj
   exact ⟨h2, hone _ (List.mem_of_getElem? h1)⟩) (by rw [List.length_take]; omega)
  rw [hLs,Nat.add_zero] at r1
  rw [Nat.add_zero,Ai2 y x (by omega)] at r2
  have hz2:∀x'∈l.set k x,x'.length=sz:=fun x' hx'=>by
   rcases List.mem_or_eq_of_mem_set hx' with h|h
   ·exact hz x' h
   ·rw [h];exact hxl
  obtain ⟨w2, r3, r4⟩ := L3 (P := P) hL hLs rows (k + 1) (l.set k x) _ w1 (vs.drop sz) r2 (Xh.set_same _ _ _) hz2 (fun x' hx' => hz' x' (by simp [hx'])) (by rw [List.length_drop, hlen, Nat.add_mul]; omega) (fun k' j x' d hx' hd => by
   obtain ⟨v,h1,h2⟩:=hc (k'+1) j x' d (by simpa using hx') hd
   refine ⟨v, ?_,h2⟩
   rw [List.getElem?_drop]
   rw [← h1]; congr 1; rw [Nat.add_mul]; omega) (fun v hv => hone v (List.mem_of_mem_drop hv)) (by rw [List.length_set]; omega)
  refine ⟨w2, ?_,by rw [Xh.set_set] at r4;exact r4⟩
  have:=Nx (vs.take sz) (vs.drop sz) 0 w w1 r1
  rw [List.take_append_drop,Nat.zero_add,List.length_take,Nat.min_eq_left hsl] at this
  rw [this, ←Nat.add_zero sz,Mx,Nat.add_zero,show k*sz+sz=(k+1)*sz by rw [Nat.add_mul];omega]
  exact r3
inductive Part (h:Xh):S→Nat→TypeId→Nat→List (List D)→Nat→Nat→Prop where
 |own {i:Nat} {ty:TypeId} {sz:Nat} {l:List (List D)} (hi:h i=some (.row ty sz l)):Part h (.own i) i ty sz l 0 l.length
 |sub {i a b:Nat} {ty:TypeId} {sz:Nat} {l:List (List D)} (hi:h i=some (.row ty sz l)):Part h (.sub i a b) i ty sz l a b
theorem Td (hs:Sim E H β h w) {i:Nat} {ty:TypeId} {sz:Nat} {l:List (List D)} {L:Loc} (hi:h i=some (.row ty sz l)) (hL:β i=some L):
  ∃A c,L.v= .slice A l.length c∧l.length≤c∧c≤maxLen∧((A=none∧c=0)∨A=some ⟨L.b,0,none⟩):=by
 obtain ⟨h1,hz,hvb,us,hown,hone,hc⟩:=hs.obj i _ L hi hL
 rcases hown.2 with ⟨hn,h0⟩|⟨g,cap,cur,e1,e2,e3,e4,e5,e6,e7⟩
 ·exact ⟨none,0,by rw [hn,h0],by omega,by omega, .inl ⟨rfl,rfl⟩⟩
 ·have:=hvb g (by rw [e1];rfl)
  subst this
  exact ⟨_,cap,e1,e4,e5, .inr rfl⟩
theorem Part.spec {s:S} {i:Nat} {ty:TypeId} {sz:Nat} {l:List (List D)} {a b:Nat} (hp:Part h s i ty sz l a b) (hs:Sim E H β h w) {u:Value} (hu:VS H β u s):
  h i=some (.row ty sz l)∧∃L,β i=some L∧L.sz=sz∧a≤b∧b≤l.length∧∃A c,u= .slice A (b - a) c∧((A=none∧a=b)∨a=b∨A=some ⟨L.b,a*sz,none⟩):=by
 cases hp with
 |own hi=>
  obtain ⟨L,hL,rfl⟩:=Fa hu
  obtain ⟨A,c,h1,h2,h3,h4⟩:=Td hs hi hL
  refine ⟨hi,L,hL,(hs.obj i _ L hi hL).1,Nat.zero_le _,Nat.le_refl _,A,c,h1, ?_⟩
  rcases h4 with ⟨rfl,rfl⟩|rfl
  ·exact .inl ⟨rfl,by omega⟩
  ·exact .inr (.inr (by rw [Nat.zero_mul]))
 |sub hi=>
  obtain ⟨L,A,n,c,hL,hv,hab,hb,rfl⟩:=Ya hu
  obtain ⟨A',c',h1,h2,h3,h4⟩:=Td hs hi hL
  rw [hv] at h1
  injection h1 with e1 e2 e3
  subst e1 e2 e3
  have hsz:=(hs.obj i _ L hi hL).1
  refine ⟨hi,L,hL,hsz,hab,hb,_,_,rfl, ?_⟩
  by_cases e:a=b
  ·exact .inr (.inl e)
  ·have hca:¬c=a:=by omega
   rw [if_neg hca]
   rcases h4 with ⟨rfl,rfl⟩|rfl
   ·omega
   ·refine .inr (.inr ?_)
    rw [Option.map_some,Go.WideShapes.add_plain,Nat.zero_add,hsz]
theorem Src.part {s:S} {i:Nat} {ty:TypeId} {sz:Nat} {l:List (List D)} {a b:Nat} (hp:Part h s i ty sz l a b):Src h s sz ((l.take b).drop a):=by
 intro E H β w u hs hv
 obtain ⟨hi,L,hL,hsz,hab,hb,A,c,hu,hA⟩:=hp.spec hs hv
 obtain ⟨_,hz,hvb,us,hown,hone,hcells⟩:=hs.obj i _ L hi hL
 have hlen:((l.take b).drop a).length=b - a:=by rw [List.length_drop,List.length_take];omega
 have husl:us.length=l.length*sz:=hown.1
 have hget:∀k x,((l.take b).drop a)[k]? =some x→l[a+k]? =some x∧a+k<b:=by
  intro k x hk
  rw [List.getElem?_drop,List.getElem?_take] at hk
  split at hk
  ·exact ⟨hk,by assumption⟩
  ·cases hk
 have hmul:b*sz≤us.length:=by rw [husl];exact Nat.mul_le_mul_right _ hb
 have hml2:a*sz≤b*sz:=Nat.mul_le_mul_right _ hab
 have hnl:((us.take (b*sz)).drop (a*sz)).length=(b - a)*sz:=by rw [List.length_drop,List.length_take,Nat.min_eq_left hmul,Nat.sub_mul]
 refine ⟨fun x hx=>hz x (List.mem_of_mem_take (List.mem_of_mem_drop hx)),A,c,(us.take (b*sz)).drop (a*sz),by rw [hlen];exact hu,by rw [hlen];exact hnl, ?_,fun v hv=>hone v (List.mem_of_mem_take (List.mem_of_mem_drop hv)),fun k j x d hk hj=> ?_⟩
 ·have hnil:a=b→(us.take (b*sz)).drop (a*sz)= []:=fun e=>List.eq_nil_of_length_eq_zero (by rw [hnl,e];simp)
  rcases hA with ⟨_,e⟩|e|e
  ·exact .inl (hnil e)
  ·exact .inl (hnil e)
  ·rcases Nat.lt_or_ge a b with hlt|hge
   ·subst e
    have hpos:0<l.length:=by omega
    obtain ⟨g,cap,hLv,_,hg⟩:=hown.form hpos
    have hgb:=hvb g (by rw [hLv];rfl)
    subst hgb
    refine .inr ⟨L.b,a*sz,rfl,hg,fun j u hj=> ?_⟩
    rw [List.getElem?_drop,List.getElem?_take] at hj
    split at hj
    ·have:=hown.cells (g:=L.b) (by rw [hLv];rfl) (a*sz+j) u hj
     rw [Go.WideShapes.add_plain,Nat.zero_add] at this
     exact this
    ·cases hj
   ·exact .inl (hnil (by omega))
 ·obtain ⟨h1,h2⟩:=hget k x hk
  obtain ⟨v,h3,h4⟩:=hcells (a+k) j x d h1 hj
  refine ⟨v, ?_,h4⟩
  have hjl:j<sz:=by have:=(List.getElem?_eq_some_iff.1 hj).1;rw [hz x (List.mem_of_getElem? h1)] at this;exact this
  have:(a+k+1)*sz≤b*sz:=Nat.mul_le_mul_right _ h2
  rw [List.getElem?_drop,List.getElem?_take,if_pos (by rw [Nat.add_mul,Nat.add_mul] at this;omega), ←h3]
  congr 1;rw [Nat.add_mul];omega
end
section
variable {P:Program} {o:Oper} {e:Operand→S} {h:Xh}
theorem Ll {t sz:Nat} {x:Operand} {lo hi:Option Operand} {i:Nat} {ty:TypeId} {l:List (List D)} {a b:Nat} (ho:o.op= .slice t x lo hi none) (hx:e x= .own i) (hi':h i=some (.row ty sz l)) (hf:elB P t sz=true)
  (hlo:Bd e lo 0 a) (hhi:Bd e hi l.length b) (hab:a≤b) (hb:b≤l.length):A9 P o e h (.sub i a b):=fun E H β ρ w hs hop=>by
 have g:=hop x (by rw [ho];simp [Op.operands])
 rw [hx] at g
 obtain ⟨L,hL,hv⟩:=Fa g
 obtain ⟨el,hu,hpos,hsz⟩:=elB.parts hf
 obtain ⟨A,c,h1,h2,h3,h4⟩:=Td hs hi' hL
 have hbounds:(Instr.sliceBounds true l.length c (lo.map ρ) (hi.map ρ) none).run P w= .ok (a,b,c) w:=
  Mj _ _ _ _ _ _ (hlo.val fun y hy=>hop y (by rw [ho,hy];simp [Op.operands])) (hhi.val fun y hy=>hop y (by rw [ho,hy];simp [Op.operands])) hab (by omega) w
 have hLs:=(hs.obj i _ L hi' hL).1
 refine ⟨_, ?_, .sub (L:=L) a b hL h1 hab hb⟩
 unfold execOp
 simp only [ho,hv,h1,Instr.sliceAt,Option.map_none,Sem.run_bind,run_underlying hu,Result.andThen_ok,Instr.slice,hbounds,hsz,Sem.run_pure,hLs]
end
section
variable {P:Program} {n:Nat} {o:Oper} {f:Fr} {h:Xh}
def Auh (P:Program) (n:Nat) (o:Oper) (f:Fr) (h:Xh) (s:S) (h':Xh):Prop:=
 ∀E H β a w,Sim E H β h w→FV n H β a f→(∀x∈o.op.operands,VS H β (a.eval x) (ev f x))→o.wp P a w (fun a' w'=>∃u,a'=a.put o.dst u∧Sim E H β h' w'∧VS H β u s) NoQ
theorem Yr {i:Nat} {t t' ty:TypeId} {sz:Nat} {x y:Operand} {l l':List (List D)} {a b m:Nat} (ho:o.op= .call {callee:= .builtin .copy,args:= #[x,y],argTypes:= #[t,t']}) (hx:Part h (ev f x) i ty sz l a b) (hy:Src h (ev f y) sz l') (hf:elB P t sz=true)
  (hm:min l'.length (b - a)=m):Auh P n o f h (.d (.v (.int .i64 m))) (h.set i (.row ty sz (sets l a (l'.take m)))):=by
 intro E H β av w hs hfv hop
 have g1:=hop x (by rw [ho];simp [Op.operands,Call.operands])
 have g2:=hop y (by rw [ho];simp [Op.operands,Call.operands])
 obtain ⟨hi,L,hL,hsz,hab,hb,A,c,hu,hA⟩:=hx.spec hs g1
 obtain ⟨hz',A2,c2,news,hA2,hnl,hr,hone',hc'⟩:=hy E H β w _ hs g2
 obtain ⟨el,hul,hpos,hsize⟩:=elB.parts hf
 obtain ⟨_,hz,_⟩:=hs.obj i _ L hi hL
 have hml:m≤l'.length:=by omega
 have hmb:m≤b - a:=by omega
 have hmm:m*sz≤l'.length*sz:=Nat.mul_le_mul_right _ hml
 have hcl:(news.take (m*sz)).length=m*sz:=by rw [List.length_take,hnl];exact Nat.min_eq_left hmm
 have hfirst:(Builtin.firstCells sz m (.slice A2 l'.length c2)).run P w= .ok (news.take (m*sz)).toArray w:=by
  cases A2 with
  |none=>
   rcases hr with rfl|⟨b',off',e',_⟩
   ·rw [run_firstCells_none,List.take_nil]
   ·cases e'
  |some a2=>
   refine run_firstCells_some w sz m a2 l'.length c2 _ hcl fun j v hj=> ?_
   rw [List.getElem?_take] at hj
   split at hj
   ·rcases hr with rfl|⟨b',off',e',_,hcell⟩
    ·simp at hj
    ·cases e'
     rw [Go.WideShapes.add_plain]
     exact hcell j v hj
   ·cases hj
 obtain ⟨w',r1,r2⟩:∃w',((if let some a:=A then storeCells a (news.take (m*sz)) else pure ()):Sem Unit).run P w= .ok () w'∧Sim E H β (h.set i (.row ty sz (sets l a (l'.take m)))) w':=by
  have nilc:m=0→(∃w',((if let some a:=A then storeCells a (news.take (m*sz)) else pure ()):Sem Unit).run P w= .ok () w'∧Sim E H β (h.set i (.row ty sz (sets l a (l'.take m)))) w'):=fun e0=>by
   subst e0
   refine ⟨w, ?_,by rw [List.take_zero,sets,Xh.set_self hi];exact hs⟩
   rw [Nat.zero_mul,List.take_zero]
   cases A<;>rfl
  rcases hA with ⟨_,e⟩|e|rfl
  ·exact nilc (by omega)
  ·exact nilc (by omega)
  ·obtain ⟨w', r1, r2⟩ := L3 (P := P) hL hsz (l'.take m) a l h w (news.take (m * sz)) hs hi hz (fun x hx => hz' x (List.mem_of_mem_take hx)) (by rw [hcl, List.length_take, Nat.min_eq_left hml]) (fun k j x d hk hj => by
    rw [List.getElem?_take] at hk
    split at hk
    ·rename_i hkm
     obtain ⟨v,h1,h2⟩:=hc' k j x d hk hj
     have hjl:j<sz:=by have:=(List.getElem?_eq_some_iff.1 hj).1;rw [hz' x (List.mem_of_getElem? hk)] at this;exact this
     have:(k+1)*sz≤m*sz:=Nat.mul_le_mul_right _ hkm
     exact ⟨v,by rw [List.getElem?_take,if_pos (by rw [Nat.add_mul] at this;omega)];exact h1,h2⟩
    ·cases hk) (fun v hv => hone' v (List.mem_of_mem_take hv)) (by rw [List.length_take]; omega)
   exact ⟨w',r1,r2⟩
 have hrun:(execOp av.eval o).run P w= .ok (.value (.int .i64 m)) w':=by
  have hmin:Nat.min l'.length (b - a)=m:=hm
  unfold execOp
  simp only [ho,resolve,invoke,builtin,Sem.run_bind,Sem.run_pure,Result.andThen_ok,List.map_toArray,List.map_cons,List.map_nil,hu,hA2]
  unfold Builtin.copy_
  simp only [List.getElem?_toArray,List.getElem?_cons_zero,List.getElem?_cons_succ,Sem.run_bind,run_underlying hul,Result.andThen_ok,Builtin.lenOf,Sem.run_pure,hsize,hmin,hfirst,goInt]
  cases A with
  |none=>cases r1;simp only [Sem.run_pure,Result.andThen_ok]
  |some a2=>simp only [Sem.run_bind,r1,Result.andThen_ok,Sem.run_pure]
 unfold Oper.wp
 rw [hrun]
 exact ⟨_,rfl,r2, .d (.v _)⟩
theorem Apj {i:Nat} {t t' ty:TypeId} {sz:Nat} {x y:Operand} {l l' l2:List (List D)} {a b m:Nat} (ho:o.op= .call {callee:= .builtin .copy,args:= #[x,y],argTypes:= #[t,t']}) (hx:Part h (ev f x) i ty sz l a b) (hy:Src h (ev f y) sz l') (hf:elB P t sz=true)
  (hm:min l'.length (b - a)=m) (hl2:sets l a (l'.take m)=l2):Step P n o f h (.d (.v (.int .i64 m))) f (h.set i (.row ty sz l2)):=by
 subst hl2
 intro E H β av w hs hfv hop
 refine Dm (Yr (n:=n) (f:=f) ho hx hy hf hm E H β av w hs hfv hop) ?_
 rintro a' w' ⟨u,rfl,k1,k2⟩
 exact ⟨H,β,u,rfl,k1,hfv,k2⟩
theorem S9 {i:Nat} {t ty el:TypeId} {sz:Nat} {x:Operand} {z:Value} {zs:List D} {l l2:List (List D)} {a b:Nat} (ho:o.op= .call {callee:= .builtin .clear,args:= #[x],argTypes:= #[t]}) (hx:Part h (ev f x) i ty sz l a b) (hu:P.underlying t=some (.slice el)) (hz:zeroB P el z)
  (hzs:z.cells.toList.map D.v=zs) (hzl:z.cells.size=sz) (hz1:∀u∈z.cells,u.oneCell'=true) (hpos:0<sz) (hl2:sets l a (List.replicate (b - a) zs)=l2):Step P n o f h .any f (h.set i (.row ty sz l2)):=by
 subst hl2
 intro E H β av w hs hfv hop
 have g1:=hop x (by rw [ho];simp [Op.operands,Call.operands])
 obtain ⟨hi,L,hL,hsz,hab,hb,A,c,hu',hA⟩:=hx.spec hs g1
 obtain ⟨_,hzr,_⟩:=hs.obj i _ L hi hL
 have hzsl:zs.length=sz:=by rw [←hzs,List.length_map,Array.length_toList,hzl]
 have hget : ∀ q, q < (b - a) * z.cells.size → (Builtin.zeroCells z.cells (b - a)).toList[q]? = some (z.cells[q % z.cells.size]'(Nat.mod_lt _ (by omega))) := by
  intro q hq
  unfold Builtin.zeroCells
  rw [Array.getElem?_toList,Array.getElem?_map]
  have:(Array.range ((b - a)*z.cells.size))[q]? =some q:=by simp [hq]
  rw [this,Option.map_some]
  congr 1
  exact getElem!_pos z.cells (q % z.cells.size) (Nat.mod_lt _ (by omega))
 have hzcl:(Builtin.zeroCells z.cells (b - a)).toList.length=(b - a)*sz:=by unfold Builtin.zeroCells;simp [hzl]
 have fin:∀w',(Builtin.clear_ #[t] o.type #[.slice A (b - a) c]).run P w= .ok (.tuple #[]) w'→Sim E H β (h.set i (.row ty sz (sets l a (List.replicate (b - a) zs)))) w'→
   o.wp P av w (fun a' w'=>∃H' β' u,a'=av.put o.dst u∧Sim E H' β' (h.set i (.row ty sz (sets l a (List.replicate (b - a) zs)))) w'∧FV n H' β' av f∧VS H' β' u .any) NoQ:=fun w' r1 r2=>by
  have hrun:(execOp av.eval o).run P w= .ok (.value (.tuple #[])) w':=by
   unfold execOp
   simp only [ho,resolve,invoke,builtin,Sem.run_bind,Sem.run_pure,Result.andThen_ok,List.map_toArray,List.map_cons,List.map_nil,hu',r1]
  unfold Oper.wp
  rw [hrun]
  exact ⟨H,β,_,rfl,r2,hfv, .any _⟩
 have nilc:a=b→(Builtin.clear_ #[t] o.type #[.slice A (b - a) c]).run P w= .ok (.tuple #[]) w:=fun e=>by
  have:b - a=0:=by omega
  rw [this]
  unfold Builtin.clear_
  simp only [List.getElem?_toArray,List.getElem?_cons_zero,Sem.run_bind,run_underlying hu,Result.andThen_ok]
  cases A<;>simp
 have hsame:a=b→Sim E H β (h.set i (.row ty sz (sets l a (List.replicate (b - a) zs)))) w:=fun e=>by
  have:b - a=0:=by omega
  rw [this,List.replicate_zero,sets,Xh.set_self hi];exact hs
 rcases hA with ⟨_,e⟩|e|rfl
 ·exact fin w (nilc e) (hsame e)
 ·exact fin w (nilc e) (hsame e)
 ·by_cases e:a=b
  ·exact fin w (nilc e) (hsame e)
  ·obtain ⟨w', r1, r2⟩ := L3 (P := P) hL hsz (List.replicate (b - a) zs) a l h w (Builtin.zeroCells z.cells (b - a)).toList hs hi hzr (fun x hx => by rw [List.eq_of_mem_replicate hx]; exact hzsl) (by rw [hzcl, List.length_replicate]) (fun k j x d hk hj => by
    have hkl:=(List.getElem?_eq_some_iff.1 hk).1
    rw [List.length_replicate] at hkl
    have hx:=List.eq_of_mem_replicate (List.mem_of_getElem? hk)
    subst hx
    have hjl:=(List.getElem?_eq_some_iff.1 hj).1
    rw [hzsl] at hjl
    have h1:(k+1)*sz≤(b - a)*sz:=Nat.mul_le_mul_right _ (by omega)
    rw [Nat.add_mul] at h1
    refine ⟨_,hget (k*sz+j) (by rw [hzl];omega), ?_⟩
    have e2:(k*sz+j) % sz=j:=by rw [Nat.mul_comm,Nat.mul_add_mod,Nat.mod_eq_of_lt hjl]
    rw [←hzs,List.getElem?_map,Array.getElem?_toList,Array.getElem?_eq_getElem (by omega)] at hj
    cases hj
    have e3 : z.cells[(k * sz + j) % z.cells.size]'(Nat.mod_lt _ (by omega)) = z.cells[j]'(by omega) := by congr 1; rw [hzl, e2]
    rw [e3]
    exact .v _) (fun v hv => by
    obtain ⟨q,hq⟩:=List.getElem?_of_mem hv
    have hql:=(List.getElem?_eq_some_iff.1 hq).1
    rw [hget q (by rw [hzl, ←hzcl];exact hql)] at hq
    cases hq
    exact hz1 _ (Array.getElem_mem _)) (by rw [List.length_replicate]; omega)
   refine fin w' ?_ r2
   obtain ⟨m,hm⟩:∃m,b - a=m+1:=⟨b - a - 1,by omega⟩
   unfold Builtin.clear_
   simp only [List.getElem?_toArray,List.getElem?_cons_zero,Sem.run_bind,run_underlying hu,Result.andThen_ok]
   rw [hm] at r1 ⊢
   simp only [zeroB.run hz,Sem.run_bind,Result.andThen_ok,r1,Sem.run_pure]
end
section
variable {P:Program} {o:Oper} {e:Operand→S} {h:Xh}
theorem Aod {t t':TypeId} {x:Operand} {a:Int} (ho:o.op= .convert t t' x) (hx:e x= .d (.v (.int .i64 a))) (hu:P.underlying t'=some (.int .u64)) (hu2:(P.underlying t).isSome=true) (h1:0≤a) (h2:a≤9223372036854775807):
  A9 P o e h (.d (.v (.int .u64 a))):=fun E H β ρ w _ hop=>by
 have g:=hop x (by rw [ho];simp [Op.operands])
 rw [hx] at g
 obtain ⟨d,hd⟩:=Option.isSome_iff_exists.1 hu2
 refine ⟨_, ?_, .d (.v (.int .u64 a))⟩
 unfold execOp
 have:IntKind.u64.wrap a=a:=by rw [IntKind.wrap_u64];omega
 simp [ho,Dn g,convert,run_underlying hu,run_underlying hd,Conv.intToInt,this]
theorem Atl {t t':TypeId} {x:Operand} {a:Int} (ho:o.op= .convert t t' x) (hx:e x= .d (.v (.int .u64 a))) (hu:P.underlying t'=some (.int .i64)) (hu2:(P.underlying t).isSome=true) (h1:0≤a) (h2:a≤9223372036854775807):
  A9 P o e h (.d (.v (.int .i64 a))):=fun E H β ρ w _ hop=>by
 have g:=hop x (by rw [ho];simp [Op.operands])
 rw [hx] at g
 obtain ⟨d,hd⟩:=Option.isSome_iff_exists.1 hu2
 refine ⟨_, ?_, .d (.v (.int .i64 a))⟩
 unfold execOp
 have:=IntWalk.i64_in a ⟨by omega,h2⟩
 simp [ho,Dn g,convert,run_underlying hu,run_underlying hd,Conv.intToInt,this]
theorem Adi {t m:Nat} {el:TypeId} {x:Operand} {l:List D} {r:List (List D)} (ho:o.op= .slice t x none none none) (hx:e x= .d (.pt l)) (hu:P.underlying t=some (.array m el)) (h1:sizeB P el 1=true) (hm:m≤maxLen) (hl:m≤l.length) (hr:(l.take m).map (fun d=> [d])=r):
  A9 P o e h (.d (.sl 1 r)):=fun E H β ρ w _ hop=>by
 subst hr
 have g:=hop x (by rw [ho];simp [Op.operands])
 rw [hx] at g
 obtain ⟨b,off,g',e1,e2,e3⟩:=Xx (D5 g)
 have hb:(Instr.sliceBounds false m m (none:Option Value) none none).run P w= .ok (0,m,m) w:=rfl
 refine ⟨.slice (some ⟨b,off,none⟩) m m, ?_, .d ?_⟩
 ·unfold execOp
  simp only [ho,e1,Instr.sliceAt,Option.map_none,Sem.run_bind,run_underlying hu,Result.andThen_ok,Instr.sureAddr,Sem.run_pure,hb,sizeB.run h1,Nat.sub_zero,Nat.zero_mul]
  split<;>simp [Go.WideShapes.add_plain]
 ·have hget:∀(k j:Nat) (x:List D) (d:D),((l.take m).map fun d=> [d])[k]? =some x→x[j]? =some d→l[k]? =some d∧j=0:=by
   intro k j x d hk hj
   rw [List.getElem?_map,List.getElem?_take] at hk
   split at hk
   ·cases hq:l[k]? with
    |none=>rw [hq] at hk;cases hk
    |some d'=>
     rw [hq] at hk
     cases hk
     cases j with
     |zero=>cases hj;exact ⟨rfl,rfl⟩
     |succ j=>simp at hj
   ·cases hk
  refine .sl b off m m 1 _ (fun k _=>g' k) (by simp;omega) (Nat.le_refl _) hm (fun x hx=> ?_) (fun k j x d hk hj=> ?_) (fun k j x d hk hj=> ?_)
  ·obtain ⟨d,_,rfl⟩:=List.mem_map.1 hx;rfl
  ·obtain ⟨h1,rfl⟩:=hget k j x d hk hj
   rw [Nat.mul_one,Nat.add_zero]
   exact e2 k d h1
  ·exact e3 k d (hget k j x d hk hj).1
end
theorem Atf {P:Program} {F:FuncId} (hc:Callable P F) (l:List Value) {u:Value} {r:D} (h:∀w,Calls P F l.toArray w fun e w'=>e= .returned u∧w'=w) (hu:∀H,VD H u r):XC P F (l.map D.v) (fun x=>x=r):=by
 refine ⟨hc,fun H w vs him hsz hvs=> ?_⟩
 have:vs=l.toArray:=by
  apply Array.ext
  ·simpa using hsz
  ·intro i h1 h2
   have h3:i<l.length:=by simpa using h2
   have:=hvs i _ (.v l[i]) (Array.getElem?_eq_getElem h1) (by rw [List.getElem?_map,List.getElem?_eq_getElem h3];rfl)
   rw [O8 this]
   simp
 subst this
 refine (h w).mono ?_
 rintro e w' ⟨rfl,rfl⟩
 exact ⟨H,u,r,rfl,rfl,Hp.le.refl _,fun b o u e=> .inl e,him,Below.refl _ _,hu H⟩
end Go.Proofs.YtaafemnkamfgnaaGreat
namespace Go.Proofs.YtaafemnkamfgnaaGreat
open Go.RowKit
inductive Cl where
 |bf|fr|af|mu
 deriving DecidableEq
def Xh.by (m:Nat→Option XO→Option XO) (h:Xh):Xh:=fun k=>m k (h k)
def Ie (P:Program) (n:Nat) (o:Oper) (f:Fr) (h:Xh) (i:Nat) (s:S) (κ:S→S) (h':Xh):Prop:=∀f':Fr,(∀x∈o.op.operands,ev f' x=ev f x)→∀E H β a w,Sim E H β h w→FV n H β a f'→(∀x∈o.op.operands,VS H β (a.eval x) (ev f' x))→
  o.wp P a w (fun a' w'=>∃H' β' u,a'=a.put o.dst u∧Sim E H' β' h' w'∧FV n H' β' a (fun t=>κ (f' t))∧(i=987654∨∀j,j≠i→β' j=β j)∧VS H' β' u s) NoQ
def HM (m:Nat→Option XO→Option XO) (hA hB:Xh):Prop:=∀k o,hB k=some o→m k (hA k)=some o
theorem HM.by (m:Nat→Option XO→Option XO) (h:Xh):HM m h (h.by m):=fun _ _ e=>e
theorem HM.new {m:Nat→Option XO→Option XO} {hA hB:Xh} {x y:XO} (j:Nat) (hy:m j (some y)=some x) (h:HM m hA hB):HM m (hA.set j y) (hB.set j x):=fun k o e=>by
 by_cases e':j=k
 ·subst e';rw [Xh.set_same] at e ⊢;cases e;exact hy
 ·rw [Xh.set_ne _ _ e'] at e ⊢;exact h k o e
theorem HM.own {m:Nat→Option XO→Option XO} {hA hB:Xh} {y:XO} (j:Nat) (hy:∀z z',m j z=m j z') (h:HM m hA hB):HM m (hA.set j y) hB:=fun k o e=>by
 by_cases e':j=k
 ·subst e';rw [hy _ (hA j)];exact h j o e
 ·rw [Xh.set_ne _ _ e'];exact h k o e
def OpC (P:Program) (n:Nat) (ops:Array Oper) (o:Oper) (f:Fr) (h1:Xh) (ids:List Nat) (s:S):Prop:=
 (Bl ops f n o.guard=some true∧∀hF,HLe h1 hF→Ac7 P o (ev f) hF ids s)∨(Bl ops f n o.guard=some false∧ids= []∧s= .d (.v undef))
def MOK (P:Program) (n:Nat) (ops:Array Oper) (κ:S→S) (i:Nat) (m:Nat→Option XO→Option XO) (o:Oper) (fA fB:Fr) (hA hB:Xh) (c:Cl) (ids:List Nat) (sA sB:S):Prop:=
 ((c= .bf∨c= .fr)→OpC P n ops o fA hA ids sA∧sB=κ sA)∧((c= .af∨c= .fr)→OpC P n ops o fB hB ids sB)∧(c= .mu→Bl ops fA n o.guard=some true∧∀hF,HLe hA hF→Ie P n o fA hF i sB κ (hF.by m))∧(c= .bf∨i∉ids)
inductive ChM (P:Program) (n:Nat) (ops:Array Oper) (κ:S→S) (i:Nat) (m:Nat→Option XO→Option XO):List Oper→Fr→Fr→Xh→Xh→List Cl→List (List Nat × S)→List (List Nat × S)→Fr→Xh→Xh→Prop where
 |nil (fA fB:Fr) (hA hB:Xh):ChM P n ops κ i m [] fA fB hA hB [] [] [] fB hA hB
 |step {o:Oper} {rest:List Oper} {fA fB f':Fr} {hA hB hA1 hB1 hA' hB':Xh} {c:Cl} {ids:List Nat} {sA sB:S} {C:List Cl} {LA LB:List (List Nat × S)} (hleA:HLe hA hA1) (hleB:HLe hB hB1) (hnew:∀j x,hA1 j=some x→hA j=some x∨(j∈ids∧x.isG=false)) (hrel:HM m hA hB→HM m hA1 hB1)
   (hok:MOK P n ops κ i m o fA fB hA1 hB1 c ids sA sB) (hr:ChM P n ops κ i m rest (A7 fA o.dst sA) (A7 fB o.dst sB) hA1 hB1 C LA LB f' hA' hB'):ChM P n ops κ i m (o::rest) fA fB hA hB (c::C) ((ids,sA)::LA) ((ids,sB)::LB) f' hA' hB'
section
variable {P:Program} {n:Nat} {ops:Array Oper} {κ:S→S} {i:Nat} {m:Nat→Option XO→Option XO}
theorem OpC.mono {o:Oper} {f:Fr} {h1 h2:Xh} {ids:List Nat} {s:S} (h:OpC P n ops o f h1 ids s) (hle:HLe h1 h2):OpC P n ops o f h2 ids s:=by
 rcases h with ⟨h,k⟩|h
 ·exact .inl ⟨h,fun hF hl=>k hF (hle.trans hl)⟩
 ·exact .inr h
theorem MOK.mono {o:Oper} {fA fB:Fr} {hA hB hA' hB':Xh} {c:Cl} {ids:List Nat} {sA sB:S} (h:MOK P n ops κ i m o fA fB hA hB c ids sA sB) (hl:HLe hA hA') (hl':HLe hB hB'):MOK P n ops κ i m o fA fB hA' hB' c ids sA sB:=
 ⟨fun e=>⟨(h.1 e).1.mono hl,(h.1 e).2⟩,fun e=>(h.2.1 e).mono hl',fun e=>⟨(h.2.2.1 e).1,fun hF hl2=>(h.2.2.1 e).2 hF (hl.trans hl2)⟩,h.2.2.2⟩
theorem ChM.ok {l:List Oper} {fA fB f':Fr} {hA hB hA' hB':Xh} {C:List Cl} {LA LB:List (List Nat × S)} (hc:ChM P n ops κ i m l fA fB hA hB C LA LB f' hA' hB'):
  C.length=l.length∧LA.length=l.length∧LB.length=l.length∧LB.map (·.1)=LA.map (·.1)∧HLe hA hA'∧HLe hB hB'∧(∀j x,hA' j=some x→hA j=some x∨(j∈LA.flatMap (·.1)∧x.isG=false))∧(HM m hA hB→HM m hA' hB')∧
  (∀k o c qa qb,l[k]? =some o→C[k]? =some c→LA[k]? =some qa→LB[k]? =some qb→MOK P n ops κ i m o (A3 fA l LA Du k) (A3 fB l LB Du k) hA' hB' c qa.1 qa.2 qb.2)∧A3 fB l LB Du l.length=f':=by
 induction hc with
 |nil=>exact ⟨rfl,rfl,rfl,rfl,HLe.refl _,HLe.refl _,fun j x e=> .inl e,fun h=>h,fun k o c qa qb e=>by simp at e,rfl⟩
 | @step o rest fA fB f' hA hB hA1 hB1 hA' hB' c ids sA sB C LA LB hleA hleB hnew hrel hok hr ih=>
  obtain ⟨i1,i2,i3,i9,i4,i5,i6,i7,i8,i10⟩:=ih
  refine ⟨by simp [i1],by simp [i2],by simp [i3],by simp [i9],hleA.trans i4,hleB.trans i5,fun j x e=> ?_,fun h=>i7 (hrel h),fun k o' c' qa qb h1 h2 h3 h4=> ?_,by rw [List.length_cons,Fq];exact i10⟩
  ·rcases i6 j x e with e|e
   ·rcases hnew j x e with e|e
    ·exact .inl e
    ·exact .inr ⟨by simp [e.1],e.2⟩
   ·exact .inr ⟨by rw [List.flatMap_cons];exact List.mem_append_right _ e.1,e.2⟩
  ·cases k with
   |zero=>
    simp at h1 h2 h3 h4;subst h1 h2 h3 h4
    exact hok.mono i4 i5
   |succ k=>rw [Fq,Fq];exact i8 k o' c' qa qb (by simpa using h1) (by simpa using h2) (by simpa using h3) (by simpa using h4)
end
theorem Ub {κ:S→S} {l:List Oper} {LA LB:List (List Nat × S)} {lst:Nat→Bool} {fA fB:Fr} (hf:∀t,fB t=κ (fA t)) (hlen:LA.length=LB.length) (hL:∀k qa qb,LA[k]? =some qa→LB[k]? =some qb→lst k=true→qb.2=κ qa.2):∀k t,A3 fB l LB lst k t=κ (A3 fA l LA lst k t)
 |0,t=>hf t
 |k+1,t=>by
  have ih:=Ub (l:=l) hf hlen hL k
  unfold A3
  cases ho:l[k]? with
  |none=>exact ih t
  |some o=>
   cases ha:LA[k]? with
   |none=>
    have:LB[k]? =none:=List.getElem?_eq_none (by rw [←hlen];exact List.getElem?_eq_none_iff.1 ha)
    rw [this];exact ih t
   |some qa=>
    obtain ⟨qb,hb⟩:∃qb,LB[k]? =some qb:=⟨_,List.getElem?_eq_getElem (by rw [←hlen];exact (List.getElem?_eq_some_iff.1 ha).1)⟩
    rw [hb]
    cases hl:lst k with
    |false=>exact ih t
    |true=>
     have e:=hL k qa qb ha hb hl
     simp only [cond_true]
     cases hd:o.dst with
     |none=>exact ih t
     |some t'=>
      simp only [A7,Ds]
      cases Nat.beq t' t with
      |true=>simp only [cond_true];exact e
      |false=>simp only [cond_false];exact ih t
def Ah6 (ops:Array Oper) (p:Nat) (C:List Cl):Bool:=
 (List.range C.length).all fun k=>
  match C[k]? with
  |some .bf=>Da ops 5 p k
  |some .af=>Da ops 5 k p
  |some .mu=>Nat.beq k p
  |some .fr=>true
  |none=>true
theorem Am6 {L:List (List Nat × S)} (hnd:(L.flatMap (·.1)).Nodup):∀(k k':Nat) (ids ids':List Nat) (s s':S) (i:Nat),L[k]? =some (ids,s)→L[k']? =some (ids',s')→i∈ids→i∈ids'→k=k':=by
 induction L with
 |nil=>intro k k' ids ids' s s' i h1;simp at h1
 |cons q L ih=>
  rw [List.flatMap_cons,List.nodup_append] at hnd
  intro k k' ids ids' s s' i h1 h2 h3 h4
  cases k with
  |zero=>
   cases k' with
   |zero=>rfl
   |succ k'=>
    simp at h1 h2
    subst h1
    exact absurd rfl (hnd.2.2 i h3 i (List.mem_flatMap.2 ⟨_,List.mem_of_getElem? h2,h4⟩))
  |succ k=>
   cases k' with
   |zero=>
    simp at h1 h2
    subst h2
    exact absurd rfl (hnd.2.2 i h4 i (List.mem_flatMap.2 ⟨_,List.mem_of_getElem? h1,h3⟩))
   |succ k'=>exact congrArg (· +1) (ih hnd.2.1 k k' ids ids' s s' i (by simpa using h1) (by simpa using h2) h3 h4)
section
variable (P:Program) (n:Nat) (ops:Array Oper) (pre:List Oper) (p:Nat) (fA fB:Fr) (hA hB:Xh) (LA LB:List (List Nat × S)) (E:Env)
def Aif (listed:Array Bool) (a:Act) (w:World):Prop:=
 (listed.size=ops.size∧(∀j o e,ops[j]? =some o→listed.getD j false=true→e∈o.after→Region.binds .any e=true→listed.getD e.on false=true)∧∀k,pre.length≤k→listed.getD k false=false)∧
  ((listed.getD p false = false ∧ ∃ H β, Sim E H β hA w ∧ FV n H β a (A3 fA pre LA (fun j => listed.getD j false) pre.length) ∧ ∀ (k : Nat) (q : List Nat × S), LA[k]? = some q → listed.getD k false = false → ∀ i ∈ q.1, β i = none) ∨
   (listed.getD p false = true ∧ ∃ H β, Sim E H β hB w ∧ FV n H β a (A3 fB pre LB (fun j => listed.getD j false) pre.length) ∧ ∀ (k : Nat) (q : List Nat × S), LA[k]? = some q → listed.getD k false = false → ∀ i ∈ q.1, β i = none))
end
theorem Akb {P:Program} {n:Nat} {ops:Array Oper} {pre:List Oper} {p:Nat} {fA fB:Fr} {hA hB:Xh} {LA LB:List (List Nat × S)} {E:Env} {Q:Exit→Act→World→Prop} {κ:S→S} {i0:Nat} {m:Nat→Option XO→Option XO} {C:List Cl}
  (hops:∀j,j<pre.length→ops[j]? =pre[j]?) (hin:pre.all (inN n)=true) (hreg:Jo ops pre=true) (hf:∀t,fB t=κ (fA t)) (hCl:C.length=pre.length) (hAl:LA.length=pre.length) (hBl:LB.length=pre.length) (hids:LB.map (·.1)=LA.map (·.1)) (hnd:(LA.flatMap (·.1)).Nodup) (hrel:HM m hA hB)
  (hok:∀k o c qa qb,pre[k]? =some o→C[k]? =some c→LA[k]? =some qa→LB[k]? =some qb→MOK P n ops κ i0 m o (A3 fA pre LA Du k) (A3 fB pre LB Du k) hA hB c qa.1 qa.2 qb.2)
  (hz:i0=987654→LA.flatMap (·.1)= []) (hp:C[p]? =some .mu) (hcls:Ah6 ops p C=true) {listed:Array Bool} {a:Act} {w:World} (hI:Aif n ops pre p fA fB hA hB LA LB E listed a w) {i:Nat} (hi:i∈Region.ready .any ops listed) (hip0:i<pre.length):
  wpOp P ops Q i (fun a' w'=>Aif n ops pre p fA fB hA hB LA LB E (listed.setIfInBounds i true) a' w') a w:=by
 obtain ⟨⟨hsz,hdown,hunp⟩,hcase⟩:=hI
 have hcl:∀k c,C[k]? =some c→match c with|Cl.bf=>Da ops 5 p k=true|Cl.af=>Da ops 5 k p=true|Cl.mu=>k=p|Cl.fr=>True:=by
  intro k c hck
  unfold Ah6 at hcls
  have:=List.all_eq_true.1 hcls k (List.mem_range.2 (List.getElem?_eq_some_iff.1 hck).1)
  rw [hck] at this
  cases c with
  |mu=>exact Nat.eq_of_beq_eq_true this
  |fr=>trivial
  |bf=>exact this
  |af=>exact this
 obtain ⟨hil,hunl,o,ho,hdeps⟩:=Fj hi
 have hil':i<pre.length:=hip0
 have hol:pre[i]? =some o:=by rw [←hops i hip0];exact ho
 obtain ⟨⟨ids,sA⟩,hLA⟩:∃q,LA[i]? =some q:=⟨_,List.getElem?_eq_getElem (by omega)⟩
 obtain ⟨⟨idsB,sB⟩,hLB⟩:∃q,LB[i]? =some q:=⟨_,List.getElem?_eq_getElem (by omega)⟩
 obtain ⟨c,hC⟩:∃q,C[i]? =some q:=⟨_,List.getElem?_eq_getElem (by omega)⟩
 have hunl':listed.getD i false=false:=by rw [←Hk true (by omega)];exact hunl
 have hdown':∀j o e,ops[j]? =some o→(fun j=>listed.getD j false) j=true→e∈o.after→Region.binds .any e=true→(fun j=>listed.getD j false) e.on=true:=fun j o e h1 h2 h3 h4=>hdown j o e (by simpa using h1) h2 h3 h4
 have hwl:∀d j,Da ops (d+1) i j=true→listed.getD j false=true:=by
  intro d j hw
  unfold Da at hw
  rw [ho] at hw
  simp only [List.any_eq_true,Bool.and_eq_true,Bool.or_eq_true] at hw
  obtain ⟨e,he,hb,h2⟩:=hw
  have hl:=hdeps e (by simpa using he) hb
  rcases h2 with h2|h2
  ·rw [←Nat.eq_of_beq_eq_true h2];exact hl
  ·exact Cy hdown' d e.on j h2 hl
 have hlo:∀t,t∈B8 ops o→∀j o',j<i→pre[j]? =some o'→o'.dst=some t→listed.getD j false=true:=by
  intro t ht j o' hj hj' hd
  exact hwl 2 j (Hi hreg hj hj' hol (by unfold Le;rw [hd];simp [Hx ht]))
 have hhi:∀t,t∈B8 ops o→∀j o',i<j→pre[j]? =some o'→o'.dst=some t→listed.getD j false=false:=by
  intro t ht j o' hj hj' hd
  cases hlj:listed.getD j false with
  |false=>rfl
  |true=>
   have hw:=Hi hreg hj hol hj' (by unfold Le;rw [hd];simp [Hx ht])
   have:=Cy hdown' 3 j i hw hlj
   rw [hunl'] at this;cases this
 have hcur:∀(f0:Fr) (L:List (List Nat × S)) t,t∈B8 ops o→A3 f0 pre L (fun j=>listed.getD j false) pre.length t=A3 f0 pre L Du i t:=by
  intro f0 L t ht
  have h1:∀j o',i≤j→pre[j]? =some o'→o'.dst=some t→(fun j=>listed.getD j false) j=false:=by
   intro j o' hj hj' hd
   by_cases e:j=i
   ·subst e;exact hunl'
   ·exact hhi t ht j o' (by omega) hj' hd
  rw [Gw h1 pre.length (by omega),Lw (hlo t ht) i (Nat.le_refl _)]
 have hin':inN n o=true:=List.all_eq_true.1 hin o (List.mem_of_getElem? hol)
 have hoin:=hin'
 unfold inN at hoin
 rw [Bool.and_eq_true] at hoin
 have hopn:∀t,Operand.tmp t∈o.op.operands→t∈B8 ops o:=by
  intro t hx
  unfold B8 Oper.looksAt
  simp only [List.mem_append,List.mem_filterMap]
  exact .inr (.inl ⟨.tmp t,by simpa using hx,rfl⟩)
 have hev:∀(f0:Fr) (L:List (List Nat × S)),∀x∈o.op.operands,ev (A3 f0 pre L (fun j=>listed.getD j false) pre.length) x=ev (A3 f0 pre L Du i) x:=by
  intro f0 L x hx
  cases x with
  |tmp t=>simp only [ev];exact hcur f0 L t (hopn t hx)
  |_=>rfl
 have hop:∀(f0:Fr) (L:List (List Nat × S)) (H:Hp) (β:Bt),FV n H β a (A3 f0 pre L (fun j=>listed.getD j false) pre.length)→∀x∈o.op.operands,VS H β (a.eval x) (ev (A3 f0 pre L Du i) x):=by
  intro f0 L H β hfv x hx
  rw [←hev f0 L x hx]
  exact hfv.operands hin' x hx
 have hguard:∀(f0:Fr) (L:List (List Nat × S)) (H:Hp) (β:Bt),FV n H β a (A3 f0 pre L (fun j=>listed.getD j false) pre.length)→∀b,Bl ops (A3 f0 pre L Du i) n o.guard=some b→Region.wanted o (yielded ops a.tmps)=b:=by
  intro f0 L H β hfv b hb
  refine Hn hfv ?_
  rw [←hb]
  unfold Bl
  cases hg:o.guard with
  |none=>rfl
  |some g=>
   obtain ⟨j,want⟩:=g
   simp only
   cases ht:(ops[j]?).bind (·.dst) with
   |none=>rfl
   |some t=>
    simp only
    have htn:t∈B8 ops o:=by
     unfold B8 Oper.looksAt
     rw [hg]
     simp only [List.mem_append]
     exact .inr (.inr (by rw [ht];simp))
    rw [hcur f0 L t htn]
 have hlisted':∀j,(listed.setIfInBounds i true).getD j false=if j=i then true else listed.getD j false:=by
  intro j
  by_cases e:j=i
  ·subst e
   simp [Array.getD_eq_getD_getElem?,show j<listed.size by omega]
  ·rw [if_neg e]
   simp [Array.getD_eq_getD_getElem?,Array.getElem?_setIfInBounds_ne (fun h=>e h.symm)]
 have hdown2:∀j o' e,ops[j]? =some o'→(listed.setIfInBounds i true).getD j false=true→e∈o'.after→Region.binds .any e=true→(listed.setIfInBounds i true).getD e.on false=true:=by
  intro j o' e hj hl he hb
  rw [hlisted'] at hl ⊢
  split
  ·rfl
  ·by_cases ej:j=i
   ·subst ej
    rw [ho] at hj;cases hj
    exact hdeps e he hb
   ·rw [if_neg ej] at hl
    exact hdown j o' e hj hl he hb
 have hslot:∀(f0:Fr) (L:List (List Nat × S)) (q:List Nat × S) (H':Hp) (β':Bt) (u:Value),L[i]? =some q→FV n H' β' a (A3 f0 pre L (fun j=>listed.getD j false) pre.length)→VS H' β' u q.2→FV n H' β' (a.put o.dst u) (A3 f0 pre L (fun j=>(listed.setIfInBounds i true).getD j false) pre.length):=by
  intro f0 L q H' β' u hLi hfv' hu
  have hp:=hfv'.put hu o.dst hoin.2
  refine ⟨hp.defers,hp.size,fun t ht=> ?_⟩
  have h1:=hp.slot t ht
  have hsame:∀j,j≠i→(fun j=>(listed.setIfInBounds i true).getD j false) j=(fun j=>listed.getD j false) j:=fun j hj=>by simp only;rw [hlisted',if_neg hj]
  by_cases hd:o.dst=some t
  ·have ht':t∈B8 ops o:=by unfold B8;simp [hd]
   have e1:A3 f0 pre L (fun j=>(listed.setIfInBounds i true).getD j false) pre.length t=A3 f0 pre L (fun j=>(listed.setIfInBounds i true).getD j false) (i+1) t:=by
    refine Gw (fun j o' hj hj' hd'=> ?_) pre.length (by omega)
    show (listed.setIfInBounds i true).getD j false=false
    rw [hlisted',if_neg (by omega)]
    exact hhi t ht' j o' (by omega) hj' hd'
   have e2:A3 f0 pre L (fun j=>(listed.setIfInBounds i true).getD j false) (i+1) t=q.2:=by
    unfold A3
    rw [hol,hLi]
    have hb:(listed.setIfInBounds i true).getD i false=true:=by rw [hlisted',if_pos rfl]
    simp only [hb,cond_true,A7,hd,Ds,Bh]
   have e3:A7 (A3 f0 pre L (fun j=>listed.getD j false) pre.length) o.dst q.2 t=q.2:=by rw [hd];simp only [A7,Ds,Bh,cond_true]
   rw [e1,e2]
   rw [e3] at h1
   exact h1
  ·have e1:=Kr (f:=f0) (L:=L) (lst:=fun j=>listed.getD j false) (t:=t) hsame (fun o' h=>by rw [hol] at h;cases h;exact hd) pre.length
   have e3:A7 (A3 f0 pre L (fun j=>listed.getD j false) pre.length) o.dst q.2 t=A3 f0 pre L (fun j=>listed.getD j false) pre.length t:=by
    cases hdd:o.dst with
    |none=>rfl
    |some t'=>
     have:t'≠t:=fun e=>hd (by rw [hdd,e])
     simp only [A7,Ds,Bp this,cond_false]
   rw [e1]
   rw [e3] at h1
   exact h1
 have hsz':(listed.setIfInBounds i true).size=ops.size:=by simpa using hsz
 have hunp2:∀k,pre.length≤k→(listed.setIfInBounds i true).getD k false=false:=fun k hk=>by rw [hlisted',if_neg (by omega)];exact hunp k hk
 obtain ⟨m1,m2,m3,m4⟩:=hok i o c _ _ hol hC hLA hLB
 simp only at m1 m2 m3 m4
 have hcls1:=hcl i c hC
 have huniq:=Am6 hnd
 have hun2:∀(β β':Bt),(∀(k:Nat) (q:List Nat × S),LA[k]? =some q→listed.getD k false=false→∀i∈q.1,β i=none)→(∀j,j∉ids→β' j=β j)→∀(k:Nat) (q:List Nat × S),LA[k]? =some q→(listed.setIfInBounds i true).getD k false=false→∀j∈q.1,β' j=none:=by
  intro β β' hun hβ' k q hk hl j hj
  rw [hlisted'] at hl
  by_cases e:k=i
  ·rw [if_pos e] at hl;cases hl
  ·rw [if_neg e] at hl
   obtain ⟨q1,q2⟩:=q
   rw [hβ' j (fun hc=>e (huniq k i q1 ids q2 sA j hk hLA hj hc))]
   exact hun k _ hk hl j hj
 unfold wpOp
 rw [ho]
 simp only
 rcases hcase with ⟨hpn,H,β,hsim,hfv,hun⟩|⟨hpy,H,β,hsim,hfv,hun⟩
 ·by_cases hip:i=p
  ·subst hip
   have:c= .mu:=by rw [hC] at hp;cases hp;rfl
   subst this
   obtain ⟨k1,k2⟩:=m3 rfl
   rw [if_pos (hguard fA LA H β hfv _ k1)]
   have hop':∀x∈o.op.operands,VS H β (a.eval x) (ev (A3 fA pre LA (fun j=>listed.getD j false) pre.length) x):=hfv.operands hin'
   refine .inl (Dm (k2 hA (HLe.refl _) _ (hev fA LA) E H β a w hsim hfv hop') ?_)
   rintro a' w' ⟨H',β',u,rfl,q1,q2,q4,q3⟩
   refine ⟨⟨hsz',hdown2,hunp2⟩, .inr ⟨by rw [hlisted',if_pos rfl],H',β',q1.drop hrel,hslot _ LB _ H' β' u hLB ?_ q3,fun k q hk hl j hj=> ?_⟩⟩
   ·refine ⟨q2.defers,q2.size,fun t ht=> ?_⟩
    have hrel := Ub (κ := κ) (l := pre) (LA := LA) (LB := LB) (lst := fun j => listed.getD j false) (fA := fA) (fB := fB) hf (by omega) (fun k qa' qb' ha hb hlk => by
     have hkl:k<pre.length:=by rw [←hAl];exact (List.getElem?_eq_some_iff.1 ha).1
     obtain ⟨c',hC'⟩:∃q,C[k]? =some q:=⟨_,List.getElem?_eq_getElem (by omega)⟩
     have hokk:=hok k _ c' qa' qb' (List.getElem?_eq_getElem hkl) hC' ha hb
     have hck:=hcl k c' hC'
     cases c' with
     |bf=>exact (hokk.1 (.inl rfl)).2
     |fr=>exact (hokk.1 (.inr rfl)).2
     |mu=>
      have:k=i:=hck
      subst this
      rw [hunl'] at hlk;cases hlk
     |af=>
      have:=Cy hdown' 5 k i hck hlk
      rw [hunl'] at this; cases this) pre.length t
    rw [hrel]
    exact q2.slot t ht
   ·-- the object that is written was there
    by_cases ej:j=i0
    ·subst ej
     rw [hlisted'] at hl
     split at hl
     ·cases hl
     ·have hkl:k<pre.length:=by rw [←hAl];exact (List.getElem?_eq_some_iff.1 hk).1
      obtain ⟨c',hC'⟩:∃q,C[k]? =some q:=⟨_,List.getElem?_eq_getElem (by omega)⟩
      obtain ⟨qb',hb'⟩:∃q,LB[k]? =some q:=⟨_,List.getElem?_eq_getElem (by omega)⟩
      have hokk:=(hok k _ c' q qb' (List.getElem?_eq_getElem hkl) hC' hk hb').2.2.2
      rcases hokk with e|e
      ·subst e
       have:=hcl k _ hC'
       have:=hwl 4 k this
       rw [hl] at this;cases this
      ·exact absurd hj e
    ·rcases q4 with q4|q4
     ·have:=hz q4
      have hm:j∈LA.flatMap (·.1):=List.mem_flatMap.2 ⟨q,List.mem_of_getElem? hk,hj⟩
      rw [this] at hm;cases hm
     rw [q4 j ej]
     rw [hlisted'] at hl
     split at hl
     ·cases hl
     ·exact hun k q hk hl j hj
  ·have hcase2:c= .bf∨c= .fr:=by
    cases c with
    |bf=>exact .inl rfl
    |fr=>exact .inr rfl
    |mu=>exact absurd hcls1 hip
    |af=>
     have:=hwl 4 p hcls1
     rw [hpn] at this;cases this
   have hpn':(listed.setIfInBounds i true).getD p false=false:=by rw [hlisted',if_neg (fun e=>hip e.symm)];exact hpn
   rcases (m1 hcase2).1 with ⟨hw,hcalm⟩|⟨hw,_,hs0⟩
   ·rw [if_pos (hguard fA LA H β hfv _ hw)]
    refine .inl (Dm (hcalm hA (HLe.refl _) E H β a w hsim (hun i _ hLA hunl') (hop fA LA H β hfv)) ?_)
    rintro a' w' ⟨H',β',u,rfl,k1,k2,k3,k4,k5⟩
    exact ⟨⟨hsz',hdown2,hunp2⟩, .inl ⟨hpn',H',β',k1,hslot fA LA _ H' β' u hLA (hfv.mono k2 k3) k5,hun2 β β' hun k4⟩⟩
   ·rw [if_neg (by rw [hguard fA LA H β hfv _ hw];simp)]
    exact ⟨⟨hsz',hdown2,hunp2⟩, .inl ⟨hpn',H,β,hsim,hslot fA LA _ H β undef hLA hfv (by rw [hs0];exact .d (.v _)),hun2 β β hun fun _ _=>rfl⟩⟩
 ·have hip:i≠p:=fun e=>by subst e;rw [hunl'] at hpy;cases hpy
  have hcase2:c= .af∨c= .fr:=by
   cases c with
   |af=>exact .inl rfl
   |fr=>exact .inr rfl
   |mu=>exact absurd hcls1 hip
   |bf=>
    have:=Cy hdown' 5 p i hcls1 hpy
    rw [hunl'] at this;cases this
  have hpy':(listed.setIfInBounds i true).getD p false=true:=by rw [hlisted',if_neg (fun e=>hip e.symm)];exact hpy
  rcases m2 hcase2 with ⟨hw,hcalm⟩|⟨hw,_,hs0⟩
  ·rw [if_pos (hguard _ LB H β hfv _ hw)]
   refine .inl (Dm (hcalm hB (HLe.refl _) E H β a w hsim (hun i _ hLA hunl') (hop _ LB H β hfv)) ?_)
   rintro a' w' ⟨H',β',u,rfl,k1,k2,k3,k4,k5⟩
   exact ⟨⟨hsz',hdown2,hunp2⟩, .inr ⟨hpy',H',β',k1,hslot _ LB _ H' β' u hLB (hfv.mono k2 k3) k5,hun2 β β' hun k4⟩⟩
  ·rw [if_neg (by rw [hguard _ LB H β hfv _ hw];simp)]
   exact ⟨⟨hsz',hdown2,hunp2⟩, .inr ⟨hpy',H,β,hsim,hslot _ LB _ H β undef hLB hfv (by rw [hs0];exact .d (.v _)),hun2 β β hun fun _ _=>rfl⟩⟩
theorem Akc {n:Nat} {ops:Array Oper} {pre:List Oper} {p:Nat} {f:Fr} {fB:Fr} {h hA hB:Xh} {LA LB:List (List Nat × S)} {E:Env} {H:Hp} {β:Bt} {a:Act} {w:World} (sites:List Nat) (hs:Sim E H β h w) (hf:FV n H β a f)
  (hnew:∀j x,hA j=some x→E1 h sites j=some x∨(j∈LA.flatMap (·.1)∧x.isG=false)) (hids:LA.flatMap (·.1)=sites):Aif n ops pre p (Er f sites) fB hA hB LA LB E (Array.replicate ops.size false) a w.drew:=by
 obtain ⟨hs1,hf1⟩:=Nc sites β f h hs hf
 have hz:∀k,(Array.replicate ops.size false).getD k false=false:=fun k=>by
  rw [Array.getD_eq_getD_getElem?,Array.getElem?_replicate];split<;>rfl
 have hs2:Sim E H (Fs β sites) hA w:=by
  have emp:∀i x L0,hA i=some x→Fs β sites i=some L0→E1 h sites i=some x:=fun i x L0 e1 e2=>by
   rcases hnew i x e1 with e|e
   ·exact e
   ·rw [hids] at e
    rw [F6 sites β i e.1] at e2;cases e2
  exact ⟨hs1.below, hs1.ext, hs1.new, hs1.imm, fun i x L0 e1 e2 => hs1.obj i x L0 (emp i x L0 e1 e2) e2, fun i x L0 e1 e2 => hs1.sep i x L0 (emp i x L0 e1 e2) e2,
   fun i j x x' L1 L2 b hij e1 e1' e2 e2'=>hs1.inj i j x x' L1 L2 b hij (emp i x L1 e1 e2) (emp j x' L2 e1' e2') e2 e2',
   fun i x e1 hg=>by
    rcases hnew i x e1 with e|e
    ·exact hs1.dom i x e hg
    ·rw [e.2] at hg; cases hg⟩
 refine ⟨⟨by simp,fun j o e _ hj=>(by rw [hz] at hj;cases hj),fun k _=>hz k⟩, .inl ⟨hz p,H,Fs β sites,hs2.drew, ?_,fun k q hk _ i hi=>F6 sites β i (by rw [←hids];exact List.mem_flatMap.2 ⟨_,List.mem_of_getElem? hk,hi⟩)⟩⟩
 have e0:∀k,A3 (Er f sites) pre LA (fun j=>(Array.replicate ops.size false).getD j false) k=Er f sites:=by
  intro k
  induction k with
  |zero=>rfl
  |succ k ih=>
   unfold A3
   cases pre[k]? with
   |none=>exact ih
   |some o=>
    cases LA[k]? with
    |none=>exact ih
    |some q=>
     simp only
     rw [hz,cond_false]
     exact ih
 rw [e0]
 exact hf1
theorem Uc {f0:Fr} {l:List Oper} {L:List (List Nat × S)} {lst:Nat→Bool} (hall:∀k,k<l.length→lst k=true):∀k,k≤l.length→A3 f0 l L lst k=A3 f0 l L Du k
 |0,_=>rfl
 |k+1,hk=>by
  unfold A3
  rw [Uc hall k (by omega)]
  cases l[k]? with
  |none=>rfl
  |some o=>
   cases L[k]? with
   |none=>rfl
   |some q=>simp only [hall k (by omega),Du]
theorem Aow {P:Program} {n id:Nat} {pre suf:List Oper} {ops:Array Oper} {K:Cu} {f f':Fr} {h hA hB:Xh} {κ:S→S} {i0:Nat} {m:Nat→Option XO→Option XO} {C:List Cl} {LA LB:List (List Nat × S)} (p:Nat) (sites:List Nat) (hopsE:ops=(pre++suf).toArray) (hne:0<suf.length) (hm:P.follows .mixedOrders=true) (hin:pre.all (inN n)=true) (hin2:suf.all (inN n)=true)
  (hreg:Jo ops pre=true) (hS:Pa ops pre.length=true) (hnd:sites.Nodup)
  (hc:ChM P n ops κ i0 m pre (Er f sites) (fun t=>κ (Er f sites t)) (E1 h sites) ((E1 h sites).by m) C LA LB f' hA hB) (hids:LA.flatMap (·.1)=sites) (hz:i0=987654→sites= []) (hp:C[p]? =some .mu) (hcls:Ah6 ops p C=true) (hk:XL P n ops suf K f' hB):XW P n (.region id ops true) K f h:=by
 have hops:∀j,j<pre.length→ops[j]? =pre[j]? :=fun j hj=>by rw [hopsE];simp [List.getElem?_append_left hj]
 have hops2:∀j,suf[j]? =ops[pre.length+j]? :=fun j=>by rw [hopsE,List.getElem?_toArray,List.getElem?_append_right (by omega),Nat.add_sub_cancel_left]
 have hsize:ops.size=pre.length+suf.length:=by rw [hopsE];simp
 intro E H β a w hs hf
 obtain ⟨k1,k2,k3,k9,k4,k5,k6,k7,k8,k10⟩:=hc.ok
 have hpl:p<pre.length:=by rw [←k1];exact (List.getElem?_eq_some_iff.1 hp).1
 refine Ly (I:=Aif n ops pre p (Er f sites) (fun t=>κ (Er f sites t)) hA hB LA LB E) pre.length suf hm hops2 hsize hne hS (Akc sites hs hf k6 hids) (fun _ _ _ hI=>hI.1) ?_ ?_
 ·intro listed a w hI i hi hip
  exact Akb hops hin hreg (fun _=>rfl) k1 k2 k3 k9 (hids ▸ hnd) (k7 (HM.by m _)) k8 (fun e=>by rw [hids];exact hz e) hp hcls hI hi hip
 ·rintro listed a w ⟨_,hcase⟩ hall
  rcases hcase with ⟨hpn,_⟩|⟨_,H,β,hsim,hfv,_⟩
  ·rw [hall p hpl] at hpn;cases hpn
  ·refine hk hin2 E H β a w hsim ?_
   rw [Uc hall pre.length (Nat.le_refl _),k10] at hfv
   exact hfv
def ChMK (P:Program) (n:Nat) (ops:Array Oper) (κ:S→S) (i0:Nat) (m:Nat→Option XO→Option XO) (rest:List Oper) (fA fB:Fr) (hA hB:Xh) (acc:List Cl) (ia:List Nat) (G:List Cl→List Nat→Fr→Xh→Prop):Prop:=∃C LA LB f' hA' hB',ChM P n ops κ i0 m rest fA fB hA hB C LA LB f' hA' hB'∧G (acc++C) (ia++LA.flatMap (·.1)) f' hB'
section
variable {P:Program} {n:Nat} {ops:Array Oper} {κ:S→S} {i0:Nat} {m:Nat→Option XO→Option XO} {rest:List Oper} {fA fB:Fr} {hA hB hA1 hB1:Xh} {o:Oper} {s s':S} {ids:List Nat} {acc:List Cl} {ia:List Nat} {G:List Cl→List Nat→Fr→Xh→Prop}
theorem ChMK.nil (hg:G acc ia fB hB):ChMK P n ops κ i0 m [] fA fB hA hB acc ia G:=⟨[], [], [],fB,hA,hB, .nil _ _ _ _,by simpa using hg⟩
theorem ChMK.step {c:Cl} (hleA:HLe hA hA1) (hleB:HLe hB hB1) (hnew:∀j x,hA1 j=some x→hA j=some x∨(j∈ids∧x.isG=false)) (hrel:HM m hA hB→HM m hA1 hB1)
   (hok:MOK P n ops κ i0 m o fA fB hA1 hB1 c ids s s') (hr:ChMK P n ops κ i0 m rest (A7 fA o.dst s) (A7 fB o.dst s') hA1 hB1 (acc++ [c]) (ia++ids) G):ChMK P n ops κ i0 m (o::rest) fA fB hA hB acc ia G:=by
 obtain ⟨C,LA,LB,f',hA',hB',k1,k2⟩:=hr
 refine ⟨_,_,_,f',hA',hB', .step hleA hleB hnew hrel hok k1, ?_⟩
 rw [List.append_assoc,List.append_assoc] at k2
 exact k2
theorem Ke {f:Fr} {h h1:Xh} (hw:Bl ops f n o.guard=some true) (hc:CStep P o f h ids s h1):OpC P n ops o f h1 ids s:= .inl ⟨hw,hc.3⟩
theorem CStep.hle {f:Fr} {h h1:Xh} (hc:CStep P o f h ids s h1):HLe h h1:=hc.1
theorem nbf:¬(Cl.bf= .af∨Cl.bf= .fr):=by decide
theorem naf:¬(Cl.af= .bf∨Cl.af= .fr):=by decide
theorem ChMK.bf (hw:Bl ops fA n o.guard=some true) (hc:CStep P o fA hA [] s hA) (hk:κ s=s') (hr:ChMK P n ops κ i0 m rest (A7 fA o.dst s) (A7 fB o.dst s') hA hB (acc++ [.bf]) (ia++ []) G):ChMK P n ops κ i0 m (o::rest) fA fB hA hB acc ia G:=
 .step (HLe.refl _) (HLe.refl _) (fun _ _ e=> .inl e) (fun h=>h) ⟨fun _=>⟨Ke hw hc,hk.symm⟩,fun e=>absurd e nbf,fun e=>(by cases e), .inl rfl⟩ hr
theorem ChMK.bfO {y:XO} (hw:Bl ops fA n o.guard=some true) (hc:CStep P o fA hA [i0] s (hA.set i0 y)) (hk:κ s=s') (hm:∀z z',m i0 z=m i0 z') (hr:ChMK P n ops κ i0 m rest (A7 fA o.dst s) (A7 fB o.dst s') (hA.set i0 y) hB (acc++ [.bf]) (ia++ [i0]) G):ChMK P n ops κ i0 m (o::rest) fA fB hA hB acc ia G:=
 .step hc.hle (HLe.refl _) (by obtain ⟨_,h,_⟩:=hc;exact h) (HM.own i0 hm) ⟨fun _=>⟨Ke hw hc,hk.symm⟩,fun e=>absurd e nbf,fun e=>(by cases e), .inl rfl⟩ hr
theorem ChMK.bfN {j:Nat} {x y:XO} (hw:Bl ops fA n o.guard=some true) (hc:CStep P o fA hA [j] s (hA.set j y)) (hk:κ s=s') (hm:m j (some y)=some x) (hj:hB j=none) (hr:ChMK P n ops κ i0 m rest (A7 fA o.dst s) (A7 fB o.dst s') (hA.set j y) (hB.set j x) (acc++ [.bf]) (ia++ [j]) G):ChMK P n ops κ i0 m (o::rest) fA fB hA hB acc ia G:=
 .step hc.hle (HLe.set _ hj) (by obtain ⟨_,h,_⟩:=hc;exact h) (HM.new j hm) ⟨fun _=>⟨Ke hw hc,hk.symm⟩,fun e=>absurd e nbf,fun e=>(by cases e), .inl rfl⟩ hr
theorem ChMK.fr (hw:Bl ops fA n o.guard=some true) (hw':Bl ops fB n o.guard=some true) (hc:CStep P o fA hA [] s hA) (hc':CStep P o fB hB [] s' hB) (hk:κ s=s') (hr:ChMK P n ops κ i0 m rest (A7 fA o.dst s) (A7 fB o.dst s') hA hB (acc++ [.fr]) (ia++ []) G):ChMK P n ops κ i0 m (o::rest) fA fB hA hB acc ia G:=
 .step (HLe.refl _) (HLe.refl _) (fun _ _ e=> .inl e) (fun h=>h) ⟨fun _=>⟨Ke hw hc,hk.symm⟩,fun _=>Ke hw' hc',fun e=>(by cases e), .inr (by simp)⟩ hr
theorem ChMK.frN {j:Nat} {x y:XO} (hw:Bl ops fA n o.guard=some true) (hw':Bl ops fB n o.guard=some true) (hc:CStep P o fA hA [j] s (hA.set j y)) (hc':CStep P o fB hB [j] s' (hB.set j x)) (hk:κ s=s') (hm:m j (some y)=some x) (hij:Nat.beq i0 j=false) (hr:ChMK P n ops κ i0 m rest (A7 fA o.dst s) (A7 fB o.dst s') (hA.set j y) (hB.set j x) (acc++ [.fr]) (ia++ [j]) G):ChMK P n ops κ i0 m (o::rest) fA fB hA hB acc ia G:=
 .step hc.hle hc'.hle (by obtain ⟨_, h, _⟩ := hc; exact h) (HM.new j hm) ⟨fun _ => ⟨Ke hw hc, hk.symm⟩, fun _ => Ke hw' hc', fun e => (by cases e), .inr (by
  intro hj; rw [List.mem_singleton] at hj; subst hj; rw [Bh] at hij; cases hij)⟩ hr
theorem ChMK.af (hw':Bl ops fB n o.guard=some true) (hc':CStep P o fB hB [] s' hB) (hr:ChMK P n ops κ i0 m rest (A7 fA o.dst .any) (A7 fB o.dst s') hA hB (acc++ [.af]) (ia++ []) G):ChMK P n ops κ i0 m (o::rest) fA fB hA hB acc ia G:=
 .step (HLe.refl _) (HLe.refl _) (fun _ _ e=> .inl e) (fun h=>h) ⟨fun e=>absurd e naf,fun _=>Ke hw' hc',fun e=>(by cases e), .inr (by simp)⟩ hr
theorem ChMK.mu (hw:Bl ops fA n o.guard=some true) (hc:∀hF,HLe hA hF→Ie P n o fA hF i0 s' κ (hF.by m)) (hr:ChMK P n ops κ i0 m rest (A7 fA o.dst .any) (A7 fB o.dst s') hA hB (acc++ [.mu]) (ia++ []) G):ChMK P n ops κ i0 m (o::rest) fA fB hA hB acc ia G:=
 .step (HLe.refl _) (HLe.refl _) (fun _ _ e=> .inl e) (fun h=>h) ⟨fun e=>absurd e (by decide),fun e=>absurd e (by decide),fun _=>⟨hw,hc⟩, .inr (by simp)⟩ hr
end
def Zr (i:Nat) (x:XO):Nat→Option XO→Option XO:=fun k y=>bif Nat.beq i k then some x else (bif Nat.beq i k then none else y.map (XO.kill i))
def Qq (i:Nat) (x:XO):Nat→Option XO→Option XO:=fun k y=>bif Nat.beq i k then some x else y
theorem Zp {i:Nat} {x:XO} (z z':Option XO):Qq i x i z=Qq i x i z':=by simp only [Qq,Bh,cond_true]
theorem Atx {i0:Nat} {sites:List Nat} (hz:(Nat.beq i0 987654 && !sites.isEmpty)=false):i0=987654→sites= []:=fun e=>by
 subst e
 rw [Bh,Bool.true_and] at hz
 cases sites with
 |nil=>rfl
 |cons _ _=>cases hz
theorem Jl {P:Program} {n id:Nat} {l:List Oper} {K:Cu} {f:Fr} {h:Xh} (p q:Nat) (sites:List Nat) (κ:S→S) (i0:Nat) (m:Nat→Option XO→Option XO) (hm:P.follows .mixedOrders=true) (hin:l.all (inN n)=true) (hreg:Jo l.toArray (l.take q)=true) (hS:(Nat.blt q l.length && Pa l.toArray q)=true) (hz:(Nat.beq i0 987654 && !sites.isEmpty)=false) (hnd:sites.Nodup)
  (hc:ChMK P n l.toArray κ i0 m (l.take q) (Er f sites) (fun t=>κ (Er f sites t)) (E1 h sites) ((E1 h sites).by m) [] [] (fun C ia f' h'=>(ia=sites∧C[p]? =some .mu∧Ah6 l.toArray p C=true)∧XL P n l.toArray (l.drop q) K f' h')):XW P n (.region id l.toArray true) K f h:=by
 obtain ⟨C,LA,LB,f',hA,hB,k1,⟨k2,k3,k4⟩,k5⟩:=hc
 rw [Bool.and_eq_true] at hS
 have hp:=Eu hS.1
 rw [←List.take_append_drop q l,List.all_append,Bool.and_eq_true] at hin
 exact Aow p sites (by rw [List.take_append_drop]) (by rw [List.length_drop];omega) hm hin.1 hin.2 hreg (by rw [List.length_take,Nat.min_eq_left (by omega)];exact hS.2) hnd k1 k2 (Atx hz) k3 k4 k5
theorem Dest.mono {h h':Xh} (hle:HLe h h') {s:S} {i:Nat} {ty:TypeId} {sz:Nat} {l:List (List D)} (hd:Dest h s i ty sz l):Dest h' s i ty sz l:=by
 cases hd with
 |own hi=>exact .own (hle _ _ hi)
 |nil=>exact .nil _ _ _
theorem Src.mono {h h':Xh} (hle:HLe h h') {s:S} {sz:Nat} {l:List (List D)} (hs:Src h s sz l):Src h' s sz l:=fun E H β w u h1 h2=>hs E H β w u (h1.drop hle) h2
theorem Part.mono {h h':Xh} (hle:HLe h h') {s:S} {i:Nat} {ty:TypeId} {sz:Nat} {l:List (List D)} {a b:Nat} (hp:Part h s i ty sz l a b):Part h' s i ty sz l a b:=by
 cases hp with
 |own hi=>exact .own (hle _ _ hi)
 |sub hi=>exact .sub (hle _ _ hi)
section
variable {P:Program} {n:Nat} {o:Oper} {f:Fr} {h:Xh}
theorem Tv {i:Nat} {t ty:TypeId} {sz bytes:Nat} {x y:Operand} {l l' l2:List (List D)} (ho:o.op= .call {callee:= .builtin .append,args:= #[x,y],argTypes:= #[t,t]}) (T:ElemTy P t ty sz bytes)
  (hx:Dest h (ev f x) i ty sz l) (hy:Src h (ev f y) sz l') (h63:l.length+l'.length≤maxLen) (hby:(l.length+l'.length)*bytes≤140737488355328) (hl2:l++l'=l2):
  ∀hF,HLe h hF→Ie P n o f hF i (.own i) (S.kill i) (hF.by (Zr i (.row ty sz l2))):=by
 subst hl2
 intro hF hle f' he E H β a w hs hf hop
 have e1:=he x (by rw [ho];simp [Op.operands,Call.operands])
 have e2:=he y (by rw [ho];simp [Op.operands,Call.operands])
 have g1:=hop x (by rw [ho];simp [Op.operands,Call.operands])
 have g2:=hop y (by rw [ho];simp [Op.operands,Call.operands])
 rw [e1] at g1
 rw [e2] at g2
 obtain ⟨hz',A,c,news,hA,hnl,hr,hone',hc'⟩:=hy.mono hle E H β w _ hs g2
 have hx:=hx.mono hle
 generalize hsx:ev f x=sx at hx g1
 have key:∃us,w.ownsRow E.w.heap.size ty sz (a.eval x) l.length us∧(∀j o L,i≠j→hF j=some o→β j=some L→∀b,o.blk L b→some b≠(a.eval x).ownBlock)∧(∀b,some b=(a.eval x).ownBlock→∀off,H b off=none)∧
   (∀x∈l,x.length=sz)∧(∀u∈us,u.oneCell'=true)∧∀(k j:Nat) (x:List D) (d:D),l[k]? =some x→x[j]? =some d→∃u,us[k*sz+j]? =some u∧VD H u d:=by
  cases hx with
  |own hi=>
   obtain ⟨L,hL,e⟩:=Fa g1
   obtain ⟨_,hz,_,us,hown,hone,hc⟩:=hs.obj i _ L hi hL
   rw [e]
   exact ⟨us,hown,fun j o L' hij hj hL' b hb hc=>hs.inj i j _ o L L' b hij hi hj hL hL' hc.symm hb,fun b hb=>hs.sep i _ L hi hL b hb.symm,hz,hone,hc⟩
  |nil=>
   have e:=Dn g1
   rw [e]
   exact ⟨[],World.ownsRow_nil _ _ _ _,fun j o L' _ _ _ b _ hc=>(by cases hc),fun b hb=>(by cases hb),fun x hx=>(by cases hx),fun u hu=>(by cases hu),fun k j x d hk=>(by simp at hk)⟩
 obtain ⟨us,hown,hfar,hH,hz,hone,hc⟩:=key
 obtain ⟨v',w',hrun,h2,h3,h4⟩:=Vj (P:=P) (ty:=o.type) E.w.heap.size T hown c (A:=A) (m:=l'.length) hnl hr hone' h63 hby hs.size
 have hrun':(execOp a.eval o).run P w= .ok (.value v') w':=by
  unfold execOp
  simp only [ho,resolve,invoke,builtin,Sem.run_bind,Sem.run_pure,Result.andThen_ok,List.map_toArray,List.map_cons,List.map_nil,hA,hrun]
 unfold Oper.wp
 rw [hrun']
 exact ⟨H,β.set i (some ⟨v',v'.ownBlock.getD 0,sz,noB⟩),v',rfl,hs.append hfar hH (fun b hb=>(hown.lt b hb.symm).1) hz hz' hown.1 hone hone' hc hc' h2 h3 h4,hf.kill i _, .inr fun j hj=>Bt.set_ne _ _ (fun e=>hj e.symm),M8 H β i ⟨v',_,sz,_⟩⟩
theorem Ash {i:Nat} {t t' ty:TypeId} {sz:Nat} {x y:Operand} {l l' l2:List (List D)} {a b m:Nat} (ho:o.op= .call {callee:= .builtin .copy,args:= #[x,y],argTypes:= #[t,t']}) (hx:Part h (ev f x) i ty sz l a b) (hy:Src h (ev f y) sz l') (hf:elB P t sz=true)
  (hm:min l'.length (b - a)=m) (hl2:sets l a (l'.take m)=l2):∀hF,HLe h hF→Ie P n o f hF i (.d (.v (.int .i64 m))) id (hF.by (Qq i (.row ty sz l2))):=by
 subst hl2
 intro hF hle f' he E H β av w hs hfv hop
 have e1:=he x (by rw [ho];simp [Op.operands,Call.operands])
 have e2:=he y (by rw [ho];simp [Op.operands,Call.operands])
 refine Dm (Yr (n:=n) (f:=f') ho (by rw [e1];exact hx.mono hle) (by rw [e2];exact hy.mono hle) hf hm E H β av w hs hfv hop) ?_
 rintro a' w' ⟨u,rfl,k1,k2⟩
 exact ⟨H,β,u,rfl,k1,hfv, .inr fun _ _=>rfl,k2⟩
theorem Afv {t m:Nat} {x y:Operand} {i off:Nat} {l cs l2:List S} (ho:o.op= .store t x y) (hx:ev f x= .ptr i 0 off) (hi:h i=some (.box l)) (hc:Dv h (ev f y)=some cs) (hz:sizeB P t m=true) (hm:cs.length=m) (hoff:off+m≤l.length) (hl2:sets l off cs=l2):
  ∀hF,HLe h hF→Ie P n o f hF i (.d (.v undef)) id (hF.by (Qq i (.box l2))):=by
 subst hl2
 intro hF hle f' he E H β a w hs hf hop
 have g1:=hop x (by rw [ho];simp [Op.operands])
 have g2:=hop y (by rw [ho];simp [Op.operands])
 rw [he x (by rw [ho];simp [Op.operands]),hx] at g1
 rw [he y (by rw [ho];simp [Op.operands])] at g2
 obtain ⟨L,hL,hp⟩:=Fm g1
 rw [Nat.zero_mul,Nat.zero_add] at hp
 obtain ⟨c1,c2⟩:=H8 hs g2 (Oo hle hc)
 obtain ⟨w',r1,r2⟩:=J9 (P:=P) (off:=off) hL (a.eval y).cells.toList cs 0 l hF w hs (hle _ _ hi) (by simpa using c1) (fun j v s hj hs'=>c2 j v s (by simpa using hj) hs') (by simp [c1,hm];exact hoff)
 have hr:(execOp a.eval o).run P w= .ok .skip w':=by
  unfold execOp
  simp only [ho,Instr.storeAt,hp,Instr.sureAddr,Sem.run_bind,Sem.run_pure,Result.andThen_ok,storeVar,sizeB.run hz,c1,hm,ne_eq,not_true_eq_false,if_false,r1]
 unfold Oper.wp
 rw [hr]
 exact ⟨H,β,_,rfl,r2,hf, .inr fun _ _=>rfl, .d (.v _)⟩
end
end Go.Proofs.YtaafemnkamfgnaaGreat
