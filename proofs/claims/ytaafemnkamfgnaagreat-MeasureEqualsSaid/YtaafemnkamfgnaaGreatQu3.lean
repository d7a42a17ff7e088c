/- Part 3 of what the statements need: lemmas and walks. -/
import Derived.Laws.StructEq
import Derived.Test.YtaafemnkamfgnaaGreatQu2
set_option linter.unusedVariables false
set_option linter.unusedSimpArgs false
set_option linter.unusedSectionVars false
namespace Go.Proofs.YtaafemnkamfgnaaGreat
open Go.RowKit
section
variable {P:Program} {n:Nat} {f:Fr} {h:Xh}
theorem RV.cells {a t m i:Nat} {l:List S} {ds:List D} (ha:Nat.blt a n=true) (hf:f a= .ptr i 0 0) (hi:h i=some (.box l)) (hs:aggB P t m=true) (hm:m≤l.length) (hd:I8 (l.take m)=some ds):RV P n f h (.cell a t) (.agg ds):=fun E H β act w hsim hfv=>by
 have g:=hfv.slot a (Eu ha)
 rw [hf] at g
 obtain ⟨L,h1,h2⟩:=Fm g
 rw [Nat.zero_mul,Nat.zero_add] at h2
 have hp : A9 P ⟨none, .load t (.tmp 0), t, "", #[], none⟩ (fun _ => .ptr i 0 0) h (.agg ((l.drop 0).take m)) := Ad rfl rfl hs hi (by omega)
 obtain ⟨u,r1,r2⟩:=hp E H β (fun _=>act.tmps.getD a undef) w hsim (fun x _=>by rw [h2];have:=VS.ptr (H:=H) 0 0 h1;rw [Nat.zero_mul,Nat.zero_add] at this;exact this)
 rw [G0 rfl h2] at r1
 refine ⟨u, ?_, ?_⟩
 ·unfold Uq
  simp only [Sem.run_bind,h2,asAddr,Sem.run_pure,Result.andThen_ok]
  generalize (loadVar t ⟨L.b,0,none⟩).run P w=r at r1
  cases r with
  |ok v w'=>simp only [Result.andThen_ok,Result.ok.injEq,Next.value.injEq] at r1;obtain ⟨rfl,rfl⟩:=r1;rfl
  |halt x w'=>simp [Result.andThen] at r1
 ·have:=r2.norm
  rw [List.drop_zero] at this
  unfold norm at this
  simp only [hd] at this
  exact D5 this
end
theorem Am {α:Type} {n:Nat} {I:α→Prop} {F:α→Fr} {G:α→Xh} {μ:α→Nat} {x:α} {K:Cu} {f:Fr} {h:Xh} (x':α) (h1:I x') (h2:μ x'<μ x) (h3:FSub n f (F x')) (h4:HSub h (G x')):
  N6 (fun f' h'=>∃x',I x'∧μ x'<μ x∧FSub n f' (F x')∧HSub h' (G x')) K .normal f h:=⟨x',h1,h2,h3,h4⟩
section
variable {P:Program} {n:Nat} {ops:Array Oper} {rest:List Oper} {K:Cu} {f:Fr} {h:Xh} {o:Oper} {F:FuncId} {ds:List D} {args:Array Operand} {tys:Array TypeId} {r:D}
theorem XL.call1 (ho:o.op= .call {callee:= .value (.func F),args:=args,argTypes:=tys}) (hw:Bl ops f n o.guard=some true) (hx:XC P F ds (fun d=>d=r))
  (ha:args.toList.map (ev f)=ds.map S.d) (hr:XL P n ops rest K (A7 f o.dst (.d r)) h):XL P n ops (o::rest) K f h:=
 XL.call ho hw hx ha (by rintro _ rfl;exact hr)
theorem XL.callv1 {x:Operand} {ps cs:List D} (ho:o.op= .call {callee:= .value x,args:=args,argTypes:=tys}) (hw:Bl ops f n o.guard=some true) (hxe:ev f x= .d (.fn F ps cs))
  (hx:XC P F (ps++ds++cs) (fun d=>d=r)) (ha:args.toList.map (ev f)=ds.map S.d) (hr:XL P n ops rest K (A7 f o.dst (.d r)) h):XL P n ops (o::rest) K f h:=
 XL.callv ho hw hxe hx ha (by rintro _ rfl;exact hr)
end
section
variable {P:Program} {o:Oper} {e:Operand→S} {h:Xh}
theorem En {t:TypeId} {x:Operand} {p:Prop} [Decidable p] (ho:o.op= .unOp .not t x) (hx:e x= .d (.v (.bool (decide p)))):A9 P o e h (.d (.v (.bool (decide (¬p))))):=by
 have:=D2 (P:=P) (h:=h) ho hx
 rwa [←decide_not] at this
def M6:List D→Option (List Value)
 | []=>some []
 | .v x::l=>match M6 l with|some vs=>some (x::vs)|none=>none
 |_::_=>none
theorem Ss:∀{l:List D} {vs:List Value},M6 l=some vs→l=vs.map D.v
 | [],vs,h=>by cases h;rfl
 | .v x::l,vs,h=>by
  unfold M6 at h
  cases hd:M6 l with
  |none=>rw [hd] at h;cases h
  |some vs'=>rw [hd] at h;cases h;rw [List.map_cons, ←Ss hd]
theorem V8 {H:Hp} {u:Value} {l:List D} {vs:List Value} (hv:VD H u (.agg l)) (hp:M6 l=some vs):u= .agg vs.toArray:=by
 obtain ⟨cs,rfl,h1,h2⟩:=P4 hv
 have:=Ss hp
 subst this
 congr 1
 apply Array.ext'
 refine List.ext_getElem? fun i=> ?_
 by_cases hi:i<cs.size
 ·have hc:cs[i]? =some cs[i]:=Array.getElem?_eq_getElem hi
  rw [List.length_map] at h1
  have hl:vs[i]? =some vs[i]:=List.getElem?_eq_getElem (by omega)
  have:=O8 (h2 i _ (.v vs[i]) hc (by rw [List.getElem?_map,hl];rfl))
  rw [Array.getElem?_toList,hc,this]
  simp [hl]
 ·rw [List.length_map] at h1
  rw [List.getElem?_eq_none (by simpa using hi),List.getElem?_eq_none (by simp;omega)]
theorem Eo {op:BinOp} {t t':TypeId} {x y:Operand} {la lb:List D} {va vb:List Value} {r:Value} (ho:o.op= .binOp op t x y t') (hx:e x= .d (.agg la)) (hy:e y= .d (.agg lb)) (ha:M6 la=some va) (hb:M6 lb=some vb)
  (hg:P.eqGuardType P.depth t=false) (hr:∀w,(binOp op t (.agg va.toArray) (.agg vb.toArray)).run P w= .ok r w):A9 P o e h (.d (.v r)):=fun E H β ρ w _ hop=>by
 have g1:=hop x (by rw [ho];simp [Op.operands])
 have g2:=hop y (by rw [ho];simp [Op.operands])
 rw [hx] at g1
 rw [hy] at g2
 refine ⟨r, ?_, .d (.v _)⟩
 unfold execOp
 simp only [ho,V8 (D5 g1) ha,V8 (D5 g2) hb,Sem.run_bind,run_eqGuard_agg w op t x y va.toArray vb.toArray hg,Result.andThen_ok,hr,Sem.run_pure]
end
end Go.Proofs.YtaafemnkamfgnaaGreat
namespace Go.Proofs.YtaafemnkamfgnaaGreat
open Go.RowKit
section
variable {P:Program} {n:Nat} {ops:Array Oper} {rest:List Oper} {K:Cu} {f:Fr} {h:Xh} {o:Oper} {e:Operand→S} {α:Type}
theorem XL.len {t el:TypeId} {x:Operand} {sz:Nat} {g:α→List D} {l:List α} (ho:o.op= .call {callee:= .builtin .len,args:= #[x],argTypes:= #[t]}) (hw:Bl ops f n o.guard=some true) (hx:ev f x= .d (.sl sz (l.map g))) (hu:P.underlying t=some (.slice el))
  (hr:l.length≤9223372036854775807→XL P n ops rest K (A7 f o.dst (.d (.v (.int .i64 (l.length:Nat))))) h):XL P n ops (o::rest) K f h:=by
 refine XL.stepR (f':=f) (h':=h) (R:=fun s=>s= .d (.v (.int .i64 (l.length:Nat)))∧l.length≤9223372036854775807) hw (fun E H β a w hs hf hop=> ?_) (by rintro s ⟨rfl,h⟩;exact hr h)
 have g1:=hop x (by rw [ho];simp [Op.operands,Call.operands])
 rw [hx] at g1
 obtain ⟨A,c,h1,h2,h3,_⟩:=Rl (D5 g1)
 have hrun:=Oz (P:=P) ho hu h1 w
 unfold Oper.wp
 rw [hrun]
 rw [List.length_map] at h2
 exact ⟨H,β,_,_,rfl,hs,hf, .d (.v _),by rw [List.length_map],by unfold maxLen at h3;omega⟩
theorem Pi {t m sz:Nat} {el:TypeId} {parts:Array (Nat × Operand)} {z:Value} {r:List S} (ho:o.op= .build t parts) (hu:P.underlying t=some (.array m el)) (hs:sizeB P el sz=true) (hz:zeroB P t z) (hr:Kp h (fun i=>some (i*sz,sz)) e (z.cells.toList.map fun x=> .d (.v x)) parts.toList=some r):
  A9 P o e h (.agg r):=fun E H β ρ w hsim hop=>by
 have hc0 : CellsAt H β z.cells (z.cells.toList.map fun x => .d (.v x)) := ⟨by simp, fun j v s hj hs' => by
  rw [List.getElem?_map,Array.getElem?_toList,hj] at hs'
  cases hs'
  exact .d (.v _)⟩
 obtain ⟨ys,y1,y2⟩:=J3 hsim (ρ:=ρ) parts.toList _ r z.cells hc0 (fun x hx=>hop x (by rw [ho];simpa [Op.operands] using hx)) hr
 refine ⟨.agg ys, ?_, .agg ys r y2.1 y2.2⟩
 have hfl:(parts.map fun (i,x)=>(i,ρ x)).toList=parts.toList.map fun (i,x)=>(i,ρ x):=by simp
 unfold execOp
 simp only [ho,Instr.build,Sem.run_bind,zeroB.run hz,Result.andThen_ok,run_underlying hu,sizeB.run hs,hfl,y1,Sem.run_pure]
theorem Wo {t m k:Nat} {x y:Operand} {l:List D} {d:D} {el:TypeId} {ik:IntKind} {a:Int} (ho:o.op= .index t x y) (hx:e x= .d (.agg l)) (hy:e y= .d (.v (.int ik a))) (ha:a=(k:Int)) (hu:P.underlying t=some (.array m el)) (hs:scB P el=true) (h1:sizeB P el 1=true) (hk:k<m) (hd:l[k]? =some d):A9 P o e h (.d d):=by
 subst ha;exact Ame ho hx hy hu hs h1 hk hd
theorem M7 {t el:TypeId} {x:Operand} {sz:Nat} {g:α→List D} {l:List α} (ho:o.op= .call {callee:= .builtin .len,args:= #[x],argTypes:= #[t]}) (hx:e x= .d (.sl sz (l.map g))) (hu:P.underlying t=some (.slice el)):A9 P o e h (.d (.v (.int .i64 (l.length:Nat)))):=by
 have:=Atn (P:=P) (h:=h) ho hx hu
 rwa [List.length_map] at this
theorem Bz {t el:TypeId} {x:Operand} {i sz:Nat} {ty:TypeId} {g:α→List D} {l:List α} (ho:o.op= .call {callee:= .builtin .len,args:= #[x],argTypes:= #[t]}) (hx:e x= .own i) (hi:h i=some (.row ty sz (l.map g))) (hu:P.underlying t=some (.slice el)):A9 P o e h (.d (.v (.int .i64 (l.length:Nat)))):=by
 have:=Ajk (P:=P) ho hx hi hu
 rwa [List.length_map] at this
theorem Ao {t sz:Nat} {x y:Operand} {g:α→List D} {l:List α} {a:α} {k:Nat} {ik:IntKind} (ho:o.op= .indexAddr t x y) (hx:e x= .d (.sl sz (l.map g))) (hy:e y= .d (.v (.int ik k))) (hf:elB P t sz=true) (hk:l[k]? =some a):A9 P o e h (.d (.pt (g a))):=
 Amf ho hx hy hf (by rw [List.getElem?_map,hk];rfl)
theorem Kc {t sz:Nat} {x y:Operand} {i k:Nat} {ik:IntKind} {ty:TypeId} {g:α→List D} {l:List α} (ho:o.op= .indexAddr t x y) (hx:e x= .own i) (hy:e y= .d (.v (.int ik k))) (hi:h i=some (.row ty sz (l.map g))) (hf:elB P t sz=true) (hk:k<l.length):A9 P o e h (.ptr i k 0):=
 Ajl ho hx hy hi hf (by rw [List.length_map];exact hk)
theorem Ma {t sz:Nat} {x y:Operand} {g:α→List D} {l:List α} {b:α} {k:Nat} {ik:IntKind} {a:Int} (ho:o.op= .indexAddr t x y) (hx:e x= .d (.sl sz (l.map g))) (hy:e y= .d (.v (.int ik a))) (ha:a=(k:Int)) (hf:elB P t sz=true) (hk:l[k]? =some b):A9 P o e h (.d (.pt (g b))):=by
 subst ha;exact Ao ho hx hy hf hk
theorem Ck {t sz:Nat} {x y:Operand} {i k:Nat} {ik:IntKind} {a:Int} {ty:TypeId} {g:α→List D} {l:List α} (ho:o.op= .indexAddr t x y) (hx:e x= .own i) (hy:e y= .d (.v (.int ik a))) (ha:a=(k:Int)) (hi:h i=some (.row ty sz (l.map g))) (hf:elB P t sz=true) (hk:k<l.length):A9 P o e h (.ptr i k 0):=by
 subst ha;exact Kc ho hx hy hi hf hk
theorem Je {t sz:Nat} {x:Operand} {lo hi:Option Operand} {g:α→List D} {l:List α} {a b:Nat} (ho:o.op= .slice t x lo hi none) (hx:e x= .d (.sl sz (l.map g))) (hf:elB P t sz=true)
  (hlo:Bd e lo 0 a) (hhi:Bd e hi l.length b) (hab:a≤b) (hb:b≤l.length):A9 P o e h (.d (.sl sz (((l.take b).drop a).map g))):=by
 have:=Apx (P:=P) (h:=h) ho hx hf hlo (b:=b) (by rw [List.length_map];exact hhi) hab (by rw [List.length_map];exact hb)
 rwa [←List.map_take, ←List.map_drop] at this
theorem Rv {g:α→List D} {l l':List α}:l.map g++l'.map g=(l++l').map g:=by rw [List.map_append]
end
def ChK (P:Program) (n:Nat) (ops:Array Oper) (rest:List Oper) (f:Fr) (h:Xh) (acc:List (List Nat × S)) (G:List (List Nat × S)→Fr→Xh→Prop):Prop:=∃L f' h',Ch P n ops rest f h L f' h'∧G (acc++L) f' h'
section
variable {P:Program} {n:Nat} {ops:Array Oper} {rest:List Oper} {f:Fr} {h h1:Xh} {o:Oper} {s:S} {ids:List Nat} {acc:List (List Nat × S)} {G:List (List Nat × S)→Fr→Xh→Prop}
theorem ChK.nil (hg:G acc f h):ChK P n ops [] f h acc G:=⟨[],f,h, .nil _ _,by rw [List.append_nil];exact hg⟩
theorem ChK.cons (hw:Bl ops f n o.guard=some true) (hc:CStep P o f h ids s h1) (hr:ChK P n ops rest (A7 f o.dst s) h1 (acc++ [(ids,s)]) G):ChK P n ops (o::rest) f h acc G:=by
 obtain ⟨L,f',h',k1,k2⟩:=hr
 exact ⟨(ids,s)::L,f',h', .cons hw hc k1,by rw [List.append_assoc] at k2;exact k2⟩
theorem ChK.skip (hw:Bl ops f n o.guard=some false) (hr:ChK P n ops rest (A7 f o.dst (.d (.v undef))) h (acc++ [([], .d (.v undef))]) G):ChK P n ops (o::rest) f h acc G:=by
 obtain ⟨L,f',h',k1,k2⟩:=hr
 exact ⟨_::L,f',h', .skip hw k1,by rw [List.append_assoc] at k2;exact k2⟩
theorem Bv {id:Nat} {l:List Oper} {K:Cu} (sites:List Nat) (hm:P.follows .mixedOrders=true) (hin:l.all (inN n)=true) (hreg:Jo l.toArray l=true) (hnd:sites.Nodup)
  (hc:ChK P n l.toArray l (Er f sites) (E1 h sites) [] (fun L f' h'=>L.flatMap (·.1)=sites∧K .normal f' h')):XW P n (.region id l.toArray true) K f h:=by
 obtain ⟨L,f',h',k1,k2,k3⟩:=hc
 exact Aoy sites hm hin hreg k1 k2 hnd k3
end
theorem Jn {e:TypeId} {sz:Nat} {α:Type} {g:α→List D} {l l':List α} {a:α} {ds:List D} (hd:ds=g a) (hl:l'=l++ [a]):some (XO.row e sz (l.map g++ [ds]))=some (XO.row e sz (l'.map g)):=by rw [hl,hd,List.map_append];rfl
theorem Gn {e:TypeId} {sz:Nat} {α:Type} {g:α→List D} {l l' m:List α} (hl:l'=l++m):some (XO.row e sz (l.map g++m.map g))=some (XO.row e sz (l'.map g)):=by rw [hl,List.map_append]
theorem B3 {α:Type} {l:List α} {k:Nat} {x:α} (h:l[k]? =some x):l.take (k+1)=l.take k++ [x]:=by rw [List.take_add_one,h,Option.toList_some]
theorem rI {a b:Int} (h:a=b):D.v (.int .i64 a)= .v (.int .i64 b):=by rw [h]
theorem rB {a b:Bool} (h:a=b):D.v (.bool a)= .v (.bool b):=by rw [h]
theorem sI {a b:Int} (h:a=b):S.d (.v (.int .i64 a))= .d (.v (.int .i64 b)):=by rw [h]
theorem sB {a b:Bool} (h:a=b):S.d (.v (.bool a))= .d (.v (.bool b)):=by rw [h]
theorem r2 {a b a' b':D} (h:a=a') (h':b=b'):D.tup [a,b]= .tup [a',b']:=by rw [h,h']
theorem r3 {a b c a' b' c':D} (h:a=a') (h':b=b') (h'':c=c'):D.tup [a,b,c]= .tup [a',b',c']:=by rw [h,h',h'']
theorem rSl {sz:Nat} {α:Type} {g:α→List D} {l l':List α} (h:l=l'):D.sl sz (l.map g)= .sl sz (l'.map g):=by rw [h]
theorem Oe {e:TypeId} {sz:Nat} {α:Type} {g:α→List D} {l l':List α} (h:l=l'):some (XO.row e sz (l.map g))=some (XO.row e sz (l'.map g)):=by rw [h]
end Go.Proofs.YtaafemnkamfgnaaGreat
namespace Go.Proofs.YtaafemnkamfgnaaGreat
open Go.RowKit
mutual
inductive DSub:D→D→Prop where
  |same {d d':D} (h:d=d'):DSub d d'
  |nil (sz:Nat):DSub (.v (.slice none 0 0)) (.sl sz [])
  |agg {l l':List D} (h:DSubL l l'):DSub (.agg l) (.agg l')
inductive DSubL:List D→List D→Prop where
  |nil:DSubL [] []
  |cons {d d':D} {l l':List D} (h:DSub d d') (hl:DSubL l l'):DSubL (d::l) (d'::l')
end
theorem DSubL.length:∀{l l':List D},DSubL l l'→l.length=l'.length
  |_,_, .nil=>rfl
  |_,_, .cons _ hl=>by simp [hl.length]
theorem DSubL.get:∀{l l':List D},DSubL l l'→∀{i:Nat} {d':D},l'[i]? =some d'→∃d,l[i]? =some d∧DSub d d'
  |_,_, .cons h _,0,_,e=>by simp at e;subst e;exact ⟨_,rfl,h⟩
  |_,_, .cons _ hl,i+1,d',e=>by
    obtain ⟨d,h1,h2⟩:=hl.get (i:=i) (d':=d') (by simpa using e)
    exact ⟨d,by simpa using h1,h2⟩
mutual
theorem DSub.vd:∀{d d':D},DSub d d'→∀{H:Hp} {u:Value},VD H u d→VD H u d'
  |_,_, .same h,_,_,hv=>by subst h;exact hv
  |_,_, .nil sz,_,_,hv=>by rw [O8 hv];exact .emp none 0 sz (fun _=>rfl) (Nat.zero_le _)
  |_,_, .agg h,H,u,hv=>by
    obtain ⟨cs,rfl,h1,h2⟩:=P4 hv
    refine .agg cs _ (h1.trans h.length) fun i x d' hx hd=> ?_
    exact DSubL.vd h hd fun d hd'=>h2 i x d hx hd'
theorem DSubL.vd:∀{l l':List D},DSubL l l'→∀{i:Nat} {d':D},l'[i]? =some d'→∀{H:Hp} {x:Value},(∀d,l[i]? =some d→VD H x d)→VD H x d'
  |_,_, .cons h _,0,_,e,_,_,hv=>by simp at e;subst e;exact h.vd (hv _ rfl)
  |_,_, .cons _ hl,i+1,d',e,_,_,hv=>DSubL.vd hl (i:=i) (by simpa using e) fun d hd=>hv d (by simpa using hd)
end
theorem RV.sub {P:Program} {n:Nat} {f:Fr} {h:Xh} {rv:ResultVar} {d d':D} (hr:RV P n f h rv d) (hs:DSub d d'):RV P n f h rv d':=fun E H β a w h1 h2=>by
  obtain ⟨u,e,v⟩:=hr E H β a w h1 h2
  exact ⟨u,e,hs.vd v⟩
inductive AS (f:Fr):List Operand→List D→Prop where
  |nil:AS f [] []
  |cons {x:Operand} {l:List Operand} {d d':D} {ds:List D} (hx:ev f x= .d d) (hs:DSub d d') (hl:AS f l ds):AS f (x::l) (d'::ds)
theorem AS.len {f:Fr} {l:List Operand} {ds:List D} (h:AS f l ds):l.length=ds.length:=by
  induction h with
  |nil=>rfl
  |cons _ _ _ ih=>simp [ih]
theorem AS.get {f:Fr} {l:List Operand} {ds:List D} (h:AS f l ds):∀{i:Nat} {x:Operand} {d:D},l[i]? =some x→ds[i]? =some d→∃d0,ev f x= .d d0∧DSub d0 d:=by
  induction h with
  |nil=>intro i x d h;simp at h
  | @cons x l d d' ds hx hs _ ih=>
    intro i y e h1 h2
    cases i with
    |zero=>simp at h1 h2;subst h1 h2;exact ⟨d,hx,hs⟩
    |succ i=>exact ih (by simpa using h1) (by simpa using h2)
theorem AS.vd {f:Fr} {H:Hp} {β:Bt} {a:Act} {args:Array Operand} {ds:List D} (ha:AS f args.toList ds) (hv:∀x∈args,VS H β (a.eval x) (ev f x)):
    (args.map a.eval).size=ds.length∧∀(i:Nat) (x:Value) (d:D),(args.map a.eval)[i]? =some x→ds[i]? =some d→VD H x d:=by
  have hl:=ha.len
  rw [Array.length_toList] at hl
  refine ⟨by simpa using hl,fun i x d hx hd=> ?_⟩
  have hi:i<args.size:=by have:=(List.getElem?_eq_some_iff.1 hd).1;omega
  have hx':x=a.eval args[i]:=by
    rw [Array.getElem?_map,Array.getElem?_eq_getElem hi] at hx
    simpa using hx.symm
  obtain ⟨d0,h1,h2⟩:=ha.get (i:=i) (x:=args[i]) (by rw [Array.getElem?_toList,Array.getElem?_eq_getElem hi]) hd
  have:=hv args[i] (Array.getElem_mem hi)
  rw [h1] at this
  rw [hx']
  exact h2.vd (D5 this)
section
variable {P:Program} {n:Nat} {ops:Array Oper} {rest:List Oper} {K:Cu} {f:Fr} {h:Xh} {o:Oper} {F:FuncId} {ds:List D} {args:Array Operand} {tys:Array TypeId} {r:D}
theorem CStep.calls (ho:o.op= .call {callee:= .value (.func F),args:=args,argTypes:=tys}) (hx:XC P F ds (fun d=>d=r)) (ha:AS f args.toList ds):CStep P o f h [] (.d r) h:=
  ⟨HLe.refl _, fun _ _ e => .inl e, fun hF hle E H β a w hs _ hop => by
    have hop':∀x∈args,VS H β (a.eval x) (ev f x):=fun x hx=>hop x (by rw [ho];simp [Op.operands,Call.operands,hx])
    obtain ⟨hsz,hvd⟩:=ha.vd hop'
    have hrun:(execOp a.eval o).run P w= .ok (.enter F (args.map a.eval)) w:=by
      have:=hx.callable.run (args.map a.eval) w
      unfold execOp
      simp only [ho,resolve,Act.eval,Deferred.ofValue,Sem.run_bind,Sem.run_pure,Result.andThen_ok,invoke,Array.append_empty,Array.empty_append]
      exact this
    unfold Oper.wp
    rw [hrun]
    refine (hx.calls H w _ hs.imm hsz hvd).mono ?_
    rintro e w' ⟨H',u,r',rfl,rfl,hle',hnew,him,hb,hu⟩
    exact ⟨H', β, u, rfl, hs.call hb hle' hnew him, hle', fun _ _ h => h, fun _ _ => rfl, .d hu⟩⟩
theorem OKo.sub {base:Nat} {w:World} {H:Hp} {β:Bt} {L:Loc} {e:TypeId} {sz:Nat} {l l':List (List D)} (hk:OKo base w H β L (.row e sz l)) (hl:l.length=l'.length) (hs:∀(k:Nat) (x x':List D),l[k]? =some x→l'[k]? =some x'→DSubL x x'):OKo base w H β L (.row e sz l'):=by
  obtain ⟨h0,hz,hv,us,h2,h3,h4⟩:=hk
  have hget:∀(k:Nat) (x':List D),l'[k]? =some x'→∃x,l[k]? =some x∧DSubL x x':=fun k x' hx'=>by
    have hk:k<l.length:=by rw [hl];exact (List.getElem?_eq_some_iff.1 hx').1
    exact ⟨_,List.getElem?_eq_getElem hk,hs k _ x' (List.getElem?_eq_getElem hk) hx'⟩
  refine ⟨h0,fun x' hx'=> ?_,hv,us,by rw [←hl];exact h2,h3,fun k j x' d' hx' hd'=> ?_⟩
  · obtain ⟨k,hk⟩:=List.getElem?_of_mem hx'
    obtain ⟨x,h1,h2⟩:=hget k x' hk
    rw [←h2.length]
    exact hz x (List.mem_of_getElem? h1)
  · obtain ⟨x,h1,h2⟩:=hget k x' hx'
    obtain ⟨d,h5,h6⟩:=h2.get hd'
    obtain ⟨u,h7,h8⟩:=h4 k j x d h1 h5
    exact ⟨u,h7,h6.vd h8⟩
theorem Sim.rowsub {E:Env} {H:Hp} {β:Bt} {w:World} (s:Sim E H β h w) {i:Nat} {e:TypeId} {sz:Nat} {l l':List (List D)} (hi:h i=some (.row e sz l)) (hl:l.length=l'.length) (hs:∀(k:Nat) (x x':List D),l[k]? =some x→l'[k]? =some x'→DSubL x x'):
    Sim E H β (h.set i (.row e sz l')) w:=by
  have aux:∀j o L,h.set i (.row e sz l') j=some o→β j=some L→∃o',h j=some o'∧o.blk L=o'.blk L∧(OKo E.w.heap.size w H β L o'→OKo E.w.heap.size w H β L o):=by
    intro j o L ho hL
    by_cases e':i=j
    · subst e'
      rw [Xh.set_same] at ho
      cases ho
      exact ⟨_,hi,rfl,fun hk=>hk.sub hl hs⟩
    · rw [Xh.set_ne _ _ e'] at ho
      exact ⟨o,ho,rfl,fun hk=>hk⟩
  refine ⟨s.below,s.ext,s.new,s.imm,fun j o L ho hL=> ?_,fun j o L ho hL b hb=> ?_,fun j j' o o' L L' b hjj ho ho' hL hL' hb=> ?_,fun j o ho hg=> ?_⟩
  rotate_left 3
  · by_cases e':i=j
    · subst e';rw [Xh.set_same] at ho;cases ho;cases hg
    · rw [Xh.set_ne _ _ e'] at ho;exact s.dom j o ho hg
  · obtain ⟨o',h1,_,h3⟩:=aux j o L ho hL
    exact h3 (s.obj j o' L h1 hL)
  · obtain ⟨o',h1,h2,_⟩:=aux j o L ho hL
    rw [h2] at hb
    exact s.sep j o' L h1 hL b hb
  · obtain ⟨o1,h1,h2,_⟩:=aux j o L ho hL
    obtain ⟨o2,h3,h4,_⟩:=aux j' o' L' ho' hL'
    rw [h2] at hb
    rw [h4]
    exact s.inj j j' o1 o2 L L' b hjj h1 h3 hL hL' hb
theorem XL.row1 {i:Nat} {e:TypeId} {sz:Nat} {x x':List D} (hi:h i=some (.row e sz [x])) (hs:DSubL x x') (hr:XL P n ops rest K f (h.set i (.row e sz [x']))):XL P n ops rest K f h:=fun hin E H β a w h1 h2=>
  hr hin E H β a w (h1.rowsub hi rfl fun k y y' e1 e2 => by
    match k with
    |0=>simp at e1 e2;subst e1 e2;exact hs
    | k + 1 => simp at e1) h2
end
theorem Uo {P:Program} {o:Oper} {f:Fr} {h:Xh} {E:Env} {H:Hp} {β:Bt} {a:Act} {w:World} {t ty:TypeId} {sz len:Nat} {parts:Array (Nat × Operand)} {z:Value} {l:List (List D)} (ho:o.op= .buildSlice t len parts) (hu:P.underlying t=some (.slice ty)) (hsz:sizeB P ty sz=true) (hz:zeroB P ty z)
    (hr:F9 h (ev f) sz parts.toList=some l) (hlen:parts.toList.map (·.1)=List.range len) (hpos:0<sz) (hmax:len*sz≤16777216) {hF:Xh} (hle:HLe h hF) (hs:Sim E H β hF w) (hop:∀x∈o.op.operands,VS H β (a.eval x) (ev f x)):
    ∃(u:Value) (H':Hp) (w':World),(execOp a.eval o).run P w= .ok (.value u) w'∧Sim E H' β hF w'∧H.le H'∧VD H' u (.sl sz l):=by
  have hpl:parts.toList.length=len:=by have:=congrArg List.length hlen;simpa using this
  have hcells0:CellsAt H β ((Array.range (len*sz)).map (z.cells[· % z.cells.size]!)) ((List.range (len*sz)).map fun j=> .d (.v (z.cells[j % z.cells.size]!))):=by
    refine ⟨by simp,fun j v s hj hs'=> ?_⟩
    rw [List.getElem?_map] at hs'
    rw [Array.getElem?_map] at hj
    by_cases hlt:j<len*sz
    · rw [List.getElem?_range hlt] at hs'
      have:(Array.range (len*sz))[j]? =some j:=by simp [hlt]
      rw [this] at hj
      cases hj;cases hs'
      exact .d (.v _)
    · rw [List.getElem?_eq_none (by simpa using hlt)] at hs';cases hs'
  have mono:∀(ps:List (Nat × Operand)) (l:List (List D)),F9 h (ev f) sz ps=some l→F9 hF (ev f) sz ps=some l:=by
    intro ps
    induction ps with
    |nil=>intro l h;exact h
    |cons q ps ih=>
      obtain ⟨i,x⟩:=q
      intro l hl
      unfold F9 at hl ⊢
      cases hc:Dv h (ev f x) with
      |none=>rw [hc] at hl;cases hl
      |some cs=>
        rw [hc] at hl
        rw [Oo hle hc]
        simp only at hl ⊢
        cases hd:I8 cs with
        |none=>rw [hd] at hl;cases hl
        |some ds=>
          rw [hd] at hl
          simp only at hl ⊢
          cases hr:F9 h (ev f) sz ps with
          |none=>rw [hr] at hl;cases hl
          |some l'=>rw [hr] at hl;rw [ih l' hr];exact hl
  have hr':=mono _ _ hr
  obtain ⟨r1,r2,r3⟩:=Of parts.toList l 0 ((List.range (len*sz)).map fun j=>S.d (.v (z.cells[j % z.cells.size]!))) hr' (by rw [hlen,hpl,List.range_eq_range']) (by simp [hpl])
  obtain ⟨ys,y1,y2⟩:=J3 hs (ρ:=a.eval) parts.toList _ _ _ hcells0 (fun x hx=>hop x (by rw [ho];simpa [Op.operands] using hx)) r3
  have hll:l.length=len:=by rw [r2,hpl]
  rw [Nat.zero_mul,List.take_zero,List.nil_append] at y2
  have hysz:ys.size=len*sz:=by rw [y2.1,List.length_map,Fi r1,hll]
  have hrun:(execOp a.eval o).run P w= .ok (.value (.slice (some ⟨w.heap.size,0,none⟩) l.length len)) (w.alloc (.cells ys ty)):=by
    have hfl:(parts.map fun (i,x)=>(i,a.eval x)).toList=parts.toList.map fun (i,x)=>(i,a.eval x):=by simp
    unfold execOp
    simp only [ho,Instr.buildSlice,Sem.run_bind,run_underlying hu,Result.andThen_ok,sizeB.run hsz,show ¬len*sz>2 ^ 24 by omega,if_false,Sem.run_pure]
    by_cases h0:len*sz=0
    · have hl0:len=0:=by
        rcases Nat.mul_eq_zero.1 h0 with h|h
        · exact h
        · omega
      subst hl0
      have hp0:parts.toList= []:=List.eq_nil_of_length_eq_zero hpl
      have hys:ys= #[]:=Array.eq_empty_of_size_eq_zero (by rw [hysz];simp)
      simp only [h0,if_true,Sem.run_pure,Result.andThen_ok,hfl,hp0,List.map_nil,Instr.fill,newRow,Sem.run_bind,run_newObj,World.alloc_eq,hll,hys,Y7]
    · simp only [h0,if_false,Sem.run_bind,zeroB.run hz,Result.andThen_ok,Sem.run_pure,hfl,y1,newRow,run_newObj,World.alloc_eq,hll]
  have hone:∀u∈ys,u.oneCell'=true:=fun u hu=>by
    obtain ⟨j,hj⟩:=Array.getElem?_of_mem hu
    have hjl:=(Array.getElem?_eq_some_iff.1 hj).1
    have hd:∃d,l.flatten[j]? =some d:=⟨_,List.getElem?_eq_getElem (by rw [Fi r1,hll, ←hysz];exact hjl)⟩
    obtain ⟨d,hd⟩:=hd
    have:=y2.2 j u (.d d) hj (by rw [List.getElem?_map,hd];rfl)
    exact Uh (D5 this) (Tc hr' d (List.mem_of_getElem? hd))
  have hnone:∀off,H w.heap.size off=none:=fun off=>by
    cases e:H w.heap.size off with
    |none=>rfl
    |some u=>have:=hs.imm.lt e;omega
  have hbel:Below w.heap.size w (w.alloc (.cells ys ty)):=(Below.refl _ _).alloc (Nat.le_refl _) _
  have him:Imm (H.plus w.heap.size (ys[·]?)) (w.alloc (.cells ys ty)):=fun b k u e=>by
    rcases Hp.plus_new e with k1|⟨rfl,k2⟩
    · exact (hs.imm.below hbel) b k u k1
    · exact ⟨by rw [World.cell?_alloc_new];exact k2,hone u (Array.mem_of_getElem? k2)⟩
  have hsim := hs.call hbel (Hp.plus_le H w.heap.size (ys[·]?)) (fun b k u e => by
    rcases Hp.plus_new e with k1|⟨rfl,_⟩
    · exact .inl k1
    · exact .inr (Nat.le_refl _)) him
  refine ⟨_,_,_,hrun,hsim,Hp.plus_le _ _ _, ?_⟩
  by_cases h0:l= []
  · subst h0
    exact .emp _ _ _ (fun h=>by cases h) (by have:len=0:=(by rw [←hll];rfl);unfold maxLen;omega)
  · have hget:∀(k j:Nat) (x:List D) (d:D),l[k]? =some x→x[j]? =some d→ys[0+(k*sz+j)]? =some ((ys[k*sz+j]?).getD undef)∧VD H ((ys[k*sz+j]?).getD undef) d:=by
      intro k j x d hk hj
      have hg:=Ol r1 hk hj
      have hlt:=(List.getElem?_eq_some_iff.1 hg).1
      rw [Fi r1,hll, ←hysz] at hlt
      have hy:ys[k*sz+j]? =some ys[k*sz+j]:=Array.getElem?_eq_getElem hlt
      rw [Nat.zero_add,hy]
      exact ⟨rfl,D5 (y2.2 _ _ (.d d) hy (by rw [List.getElem?_map,hg];rfl))⟩
    exact .sl w.heap.size 0 l.length len sz l (fun k j=>(ys[k*sz+j]?).getD undef) rfl (by omega) (by unfold maxLen;have:len≤len*sz:=Nat.le_mul_of_pos_right _ hpos;omega) r1
      (fun k j x d h1 h2=>by rw [Hp.plus_at hnone];exact (hget k j x d h1 h2).1) (fun k j x d h1 h2=>((hget k j x d h1 h2).2).mono (Hp.plus_le _ _ _))
section
variable {P:Program} {n:Nat} {o:Oper} {f:Fr} {h:Xh} {t ty:TypeId} {sz len:Nat} {parts:Array (Nat × Operand)} {z:Value} {l:List (List D)}
theorem Hg (ho:o.op= .buildSlice t len parts) (hu:P.underlying t=some (.slice ty)) (hsz:sizeB P ty sz=true) (hz:zeroB P ty z)
    (hr:F9 h (ev f) sz parts.toList=some l) (hlen:parts.toList.map (·.1)=List.range len) (hpos:0<sz) (hmax:len*sz≤16777216):Step P n o f h (.d (.sl sz l)) f h:=by
  intro E H β a w hs hf hop
  obtain ⟨u,H',w',r1,r2,r3,r4⟩:=Uo ho hu hsz hz hr hlen hpos hmax (HLe.refl _) hs hop
  unfold Oper.wp
  rw [r1]
  exact ⟨H',β,u,rfl,r2,hf.mono r3 (fun _ _ h=>h), .d r4⟩
theorem CStep.slice (ho:o.op= .buildSlice t len parts) (hu:P.underlying t=some (.slice ty)) (hsz:sizeB P ty sz=true) (hz:zeroB P ty z)
    (hr:F9 h (ev f) sz parts.toList=some l) (hlen:parts.toList.map (·.1)=List.range len) (hpos:0<sz) (hmax:len*sz≤16777216):CStep P o f h [] (.d (.sl sz l)) h:=
  ⟨HLe.refl _, fun _ _ e => .inl e, fun hF hle E H β a w hs _ hop => by
    obtain ⟨u,H',w',r1,r2,r3,r4⟩:=Uo ho hu hsz hz hr hlen hpos hmax hle hs hop
    unfold Oper.wp
    rw [r1]
    exact ⟨H', β, u, rfl, r2, r3, fun _ _ h => h, fun _ _ => rfl, .d r4⟩⟩
end
section
variable {P:Program} {o:Oper} {e:Operand→S} {h:Xh} {t t':TypeId} {x y:Operand} {a b:Int}
theorem Aof (ho:o.op= .binOp .and t x y t') (hx:e x= .d (.v (.int .i64 a))) (hy:e y= .d (.v (.int .i64 b))) (ha:0≤a) (ha':a≤9223372036854775807) (hb:0≤b) (hb':b≤9223372036854775807):A9 P o e h (.d (.v (.int .i64 ((a.toNat &&& b.toNat:Nat):Int)))):=
  G9 ho hx hy rfl (by simp) fun w=>by
    obtain ⟨m,rfl⟩:∃m:Nat,a=m:=⟨a.toNat,by omega⟩
    obtain ⟨k,rfl⟩:∃k:Nat,b=k:=⟨b.toNat,by omega⟩
    have hm:m<2 ^ 64:=by omega
    have hk:k<2 ^ 64:=by omega
    have h1:(BitVec.ofInt 64 (m:Int) &&& BitVec.ofInt 64 (k:Int)).toNat=m &&& k:=by
      rw [BitVec.toNat_and,BitVec.ofInt_natCast,BitVec.ofInt_natCast,BitVec.toNat_ofNat,BitVec.toNat_ofNat,Nat.mod_eq_of_lt hm,Nat.mod_eq_of_lt hk]
    have hle:m &&& k≤m:=Nat.and_le_left
    show (Op.intBits .and .i64 m k).run P w=_
    unfold Op.intBits
    simp only [Int.toNat_natCast]
    have h2:IntKind.i64.wrap ((m &&& k:Nat):Int)=((m &&& k:Nat):Int):=IntWalk.i64_in _ (by omega)
    show Result.ok (Value.int .i64 (IntKind.i64.wrap ((BitVec.ofInt 64 (m:Int) &&& BitVec.ofInt 64 (k:Int)).toNat:Int))) w=_
    rw [h1,h2]
theorem Aq2 (n k:Nat):n &&& 2 ^ k=if n / 2 ^ k % 2=1 then 2 ^ k else 0:=by
  have hb:n.testBit k=decide (n / 2 ^ k % 2=1):=Nat.testBit_eq_decide_div_mod_eq
  apply Nat.eq_of_testBit_eq
  intro j
  rw [Nat.testBit_and,Nat.testBit_two_pow]
  by_cases e:k=j
  · subst e
    rw [hb]
    split
    · rename_i h;simp [h]
    · rename_i h;simp [h]
  · split
    · rw [Nat.testBit_two_pow];simp [e]
    · simp [e]
end
section
variable {P:Program} {n:Nat} {o:Oper} {f:Fr} {h:Xh}
theorem Aq (i:Nat) {l:List S} {t:TypeId} {z:Value} (ho:o.op= .alloc t) (hz:zeroB P t z) (hl:S.killL i (z.cells.toList.map fun x=> .d (.v x))=l):Step P n o f h (.ptr i 0 0) (Dw f i) ((h.kill i).set i (.box l)):=by
  subst hl;exact Aly i ho hz
theorem Ap (i:Nat) {l:List S} {t:TypeId} {x:Operand} {cs:List S} (ho:o.op= .box t x) (hc:Dv h (ev f x)=some cs) (hl:S.killL i cs=l):Step P n o f h (.ptr i 0 0) (Dw f i) ((h.kill i).set i (.box l)):=by
  subst hl;exact Arj i ho hc
theorem Af {t m:Nat} {x y:Operand} {i off:Nat} {l cs l':List S} (ho:o.op= .store t x y) (hx:ev f x= .ptr i 0 off) (hi:h i=some (.box l)) (hc:Dv h (ev f y)=some cs) (hz:sizeB P t m=true) (hm:cs.length=m) (hoff:off+m≤l.length) (hl:sets l off cs=l'):
    Step P n o f h (.d (.v undef)) f (h.set i (.box l')):=by
  subst hl;exact Alx ho hx hi hc hz hm hoff
theorem CStep.allocN (i:Nat) {l:List S} {t:TypeId} {z:Value} (ho:o.op= .alloc t) (hz:zeroB P t z) (hi:h i=none) (hl:(z.cells.toList.map fun x=>S.d (.v x))=l):CStep P o f h [i] (.ptr i 0 0) (h.set i (.box l)):=by
  subst hl;exact CStep.alloc i ho hz hi
end
section
variable {P:Program} {n:Nat} {ops:Array Oper} {rest:List Oper} {K K0:Cu} {f:Fr} {h:Xh} {o:Oper} {x y z:Operand} {d:D} {b:Bool} {s:S}
theorem zp (hp:A9 P o (ev f) h s) (hr:XL P n ops rest K (A7 f o.dst s) h) (hw:Bl ops f n o.guard=some true:=by exact rfl):XL P n ops (o::rest) K f h:=XL.pure hw hp hr
theorem zm (ho:o.op= .move x) (hs:ev f x= .d d) (hr:XL P n ops rest K (A7 f o.dst (.d d)) h) (hw:Bl ops f n o.guard=some true:=by exact rfl):XL P n ops (o::rest) K f h:=XL.pure hw (As ho hs) hr
theorem za (ho:o.op= .assign x) (hs:ev f x= .d d) (hr:XL P n ops rest K (A7 f o.dst (.d d)) h) (hw:Bl ops f n o.guard=some true:=by exact rfl):XL P n ops (o::rest) K f h:=XL.pure hw (Aw ho hs) hr
theorem zq (ho:o.op= .pick z x y) (hc:ev f z= .d (.v (.bool b))) (hs:(bif b then ev f x else ev f y)= .d d) (hr:XL P n ops rest K (A7 f o.dst (.d d)) h) (hw:Bl ops f n o.guard=some true:=by exact rfl):XL P n ops (o::rest) K f h:=XL.pure hw (Be ho hc hs) hr
def skB (ops:Array Oper) (n:Nat):Nat→List Oper→Fr→Bool
  |0,_,_=>true
  |_+1, [],_=>false
  |k+1,o::r,f=>(match Bl ops f n o.guard with|some false=>true|_=>false) && skB ops n k r (A7 f o.dst (.d (.v undef)))
def skF:Nat→List Oper→Fr→Fr
  |0,_,f=>f
  |_+1, [],f=>f
  |k+1,o::r,f=>skF k r (A7 f o.dst (.d (.v undef)))
theorem zk (k:Nat) (hk:skB ops n k rest f=true) (hr:XL P n ops (rest.drop k) K (skF k rest f) h):XL P n ops rest K f h:=by
  induction k generalizing rest f with
  |zero=>exact hr
  |succ k ih=>
    cases rest with
    |nil=>cases hk
    |cons o r=>
      rw [skB,Bool.and_eq_true] at hk
      have hw:Bl ops f n o.guard=some false:=by
        have h1:=hk.1
        split at h1
        · assumption
        · cases h1
      exact XL.skip hw (ih hk.2 hr)
theorem zr {id:Nat} {l:List Oper} {c:Code} (hl:XL P n l.toArray l (N6 (XW P n c K) K) f h) (hin:l.all (inN n)=true:=by kernel_rfl):XW P n (.seq (.region id l.toArray false) c) K f h:=Aih (Ag hin hl)
theorem znr {id:Nat} {l:List Oper} {c:Code} (hl:XL P n l.toArray l (N6 (XW P n c K) K) f h) (hin:l.all (inN n)=true:=by kernel_rfl):XL P n ops [] (N6 (XW P n (.seq (.region id l.toArray false) c) K) K0) f h:=XL.nil (zr hl hin)
theorem zng {id:Nat} {l:List Oper} (hl:XL P n l.toArray l K f h) (hin:l.all (inN n)=true:=by kernel_rfl):XL P n ops [] (N6 (XW P n (.region id l.toArray false) K) K0) f h:=XL.nil (Ag hin hl)
theorem yp {acc:List (List Nat × S)} {G:List (List Nat × S)→Fr→Xh→Prop} (hp:A9 P o (ev f) h s) (hr:ChK P n ops rest (A7 f o.dst s) h (acc++ [([],s)]) G) (hw:Bl ops f n o.guard=some true:=by exact rfl):ChK P n ops (o::rest) f h acc G:=ChK.cons hw (CStep.pure hp) hr
theorem ym {acc:List (List Nat × S)} {G:List (List Nat × S)→Fr→Xh→Prop} (ho:o.op= .move x) (hs:ev f x= .d d) (hr:ChK P n ops rest (A7 f o.dst (.d d)) h (acc++ [([], .d d)]) G) (hw:Bl ops f n o.guard=some true:=by exact rfl):ChK P n ops (o::rest) f h acc G:=ChK.cons hw (CStep.pure (As ho hs)) hr
theorem ya {acc:List (List Nat × S)} {G:List (List Nat × S)→Fr→Xh→Prop} (ho:o.op= .assign x) (hs:ev f x= .d d) (hr:ChK P n ops rest (A7 f o.dst (.d d)) h (acc++ [([], .d d)]) G) (hw:Bl ops f n o.guard=some true:=by exact rfl):ChK P n ops (o::rest) f h acc G:=ChK.cons hw (CStep.pure (Aw ho hs)) hr
theorem zn (hk:K .normal f h):XL P n ops [] K f h:=XL.nil hk
theorem zs {x y:Code} (hx:XW P n x (N6 (XW P n y K) K) f h):XW P n (.seq x y) K f h:=Aih hx
theorem zt (hk:K .ret f h):XW P n .ret K f h:=Aq6 hk
theorem zi (hk:K .normal f h):XW P n .skip K f h:=Aou hk
theorem zd {c:Operand} {x y:Code} {p:Prop} [Decidable p] (hc:ev f c= .d (.v (.bool (decide p)))) (h1:p→XW P n x K f h) (h2:¬p→XW P n y K f h) (hi:Ti n c=true:=by kernel_rfl):XW P n (.cond c x y) K f h:=Aq7 hi hc h1 h2
theorem z1 {fn:Func} {R:D→Prop} {t:Nat} (hr:fn.results= #[.tmp t]) (hf:f t= .d d) (hR:R d) (ht:Nat.blt t n=true:=by exact rfl):Lf P n fn R f h:=Jb hr (RV.tmp ht hf) hR
theorem sr {s:S}:Sub s s:= .same rfl
def FA (f:Fr):List (Nat × S)→Prop
  | []=>True
  |(t,s)::l=>Sub (f t) s∧FA f l
theorem fz:∀{l:List (Nat × S)},FA f l→FSub n f (mkF l)
  | [],_=>FSub.nil
  |(_,_)::_,h=>FSub.cons h.1 (fz h.2)
def HA (h:Xh):List (Nat × XO)→Prop
  | []=>True
  |(i,o)::l=>h i=some o∧HA h l
theorem gz:∀{l:List (Nat × XO)},HA h l→HSub h (mkH l)
  | [],_=>HSub.nil
  |(_,_)::_,k=>HSub.cons k.1 (gz k.2)
end
end Go.Proofs.YtaafemnkamfgnaaGreat
namespace Go.Proofs.YtaafemnkamfgnaaGreat
open Go.RowKit
theorem Bd.ati {e:Operand→S} {y:Operand} {k:IntKind} {b:Int} {a dflt:Nat} (h:e y= .d (.v (.int k b))) (hb:b=(a:Int)):Bd e (some y) dflt a:=by subst hb;exact .at h
theorem P2 {P:Program} {F:FuncId} {ds:List D} {p:Prop} [Decidable p] (hx:XC P F ds (fun r=>r= .v (.bool (decide p)))) (h:p):XC P F ds (fun r=>r= .v (.bool true)):=by rwa [decide_eq_true h] at hx
theorem An5 {P:Program} {F:FuncId} {ds:List D} {p:Prop} [Decidable p] (hx:XC P F ds (fun r=>r= .v (.bool (decide p)))) (h:¬p):XC P F ds (fun r=>r= .v (.bool false)):=by rwa [decide_eq_false h] at hx
theorem Ry {id:Nat} {K:Cu} {f:Fr} {h:Xh} (hk:K .normal f h):U4 id K .normal f h:=hk
theorem Sim.lay {E:Env} {H:Hp} {β:Bt} {h:Xh} {w:World} (s:Sim E H β h w) (i:Nat) (o':XO) (L':Loc) (hblk:∀b,o'.blk L' b→∃o L,h i=some o∧β i=some L∧o.blk L b)
  (hok:OKo E.w.heap.size w H (β.set i (some L')) L' o'):Sim E H (β.set i (some L')) ((h.kill i).set i o') w:=by
 have k:=s.kill i (some L')
 have old:∀j o1 L1,i≠j→h.kill i j=some o1→(β.set i (some L')) j=some L1→∃o2,h j=some o2∧β j=some L1∧o1.blk L1=o2.blk L1:=fun j o1 L1 e h1 h2=>by
  rw [Xh.kill_ne h e] at h1
  rw [Bt.set_ne β _ e] at h2
  cases hj:h j with
  |none=>rw [hj] at h1;cases h1
  |some o2=>rw [hj] at h1;cases h1;exact ⟨o2,rfl,h2,XO.blk_kill _ _ _⟩
 refine ⟨k.below,k.ext,k.new,k.imm,fun j o1 L1 h1 h2=> ?_,fun j o1 L1 h1 h2 b hb=> ?_,fun j j' o1 o2 L1 L2 b hjj h1 h1' h2 h2' hb=> ?_,fun j o1 h1 hg=> ?_⟩
 ·by_cases e:i=j
  ·subst e;rw [Xh.set_same] at h1;rw [Bt.set_same] at h2;cases h1;cases h2;exact hok
  ·rw [Xh.set_ne _ _ e] at h1;exact k.obj j o1 L1 h1 h2
 ·by_cases e:i=j
  ·subst e;rw [Xh.set_same] at h1;rw [Bt.set_same] at h2;cases h1;cases h2
   obtain ⟨o,L,g1,g2,g3⟩:=hblk b hb
   exact s.sep i o L g1 g2 b g3
  ·rw [Xh.set_ne _ _ e] at h1;exact k.sep j o1 L1 h1 h2 b hb
 ·by_cases e:i=j
  ·subst e
   rw [Xh.set_same] at h1;rw [Bt.set_same] at h2;cases h1;cases h2
   rw [Xh.set_ne _ _ hjj] at h1'
   obtain ⟨o,L,g1,g2,g3⟩:=hblk b hb
   obtain ⟨o3,g4,g5,g6⟩:=old j' o2 L2 hjj h1' h2'
   rw [g6]
   exact s.inj i j' o o3 L L2 b hjj g1 g4 g2 g5 g3
  ·rw [Xh.set_ne _ _ e] at h1
   obtain ⟨o3,g4,g5,g6⟩:=old j o1 L1 e h1 h2
   by_cases e':i=j'
   ·subst e'
    rw [Xh.set_same] at h1';rw [Bt.set_same] at h2';cases h1';cases h2'
    intro hc
    obtain ⟨o,L,g1,g2,g3⟩:=hblk b hc
    rw [g6] at hb
    exact s.inj i j o o3 L L1 b e g1 g4 g2 g5 g3 hb
   ·rw [Xh.set_ne _ _ e'] at h1'
    exact k.inj j j' o1 o2 L1 L2 b hjj h1 h1' h2 h2' hb
 ·by_cases e:i=j
  ·subst e;exact ⟨_,Bt.set_same _ _ _⟩
  ·rw [Xh.set_ne _ _ e] at h1;exact k.dom j o1 h1 hg
section
variable {P:Program} {n:Nat} {ops:Array Oper} {rest:List Oper} {K:Cu} {f:Fr} {h:Xh} {o:Oper} {c:Code}
theorem Vn {E:Env} {H:Hp} {β:Bt} {h:Xh} {w:World} (s:Sim E H β h w) (i:Nat) (e:TypeId) (sz:Nat):Sim E H (β.set i (some ⟨.slice none 0 0,0,sz,noB⟩)) ((h.kill i).set i (.row e sz [])) w:=
 s.lay i _ _ (fun b hb=>by cases hb) ⟨rfl,fun x hx=>(by cases hx),fun b hb=>(by cases hb), [],World.ownsRow_nil _ _ _ _,fun u hu=>(by cases hu),fun k j x d hk=>(by simp at hk)⟩
theorem Dx (i t:Nat) (e:TypeId) (sz:Nat) (ht:f t= .d (.v (.slice none 0 0))) (hc:XW P n c K (Ds (Dw f i) t (.own i)) ((h.kill i).set i (.row e sz []))):XW P n c K f h:=fun E H β a w hs hf=>by
 by_cases hlt:t<n
 ·refine hc E H _ a w (Vn hs i e sz) ?_
  refine Vu (hf.kill i (some ⟨.slice none 0 0,0,sz,noB⟩)) t ?_
  have e1:=hf.slot t hlt
  rw [ht] at e1
  rw [Dn e1]
  exact VS.own (L:=⟨.slice none 0 0,0,sz,noB⟩) (Bt.set_same _ _ _)
 ·refine hc E H _ a w (Vn hs i e sz) ⟨hf.defers,hf.size,fun j hj=> ?_⟩
  have:t≠j:=fun e=>hlt (e ▸ hj)
  simp only [Ds,Bp this,cond_false]
  exact (hf.kill i (some ⟨.slice none 0 0,0,sz,noB⟩)).slot j hj
theorem Aus (l:List S) (k:Nat) (s:S) (j:Nat):(l.set k s)[j]? =if k=j∧j<l.length then some s else l[j]? :=by
 rw [List.getElem?_set]
 by_cases e:k=j
 ·subst e
  rw [if_pos rfl]
  by_cases h:k<l.length
  ·rw [if_pos h,if_pos ⟨rfl,h⟩]
  ·rw [if_neg h,if_neg (fun e=>h e.2),List.getElem?_eq_none (by omega)]
 ·rw [if_neg e,if_neg (fun h=>e h.1)]
theorem E7 (i b k:Nat) (e:TypeId) (sz:Nat) {l l':List S} (hb:h b=some (.box l)) (hk:l[k]? =some (.d (.v (.slice none 0 0)))) (hib:i≠b) (hl':(S.killL i l).set k (.own i)=l')
  (hc:XW P n c K (Dw f i) (((h.kill i).set i (.row e sz [])).set b (.box l'))):XW P n c K f h:=fun E H β a w hs hf=>by
 subst hl'
 have s2:=Vn hs i e sz
 have hb2:((h.kill i).set i (.row e sz [])) b=some (.box (S.killL i l)):=by rw [Xh.set_ne _ _ hib,Xh.kill_ne _ hib,hb];rfl
 refine hc E H _ a w ?_ (hf.kill i (some ⟨.slice none 0 0,0,sz,noB⟩))
 cases hL:(β.set i (some ⟨.slice none 0 0,0,sz,noB⟩)) b with
 |none=>
  refine ⟨s2.below,s2.ext,s2.new,s2.imm,fun j o1 L1 h1 h2=> ?_,fun j o1 L1 h1 h2=> ?_,fun j j' o1 o2 L1 L2 q hjj h1 h1' h2 h2'=> ?_,fun j o1 h1 hg=> ?_⟩
  ·by_cases e:b=j
   ·subst e;rw [hL] at h2;cases h2
   ·rw [Xh.set_ne _ _ e] at h1;exact s2.obj j o1 L1 h1 h2
  ·by_cases e:b=j
   ·subst e;rw [hL] at h2;cases h2
   ·rw [Xh.set_ne _ _ e] at h1;exact s2.sep j o1 L1 h1 h2
  ·by_cases e:b=j
   ·subst e;rw [hL] at h2;cases h2
   ·rw [Xh.set_ne _ _ e] at h1
    by_cases e':b=j'
    ·subst e';rw [hL] at h2';cases h2'
    ·rw [Xh.set_ne _ _ e'] at h1';exact s2.inj j j' o1 o2 L1 L2 q hjj h1 h1' h2 h2'
  ·by_cases e:b=j
   ·subst e;rw [Xh.set_same] at h1;cases h1;cases hg
   ·rw [Xh.set_ne _ _ e] at h1;exact s2.dom j o1 h1 hg
 |some L=>
  have ok:=s2.obj b _ L hb2 hL
  obtain ⟨h1,h0,us,t,h2,h3,h4⟩:=ok
  refine s2.turn (o:= .box (S.killL i l)) hb2 hL rfl s2.below (fun _ _=>rfl) ⟨h1,by rw [List.length_set];exact h0,us,t,h2,by rw [List.length_set];exact h3,fun j u s hu hs'=> ?_⟩
  rw [Aus] at hs'
  split at hs'
  ·rename_i hkj
   obtain ⟨rfl,hlt⟩:=hkj
   cases hs'
   have:=h4 k u (.d (.v (.slice none 0 0))) hu (by rw [S.killL_get,hk];simp [S.kill])
   rw [Dn this]
   exact VS.own (L:=⟨.slice none 0 0,0,sz,noB⟩) (Bt.set_same _ _ _)
  ·exact h4 j u s hu hs'
theorem Ox {i:Nat} {t ty:TypeId} {sz:Nat} {x:Operand} {hi:Option Operand} {l:List (List D)} {m:Nat} (ho:o.op= .slice t x none hi none) (hx:ev f x= .own i) (hi':h i=some (.row ty sz l)) (hf:elB P t sz=true)
  (hhi:Bd (ev f) hi l.length m) (hm:m≤l.length):Step P n o f h (.own i) (Dw f i) ((h.kill i).set i (.row ty sz (l.take m))):=by
 intro E H β a w hs hfv hop
 have g:=hop x (by rw [ho];simp [Op.operands])
 rw [hx] at g
 obtain ⟨L,hL,hv⟩:=Fa g
 obtain ⟨el,hu,hpos,hsz⟩:=elB.parts hf
 obtain ⟨h1,hz,hvb,us,hown,hone,hc⟩:=hs.obj i _ L hi' hL
 have hown0:=hown
 obtain ⟨hlen,hcase⟩:=hown
 have hcap:∃A c,L.v= .slice A l.length c∧l.length≤c∧((A=none∧c=0)∨∃g,A=some ⟨g,0,none⟩):=by
  rcases hcase with ⟨hn,h0⟩|⟨g,cap,cur,e1,e2,e3,e4,e5,e6,e7⟩
  ·exact ⟨none,0,by rw [hn,h0],by omega, .inl ⟨rfl,rfl⟩⟩
  ·exact ⟨_,cap,e1,e4, .inr ⟨g,rfl⟩⟩
 obtain ⟨A,c,hLv,hlc,hA⟩:=hcap
 have hbounds:(Instr.sliceBounds true l.length c (none:Option Value) (hi.map a.eval) none).run P w= .ok (0,m,c) w:=
  Mj _ _ _ _ _ _ (.inl ⟨rfl,rfl⟩) (hhi.val fun y hy=>hop y (by rw [ho,hy];simp [Op.operands])) (Nat.zero_le _) (by omega) w
 have hrun:(execOp a.eval o).run P w= .ok (.value (.slice A m c)) w:=by
  unfold execOp
  simp only [ho,hv,hLv,Instr.sliceAt,Option.map_none,Sem.run_bind,run_underlying hu,Result.andThen_ok,Instr.slice,hbounds,hsz,Sem.run_pure,Nat.sub_zero,Nat.zero_mul]
  rcases hA with ⟨rfl,rfl⟩|⟨g,rfl⟩
  ·simp
  ·split<;>simp [Go.WideShapes.add_plain]
 unfold Oper.wp
 rw [hrun]
 have hblk:(Value.slice A m c).ownBlock=L.v.ownBlock:=by rw [hLv];rcases hA with ⟨rfl,_⟩|⟨g,rfl⟩<;>rfl
 have hlt:(l.take m).length=m:=by rw [List.length_take];omega
 refine ⟨H,β.set i (some ⟨.slice A m c,L.b,sz,noB⟩), .slice A m c,rfl,hs.lay i _ _ (fun b hb=> ?_) ?_,hfv.kill i _,VS.own (L:=⟨.slice A m c,L.b,sz,noB⟩) (Bt.set_same _ _ _)⟩
 ·refine ⟨_,L,hi',hL, ?_⟩
  simp only [XO.blk] at hb ⊢
  rw [←hblk];exact hb
 ·refine ⟨rfl,fun x hx=>hz x (List.mem_of_mem_take hx),fun b hb=>hvb b (by rw [←hblk];exact hb),us.take (m*sz),⟨?_, ?_⟩,fun u hu'=>hone u (List.mem_of_mem_take hu'),fun k j x d hk hj=> ?_⟩
  ·rw [List.length_take,hlt,hlen]
   exact Nat.min_eq_left (Nat.mul_le_mul_right _ hm)
  ·rw [hlt]
   rcases hcase with ⟨hn,h0⟩|⟨g,cap,cur,e1,e2,e3,e4,e5,e6,e7⟩
   ·rw [hn] at hLv
    injection hLv with q1 q2 q3
    subst q1 q3
    have:m=0:=by omega
    subst this
    exact .inl ⟨rfl,rfl⟩
   ·rw [e1] at hLv
    injection hLv with q1 q2 q3
    subst q1 q3
    refine .inr ⟨g,cap,cur,rfl,e2,e3,by omega,e5,e6, ?_⟩
    rw [←e7,List.take_take,Nat.min_eq_left (Nat.mul_le_mul_right _ hm)]
  ·have hkm:k<m:=by
    have:=(List.getElem?_eq_some_iff.1 hk).1
    omega
   rw [List.getElem?_take,if_pos hkm] at hk
   obtain ⟨u,h5,h6⟩:=hc k j x d hk hj
   refine ⟨u, ?_,h6⟩
   rw [List.getElem?_take,if_pos]
   ·exact h5
   ·have hjl:j<sz:=by
     have e1:=hz x (List.mem_of_getElem? hk)
     have e2:=(List.getElem?_eq_some_iff.1 hj).1
     omega
    calc k*sz+j<k*sz+sz:=by omega
     _=(k+1)*sz:=by rw [Nat.add_mul,Nat.one_mul]
     _≤m*sz:=Nat.mul_le_mul_right _ hkm
inductive FnS:S→FuncId→List S→List S→Prop where
 |s {F:FuncId} {ps cs:List S}:FnS (.fn F ps cs) F ps cs
 |d {F:FuncId} {pd cd:List D}:FnS (.d (.fn F pd cd)) F (pd.map S.d) (cd.map S.d)
theorem FnS.vs {H:Hp} {β:Bt} {u:Value} {s:S} {F:FuncId} {ps cs:List S} (hs:FnS s F ps cs) (hv:VS H β u s):VS H β u (.fn F ps cs):=by
 cases hs with
 |s=>exact hv
 | @d _ pd cd=>
  obtain ⟨A,C,rfl,h1,h2,h3,h4⟩:=An6 (D5 hv)
  refine .fn F A C _ _ (by simpa using h1) (by simpa using h2) (fun i x s hx hs=> ?_) (fun i x s hx hs=> ?_)
  ·rw [List.getElem?_map] at hs
   cases hp:pd[i]? with
   |none=>rw [hp] at hs;cases hs
   |some d=>rw [hp] at hs;cases hs;exact .d (h3 i x d hx hp)
  ·rw [List.getElem?_map] at hs
   cases hp:cd[i]? with
   |none=>rw [hp] at hs;cases hs
   |some d=>rw [hp] at hs;cases hs;exact .d (h4 i x d hx hp)
def Hz (P:Program) (n:Nat) (fn:Func) (f:Fr) (h:Xh) (s:S):Prop:=∀E H β a w,Sim E H β h w→FV n H β a f→∃u,(results fn a.tmps).run P w= .ok u w∧VS H β u s
theorem rs0 {fn:Func} {s:S} (hr:fn.results= #[]) (hs:s= .any):Hz P n fn f h s:=fun E H β a w _ _=>⟨.tuple #[],by rw [Gp,hr];simp,by rw [hs];exact .any _⟩
theorem rs1 {fn:Func} {rv:ResultVar} {d:D} (hr:fn.results= #[rv]) (h1:RV P n f h rv d):Hz P n fn f h (.d d):=fun E H β a w hs hf=>by
 obtain ⟨u,e1,v1⟩:=h1 E H β a w hs hf
 refine ⟨u, ?_, .d v1⟩
 rw [Gp,hr]
 simp [e1]
def V2 (ss:List S):Fr:=fun t=>
 match ss[t]? with
 |some s=>s
 |none=> .d (.v undef)
def Am3 (P:Program) (n:Nat) (ops:Array Oper) (rest:List Oper) (K:Cu) (dst:Option Tmp) (fn:Func) (n' G:Nat) (u:Array Value):Cu
 | .normal,f,h=>∃s l,h G=some (.ghost u l)∧Hz P n' fn f h s∧XL P n ops rest K (A7 (mkF l) dst s) h
 | .ret,f,h=>∃s l,h G=some (.ghost u l)∧Hz P n' fn f h s∧XL P n ops rest K (A7 (mkF l) dst s) h
 |_,_,_=>False
theorem Dr {dst:Option Tmp} {fn:Func} {n' G:Nat} {u:Array Value} {f':Fr} {h':Xh} {s:S} {l:List (Nat × S)} (hG:h' G=some (.ghost u l)) (hr:Hz P n' fn f' h' s) (hk:XL P n ops rest K (A7 (mkF l) dst s) h'):
  Am3 P n ops rest K dst fn n' G u .normal f' h'∧Am3 P n ops rest K dst fn n' G u .ret f' h':=⟨⟨s,l,hG,hr,hk⟩,⟨s,l,hG,hr,hk⟩⟩
theorem Ap1 {l:List (Nat × S)} {t:Nat}:mkF l t= .any∨(t,mkF l t)∈l:=by
 induction l with
 |nil=>exact .inl rfl
 |cons p l ih=>
  obtain ⟨t',s⟩:=p
  by_cases e:t'=t
  ·subst e
   right
   have:mkF ((t',s)::l) t'=s:=by simp only [mkF,Ds,Bh,cond_true]
   rw [this]
   exact List.mem_cons_self
  ·have:mkF ((t',s)::l) t=mkF l t:=by simp only [mkF,Ds,Bp e,cond_false]
   rw [this]
   rcases ih with h|h
   ·exact .inl h
   ·exact .inr (List.mem_cons_of_mem _ h)
theorem XL.inl {x:Operand} {args:Array Operand} {tys:Array TypeId} {F:FuncId} {ps cs:List S} {fn:Func} {n':Nat} (G:Nat) (l:List (Nat × S)) (ho:o.op= .call {callee:= .value x,args:=args,argTypes:=tys})
  (hw:Bl ops f n o.guard=some true) (hx:FnS (ev f x) F ps cs) (hcl:Callable P F) (hf:P.funcs[F]? =some fn) (hb:fn.body=some c) (hn:fn.ntmps=n') (hlen:ps.length+args.size+cs.length≤n')
  (hl:∀p∈l,p.1<n∧f p.1=p.2)
  (hc:∀u,XW P n' c (Am3 P n ops rest K o.dst fn n' G u) (Dw (V2 (ps++args.toList.map (ev f)++cs)) G) ((h.kill G).set G (.ghost u (S.killG G l)))):XL P n ops (o::rest) K f h:=by
 intro hin E H β a w hs hfv
 rw [List.all_cons,Bool.and_eq_true] at hin
 have hop:=hfv.operands hin.1
 have hd:=hin.1
 unfold inN at hd
 rw [Bool.and_eq_true] at hd
 have hop':∀y∈args,VS H β (a.eval y) (ev f y):=fun y hy=>hop y (by rw [ho];simp [Op.operands,Call.operands,hy])
 have hxv:=hop x (by rw [ho];simp [Op.operands,Call.operands])
 obtain ⟨A,C,hA,hA1,hC1,hA2,hC2⟩:=Xw (hx.vs hxv)
 have hrun:(execOp a.eval o).run P w= .ok (.enter F (A++args.map a.eval++C)) w:=by
  have:=hcl.run (A++args.map a.eval++C) w
  unfold execOp
  simp only [ho,resolve,hA,Deferred.ofValue,Sem.run_bind,Sem.run_pure,Result.andThen_ok,invoke]
  exact this
 unfold wpList
 rw [if_pos (Hn hfv hw)]
 refine .inl (Dm (K:=fun a' w'=>wpList P ops (Ac6 E n K) rest a' w') ?_ (fun _ _ h=>h))
 unfold Oper.wp
 rw [hrun]
 let L0:Option Loc:=some ⟨.slice none 0 0,0,0,noB⟩
 have hvs:∀(i:Nat) (y:Value) (s:S),(A++args.map a.eval++C)[i]? =some y→(ps++args.toList.map (ev f)++cs)[i]? =some s→VS H β y s:=by
  intro i y s hy hd
  by_cases h1:i<ps.length
  ·rw [List.append_assoc,List.getElem?_append_left h1] at hd
   rw [Array.append_assoc,Array.getElem?_append_left (by omega)] at hy
   exact hA2 i y s hy hd
  ·by_cases h2:i<ps.length+args.size
   ·rw [List.append_assoc,List.getElem?_append_right (by omega),List.getElem?_append_left (by simp;omega)] at hd
    rw [Array.append_assoc,Array.getElem?_append_right (by omega),Array.getElem?_append_left (by simp;omega),hA1] at hy
    rw [List.getElem?_map,Array.getElem?_toList] at hd
    rw [Array.getElem?_map] at hy
    cases hq:args[i - ps.length]? with
    |none=>rw [hq] at hd;cases hd
    |some q=>
     rw [hq] at hd hy
     cases hd;cases hy
     exact hop' q (Array.mem_of_getElem? hq)
   ·rw [List.getElem?_append_right (by simp;omega)] at hd
    rw [Array.getElem?_append_right (by simp;omega)] at hy
    have e:(A++args.map a.eval).size=(ps++args.toList.map (ev f)).length:=by simp [hA1]
    rw [e] at hy
    exact hC2 _ y s hy hd
 have hsz:(A++args.map a.eval++C).size=(ps++args.toList.map (ev f)++cs).length:=by simp [hA1,hC1]
 have hsz2:(A++args.map a.eval++C).size=ps.length+args.size+cs.length:=by simp [hA1,hC1];omega
 generalize hvse:A++args.map a.eval++C=vs at*
 generalize hsse:ps++args.toList.map (ev f)++cs=ss at*
 have hcal:Calls P F vs w fun e w'=>∃v,e= .returned v∧wpList P ops (Ac6 E n K) rest (a.put o.dst v) w':=by
  refine calls_of_wp hf hb ?_
  have s2:Sim E H (β.set G L0) ((h.kill G).set G (.ghost a.tmps (S.killG G l))) w:=by
   refine hs.lay G _ _ (fun b hb=>by cases hb) fun t s hm=> ?_
   obtain ⟨s',h1,rfl⟩:=S.killG_mem hm
   obtain ⟨h2,h3⟩:=hl _ h1
   have:=hfv.slot t h2
   simp only at h3
   rw [h3] at this
   exact this.kill G _
  have f2:FV n' H (β.set G L0) {tmps:=vs++Array.replicate (fn.ntmps - vs.size) undef,defers:= []} (Dw (V2 ss) G):=by
   refine FV.kill ⟨rfl,by simp [hn];omega,fun t ht=> ?_⟩ G L0
   unfold V2
   cases hd:ss[t]? with
   |none=>
    have hge:ss.length≤t:=List.getElem?_eq_none_iff.1 hd
    have:(vs++Array.replicate (fn.ntmps - vs.size) undef).getD t undef=undef:=by
     rw [Array.getD_eq_getD_getElem?,Array.getElem?_append_right (by omega)]
     rw [Array.getElem?_replicate]
     split<;>rfl
    show VS H β ((vs++Array.replicate (fn.ntmps - vs.size) undef).getD t undef) (.d (.v undef))
    rw [this]
    exact .d (.v _)
   |some s=>
    have hlt:t<ss.length:=(List.getElem?_eq_some_iff.1 hd).1
    have hx : vs[t]? = some (vs[t]'(by omega)) := Array.getElem?_eq_getElem (by omega)
    have : (vs ++ Array.replicate (fn.ntmps - vs.size) undef).getD t undef = vs[t]'(by omega) := by
     rw [Array.getD_eq_getD_getElem?,Array.getElem?_append_left (by omega),hx]
     rfl
    show VS H β ((vs++Array.replicate (fn.ntmps - vs.size) undef).getD t undef) s
    rw [this]
    exact hvs t _ s hx hd
  refine wp_mono (hc a.tmps E H _ _ w s2 f2) ?_
  rintro e a' w' ⟨H',β',f',h',h1,h2,h3⟩
  have fin:(∃s l,h' G=some (.ghost a.tmps l)∧Hz P n' fn f' h' s∧XL P n ops rest K (A7 (mkF l) o.dst s) h')→
    a'.defers= []∧∃v,(results fn a'.tmps).run P w'= .ok v w'∧∃v',Ending.returned v= .returned v'∧wpList P ops (Ac6 E n K) rest (a.put o.dst v') w':=by
   rintro ⟨s,l',g1,g2,g3⟩
   obtain ⟨v,g4,g5⟩:=g2 E H' β' a' w' h1 h2
   refine ⟨h2.defers,v,g4,v,rfl, ?_⟩
   obtain ⟨L,hL⟩:=h1.dom G _ g1 rfl
   have hok:∀t s,(t,s)∈l'→VS H' β' (a.tmps.getD t undef) s:=h1.obj G _ L g1 hL
   have fv : FV n H' β' a (mkF l') := ⟨hfv.defers, hfv.size, fun t _ => by
    rcases Ap1 (l:=l') (t:=t) with e|e
    ·rw [e];exact .any _
    ·exact hok _ _ e⟩
   exact g3 hin.2 E H' β' _ w' h1 (fv.put g5 o.dst hd.2)
  cases e with
  |normal=>exact fin h3
  |ret=>exact fin h3
  |_=>exact h3.elim
 refine hcal.mono ?_
 rintro e w' ⟨v,rfl,h⟩
 exact h
end
end Go.Proofs.YtaafemnkamfgnaaGreat
namespace Go.Proofs.YtaafemnkamfgnaaGreat
open Go.RowKit
def U8 (ops:Array Oper) (j i:Nat):Bool:=match ops[j]? with
 |some o=>o.after.toList.any fun e=>Region.binds .any e && Nat.beq e.on i
 |none=>false
def Aia (ops:Array Oper):Bool:=(List.range ops.size).all fun j=>match ops[j]? with
 |some o=>o.after.toList.all fun e=> !Region.binds .any e||Nat.blt e.on j
 |none=>true
def Pa (ops:Array Oper) (p:Nat):Bool:=
 Aia ops && ((List.range p).all fun k=>(List.range (p+1)).any fun k'=>Nat.blt k k' && U8 ops k' k) && ((List.range ops.size).all fun j=> !Nat.blt p j||U8 ops j (j - 1))
theorem Pu {ops:Array Oper} {j i:Nat} (h:U8 ops j i=true):∃o e,ops[j]? =some o∧e∈o.after∧Region.binds .any e=true∧e.on=i:=by
 unfold U8 at h
 cases ho:ops[j]? with
 |none=>rw [ho] at h;cases h
 |some o=>
  rw [ho] at h
  simp only [List.any_eq_true,Bool.and_eq_true] at h
  obtain ⟨e,he,hb,h2⟩:=h
  exact ⟨o,e,rfl,by simpa using he,hb,Nat.eq_of_beq_eq_true h2⟩
theorem Vb {ops:Array Oper} (h:Aia ops=true) {j:Nat} {o:Oper} (ho:ops[j]? =some o) {e:Edge} (he:e∈o.after) (hb:Region.binds .any e=true):e.on<j:=by
 unfold Aia at h
 have hj:j<ops.size:=(Array.getElem?_eq_some_iff.1 ho).1
 have h1:=List.all_eq_true.1 h j (List.mem_range.2 hj)
 rw [ho] at h1
 have h2:=List.all_eq_true.1 h1 e (by simpa using he)
 rw [hb] at h2
 exact Eu (by simpa using h2)
theorem Ly {P:Program} {ops:Array Oper} {Q:Exit→Act→World→Prop} {id:Nat} {a:Act} {w:World} {I:Array Bool→Act→World→Prop} (p:Nat) (suf:List Oper) (hm:P.follows .mixedOrders=true)
  (hops:∀j,suf[j]? =ops[p+j]?) (hsz:ops.size=p+suf.length) (hne:0<suf.length) (hS:Pa ops p=true) (h0:I (Array.replicate ops.size false) a w.drew)
  (hinv:∀listed a w,I listed a w→listed.size=ops.size∧(∀j o e,ops[j]? =some o→listed.getD j false=true→e∈o.after→Region.binds .any e=true→listed.getD e.on false=true)∧∀k,p≤k→listed.getD k false=false)
  (hstep:∀listed a w,I listed a w→∀i∈Region.ready .any ops listed,i<p→wpOp P ops Q i (fun a' w'=>I (listed.setIfInBounds i true) a' w') a w)
  (hdone:∀listed a w,I listed a w→(∀k,k<p→listed.getD k false=true)→wpList P ops Q suf a w):(Code.region id ops true).wp P Q a w:=by
 unfold Pa at hS
 rw [Bool.and_eq_true,Bool.and_eq_true] at hS
 obtain ⟨⟨hback,hpre⟩,hchain⟩:=hS
 have hch:∀j,p<j→j<ops.size→U8 ops j (j - 1)=true:=by
  intro j h1 h2
  have h3:=List.all_eq_true.1 hchain j (List.mem_range.2 h2)
  have h4:Nat.blt p j=true:=by rw [Nat.blt_eq];exact h1
  rw [h4] at h3
  simpa using h3
 have hall:∀listed a w,I listed a w→p∈Region.ready .any ops listed→∀k,k<p→listed.getD k false=true:=by
  intro listed a w hI hp k hk
  obtain ⟨_,hdown,_⟩:=hinv _ _ _ hI
  obtain ⟨_,_,o,ho,hdeps⟩:=Fj hp
  have key:∀d k,k<p→p - k≤d→listed.getD k false=true:=by
   intro d
   induction d with
   |zero=>intro k h1 h2;omega
   |succ d ih=>
    intro k h1 h2
    have h3:=List.all_eq_true.1 hpre k (List.mem_range.2 h1)
    simp only [List.any_eq_true,Bool.and_eq_true,List.mem_range] at h3
    obtain ⟨k',h4,h5,h6⟩:=h3
    have h5:=Eu h5
    obtain ⟨o',e,g1,g2,g3,g4⟩:=Pu h6
    by_cases e':k'=p
    ·subst e'
     rw [ho] at g1;cases g1
     rw [←g4];exact hdeps e g2 g3
    ·rw [←g4]
     exact hdown k' o' e g1 (ih k' (by omega) (by omega)) g2 g3
  exact key (p - k) k hk (Nat.le_refl _)
 let J:Array Bool→Act→World→Prop:=fun listed a w=>I listed a w∨∃m,m≤suf.length∧listed.size=ops.size∧(∀k,k<ops.size→(listed.getD k false=true↔k<p+m))∧wpList P ops Q (suf.drop m) a w
 have hone:∀(listed:Array Bool) (a:Act) (w:World) (m:Nat),m<suf.length→listed.size=ops.size→(∀k,k<ops.size→(listed.getD k false=true↔k<p+m))→wpList P ops Q (suf.drop m) a w→
   wpOp P ops Q (p+m) (fun a' w'=>J (listed.setIfInBounds (p+m) true) a' w') a w:=by
  intro listed a w m hm' hl hk hw
  have ho:suf[m]? =some suf[m]:=List.getElem?_eq_getElem hm'
  have hd:suf.drop m=suf[m]::suf.drop (m+1):=List.drop_eq_getElem_cons hm'
  rw [hd] at hw
  unfold wpOp
  rw [←hops m,ho]
  simp only
  unfold wpList at hw
  have hJ:∀a' w',wpList P ops Q (suf.drop (m+1)) a' w'→J (listed.setIfInBounds (p+m) true) a' w':=by
   intro a' w' h
   refine .inr ⟨m+1,hm',by simpa using hl,fun k hk'=> ?_,h⟩
   by_cases e:k=p+m
   ·subst e
    simp [Array.getD_eq_getD_getElem?,show p+m<listed.size by omega]
   ·rw [show (listed.setIfInBounds (p+m) true).getD k false=listed.getD k false from by simp [Array.getD_eq_getD_getElem?,Array.getElem?_setIfInBounds_ne (fun h=>e h.symm)]]
    rw [hk k hk']
    omega
  split at hw
  ·rename_i hwant
   rw [if_pos hwant]
   rcases hw with h|h
   ·exact .inl (Oper.wp_mono hJ h)
   ·exact .inr h
  ·rename_i hwant
   rw [if_neg hwant]
   exact hJ _ _ hw
 refine Pz (I:=J) hm (.inl h0) ?_ ?_
 ·rintro listed a w (hI|⟨m,hm',hl,hk,hw⟩) i hi
  ·obtain ⟨hl,hdown,hun⟩:=hinv _ _ _ hI
   obtain ⟨h1,h2,o,ho,hdeps⟩:=Fj hi
   by_cases hip:i<p
   ·exact wpOp_mono (fun _ _ h=> .inl h) (hstep _ _ _ hI i hi hip)
   ·by_cases e:i=p
    ·subst e
     have ha:=hall _ _ _ hI hi
     have := hone listed a w 0 hne hl (fun k hk => by
      by_cases hkp:k<i
      ·simp [ha k hkp,hkp]
      ·simp [hun k (by omega), hkp]) (by rw [List.drop_zero]; exact hdone _ _ _ hI ha)
     rwa [Nat.add_zero] at this
    ·exfalso
     obtain ⟨o',e',g1,g2,g3,g4⟩:=Pu (hch i (by omega) h1)
     rw [ho] at g1;cases g1
     have:=hdeps e' g2 g3
     rw [g4,hun (i - 1) (by omega)] at this
     cases this
  ·obtain ⟨h1,h2,o,ho,hdeps⟩:=Fj hi
   have h2':listed.getD i false=false:=by rw [←Hk true (by omega)];exact h2
   have hge:¬i<p+m:=fun h=>by have:=(hk i h1).2 h;rw [h2'] at this;cases this
   have hi':i=p+m:=by
    by_cases e:i=p+m
    ·exact e
    ·exfalso
     obtain ⟨o',e',g1,g2,g3,g4⟩:=Pu (hch i (by omega) h1)
     rw [ho] at g1;cases g1
     have:=hdeps e' g2 g3
     rw [g4] at this
     have:=(hk (i - 1) (by omega)).1 this
     omega
   subst hi'
   exact hone listed a w m (by omega) hl hk hw
 ·rintro listed a w (hI|⟨m,hm',hl,hk,hw⟩) hr
  ·exfalso
   obtain ⟨hl,hdown,hun⟩:=hinv _ _ _ hI
   have key:∀k,k≤p→listed.getD k false=true:=by
    intro k
    induction k using Nat.strongRecOn with
    |_ k ih=>
     intro hkp
     cases hlk:listed.getD k false with
     |true=>rfl
     |false=>
      exfalso
      have hks:k<ops.size:=by omega
      have ho:ops[k]? =some ops[k]:=Array.getElem?_eq_getElem hks
      have : k ∈ Region.ready .any ops listed := mem_ready.2 ⟨by rw [Hk true (by omega)]; exact hlk, ops[k], ho, fun e he hb => by
       have hlt:=Vb hback ho he hb
       exact ih e.on hlt (by omega)⟩
      rw [hr] at this;cases this
   have:=key p (Nat.le_refl _)
   rw [hun p (Nat.le_refl _)] at this
   cases this
  ·by_cases e:m=suf.length
   ·subst e
    rw [List.drop_length] at hw
    exact hw
   ·exfalso
    have hks:p+m<ops.size:=by omega
    have ho:ops[p+m]? =some ops[p+m]:=Array.getElem?_eq_getElem hks
    have hun:listed.getD (p+m) false=false:=by
     cases h:listed.getD (p+m) false with
     |false=>rfl
     |true=>have:=(hk _ hks).1 h;omega
    have : p + m ∈ Region.ready .any ops listed := mem_ready.2 ⟨by rw [Hk true (by omega)]; exact hun, ops[p + m], ho, fun e he hb => by
     have hlt:=Vb hback ho he hb
     exact (hk e.on (by omega)).2 hlt⟩
    rw [hr] at this;cases this
theorem All {P:Program} {n id:Nat} {pre suf:List Oper} {ops:Array Oper} {K:Cu} {f f':Fr} {h h':Xh} {L:List (List Nat × S)} (sites:List Nat) (hopsE:ops=(pre++suf).toArray) (hne:0<suf.length) (hm:P.follows .mixedOrders=true) (hin:pre.all (inN n)=true) (hin2:suf.all (inN n)=true)
  (hreg:Jo ops pre=true) (hS:Pa ops pre.length=true)
  (hc:Ch P n ops pre (Er f sites) (E1 h sites) L f' h') (hids:L.flatMap (·.1)=sites) (hnd:sites.Nodup) (hk:XL P n ops suf K f' h'):XW P n (.region id ops true) K f h:=by
 have hops:∀j,j<pre.length→ops[j]? =pre[j]? :=fun j hj=>by rw [hopsE];simp [List.getElem?_append_left hj]
 have hops2:∀j,suf[j]? =ops[pre.length+j]? :=fun j=>by rw [hopsE,List.getElem?_toArray,List.getElem?_append_right (by omega),Nat.add_sub_cancel_left]
 have hsize:ops.size=pre.length+suf.length:=by rw [hopsE];simp
 intro E H β a w hs hf
 obtain ⟨hs1,hf1⟩:=Nc sites β f h hs hf
 obtain ⟨hok,hfin⟩:=hc.ok
 obtain ⟨hle,hnew⟩:=hc.heap
 have hlen:=hc.len
 generalize hf0:Er f sites=f0 at*
 have huniq:∀(k k':Nat) (ids ids':List Nat) (s s':S) (i:Nat),L[k]? =some (ids,s)→L[k']? =some (ids',s')→i∈ids→i∈ids'→k=k':=by
  rw [←hids] at hnd
  clear hids hnew hc hok hfin hlen
  induction L with
  |nil=>intro k k' ids ids' s s' i h1;simp at h1
  |cons q L ih=>
   rw [List.flatMap_cons,List.nodup_append] at hnd
   intro k k' ids ids' s s' i h1 h2 h3 h4
   cases k with
   |zero=>
    cases k' with
    |zero=>rfl
    |succ k'=>
     simp at h1 h2
     subst h1
     exact absurd rfl (hnd.2.2 i h3 i (List.mem_flatMap.2 ⟨_,List.mem_of_getElem? h2,h4⟩))
   |succ k=>
    cases k' with
    |zero=>
     simp at h1 h2
     subst h2
     exact absurd rfl (hnd.2.2 i h4 i (List.mem_flatMap.2 ⟨_,List.mem_of_getElem? h1,h3⟩))
    |succ k'=>exact congrArg (· +1) (ih hnd.2.1 k k' ids ids' s s' i (by simpa using h1) (by simpa using h2) h3 h4)
 have hs2:Sim E H (Fs β sites) h' w:=by
  have emp:∀i x L0,h' i=some x→Fs β sites i=some L0→E1 h sites i=some x:=fun i x L0 e1 e2=>by
   rcases hnew i x e1 with e|e
   ·exact e
   ·rw [hids] at e
    rw [F6 sites β i e.1] at e2;cases e2
  exact ⟨hs1.below, hs1.ext, hs1.new, hs1.imm, fun i x L0 e1 e2 => hs1.obj i x L0 (emp i x L0 e1 e2) e2, fun i x L0 e1 e2 => hs1.sep i x L0 (emp i x L0 e1 e2) e2,
   fun i j x x' L1 L2 b hij e1 e1' e2 e2'=>hs1.inj i j x x' L1 L2 b hij (emp i x L1 e1 e2) (emp j x' L2 e1' e2') e2 e2',
   fun i x e1 hg=>by
    rcases hnew i x e1 with e|e
    ·exact hs1.dom i x e hg
    ·rw [e.2] at hg; cases hg⟩
 refine Ly (I := fun listed a w => (listed.size = ops.size ∧ (∀ j o e, ops[j]? = some o → listed.getD j false = true → e ∈ o.after → Region.binds .any e = true → listed.getD e.on false = true) ∧ ∀ k, pre.length ≤ k → listed.getD k false = false) ∧
   ∃ H β, Sim E H β h' w ∧ FV n H β a (A3 f0 pre L (fun j => listed.getD j false) pre.length) ∧ ∀ (k : Nat) (ids : List Nat) (s : S), L[k]? = some (ids, s) → listed.getD k false = false → ∀ i ∈ ids, β i = none) pre.length suf hm hops2 hsize hne hS ?_ (fun _ _ _ h => h.1) ?_ ?_
 ·have hrep:∀j,(Array.replicate ops.size false).getD j false=false:=fun j=>by rw [Array.getD_eq_getD_getElem?,Array.getElem?_replicate];split<;>rfl
  refine ⟨⟨by simp,fun j o e _ hj=> ?_,fun k _=>hrep k⟩,H,Fs β sites,hs2.drew, ?_,fun k ids s hk _ i hi=>F6 sites β i (by rw [←hids];exact List.mem_flatMap.2 ⟨_,List.mem_of_getElem? hk,hi⟩)⟩
  ·have:(Array.replicate ops.size false).getD j false=false:=by
    rw [Array.getD_eq_getD_getElem?,Array.getElem?_replicate];split<;>rfl
   rw [this] at hj;cases hj
  ·have e0:∀k,A3 f0 pre L (fun j=>(Array.replicate ops.size false).getD j false) k=f0:=by
    intro k
    induction k with
    |zero=>rfl
    |succ k ih=>
     have hz:(Array.replicate ops.size false).getD k false=false:=by
      rw [Array.getD_eq_getD_getElem?,Array.getElem?_replicate];split<;>rfl
     unfold A3
     cases pre[k]? with
     |none=>exact ih
     |some o=>
      cases L[k]? with
      |none=>exact ih
      |some q=>simp only [hz,cond_false];exact ih
   rw [e0]
   exact hf1
 ·rintro listed a w ⟨⟨hsz,hdown,hunp⟩,H,β,hsim,hfv,hun⟩ i hi hip
  obtain ⟨hil,hunl,o,ho,hdeps⟩:=Fj hi
  have hil':i<pre.length:=hip
  have hol:pre[i]? =some o:=by rw [←hops i hip];exact ho
  obtain ⟨⟨ids,s⟩,hLi⟩:∃q,L[i]? =some q:=⟨_,List.getElem?_eq_getElem (by omega)⟩
  have hunl':listed.getD i false=false:=by rw [←Hk true (by omega)];exact hunl
  have hdown':∀j o e,ops[j]? =some o→(fun j=>listed.getD j false) j=true→e∈o.after→Region.binds .any e=true→(fun j=>listed.getD j false) e.on=true:=fun j o e h1 h2 h3 h4=>hdown j o e (by simpa using h1) h2 h3 h4
  have hwl:∀j,Da ops 3 i j=true→listed.getD j false=true:=by
   intro j hw
   unfold Da at hw
   rw [ho] at hw
   simp only [List.any_eq_true,Bool.and_eq_true,Bool.or_eq_true] at hw
   obtain ⟨e,he,hb,h2⟩:=hw
   have hl:=hdeps e (by simpa using he) hb
   rcases h2 with h2|h2
   ·rw [←Nat.eq_of_beq_eq_true h2];exact hl
   ·exact Cy hdown' 2 e.on j h2 hl
  have hlo:∀t,t∈B8 ops o→∀j o',j<i→pre[j]? =some o'→o'.dst=some t→listed.getD j false=true:=by
   intro t ht j o' hj hj' hd
   exact hwl j (Hi hreg hj hj' hol (by unfold Le;rw [hd];simp [Hx ht]))
  have hhi:∀t,t∈B8 ops o→∀j o',i<j→pre[j]? =some o'→o'.dst=some t→listed.getD j false=false:=by
   intro t ht j o' hj hj' hd
   cases hlj:listed.getD j false with
   |false=>rfl
   |true=>
    have hw:=Hi hreg hj hol hj' (by unfold Le;rw [hd];simp [Hx ht])
    have:=Cy hdown' 3 j i hw hlj
    rw [hunl'] at this;cases this
  have hcur:∀t,t∈B8 ops o→A3 f0 pre L (fun j=>listed.getD j false) pre.length t=A3 f0 pre L Du i t:=by
   intro t ht
   have h1:∀j o',i≤j→pre[j]? =some o'→o'.dst=some t→(fun j=>listed.getD j false) j=false:=by
    intro j o' hj hj' hd
    by_cases e:j=i
    ·subst e;exact hunl'
    ·exact hhi t ht j o' (by omega) hj' hd
   rw [Gw h1 pre.length (by omega),Lw (hlo t ht) i (Nat.le_refl _)]
  have hin':inN n o=true:=List.all_eq_true.1 hin o (List.mem_of_getElem? hol)
  have hoin:=hin'
  unfold inN at hoin
  rw [Bool.and_eq_true] at hoin
  have hop:∀x∈o.op.operands,VS H β (a.eval x) (ev (A3 f0 pre L Du i) x):=by
   intro x hx
   have h1:=hfv.operands hin' x hx
   cases x with
   |tmp t=>
    have ht:t∈B8 ops o:=by
     unfold B8 Oper.looksAt
     simp only [List.mem_append,List.mem_filterMap]
     exact .inr (.inl ⟨.tmp t,by simpa using hx,rfl⟩)
    have:=hcur t ht
    simp only [ev] at h1 ⊢
    rw [←this]
    exact h1
   |_=>exact h1
  have hguard:∀b,Bl ops (A3 f0 pre L Du i) n o.guard=some b→Region.wanted o (yielded ops a.tmps)=b:=by
   intro b hb
   refine Hn hfv ?_
   rw [←hb]
   unfold Bl
   cases hg:o.guard with
   |none=>rfl
   |some g=>
    obtain ⟨j,want⟩:=g
    simp only
    cases ht:(ops[j]?).bind (·.dst) with
    |none=>rfl
    |some t=>
     simp only
     have htn:t∈B8 ops o:=by
      unfold B8 Oper.looksAt
      rw [hg]
      simp only [List.mem_append]
      exact .inr (.inr (by rw [ht];simp))
     rw [hcur t htn]
  have hlisted':∀j,(listed.setIfInBounds i true).getD j false=if j=i then true else listed.getD j false:=by
   intro j
   by_cases e:j=i
   ·subst e
    simp [Array.getD_eq_getD_getElem?,show j<listed.size by omega]
   ·rw [if_neg e]
    simp [Array.getD_eq_getD_getElem?,Array.getElem?_setIfInBounds_ne (fun h=>e h.symm)]
  have hdown2:∀j o' e,ops[j]? =some o'→(listed.setIfInBounds i true).getD j false=true→e∈o'.after→Region.binds .any e=true→(listed.setIfInBounds i true).getD e.on false=true:=by
   intro j o' e hj hl he hb
   rw [hlisted'] at hl ⊢
   split
   ·rfl
   ·by_cases ej:j=i
    ·subst ej
     rw [ho] at hj;cases hj
     exact hdeps e he hb
    ·rw [if_neg ej] at hl
     exact hdown j o' e hj hl he hb
  have hslot:∀(H':Hp) (β':Bt) (u:Value),FV n H' β' a (A3 f0 pre L (fun j=>listed.getD j false) pre.length)→VS H' β' u s→FV n H' β' (a.put o.dst u) (A3 f0 pre L (fun j=>(listed.setIfInBounds i true).getD j false) pre.length):=by
   intro H' β' u hfv' hu
   have hp:=hfv'.put hu o.dst hoin.2
   refine ⟨hp.defers,hp.size,fun t ht=> ?_⟩
   have h1:=hp.slot t ht
   have hsame:∀j,j≠i→(fun j=>(listed.setIfInBounds i true).getD j false) j=(fun j=>listed.getD j false) j:=fun j hj=>by simp only;rw [hlisted',if_neg hj]
   by_cases hd:o.dst=some t
   ·have ht':t∈B8 ops o:=by unfold B8;simp [hd]
    have e1:A3 f0 pre L (fun j=>(listed.setIfInBounds i true).getD j false) pre.length t=A3 f0 pre L (fun j=>(listed.setIfInBounds i true).getD j false) (i+1) t:=by
     refine Gw (fun j o' hj hj' hd'=> ?_) pre.length (by omega)
     show (listed.setIfInBounds i true).getD j false=false
     rw [hlisted',if_neg (by omega)]
     exact hhi t ht' j o' (by omega) hj' hd'
    have e2:A3 f0 pre L (fun j=>(listed.setIfInBounds i true).getD j false) (i+1) t=s:=by
     unfold A3
     rw [hol,hLi]
     have hb:(listed.setIfInBounds i true).getD i false=true:=by rw [hlisted',if_pos rfl]
     simp only [hb,cond_true,A7,hd,Ds,Bh]
    have e3:A7 (A3 f0 pre L (fun j=>listed.getD j false) pre.length) o.dst s t=s:=by rw [hd];simp only [A7,Ds,Bh,cond_true]
    rw [e1,e2]
    rw [e3] at h1
    exact h1
   ·have e1:=Kr (f:=f0) (L:=L) (lst:=fun j=>listed.getD j false) (t:=t) hsame (fun o' h=>by rw [hol] at h;cases h;exact hd) pre.length
    have e3:A7 (A3 f0 pre L (fun j=>listed.getD j false) pre.length) o.dst s t=A3 f0 pre L (fun j=>listed.getD j false) pre.length t:=by
     cases hdd:o.dst with
     |none=>rfl
     |some t'=>
      have:t'≠t:=fun e=>hd (by rw [hdd,e])
      simp only [A7,Ds,Bp this,cond_false]
    rw [e1]
    rw [e3] at h1
    exact h1
  have hun2:∀(β':Bt),(∀j,j∉ids→β' j=β j)→∀(k:Nat) (ids':List Nat) (s':S),L[k]? =some (ids',s')→(listed.setIfInBounds i true).getD k false=false→∀j∈ids',β' j=none:=by
   intro β' hβ' k ids' s' hk hl j hj
   rw [hlisted'] at hl
   by_cases e:k=i
   ·rw [if_pos e] at hl;cases hl
   ·rw [if_neg e] at hl
    rw [hβ' j (fun hc=>e (huniq k i ids' ids s' s j hk hLi hj hc))]
    exact hun k ids' s' hk hl j hj
  have hsz':(listed.setIfInBounds i true).size=ops.size:=by simpa using hsz
  have hunp2:∀k,pre.length≤k→(listed.setIfInBounds i true).getD k false=false:=fun k hk=>by rw [hlisted',if_neg (by omega)];exact hunp k hk
  unfold wpOp
  rw [ho]
  simp only
  rcases hok i o ids s hol hLi with ⟨hw,hcalm⟩|⟨hw,rfl,rfl⟩
  ·rw [if_pos (hguard _ hw)]
   refine .inl (Dm (hcalm E H β a w hsim (hun i ids s hLi hunl') hop) ?_)
   rintro a' w' ⟨H',β',u,rfl,k1,k2,k3,k4,k5⟩
   exact ⟨⟨hsz',hdown2,hunp2⟩,H',β',k1,hslot H' β' u (hfv.mono k2 k3) k5,hun2 β' k4⟩
  ·rw [if_neg (by rw [hguard _ hw];simp)]
   exact ⟨⟨hsz',hdown2,hunp2⟩,H,β,hsim,hslot H β undef hfv (.d (.v _)),hun2 β fun _ _=>rfl⟩
 ·rintro listed a w ⟨⟨hsz,hdown,hunp⟩,H,β,hsim,hfv,hun⟩ hall
  refine hk hin2 E H β a w hsim ?_
  have e:∀k,k≤pre.length→A3 f0 pre L (fun j=>listed.getD j false) k=A3 f0 pre L Du k:=by
   intro k
   induction k with
   |zero=>intro _;rfl
   |succ k ih=>
    intro hk'
    unfold A3
    rw [ih (by omega)]
    cases pre[k]? with
    |none=>rfl
    |some o=>
     cases L[k]? with
     |none=>rfl
     |some q=>simp only [hall k (by omega),Du]
  rw [e pre.length (Nat.le_refl _),hfin] at hfv
  exact hfv
theorem Aoz {P:Program} {n id:Nat} {pre suf:List Oper} {ops:Array Oper} {K:Cu} {f:Fr} {h:Xh} (sites:List Nat) (hopsE:ops=(pre++suf).toArray) (hne:0<suf.length) (hm:P.follows .mixedOrders=true) (hin:pre.all (inN n)=true) (hin2:suf.all (inN n)=true)
  (hreg:Jo ops pre=true) (hS:Pa ops pre.length=true) (hnd:sites.Nodup)
  (hc:ChK P n ops pre (Er f sites) (E1 h sites) [] (fun L f' h'=>L.flatMap (·.1)=sites∧XL P n ops suf K f' h')):XW P n (.region id ops true) K f h:=by
 obtain ⟨L,f',h',k1,k2,k3⟩:=hc
 exact All sites hopsE hne hm hin hin2 hreg hS k1 k2 hnd k3
theorem Cq {P:Program} {n id:Nat} {l:List Oper} {K:Cu} {f:Fr} {h:Xh} (p:Nat) (sites:List Nat) (hm:P.follows .mixedOrders=true) (hin:l.all (inN n)=true) (hreg:Jo l.toArray (l.take p)=true) (hS:(Nat.blt p l.length && Pa l.toArray p)=true) (hnd:sites.Nodup)
  (hc:ChK P n l.toArray (l.take p) (Er f sites) (E1 h sites) [] (fun L f' h'=>L.flatMap (·.1)=sites∧XL P n l.toArray (l.drop p) K f' h')):XW P n (.region id l.toArray true) K f h:=by
 rw [Bool.and_eq_true] at hS
 have hp:=Eu hS.1
 rw [←List.take_append_drop p l,List.all_append,Bool.and_eq_true] at hin
 exact Aoz sites (by rw [List.take_append_drop]) (by rw [List.length_drop];omega) hm hin.1 hin.2 hreg (by rw [List.length_take,Nat.min_eq_left (by omega)];exact hS.2) hnd hc
theorem Od {e:TypeId} {sz k:Nat} {α:Type} {g:α→List D} {l l':List α} {a:α} {ds:List D} (hd:ds=g a) (hl:l'=l.set k a):some (XO.row e sz ((l.map g).set k ds))=some (XO.row e sz (l'.map g)):=by rw [hl,hd,List.map_set]
end Go.Proofs.YtaafemnkamfgnaaGreat
namespace Go.Proofs.YtaafemnkamfgnaaGreat
open Go.RowKit
mutual
def S.frp (i:Nat) (x:List D):S→S
  | .any=> .any
  | .d y=> .d y
  | .ptr j k off=>bif Nat.beq i j then (bif Nat.beq k 0 then .d (.pt (x.drop off)) else .any) else .ptr j k off
  | .own j=> .own j
  | .sub j a b=> .sub j a b
  | .agg l=> .agg (S.frpL i x l)
  | .fn f a c=> .fn f (S.frpL i x a) (S.frpL i x c)
  | .tup l=> .tup (S.frpL i x l)
def S.frpL (i:Nat) (x:List D):List S→List S
  | []=> []
  |s::l=>S.frp i x s::S.frpL i x l
end
theorem S.frpL_length (i:Nat) (x:List D) (l:List S):(S.frpL i x l).length=l.length:=by
  induction l with
  |nil=>rfl
  |cons a l ih=>simp [S.frpL,ih]
theorem S.frpL_get (i:Nat) (x:List D) (l:List S) (j:Nat):(S.frpL i x l)[j]? =(l[j]?).map (S.frp i x):=by
  induction l generalizing j with
  |nil=>rfl
  |cons a l ih=>
    cases j with
    |zero=>rfl
    |succ j=>simpa [S.frpL] using ih j
theorem VS.frp {H:Hp} {β:Bt} {u:Value} {s:S} (hs:VS H β u s) (i:Nat) (x:List D) (hx:∀L,β i=some L→∀off,VD H (.pointer (some ⟨L.b,off,none⟩)) (.pt (x.drop off))):VS H β u (s.frp i x):=by
  induction hs with
  |any u=>unfold S.frp;exact .any u
  |d h=>unfold S.frp;exact .d h
  | @ptr j L k off h=>
    unfold S.frp
    by_cases e:i=j
    · subst e
      rw [Bh,cond_true]
      by_cases e2:k=0
      · subst e2
        rw [Bh,cond_true,Nat.zero_mul,Nat.zero_add]
        exact .d (hx _ h off)
      · rw [Bp e2,cond_false];exact .any _
    · rw [Bp e];exact .ptr k off h
  |own h=>unfold S.frp;exact .own h
  |sub a b h hv hab hn=>unfold S.frp;exact .sub a b h hv hab hn
  |agg cs l e h ih=>
    unfold S.frp
    refine .agg cs _ (by rw [S.frpL_length];exact e) fun j y s hy hs=> ?_
    rw [S.frpL_get] at hs
    cases hl:l[j]? with
    |none=>rw [hl] at hs;simp at hs
    |some s'=>rw [hl] at hs;simp at hs;subst hs;exact ih j y s' hy hl
  |fn f A C a c ha hc h h' ih ih'=>
    unfold S.frp
    refine .fn f A C _ _ (by rw [S.frpL_length];exact ha) (by rw [S.frpL_length];exact hc) (fun j y s hy hs=> ?_) (fun j y s hy hs=> ?_)
    · rw [S.frpL_get] at hs
      cases hl:a[j]? with
      |none=>rw [hl] at hs;simp at hs
      |some s'=>rw [hl] at hs;simp at hs;subst hs;exact ih j y s' hy hl
    · rw [S.frpL_get] at hs
      cases hl:c[j]? with
      |none=>rw [hl] at hs;simp at hs
      |some s'=>rw [hl] at hs;simp at hs;subst hs;exact ih' j y s' hy hl
  |tup cs l e h ih=>
    unfold S.frp
    refine .tup cs _ (by rw [S.frpL_length];exact e) fun j y s hy hs=> ?_
    rw [S.frpL_get] at hs
    cases hl:l[j]? with
    |none=>rw [hl] at hs;simp at hs
    |some s'=>rw [hl] at hs;simp at hs;subst hs;exact ih j y s' hy hl
def S.frpG (i:Nat) (x:List D):List (Nat × S)→List (Nat × S)
  | []=> []
  |(t,s)::l=>(t,s.frp i x)::S.frpG i x l
theorem S.frpG_mem {i:Nat} {x:List D} {l:List (Nat × S)} {t:Nat} {s:S} (h:(t,s)∈S.frpG i x l):∃s',(t,s')∈l∧s=s'.frp i x:=by
  induction l with
  |nil=>cases h
  |cons a l ih=>
    obtain ⟨t',s'⟩:=a
    rcases List.mem_cons.1 h with e|e
    · cases e;exact ⟨s',List.mem_cons_self,rfl⟩
    · obtain ⟨s2,h1,h2⟩:=ih e;exact ⟨s2,List.mem_cons_of_mem _ h1,h2⟩
def XO.frp (i:Nat) (x:List D):XO→XO
  | .box l=> .box (S.frpL i x l)
  | .row e sz l=> .row e sz l
  | .rowS e sz l=> .rowS e sz (l.map (S.frpL i x))
  | .tree e sz ls l=> .tree e sz ls l
  | .ghost u l=> .ghost u (S.frpG i x l)
theorem XO.isG_frp (i:Nat) (x:List D) (o:XO):(o.frp i x).isG=o.isG:=by cases o<;>rfl
def Xh.frp (h:Xh) (i:Nat) (x:List D):Xh:=fun j=>bif Nat.beq i j then none else (h j).map (XO.frp i x)
def Asx (f:Fr) (i:Nat) (x:List D):Fr:=fun j=>(f j).frp i x
theorem FV.frp {n:Nat} {H:Hp} {β:Bt} {a:Act} {f:Fr} (hf:FV n H β a f) (i:Nat) (x:List D) (hx:∀L,β i=some L→∀off,VD H (.pointer (some ⟨L.b,off,none⟩)) (.pt (x.drop off))):FV n H β a (Asx f i x):=
  ⟨hf.defers,hf.size,fun t ht=>(hf.slot t ht).frp i x hx⟩
theorem XO.blk_frp (L:Loc) (i:Nat) (x:List D) (o:XO):(o.frp i x).blk L=o.blk L:=by cases o<;>rfl
theorem OKo.frp {base:Nat} {w:World} {H:Hp} {β:Bt} {L:Loc} {o:XO} (h:OKo base w H β L o) (i:Nat) (x:List D) (hx:∀L,β i=some L→∀off,VD H (.pointer (some ⟨L.b,off,none⟩)) (.pt (x.drop off))):OKo base w H β L (o.frp i x):=by
  cases o with
  |box l=>
    obtain ⟨h1,h0,us,t,h2,h3,h4⟩:=h
    refine ⟨h1,by rw [S.frpL_length];exact h0,us,t,h2,by rw [S.frpL_length];exact h3,fun j u s hu hs=> ?_⟩
    rw [S.frpL_get] at hs
    cases hl:l[j]? with
    |none=>rw [hl] at hs;simp at hs
    |some s'=>rw [hl] at hs;simp at hs;subst hs;exact (h4 j u s' hu hl).frp i x hx
  |row e sz l=>exact h
  |rowS e sz l=>
    obtain ⟨h0,hz,hv,us,h2,h3,h4⟩:=h
    refine ⟨h0,fun y hy=> ?_,hv,us,by rw [List.length_map];exact h2,h3,fun k j y s hy hs=> ?_⟩
    · obtain ⟨z,hz',rfl⟩:=List.mem_map.1 hy
      rw [S.frpL_length];exact hz z hz'
    · rw [List.getElem?_map] at hy
      cases hl:l[k]? with
      |none=>rw [hl] at hy;simp at hy
      |some z=>
        rw [hl] at hy;simp at hy;subst hy
        rw [S.frpL_get] at hs
        cases hq:z[j]? with
        |none=>rw [hq] at hs;simp at hs
        |some s'=>
          rw [hq] at hs;simp at hs;subst hs
          obtain ⟨u,hu,hv⟩:=h4 k j z s' hl hq
          exact ⟨u,hu,hv.frp i x hx⟩
  |tree e sz ls l=>exact h
  |ghost u l=>
    intro t s hm
    obtain ⟨s',h1,rfl⟩:=S.frpG_mem hm
    exact (h t s' h1).frp i x hx
theorem Sim.shareP {E:Env} {H:Hp} {β:Bt} {h:Xh} {w:World} (s:Sim E H β h w) {i:Nat} {o:XO} {L:Loc} (ho:h i=some o) (hL:β i=some L) {g:Nat} (hg:o.blk L g)
    (us:Nat→Option Value) (hus:∀k u,us k=some u→w.cell? ⟨g,k,none⟩=some u∧u.oneCell'=true) (x:List D)
    (hx:∀off,VD (H.plus g us) (.pointer (some ⟨L.b,off,none⟩)) (.pt (x.drop off))):Sim E (H.plus g us) β (h.frp i x) w:=by
  have hx':∀L',β i=some L'→∀off,VD (H.plus g us) (.pointer (some ⟨L'.b,off,none⟩)) (.pt (x.drop off)):=fun L' e=>by rw [hL] at e;cases e;exact hx
  have aux:∀j o',h.frp i x j=some o'→i≠j∧∃o1,h j=some o1∧o'=o1.frp i x:=by
    intro j o' e
    unfold Xh.frp at e
    by_cases hij:i=j
    · subst hij;rw [Bh] at e;cases e
    · rw [Bp hij] at e
      cases hj:h j with
      |none=>rw [hj] at e;cases e
      |some o1=>rw [hj] at e;cases e;exact ⟨hij,o1,rfl,rfl⟩
  have hgl:=(s.obj i o L ho hL).lt hg
  refine ⟨s.below,s.ext.trans (Hp.plus_le _ _ _),fun b k u e=> ?_,fun b k u e=> ?_,fun j o' L' ho' hL'=> ?_,fun j o' L' ho' hL' b hb off=> ?_,fun j j' o1 o2 L1 L2 b hjj h1 h1' h2 h2' hb=> ?_,fun j o' ho' hg'=> ?_⟩
  rotate_left 5
  · obtain ⟨_,o1,h1,rfl⟩:=aux j o' ho'
    rw [XO.isG_frp] at hg'
    exact s.dom j o1 h1 hg'
  · rcases Hp.plus_new e with k1|⟨rfl,_⟩
    · exact s.new b k u k1
    · exact .inr hgl.1
  · rcases Hp.plus_new e with k1|⟨rfl,k2⟩
    · exact s.imm b k u k1
    · exact hus k u k2
  · obtain ⟨_,o1,h1,rfl⟩:=aux j o' ho'
    exact ((s.obj j o1 L' h1 hL').keep (Hp.plus_le _ _ _) (fun _ _ h=>h) fun _ _=>rfl).frp i x hx'
  · obtain ⟨hij,o1,h1,rfl⟩:=aux j o' ho'
    rw [XO.blk_frp] at hb
    cases e:H.plus g us b off with
    |none=>rfl
    |some u=>
      rcases Hp.plus_new e with k1|⟨rfl,_⟩
      · rw [s.sep j o1 L' h1 hL' b hb off] at k1;cases k1
      · exact absurd hb (s.inj i j o o1 L L' b hij ho h1 hL hL' hg)
  · obtain ⟨_,o3,h3,rfl⟩:=aux j o1 h1
    obtain ⟨_,o4,h4,rfl⟩:=aux j' o2 h1'
    rw [XO.blk_frp] at hb ⊢
    exact s.inj j j' o3 o4 L1 L2 b hjj h3 h4 h2 h2' hb
theorem Sim.freezeP {E:Env} {H:Hp} {β:Bt} {h:Xh} {w:World} (s:Sim E H β h w) {i:Nat} {l:List S} {ds:List D} (ho:h i=some (.box l)) (hd:I8 l=some ds) (h1:l.all (Ej h)=true):
    ∃H',H.le H'∧(∀L,β i=some L→∀off,VD H' (.pointer (some ⟨L.b,off,none⟩)) (.pt (ds.drop off)))∧Sim E H' β (h.frp i ds) w:=by
  have hl:=I7 hd
  cases hL:β i with
  |none=>
    refine ⟨H,Hp.le.refl _,(fun L e=>by cases e), ?_⟩
    have hx:∀L,β i=some L→∀off,VD H (.pointer (some ⟨L.b,off,none⟩)) (.pt (ds.drop off)):=fun L e=>by rw [hL] at e;cases e
    have aux:∀j o',h.frp i ds j=some o'→∃o1,h j=some o1∧o'=o1.frp i ds:=by
      intro j o' e
      unfold Xh.frp at e
      by_cases hij:i=j
      · subst hij;rw [Bh] at e;cases e
      · rw [Bp hij] at e
        cases hj:h j with
        |none=>rw [hj] at e;cases e
        |some o1=>rw [hj] at e;cases e;exact ⟨o1,rfl,rfl⟩
    refine ⟨s.below,s.ext,s.new,s.imm,fun j o' L' ho' hL'=> ?_,fun j o' L' ho' hL' b hb off=> ?_,fun j j' o1 o2 L1 L2 b hjj h1 h1' h2 h2' hb=> ?_,fun j o' ho' hg'=> ?_⟩
    · obtain ⟨o1,h1,rfl⟩:=aux j o' ho'
      exact (s.obj j o1 L' h1 hL').frp i ds hx
    · obtain ⟨o1,h1,rfl⟩:=aux j o' ho'
      rw [XO.blk_frp] at hb
      exact s.sep j o1 L' h1 hL' b hb off
    · obtain ⟨o3,h3,rfl⟩:=aux j o1 h1
      obtain ⟨o4,h4,rfl⟩:=aux j' o2 h1'
      rw [XO.blk_frp] at hb ⊢
      exact s.inj j j' o3 o4 L1 L2 b hjj h3 h4 h2 h2' hb
    · obtain ⟨o1,h1,rfl⟩:=aux j o' ho'
      rw [XO.isG_frp] at hg'
      exact s.dom j o1 h1 hg'
  |some L=>
    obtain ⟨hb,hsz,us,t,hheap,hus,hvs⟩:=s.obj i _ L ho hL
    have hblk:(XO.box l).blk L L.b:=rfl
    have hnone:=s.sep i _ L ho hL L.b hblk
    have hget:∀(j:Nat) (d:D),ds[j]? =some d→∃u,us[j]? =some u∧VD H u d:=by
      intro j d hj
      have hlj:l[j]? =some (.d d):=by rw [hl,List.getElem?_map,hj];rfl
      have hlt:j<us.size:=by rw [hus];exact (List.getElem?_eq_some_iff.1 hlj).1
      exact ⟨us[j],Array.getElem?_eq_getElem hlt,D5 (hvs j _ _ (Array.getElem?_eq_getElem hlt) hlj)⟩
    have hx:∀off,VD (H.plus L.b (us[·]?)) (.pointer (some ⟨L.b,off,none⟩)) (.pt (ds.drop off)):=by
      intro off
      refine .pt L.b off _ (fun j=>(us[off+j]?).getD undef) (fun j d hj=> ?_) (fun j d hj=> ?_)
      · rw [List.getElem?_drop] at hj
        obtain ⟨u,hu,_⟩:=hget _ _ hj
        rw [Hp.plus_at hnone,hu];rfl
      · rw [List.getElem?_drop] at hj
        obtain ⟨u,hu,hv⟩:=hget _ _ hj
        rw [hu]
        exact hv.mono (Hp.plus_le _ _ _)
    refine ⟨H.plus L.b (us[·]?),Hp.plus_le _ _ _,(fun L' e=>by cases e;exact hx),s.shareP ho hL hblk _ (fun k u hu=> ?_) _ hx⟩
    have hlt:k<l.length:=by rw [←hus];exact (Array.getElem?_eq_some_iff.1 hu).1
    refine ⟨by unfold World.cell?;simp only [hheap];simpa using hu,P3 s (hvs k u l[k] hu (List.getElem?_eq_getElem hlt)) (List.all_eq_true.1 h1 _ (List.getElem_mem hlt))⟩
section
variable {P:Program} {n:Nat} {ops:Array Oper} {rest:List Oper} {K:Cu} {f:Fr} {h:Xh} {c:Code} {i:Nat} {l:List S} {ds:List D}
theorem XL.freezeP (i:Nat) {l:List S} {ds:List D} (ho:h i=some (.box l)) (hd:I8 l=some ds) (h1:l.all (Ej h)=true) (hc:XL P n ops rest K (Asx f i ds) (h.frp i ds)):XL P n ops rest K f h:=fun hin E H β a w hs hf=>by
  obtain ⟨H',h1,h2,h3⟩:=hs.freezeP ho hd h1
  exact hc hin E H' β a w h3 ((hf.mono h1 fun _ _ h=>h).frp i _ h2)
end
end Go.Proofs.YtaafemnkamfgnaaGreat
