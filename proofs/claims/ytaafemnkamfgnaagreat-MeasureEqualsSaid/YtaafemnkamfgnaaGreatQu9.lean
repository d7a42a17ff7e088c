/- Part 9 of what the statements need: lemmas and walks. -/
import Derived.Scope
import Derived.Test.YtaafemnkamfgnaaGreatQu8
set_option linter.unusedVariables false
set_option linter.unusedSimpArgs false
set_option linter.unusedSectionVars false
set_option maxRecDepth 20000
set_option maxHeartbeats 8000000
namespace Go.Proofs.YtaafemnkamfgnaaGreat
open Go.RowKit
structure Cf where
  tk:Int
  clef:Int
  deriving DecidableEq
def Cf.c (x:Cf):List D:= [dI x.tk,dI x.clef]
structure Ce where
  clefs:List Cf
  voices:List Vo
def Ce.c (x:Ce):List D:= [.sl 2 (x.clefs.map Cf.c), .sl 2 (x.voices.map Vo.c)]
structure Tm where
  tk:Int
  micros:Int
  ramp:Bool
  deriving DecidableEq
def Tm.c (x:Tm):List D:= [dI x.tk,dI x.micros,dB x.ramp]
structure Slt where
  staff:Int
  voice:Int
  ev:Int
  on:Int
  off:Int
  deriving DecidableEq
def Slt.c (x:Slt):List D:= [dI x.staff,dI x.voice,dI x.ev,dI x.on,dI x.off]
structure Id where
  site:Int
  num:Int
  deriving DecidableEq
def Id.c (x:Id):List D:= [dI x.site,dI x.num]
structure Mh where
  site:Int
  num:Int
  m:Me
  len:Int
  fifths:Int
  start:Bool
  fin:Int
  ends:Int
  jump:Int
  labels:Int
  swing:Int
  brk:Int
  reh:List UInt8
  deriving DecidableEq
def Mh.r (h:Mh) (x y:D):List D:= [dI h.site,dI h.num,dI h.m.count,dI h.m.unit,dI h.m.g0,dI h.m.g1,dI h.m.g2,dI h.m.g3,dI h.m.g4,dI h.m.g5,dI h.len,dI h.fifths,dB h.start,dI h.fin,dI h.ends,dI h.jump,dI h.labels,dI h.swing,dI h.brk, .v (.string ⟨h.reh.toArray⟩),x,y]
structure Ms where
  h:Mh
  tempi:List Tm
  cells:List Ce
def Ms.c (x:Ms):List D:= [dI x.h.site,dI x.h.num,dI x.h.m.count,dI x.h.m.unit,dI x.h.m.g0,dI x.h.m.g1,dI x.h.m.g2,dI x.h.m.g3,dI x.h.m.g4,dI x.h.m.g5,dI x.h.len,dI x.h.fifths,dB x.h.start,dI x.h.fin,dI x.h.ends,dI x.h.jump,dI x.h.labels,dI x.h.swing,dI x.h.brk, .v (.string ⟨x.h.reh.toArray⟩), .sl 3 (x.tempi.map Tm.c), .sl 2 (x.cells.map Ce.c)]
def Vo.t (v:Vo):List T:= [.row 59 13 ((v.evs.map Ev.c).map (·.map T.d)), .row 157 4 ((v.tups.map Tp.c).map (·.map T.d))]
def Ce.t (c:Ce):List T:= [.row 84 2 ((c.clefs.map Cf.c).map (·.map T.d)), .row 82 2 (c.voices.map Vo.t)]
def Vo.u (v:Vo):List T:= [.d (.sl 13 (v.evs.map Ev.c)), .d (.sl 4 (v.tups.map Tp.c))]
def Ce.u (c:Ce):List T:= [.d (.sl 2 (c.clefs.map Cf.c)), .d (.sl 2 (c.voices.map Vo.c))]
theorem Vo.t_in (ls:List Nat) (v:Vo):T.inL ls v.t=true:=by
  unfold Vo.t
  simp only [T.inL,T.inn,T.inLL_d,Bool.and_self]
theorem Vos.t_in (ls:List Nat) (l:List Vo):T.inLL ls (l.map Vo.t)=true:=T.inLL_map (Vo.t_in ls) l
theorem Ce.t_in (ls:List Nat) (c:Ce):T.inL ls c.t=true:=by
  unfold Ce.t
  simp only [T.inL,T.inn,T.inLL_d,Vos.t_in,Bool.and_self]
theorem Ces.t_in (ls:List Nat) (l:List Ce):T.inLL ls (l.map Ce.t)=true:=T.inLL_map (Ce.t_in ls) l
theorem Vos.u_in (ls:List Nat) (l:List Vo):T.inLL ls (l.map Vo.u)=true:=T.inLL_map (fun _=>rfl) l
theorem Ces.u_in (ls:List Nat) (l:List Ce):T.inLL ls (l.map Ce.u)=true:=T.inLL_map (fun _=>rfl) l
theorem Vo.t_fz (v:Vo):T.fzL v.t=true:=by unfold Vo.t;simp only [T.fzL,T.fz,Akk,Bool.and_self]
theorem Vos.t_fz (l:List Vo):T.fzLL (l.map Vo.t)=true:=K4 Vo.t_fz l
theorem Ce.t_fz (c:Ce):T.fzL c.t=true:=by unfold Ce.t;simp only [T.fzL,T.fz,Akk,Vos.t_fz,Bool.and_self]
theorem Ces.t_fz (l:List Ce):T.fzLL (l.map Ce.t)=true:=K4 Ce.t_fz l
theorem Vo.t_D (v:Vo):T.toDL v.t=v.c:=by unfold Vo.t Vo.c;simp only [T.toDL,T.toD,Afc]
theorem Vos.t_D (l:List Vo):T.toDLL (l.map Vo.t)=l.map Vo.c:=Jw Vo.t_D l
theorem Ce.t_D (c:Ce):T.toDL c.t=c.c:=by unfold Ce.t Ce.c;simp only [T.toDL,T.toD,Afc,Vos.t_D]
theorem Ces.t_D (l:List Ce):T.toDLL (l.map Ce.t)=l.map Ce.c:=Jw Ce.t_D l
def mix {α:Type} (u t:α→List T) (a b:List α):List (List T):=a.map u++b.map t
theorem P8:∀a b:List (List T),T.toDLL (a++b)=T.toDLL a++T.toDLL b
  | [],b=>rfl
  |x::a,b=>by simp only [List.cons_append,T.toDLL,P8 a b]
theorem T0:∀{a b:List (List T)},T.fzLL a=true→T.fzLL b=true→T.fzLL (a++b)=true
  | [],b,_,h=>h
  |x::a,b,h,h'=>by simp only [T.fzLL,Bool.and_eq_true] at h;simp only [List.cons_append,T.fzLL,Bool.and_eq_true];exact ⟨h.1,T0 h.2 h'⟩
theorem Fv (ls:List Nat) (a b:List Vo):T.inLL ls (mix Vo.u Vo.t a b)=true:=T.inLL_app (Vos.u_in ls a) (Vos.t_in ls b)
theorem Ed (ls:List Nat) (a b:List Ce):T.inLL ls (mix Ce.u Ce.t a b)=true:=T.inLL_app (Ces.u_in ls a) (Ces.t_in ls b)
theorem Vq (a b:List Vo):T.fzLL (mix Vo.u Vo.t a b)=true:=T0 (K4 (fun _=>rfl) a) (Vos.t_fz b)
theorem Rt (a b:List Ce):T.fzLL (mix Ce.u Ce.t a b)=true:=T0 (K4 (fun _=>rfl) a) (Ces.t_fz b)
theorem Zm (a b:List Vo):T.toDLL (mix Vo.u Vo.t a b)=(a++b).map Vo.c:=by
  unfold mix
  rw [P8,Jw (g':=Vo.c) (fun _=>rfl) a,Vos.t_D,List.map_append]
theorem U0 (a b:List Ce):T.toDLL (mix Ce.u Ce.t a b)=(a++b).map Ce.c:=by
  unfold mix
  rw [P8,Jw (g':=Ce.c) (fun _=>rfl) a,Ces.t_D,List.map_append]
theorem Ap3 {α:Type} {u t:α→List T} {a b:List α} {k:Nat} {x:α} (hk:a.length=k) (hx:b[0]? =some x):(mix u t a b)[k]? =some (t x):=by
  unfold mix
  subst hk
  rw [List.getElem?_append_right (by simp),List.length_map,Nat.sub_self,List.getElem?_map,hx];rfl
theorem Ap2 {α:Type} {u t:α→List T} {a b:List α} {k:Nat} {x:α} (hk:a.length=k) {y:α}:(mix u t a (x::b)).set k (u y)=mix u t (a++ [y]) b:=by
  unfold mix
  subst hk
  rw [List.set_append_right _ _ (by simp),List.length_map,Nat.sub_self,List.map_cons,List.set_cons_zero,List.map_append,List.append_assoc];rfl
theorem Vp {α:Type} {u t:α→List T} {a b:List α}:(mix u t a b).length=a.length+b.length:=by unfold mix;rw [List.length_append,List.length_map,List.length_map]
theorem De {α:Type} {u t:α→List T} {f:α→α} {l:List α} {k:Nat} {x:α} (h:l[k]? =some x):(mix u t ((l.take k).map f) (l.drop k))[k]? =some (t x):=by
  have hk:=(List.getElem?_eq_some_iff.1 h).1
  exact Ap3 (by rw [List.length_map,List.length_take];omega) (by rw [List.getElem?_drop];exact h)
theorem Jr {α:Type} {u t:α→List T} {f:α→α} {l:List α} {k:Nat} {x:α} (h:l[k]? =some x):(mix u t ((l.take k).map f) (l.drop k)).set k (u (f x))=mix u t ((l.take (k+1)).map f) (l.drop (k+1)):=by
  have hk:=(List.getElem?_eq_some_iff.1 h).1
  rw [B5 h,Ap2 (by rw [List.length_map,List.length_take];omega),B3 h,List.map_append];rfl
theorem Ki {α:Type} {u t:α→List T} {f:α→α} {l:List α} {k:Nat} (h:k<l.length):k<(mix u t ((l.take k).map f) (l.drop k)).length:=by
  rw [Vp,List.length_map,List.length_take,List.length_drop];omega
theorem B1 {α:Type} {l:List α} {k:Nat} {x y:α} (h:l[k]? =some x):(l.set k y)[k]? =some y:=List.getElem?_set_self (List.getElem?_eq_some_iff.1 h).1
theorem F0 {f:Nat→T} {l:List (List T)} (h:T.inLL [] l=true) {k:Nat} {x x':List T} (hx:T.mpL f x=x'):T.mpLL f (l.set k x)=l.set k x':=by
  subst hx
  have e:∀(l:List (List T)) (k:Nat),T.mpLL f (l.set k x)=(T.mpLL f l).set k (T.mpL f x):=by
    intro l
    induction l with
    |nil=>intro k;rfl
    |cons a l ih=>intro k;cases k with
      |zero=>rfl
      |succ k=>simp only [List.set_cons_succ,T.mpLL,ih]
  rw [e,T.mpLL_cl f l h]
theorem Cv {ls:List Nat} {l:List (List T)} (h:T.inLL [] l=true) {x:List T} (hx:T.inL ls x=true) (k:Nat):T.inLL ls (l.set k x)=true:=T.inLL_set (T.nil_in h ls) hx k
theorem Fh {ls:List Nat} {e sz:Nat} {l:List (List T)} (h:T.inLL ls l=true):(T.row e sz l).inn ls=true:=h
theorem Ee {ls:List Nat} {a b:T} (h1:a.inn ls=true) (h2:b.inn ls=true):T.inL ls [a,b]=true:=by simp only [T.inL,h1,h2,Bool.and_self]
theorem O3 {α:Type} {t:α→List T} {l:List α} {k:Nat} {x:α} (h:l[k]? =some x) (y:List T):(l.take k).map t++ [y]=((l.take (k+1)).map t).set k y:=by
  have hk:=(List.getElem?_eq_some_iff.1 h).1
  rw [B3 h,List.map_append,List.set_append_right _ _ (by rw [List.length_map,List.length_take];omega),List.length_map,List.length_take,Nat.min_eq_left (by omega),Nat.sub_self];rfl
theorem D7 {α:Type} {t:α→List T} {l:List α} {k:Nat} {x:α} (h:l[k]? =some x):((l.take (k+1)).map t)[k]? =some (t x):=by rw [List.getElem?_map,List.getElem?_take,if_pos (by omega),h];rfl
theorem Fz {α:Type} {t:α→List T} {l:List α} {k:Nat} {x:α} (h:l[k]? =some x):(l.map t)[k]? =some (t x):=by rw [List.getElem?_map,h];rfl
theorem F8 {α:Type} {l:List α} {k j:Nat} {x:α} (h:j<l.length):j<(l.set k x).length:=by rw [List.length_set];exact h
theorem set_same {α:Type} {l:List α} {k:Nat} {x:α} (h:l[k]? =some x):l.set k x=l:=List.ext_getElem? fun j=>by
  by_cases e:k=j
  · subst e;rw [List.getElem?_set_self (List.getElem?_eq_some_iff.1 h).1,h]
  · rw [List.getElem?_set_ne e]
theorem Nd {h:Xh} {os:List (Nat × XO)} (hh:(os.map (·.1)).all (fun i=>(h i).isNone)=true):∀i,mkH os i≠none→h i=none:=fun i hi=>by
  have hm:i∈os.map (·.1):=by
    by_cases e:i∈os.map (·.1)
    · exact e
    · exact absurd (mkH_lab.2 e) hi
  simpa using List.all_eq_true.1 hh i hm
theorem Ze {P:Program} {o:Oper} {e:Operand→S} {h:Xh} {x:Operand} {i:Nat} {l:List S} {d:S} (ho:o.op= .extract x i) (hx:e x= .tup l) (hd:l[i]? =some d):A9 P o e h d:=fun E H β ρ w _ hop=>by
  have g:=hop x (by rw [ho];simp [Op.operands])
  rw [hx] at g
  obtain ⟨cs,hv,hl,hcs⟩:=Aq8 g
  have hi:i<cs.size:=by have:=(List.getElem?_eq_some_iff.1 hd).1;omega
  have hc:cs[i]? =some cs[i]:=Array.getElem?_eq_getElem hi
  exact ⟨cs[i],by unfold execOp;simp [ho,hv,Instr.extract,hc],hcs i _ d hc hd⟩
theorem rs2 {P:Program} {n:Nat} {fn:Func} {f:Fr} {h:Xh} {r1 r2:ResultVar} {d1 d2:D} (hr:fn.results= #[r1,r2]) (h1:RV P n f h r1 d1) (h2:RV P n f h r2 d2):Hz P n fn f h (.d (.tup [d1,d2])):=fun E H β a w hs hf=>by
  obtain ⟨u1,e1,v1⟩:=h1 E H β a w hs hf
  obtain ⟨u2,e2,v2⟩:=h2 E H β a w hs hf
  refine ⟨.tuple #[u1,u2], ?_, .d (.tup _ _ rfl fun i x d hx hd=> ?_)⟩
  · rw [Gp,hr]
    simp [e1,e2]
  · match i,hx,hd with
    |0,hx,hd=>cases hx;cases hd;exact v1
    |1,hx,hd=>cases hx;cases hd;exact v2
    |i+2,hx,hd=>simp at hd
theorem Ka {P:Program} {n:Nat} {fn:Func} {f:Fr} {h:Xh} {s s':S} (hr:Hz P n fn f h s) (e:s=s'):Hz P n fn f h s':=e ▸ hr
theorem Alj {P:Program} {n:Nat} {c:Code} {K:Cu} {f:Fr} {h:Xh} (hg:∀l f h,K (.goto l) f h→False) (hc:XW P n c K f h):XW P n (.scope c) K f h:=fun E H β a w hs hf=>by
  refine wp_scope_straight (wp_mono (hc E H β a w hs hf) ?_)
  rintro e a' w' ⟨H',β',f',h',h1,h2,h3⟩
  cases e with
  |goto l=>exact (hg l _ _ h3).elim
  |_=>exact ⟨H',β',f',h',h1,h2,h3⟩
theorem Alk {P:Program} {n l:Nat} {K:Cu} {f:Fr} {h:Xh} (hk:K .normal f h):XW P n (.label l) K f h:=fun _ _ _ _ _ hs hf=>wp_label ⟨_,_,_,_,hs,hf,hk⟩
theorem HM.hadd {m:Nat→Option XO→Option XO} {hA hB:Xh}:∀{os:List (Nat × XO)},(∀p∈os,m p.1 (some p.2)=some p.2)→HM m hA hB→HM m (hadd hA os) (hadd hB os)
  | [],_,h=>h
  |(i,o)::os,hm,h=>HM.new i (hm _ List.mem_cons_self) (HM.hadd (fun p hp=>hm p (List.mem_cons_of_mem _ hp)) h)
theorem Aqf {h:Xh} {os:List (Nat × XO)} (hn:∀p∈os,h p.1=none):HLe h (hadd h os):=fun k o e=>by
  cases hm:mkH os k with
  |none=>rw [Lt hm];exact e
  |some o'=>have:=hn _ (Afu hm);simp only at this;rw [this] at e;cases e
theorem ChMK.bfS {P:Program} {n:Nat} {ops:Array Oper} {κ:S→S} {i0:Nat} {m:Nat→Option XO→Option XO} {rest:List Oper} {fA fB:Fr} {hA hB:Xh} {o:Oper} {s s':S} {acc:List Cl} {ia:List Nat} {G:List Cl→List Nat→Fr→Xh→Prop} {os:List (Nat × XO)}
    (hw:Bl ops fA n o.guard=some true) (hc:CStep P o fA hA (os.map (·.1)) s (hadd hA os)) (hk:κ s=s') (hm:∀p∈os,m p.1 (some p.2)=some p.2) (hj:∀p∈os,hB p.1=none)
    (hr:ChMK P n ops κ i0 m rest (A7 fA o.dst s) (A7 fB o.dst s') (hadd hA os) (hadd hB os) (acc++ [.bf]) (ia++os.map (·.1)) G):ChMK P n ops κ i0 m (o::rest) fA fB hA hB acc ia G:=
  .step hc.hle (Aqf hj) (by obtain ⟨_,h,_⟩:=hc;exact h) (HM.hadd hm) ⟨fun _=>⟨Ke hw hc,hk.symm⟩,fun e=>absurd e nbf,fun e=>(by cases e), .inl rfl⟩ hr
mutual
def S.toV (ρ:Nat→Option Addr × Nat × Nat):S→D
  | .any=> .v undef
  | .d x=>x
  | .ptr _ _ _=> .v undef
  | .own i=> .v (.slice (ρ i).1 (ρ i).2.1 (ρ i).2.2)
  | .sub _ _ _=> .v undef
  | .agg l=> .agg (S.toVL ρ l)
  | .fn _ _ _=> .v undef
  | .tup l=> .tup (S.toVL ρ l)
def S.toVL (ρ:Nat→Option Addr × Nat × Nat):List S→List D
  | []=> []
  |s::l=>S.toV ρ s::S.toVL ρ l
def S.pas (ls:List Nat):S→Bool
  | .d _=>true
  | .own i=>B2 i ls
  | .agg l=>S.pasL ls l
  | .tup l=>S.pasL ls l
  |_=>false
def S.pasL (ls:List Nat):List S→Bool
  | []=>true
  |s::l=>S.pas ls s && S.pasL ls l
end
theorem S.toVL_length (ρ:Nat→Option Addr × Nat × Nat):∀l:List S,(S.toVL ρ l).length=l.length
  | []=>rfl
  |s::l=>by simp only [S.toVL,List.length_cons,S.toVL_length ρ l]
theorem S.toVL_get (ρ:Nat→Option Addr × Nat × Nat):∀(l:List S) (j:Nat),(S.toVL ρ l)[j]? =(l[j]?).map (S.toV ρ)
  | [],_=>rfl
  |s::l,0=>rfl
  |s::l,j+1=>by simpa [S.toVL] using S.toVL_get ρ l j
theorem S.pasL_get {ls:List Nat} {l:List S} (h:S.pasL ls l=true) {j:Nat} {s:S} (hj:l[j]? =some s):s.pas ls=true:=by
  induction l generalizing j with
  |nil=>cases hj
  |cons a l ih=>
    rw [S.pasL,Bool.and_eq_true] at h
    cases j with
    |zero=>cases hj;exact h.1
    |succ j=>exact ih h.2 (by simpa using hj)
theorem VS.toV {H:Hp} {β:Bt} {ls:List Nat} {ρ:Nat→Option Addr × Nat × Nat} (hρ:∀i L,B2 i ls=true→β i=some L→Value.slice (ρ i).1 (ρ i).2.1 (ρ i).2.2=L.v) {u:Value} {s:S} (hv:VS H β u s) (hp:s.pas ls=true):VD H u (s.toV ρ):=by
  induction hv with
  |any u=>cases hp
  |d h=>exact h
  |ptr k off h=>cases hp
  |own h=>unfold S.toV;rw [hρ _ _ (by simpa [S.pas] using hp) h];exact .v _
  |sub a b h hv hab hn=>cases hp
  |agg cs l e h ih=>
    unfold S.toV
    refine .agg cs _ (by rw [S.toVL_length];exact e) fun i x d hx hd=> ?_
    rw [S.toVL_get] at hd
    cases hl:l[i]? with
    |none=>rw [hl] at hd;cases hd
    |some s=>rw [hl] at hd;cases hd;exact ih i x s hx hl (S.pasL_get (by simpa [S.pas] using hp) hl)
  |fn f A C a c ha hc h h' ih ih'=>cases hp
  |tup cs l e h ih=>
    unfold S.toV
    refine .tup cs _ (by rw [S.toVL_length];exact e) fun i x d hx hd=> ?_
    rw [S.toVL_get] at hd
    cases hl:l[i]? with
    |none=>rw [hl] at hd;cases hd
    |some s=>rw [hl] at hd;cases hd;exact ih i x s hx hl (S.pasL_get (by simpa [S.pas] using hp) hl)
mutual
theorem VD.ofV {H:Hp} {β:Bt} {ls:List Nat} {ρ:Nat→Option Addr × Nat × Nat} (hρ:∀i,B2 i ls=true→∃L,β i=some L∧Value.slice (ρ i).1 (ρ i).2.1 (ρ i).2.2=L.v):∀(s:S) {u:Value},s.pas ls=true→VD H u (s.toV ρ)→VS H β u s
  | .any,_,hp,_=>by cases hp
  | .d x,_,_,h=> .d h
  | .ptr _ _ _,_,hp,_=>by cases hp
  | .own i,_,hp,h=>by
    obtain ⟨L,h1,h2⟩:=hρ i hp
    have e:=O8 h
    rw [h2] at e;rw [e];exact .own h1
  | .sub _ _ _,_,hp,_=>by cases hp
  | .agg l,_,hp,h=>by
    unfold S.toV at h
    obtain ⟨cs,rfl,e1,e2⟩:=P4 h
    exact .agg cs l (e1.trans (S.toVL_length ρ l)) (VD.ofVL hρ l (by simpa [S.pas] using hp) e2)
  | .fn _ _ _,_,hp,_=>by cases hp
  | .tup l,_,hp,h=>by
    unfold S.toV at h
    obtain ⟨cs,rfl,e1,e2⟩:=Ail h
    exact .tup cs l (e1.trans (S.toVL_length ρ l)) (VD.ofVL hρ l (by simpa [S.pas] using hp) e2)
theorem VD.ofVL {H:Hp} {β:Bt} {ls:List Nat} {ρ:Nat→Option Addr × Nat × Nat} (hρ:∀i,B2 i ls=true→∃L,β i=some L∧Value.slice (ρ i).1 (ρ i).2.1 (ρ i).2.2=L.v):∀(l:List S) {cs:Array Value},S.pasL ls l=true→(∀(i:Nat) (x:Value) (d:D),cs[i]? =some x→(S.toVL ρ l)[i]? =some d→VD H x d)→∀(i:Nat) (x:Value) (s:S),cs[i]? =some x→l[i]? =some s→VS H β x s
  | [],_,_,_,i,x,s,_,h=>by cases h
  |s::l,cs,hp,h,0,x,s',hx,hs=>by
    rw [S.pasL,Bool.and_eq_true] at hp
    cases hs
    exact VD.ofV hρ s hp.1 (h 0 x _ hx rfl)
  |s::l,cs,hp,h,i+1,x,s',hx,hs=>by
    rw [S.pasL,Bool.and_eq_true] at hp
    refine VD.ofVL hρ l (cs:=(cs.toList.drop 1).toArray) hp.2 (fun j y d hy hd=>h (j+1) y d (by simpa [Nat.add_comm] using hy) (by simpa [S.toVL] using hd)) i x s' (by simpa [Nat.add_comm] using hx) (by simpa using hs)
end
theorem VS.lab {H:Hp} {β:Bt} {ls:List Nat} {u:Value} {s:S} (hv:VS H β u s) (hp:s.pas ls=true):s.inB (fun i=>(β i).isSome)=true:=by
  induction hv with
  |any u=>rfl
  |d h=>rfl
  |ptr k off h=>cases hp
  |own h=>unfold S.inB;rw [h];rfl
  |sub a b h hv hab hn=>cases hp
  |agg cs l e h ih=>
    unfold S.inB
    have:∀(l':List S) (k:Nat),(∀j s,l'[j]? =some s→l[k+j]? =some s)→S.inBL (fun i=>(β i).isSome) l'=true:=by
      intro l'
      induction l' with
      |nil=>intro k _;rfl
      |cons a l' ih'=>
        intro k hk
        rw [S.inBL,Bool.and_eq_true]
        have h0:=hk 0 a rfl
        rw [Nat.add_zero] at h0
        have hlt:=(List.getElem?_eq_some_iff.1 h0).1
        refine ⟨ih k _ a (Array.getElem?_eq_getElem (by omega)) h0 (S.pasL_get (by simpa [S.pas] using hp) h0),ih' (k+1) fun j s hj=> ?_⟩
        have:=hk (j+1) s (by simpa using hj)
        rw [show k+(j+1)=k+1+j by omega] at this
        exact this
    exact this l 0 fun j s hj=>by rw [Nat.zero_add];exact hj
  |fn f A C a c ha hc h h' ih ih'=>cases hp
  |tup cs l e h ih=>
    unfold S.inB
    have:∀(l':List S) (k:Nat),(∀j s,l'[j]? =some s→l[k+j]? =some s)→S.inBL (fun i=>(β i).isSome) l'=true:=by
      intro l'
      induction l' with
      |nil=>intro k _;rfl
      |cons a l' ih'=>
        intro k hk
        rw [S.inBL,Bool.and_eq_true]
        have h0:=hk 0 a rfl
        rw [Nat.add_zero] at h0
        have hlt:=(List.getElem?_eq_some_iff.1 h0).1
        refine ⟨ih k _ a (Array.getElem?_eq_getElem (by omega)) h0 (S.pasL_get (by simpa [S.pas] using hp) h0),ih' (k+1) fun j s hj=> ?_⟩
        have:=hk (j+1) s (by simpa using hj)
        rw [show k+(j+1)=k+1+j by omega] at this
        exact this
    exact this l 0 fun j s hj=>by rw [Nat.zero_add];exact hj
mutual
def S.has (i:Nat):S→Bool
  | .own j=>Nat.beq i j
  | .agg l=>S.hasL i l
  | .tup l=>S.hasL i l
  |_=>false
def S.hasL (i:Nat):List S→Bool
  | []=>false
  |s::l=>S.has i s||S.hasL i l
end
mutual
theorem S.has_in {p:Nat→Bool} {i:Nat}:∀s:S,s.inB p=true→s.has i=true→p i=true
  | .any,_,h=>by cases h
  | .d _,_,h=>by cases h
  | .ptr _ _ _,_,h=>by cases h
  | .own j,h1,h=>by unfold S.has at h;rw [Nat.eq_of_beq_eq_true h];simpa [S.inB] using h1
  | .sub _ _ _,_,h=>by cases h
  | .agg l,h1,h=>by unfold S.has at h;exact S.hasL_in l (by simpa [S.inB] using h1) h
  | .fn _ _ _,_,h=>by cases h
  | .tup l,h1,h=>by unfold S.has at h;exact S.hasL_in l (by simpa [S.inB] using h1) h
theorem S.hasL_in {p:Nat→Bool} {i:Nat}:∀l:List S,S.inBL p l=true→S.hasL i l=true→p i=true
  | [],_,h=>by cases h
  |s::l,h1,h=>by
    rw [S.inBL,Bool.and_eq_true] at h1
    rw [S.hasL,Bool.or_eq_true] at h
    rcases h with h|h
    · exact S.has_in s h1.1 h
    · exact S.hasL_in l h1.2 h
end
section
variable {P:Program} {n:Nat} {ops:Array Oper} {rest:List Oper} {K:Cu} {o:Oper} {f:Fr} {h:Xh} {F:FuncId} {args:Array Operand} {tys:Array TypeId} {s:S}
theorem Va (ls:List Nat) (ss:List S) (hx:∀ρ:Nat→Option Addr × Nat × Nat,XC P F (S.toVL ρ ss) (fun r=>r=S.toV ρ s)) (hp:S.pasL ls ss=true) (hs:s.pas ls=true) (hls:ls.all (fun i=>S.hasL i ss)=true) (hone:ls.all (fun i=>Ej h (.own i))=true)
    {E:Env} {H:Hp} {β:Bt} {hF:Xh} {a:Act} {w:World} (ho:o.op= .call {callee:= .value (.func F),args:=args,argTypes:=tys}) (hle:HLe h hF) (hsim:Sim E H β hF w) (ha:args.toList.map (ev f)=ss) (hop:∀x∈args,VS H β (a.eval x) (ev f x)):
    o.wp P a w (fun a' w'=>∃H' u,a'=a.put o.dst u∧Sim E H' β hF w'∧H.le H'∧VS H' β u s) NoQ:=by
  subst ha
  let ρ:Nat→Option Addr × Nat × Nat:=fun i=>match β i with|some L=>(match L.v with| .slice A n c=>(A,n,c)|_=>(none,0,0))|none=>(none,0,0)
  have hρ:∀i L,B2 i ls=true→β i=some L→Value.slice (ρ i).1 (ρ i).2.1 (ρ i).2.2=L.v:=fun i L hi e=>by
    have h1:=Ws hle _ (List.all_eq_true.1 hone i (Ru hi))
    have:∃A n c,L.v= .slice A n c:=by
      unfold Ej at h1
      simp only at h1
      split at h1
      · rename_i ty sz l hi
        obtain ⟨_,_,_,us,h3,_,_⟩:=hsim.obj i _ L hi e
        obtain ⟨A,c,h4,_⟩:=Il h3
        exact ⟨A,_,c,h4⟩
      · rename_i ty sz ls l hi
        obtain ⟨_,_,_,ht⟩:=hsim.obj i _ L hi e
        obtain ⟨us,_,_,h3,_⟩:=H1 ht
        obtain ⟨A,c,h4,_⟩:=Il h3
        exact ⟨A,_,c,h4⟩
      · cases h1
    obtain ⟨A,n,c,hv⟩:=this
    simp only [ρ,e,hv]
  unfold Oper.wp
  rw [Nn ho (hx ρ).callable]
  have hvs:∀(i:Nat) (x:Value) (d:D),(args.map a.eval)[i]? =some x→(S.toVL ρ (args.toList.map (ev f)))[i]? =some d→VD H x d:=by
    intro i x d hx hd
    rw [Array.getElem?_map] at hx
    cases hq:args[i]? with
    |none=>rw [hq] at hx;cases hx
    |some q=>
      rw [hq] at hx;cases hx
      rw [S.toVL_get,List.getElem?_map,Array.getElem?_toList,hq] at hd
      cases hd
      exact (hop q (Array.mem_of_getElem? hq)).toV hρ (S.pasL_get hp (by rw [List.getElem?_map,Array.getElem?_toList,hq];rfl))
  refine ((hx ρ).calls H w _ hsim.imm (by simp [S.toVL_length]) hvs).mono ?_
  rintro e w' ⟨H',u,r,rfl,rfl,hle',hnew,him,hb,hu⟩
  refine ⟨H',u,rfl,hsim.call hb hle' hnew him,hle',VD.ofV (ls:=ls) (fun i hi=> ?_) s hs hu⟩
  have h1:=List.all_eq_true.1 hls i (Ru hi)
  have hin:S.inBL (fun i=>(β i).isSome) (args.toList.map (ev f))=true:=by
    have:∀l:List Operand,(∀x∈l,x∈args)→S.pasL ls (l.map (ev f))=true→S.inBL (fun i=>(β i).isSome) (l.map (ev f))=true:=by
      intro l
      induction l with
      |nil=>intro _ _;rfl
      |cons x l ih=>
        intro hm hp
        rw [List.map_cons,S.pasL,Bool.and_eq_true] at hp
        rw [List.map_cons,S.inBL,Bool.and_eq_true]
        exact ⟨(hop x (hm x List.mem_cons_self)).lab hp.1,ih (fun y hy=>hm y (List.mem_cons_of_mem _ hy)) hp.2⟩
    exact this _ (fun x hx=>by simpa using hx) hp
  have h2:=S.hasL_in _ hin h1
  obtain ⟨L,hL⟩:=Option.isSome_iff_exists.1 h2
  exact ⟨L,hL,hρ i L hi hL⟩
theorem CStep.callP (ls:List Nat) (ho:o.op= .call {callee:= .value (.func F),args:=args,argTypes:=tys}) (ss:List S) (ha:args.toList.map (ev f)=ss) (hx:∀ρ:Nat→Option Addr × Nat × Nat,XC P F (S.toVL ρ ss) (fun r=>r=S.toV ρ s)) (hp:S.pasL ls ss=true) (hs:s.pas ls=true) (hls:ls.all (fun i=>S.hasL i ss)=true) (hone:ls.all (fun i=>Ej h (.own i))=true):
    CStep P o f h [] s h:=
  ⟨HLe.refl _, fun _ _ e => .inl e, fun hF hle E H β a w hsim _ hop => by
    refine Dm (Va (h:=h) ls ss hx hp hs hls hone ho hle hsim ha fun x hx=>hop x (by rw [ho];simp [Op.operands,Call.operands,hx])) ?_
    rintro a' w' ⟨H',u,rfl,k1,k2,k3⟩
    exact ⟨H', β, u, rfl, k1, k2, fun _ _ h => h, fun _ _ => rfl, k3⟩⟩
theorem XL.callP (ls:List Nat) (ho:o.op= .call {callee:= .value (.func F),args:=args,argTypes:=tys}) (hw:Bl ops f n o.guard=some true) (ss:List S) (ha:args.toList.map (ev f)=ss) (hx:∀ρ:Nat→Option Addr × Nat × Nat,XC P F (S.toVL ρ ss) (fun r=>r=S.toV ρ s)) (hp:S.pasL ls ss=true) (hs:s.pas ls=true) (hls:ls.all (fun i=>S.hasL i ss)=true) (hone:ls.all (fun i=>Ej h (.own i))=true)
    (hr:XL P n ops rest K (A7 f o.dst s) h):XL P n ops (o::rest) K f h:=
  XL.step (f' := f) (h' := h) hw (fun E H β a w hsim hf hop => by
    refine Dm (Va (h:=h) ls ss hx hp hs hls hone ho (HLe.refl _) hsim ha fun x hx=>hop x (by rw [ho];simp [Op.operands,Call.operands,hx])) ?_
    rintro a' w' ⟨H',u,rfl,k1,k2,k3⟩
    exact ⟨H', β, u, rfl, k1, hf.mono k2 (fun _ _ h => h), k3⟩) hr
end
end Go.Proofs.YtaafemnkamfgnaaGreat
namespace Go.Proofs.YtaafemnkamfgnaaGreat
open Go.RowKit
theorem Adt (l:List Cf) (h:l.length≤1000):XS Tryz.prog 81 [.sl 2 (l.map Cf.c)] (.own 5) [(5, .row 84 2 ((l).map Cf.c))]:=by
 refine D4 Ad2 Tryz.func81 R R lb (by kernel_rfl) (by kernel_rfl)<|zr<|za R R<|zn<|zs<|zr<|zm R R<|?_
 refine XL.eqnil R R R Tryz.underlying75 (fun hn4=> ?_) ?_
 refine zn<|Av (by kernel_rfl) R<|zr<|za R R<|zn<|Dx 5 2 84 2 R<|zt<|?_
 exact ⟨Cs R (RVS.tmp R R),HSub.cons (by rw [hn4];rfl) (HSub.nil)⟩
 refine zn<|A8 (by kernel_rfl) R<|zi<|zr<|XL.step R (Br 5 R Tryz.underlying75 Xy Oq R R (by omega) (by omega))<|zm R R<|XL.step R (A5 R Aai (.own R) (Src.sl (by omega)) (by unfold maxLen;simp;omega) (by simp;omega))<|zp (Aw R (by conv=>lhs;whnf))<|?_
 refine zn<|zt<|?_
 exact ⟨Cs R (RVS.tmp R R),HSub.cons (R) (HSub.nil)⟩
theorem Adn (l:List Tm) (h:l.length≤1000):XS Tryz.prog 76 [.sl 3 (l.map Tm.c)] (.own 5) [(5, .row 119 3 ((l).map Tm.c))]:=by
 refine D4 Ad7 Tryz.func76 R R lb (by kernel_rfl) (by kernel_rfl)<|zr<|za R R<|zn<|zs<|zr<|zm R R<|?_
 refine XL.eqnil R R R Tryz.underlying27 (fun hn4=> ?_) ?_
 refine zn<|Av (by kernel_rfl) R<|zr<|za R R<|zn<|Dx 5 2 119 3 R<|zt<|?_
 exact ⟨Cs R (RVS.tmp R R),HSub.cons (by rw [hn4];rfl) (HSub.nil)⟩
 refine zn<|A8 (by kernel_rfl) R<|zi<|zr<|XL.step R (Br 5 R Tryz.underlying27 Qa Mr R R (by omega) (by omega))<|zm R R<|XL.step R (A5 R Aak (.own R) (Src.sl (by omega)) (by unfold maxLen;simp;omega) (by simp;omega))<|zp (Aw R (by conv=>lhs;whnf))<|?_
 refine zn<|zt<|?_
 exact ⟨Cs R (RVS.tmp R R),HSub.cons (R) (HSub.nil)⟩
theorem Aim (v:Vo) (h:v.fit):XS Tryz.prog 82 [.agg (Vo.c v)] (.agg [.own 7201, .own 7202]) [(7201, .row 59 13 ((v.evs).map Ev.c)),(7202, .row 157 4 ((v.tups).map Tp.c))]:=by
 have h1:=h.evs
 have h2:=h.tups
 refine D4 S0 Tryz.func82 R R lb (by kernel_rfl) (by kernel_rfl)<|zr<|XL.step R (Ap 1 (l:= [.d (.sl 13 (v.evs.map Ev.c)), .d (.sl 4 (v.tups.map Tp.c))]) R R (by kernel_rfl))<|XL.step R (Aq 2 (l:= [.d (.v (.slice none 0 0)), .d (.v (.slice none 0 0))]) R Bf (by kernel_rfl))<|znr<|?_
 refine XL.step R (Aq 3 (l:= [.d (.v (.slice none 0 0)), .d (.v (.slice none 0 0))]) R Bf (by kernel_rfl))<|zn<|zs<|zr<|zp (Aa R R Bo)<|zp (Ab R R Cz R R)<|XL.len R R R Tryz.underlying79 fun hl8=>zm R R<|zn<|Ah<|E7 7201 3 0 59 13 (l':= [.own 7201, .d (.v (.slice none 0 0))]) R R (by decide) (by kernel_rfl)<|?_
 refine Az (α:=Nat) (fun k=>k≤v.evs.length) (fun k=>mkF [(1, .ptr 1 0 0),(2, .ptr 2 0 0),(3, .ptr 3 0 0),(7, .d (.sl 13 (v.evs.map Ev.c))),(8, .d (dI v.evs.length)),(9, .d (dI k))]) (fun k=>mkH [(1, .box ((Vo.c v).map S.d)),(2, .box [.d (.v (.slice none 0 0)), .d (.v (.slice none 0 0))]),(3, .box [.own 7201, .d (.v (.slice none 0 0))]),(7201, .row 59 13 ((v.evs.take k).map Ev.c))]) (fun k=>v.evs.length - k) (0) (Nat.zero_le _) ?_ ?_ ?_
 exact fz ⟨sr,sr,sr,sr,sr,sr,trivial⟩
 exact gz ⟨R,R,R,R,trivial⟩
 intro k hk0
 refine zr<|zp (Au R R R)<|zn<|zs<|?_
 refine zd R (fun c10=> ?_) (fun c10=> ?_)
 have hk0a:k<v.evs.length:=by omega
 obtain ⟨x0,hx0⟩:=Ar hk0a
 have hf:=h.ev x0 (List.mem_of_getElem? hx0)
 have htl:(v.evs.take k).length=k:=by rw [List.length_take];omega
 refine zi<|zs<|Ah<|zr<|zp (Ao R R R F5 hx0)<|zp (Ae (s':= .d (.agg (Ev.c x0))) (Ay R R Bq lb) (by kernel_rfl))<|XL.step R (Aq 5 (l:= [.d (dI 0), .d (dI 0), .d (dI 0), .d (dI 0), .d (dI 0), .d (.v (.slice none 0 0)), .d (.v (.slice none 0 0)), .d (dI 0), .d (dI 0), .d (dI 0), .d (.v (.slice none 0 0)), .d (dI 0), .d (dI 0)]) R Cc (by kernel_rfl))<|?_
 refine XL.step R (Af (l':= [.d (dI x0.site), .d (dI x0.num), .d (dI x0.kind), .d (dI x0.v.log), .d (dI x0.v.dots), .d (.sl 5 (x0.heads.map Hd.c)), .d (.sl 5 (x0.graces.map Gr.c)), .d (dI x0.art), .d (dI x0.orn), .d (dI x0.dyn), .d (.sl 2 (x0.lyr.map Sy.c)), .d (dI x0.stem), .d (dI x0.beam)]) R R R R C4 R lb (by kernel_rfl))<|zn<|?_
 refine Cq 5 [] (by kernel_rfl) (by kernel_rfl) (by kernel_rfl) (by kernel_rfl) (by decide)<|yp (Aa R R Bo)<|yp (Ab R R Cz R R)<|yp (Ae (s':= .d (.agg (Ev.c x0))) (Ac (Ad R R Bq R lb)) (by kernel_rfl))<|ChK.cons R (CStep.call R (Q5 _ (by assumption)) R)<|ChK.cons R (CStep.slice R Tryz.underlying79 C4 Cc R R (by omega) (by omega))<|?_
 refine ChK.nil ⟨by kernel_rfl, ?_⟩
 refine XL.step R (A5 R Gv (.own R) (Src.sl (by omega)) (by unfold maxLen;simp;omega) (by simp;omega))<|zp (Aa R R Bo)<|XL.step R (Af (l':= [.own 7201, .d (.v (.slice none 0 0))]) R R R R Rm R lb (by kernel_rfl))<|zn<|Ag (by kernel_rfl)<|zp (Al R R R (by omega) (by omega))<|zm R R<|zn<|?_
 exact Am (k+1) (by omega) (by omega) (fz ⟨sr,sr,sr,sr,sr,sr,trivial⟩) (gz ⟨R,R,R,Jn R (B3 hx0),trivial⟩)
 have hk0b:k=v.evs.length:=by omega
 have ht:v.evs.take k=v.evs:=by rw [hk0b,List.take_length]
 refine At<|zr<|zp (Aa R R B6)<|zp (Ab R R B7 R R)<|zp (Aa R R B6)<|zp (Ab R R B7 R R)<|XL.step R (A5 R F1 (.nil 7202 _ _) (Src.sl (by omega)) (by unfold maxLen;simp;omega) (by simp;omega))<|zp (Aa R R B6)<|XL.step R (Af (l':= [.own 7201, .own 7202]) R R R R Ge R lb (by kernel_rfl))<|znr<|?_
 refine zp (Ac (Ad R R Ax R lb))<|XL.step R (Af (l':= [.own 7201, .own 7202]) R R R R Bu R lb (by kernel_rfl))<|zn<|zt<|?_
 exact ⟨Cs R (RVS.eq (RVS.cells (i:=2) R R R Ax lb) R),HSub.cons (by rw [ht];rfl) (HSub.cons (R) (HSub.nil))⟩
structure Ce.fit (c:Ce):Prop where
 clefs:c.clefs.length≤1000
 voices:c.voices.length≤1000
 v:∀v∈c.voices,v.fit
structure Ms.fit (m:Ms):Prop where
 tempi:m.tempi.length≤1000
 cells:m.cells.length≤1000
 c:∀c∈m.cells,c.fit
theorem Aaq (c:Ce) (h:c.fit):XS Tryz.prog 38 [.agg (Ce.c c)] (.agg [.own 7301, .own 7302]) [(7301, .row 84 2 ((c.clefs).map Cf.c)),(7302, .tree 82 2 [] (c.voices.map Vo.t))]:=by
 have h1:=h.clefs
 have h2:=h.voices
 refine D4 Aet Tryz.func38 R R lb (by kernel_rfl) (by kernel_rfl)<|zr<|XL.step R (Ap 1 (l:= [.d (.sl 2 (c.clefs.map Cf.c)), .d (.sl 2 (c.voices.map Vo.c))]) R R (by kernel_rfl))<|XL.step R (Aq 2 (l:= [.d (.v (.slice none 0 0)), .d (.v (.slice none 0 0))]) R Fe (by kernel_rfl))<|znr<|zp (Aa R R Ea)<|zp (Ab R R Iz R R)<|?_
 refine XL.callS R R ((Adt _ (by assumption)).lab 7301) R<|zp (Ac (A4 R Aiw Fe R))<|XL.step R (Aq 3 (l:= [.d (.v (.slice none 0 0)), .d (.v (.slice none 0 0))]) R Fe (by kernel_rfl))<|XL.step R (Af (l':= [.own 7301, .d (.v (.slice none 0 0))]) R R R R Jf R lb (by kernel_rfl))<|zn<|zs<|zr<|zp (Aa R R Cm)<|zp (Ab R R Eg R R)<|?_
 refine XL.len R R R Tryz.underlying76 fun hl12=>zm R R<|zn<|Ah<|E7 7302 3 1 82 2 (l':= [.own 7301, .own 7302]) R R (by decide) (by kernel_rfl)<|Uf (i:=7302) (l':= []) R R<|?_
 refine Az (α:=Nat) (fun k=>k≤c.voices.length) (fun k=>mkF [(2, .ptr 2 0 0),(3, .ptr 3 0 0),(11, .d (.sl 2 (c.voices.map Vo.c))),(12, .d (dI c.voices.length)),(13, .d (dI k))]) (fun k=>mkH [(2, .box [.d (.v (.slice none 0 0)), .d (.v (.slice none 0 0))]),(3, .box [.own 7301, .own 7302]),(7301, .row 84 2 ((c.clefs).map Cf.c)),(7302, .tree 82 2 [] ((c.voices.take k).map Vo.t))]) (fun k=>c.voices.length - k) (0) (Nat.zero_le _) ?_ ?_ ?_
 exact fz ⟨sr,sr,sr,sr,sr,trivial⟩
 exact gz ⟨R,R,R,R,trivial⟩
 intro k hk0
 refine zr<|zp (Au R R R)<|zn<|zs<|?_
 refine zd R (fun c14=> ?_) (fun c14=> ?_)
 have hk0a:k<c.voices.length:=by omega
 obtain ⟨x0,hx0⟩:=Ar hk0a
 have hf:=h.v x0 (List.mem_of_getElem? hx0)
 have htl:(c.voices.take k).length=k:=by rw [List.length_take];omega
 refine zi<|zs<|Ah<|zr<|zp (Ao R R R Ic hx0)<|zp (Ae (s':= .d (.agg (Vo.c x0))) (Ay R R Ax lb) (by kernel_rfl))<|XL.step R (Aq 5 (l:= [.d (.v (.slice none 0 0)), .d (.v (.slice none 0 0))]) R Bf (by kernel_rfl))<|XL.step R (Af (l':= [.d (.sl 13 (x0.evs.map Ev.c)), .d (.sl 4 (x0.tups.map Tp.c))]) R R R R Bu R lb (by kernel_rfl))<|zn<|?_
 refine Cq 5 [7201,7202,21] (by kernel_rfl) (by kernel_rfl) (by kernel_rfl) (by kernel_rfl) (by decide)<|yp (Aa R R Cm)<|yp (Ab R R Eg R R)<|yp (Ae (s':= .d (.agg (Vo.c x0))) (Ac (Ad R R Ax R lb)) (by kernel_rfl))<|ChK.cons R (CStep.callS R (Aim _ (by assumption)) R (Nd (by kernel_rfl)))<|?_
 refine ChK.cons R (CStep.slice1 21 (cs:= [.own 7201, .own 7202]) R Tryz.underlying76 Bu Bf R R (by decide) (by decide) R)<|?_
 refine ChK.nil ⟨by kernel_rfl, ?_⟩
 refine XL.step R (Hb [7201,7202] (lr:=((c.voices.take (k+1)).map Vo.t).set k [.own 7201, .own 7202]) R Akx (.own R) (SrcT.ownS R) (by unfold maxLen;simp;omega) (by simp;omega) (O3 hx0 _) (Cv (Vos.t_in [] _) (Ee (R) (R)) _) R)<|?_
 refine XL.closeR (i:=7302) (j:=7201) (k:=k) (m:=0) (l':=((c.voices.take (k+1)).map Vo.t).set k [.row 59 13 (((x0.evs).map Ev.c).map (·.map T.d)), .own 7202]) [7202] R R R (B1 (D7 hx0)) R (List.set_set ..) (Cv (Vos.t_in [] _) (Ee (Fh (T.inLL_d _ _)) (R)) _) R<|?_
 refine XL.closeR (i:=7302) (j:=7202) (k:=k) (m:=1) (l':=((c.voices.take (k+1)).map Vo.t).set k [.row 59 13 (((x0.evs).map Ev.c).map (·.map T.d)), .row 157 4 (((x0.tups).map Tp.c).map (·.map T.d))]) [] R R R (B1 (D7 hx0)) R (List.set_set ..) (Cv (Vos.t_in [] _) (Ee (Fh (T.inLL_d _ _)) (Fh (T.inLL_d _ _))) _) R<|?_
 refine XL.rowqT (i:=7302) (l':=(c.voices.take (k+1)).map Vo.t) [] R (set_same (D7 hx0)) (Vos.t_in [] _)<|zp (Aa R R Cm)<|XL.step R (Af (l':= [.own 7301, .own 7302]) R R R R An8 R lb (by kernel_rfl))<|zn<|Ag (by kernel_rfl)<|zp (Al R R R (by omega) (by omega))<|zm R R<|zn<|?_
 exact Am (k+1) (by omega) (by omega) (fz ⟨sr,sr,sr,sr,sr,trivial⟩) (gz ⟨R,R,R,R,trivial⟩)
 have hk0b:k=c.voices.length:=by omega
 have ht:c.voices.take k=c.voices:=by rw [hk0b,List.take_length]
 refine At<|zr<|zp (Ac (Ad R R F2 R lb))<|XL.step R (Af (l':= [.own 7301, .own 7302]) R R R R Jf R lb (by kernel_rfl))<|zn<|zt<|?_
 exact ⟨Cs R (RVS.eq (RVS.cells (i:=2) R R R F2 lb) R),HSub.cons (R) (HSub.cons (by rw [ht];rfl) (HSub.nil))⟩
theorem N3 (m:Ms) (h:m.fit):XS Tryz.prog 33 [.agg (Ms.c m)] (.agg [.d (dI m.h.site), .d (dI m.h.num), .d (dI m.h.m.count), .d (dI m.h.m.unit), .d (dI m.h.m.g0), .d (dI m.h.m.g1), .d (dI m.h.m.g2), .d (dI m.h.m.g3), .d (dI m.h.m.g4), .d (dI m.h.m.g5), .d (dI m.h.len), .d (dI m.h.fifths), .d (dB m.h.start), .d (dI m.h.fin), .d (dI m.h.ends), .d (dI m.h.jump), .d (dI m.h.labels), .d (dI m.h.swing), .d (dI m.h.brk), .d (.v (.string ⟨m.h.reh.toArray⟩)), .own 7401, .own 7402]) [(7401, .row 119 3 ((m.tempi).map Tm.c)),(7402, .tree 78 2 [] (m.cells.map Ce.t))]:=by
 have h1:=h.tempi
 have h2:=h.cells
 refine D4 Aey Tryz.func33 R R lb (by kernel_rfl) (by kernel_rfl)<|zr<|?_
 refine XL.step R (Ap 1 (l:= [.d (dI m.h.site), .d (dI m.h.num), .d (dI m.h.m.count), .d (dI m.h.m.unit), .d (dI m.h.m.g0), .d (dI m.h.m.g1), .d (dI m.h.m.g2), .d (dI m.h.m.g3), .d (dI m.h.m.g4), .d (dI m.h.m.g5), .d (dI m.h.len), .d (dI m.h.fifths), .d (dB m.h.start), .d (dI m.h.fin), .d (dI m.h.ends), .d (dI m.h.jump), .d (dI m.h.labels), .d (dI m.h.swing), .d (dI m.h.brk), .d (.v (.string ⟨m.h.reh.toArray⟩)), .d (.sl 3 (m.tempi.map Tm.c)), .d (.sl 2 (m.cells.map Ce.c))]) R R (by kernel_rfl))<|?_
 refine XL.step R (Aq 2 (l:= [.d (dI 0), .d (dI 0), .d (dI 0), .d (dI 0), .d (dI 0), .d (dI 0), .d (dI 0), .d (dI 0), .d (dI 0), .d (dI 0), .d (dI 0), .d (dI 0), .d (dB false), .d (dI 0), .d (dI 0), .d (dI 0), .d (dI 0), .d (dI 0), .d (dI 0), .d (.v (.string ⟨#[]⟩)), .d (.v (.slice none 0 0)), .d (.v (.slice none 0 0))]) R E6 (by kernel_rfl))<|znr<|zp (Aa R R Bm)<|?_
 refine zp (Ab R R Df R R)<|za R R<|znr<|zp (Aa R R C8)<|zp (Ab R R Ht R R)<|XL.callS R R ((Adn _ (by assumption)).lab 7401) R<|zp (Aa R R C8)<|?_
 refine XL.step R (Af (l':= [.d (dI m.h.site), .d (dI m.h.num), .d (dI m.h.m.count), .d (dI m.h.m.unit), .d (dI m.h.m.g0), .d (dI m.h.m.g1), .d (dI m.h.m.g2), .d (dI m.h.m.g3), .d (dI m.h.m.g4), .d (dI m.h.m.g5), .d (dI m.h.len), .d (dI m.h.fifths), .d (dB m.h.start), .d (dI m.h.fin), .d (dI m.h.ends), .d (dI m.h.jump), .d (dI m.h.labels), .d (dI m.h.swing), .d (dI m.h.brk), .d (.v (.string ⟨m.h.reh.toArray⟩)), .own 7401, .d (.sl 2 (m.cells.map Ce.c))]) R R R R Un R lb (by kernel_rfl))<|?_
 refine zp (Aa R R Bm)<|?_
 refine XL.step R (Af (l':= [.d (dI m.h.site), .d (dI m.h.num), .d (dI m.h.m.count), .d (dI m.h.m.unit), .d (dI m.h.m.g0), .d (dI m.h.m.g1), .d (dI m.h.m.g2), .d (dI m.h.m.g3), .d (dI m.h.m.g4), .d (dI m.h.m.g5), .d (dI m.h.len), .d (dI m.h.fifths), .d (dB m.h.start), .d (dI m.h.fin), .d (dI m.h.ends), .d (dI m.h.jump), .d (dI m.h.labels), .d (dI m.h.swing), .d (dI m.h.brk), .d (.v (.string ⟨m.h.reh.toArray⟩)), .own 7401,_]) R R R R Um R lb R)<|?_
 refine zn<|zs<|zr<|zm R R<|XL.len R R R Tryz.underlying28 fun hl14=>zm R R<|zn<|Ah<|?_
 refine E7 7402 1 21 78 2 (l':= [.d (dI m.h.site), .d (dI m.h.num), .d (dI m.h.m.count), .d (dI m.h.m.unit), .d (dI m.h.m.g0), .d (dI m.h.m.g1), .d (dI m.h.m.g2), .d (dI m.h.m.g3), .d (dI m.h.m.g4), .d (dI m.h.m.g5), .d (dI m.h.len), .d (dI m.h.fifths), .d (dB m.h.start), .d (dI m.h.fin), .d (dI m.h.ends), .d (dI m.h.jump), .d (dI m.h.labels), .d (dI m.h.swing), .d (dI m.h.brk), .d (.v (.string ⟨m.h.reh.toArray⟩)), .own 7401, .own 7402]) R R (by decide) (by kernel_rfl)<|?_
 refine Uf (i:=7402) (l':= []) R R<|?_
 refine Az (α:=Nat) (fun k=>k≤m.cells.length) (fun k=>mkF [(1, .ptr 1 0 0),(2, .ptr 2 0 0),(13, .d (.sl 2 (m.cells.map Ce.c))),(14, .d (dI m.cells.length)),(15, .d (dI k))]) (fun k=>mkH [(1, .box [.d (dI m.h.site), .d (dI m.h.num), .d (dI m.h.m.count), .d (dI m.h.m.unit), .d (dI m.h.m.g0), .d (dI m.h.m.g1), .d (dI m.h.m.g2), .d (dI m.h.m.g3), .d (dI m.h.m.g4), .d (dI m.h.m.g5), .d (dI m.h.len), .d (dI m.h.fifths), .d (dB m.h.start), .d (dI m.h.fin), .d (dI m.h.ends), .d (dI m.h.jump), .d (dI m.h.labels), .d (dI m.h.swing), .d (dI m.h.brk), .d (.v (.string ⟨m.h.reh.toArray⟩)), .own 7401, .own 7402]),(2, .box [.d (dI 0), .d (dI 0), .d (dI 0), .d (dI 0), .d (dI 0), .d (dI 0), .d (dI 0), .d (dI 0), .d (dI 0), .d (dI 0), .d (dI 0), .d (dI 0), .d (dB false), .d (dI 0), .d (dI 0), .d (dI 0), .d (dI 0), .d (dI 0), .d (dI 0), .d (.v (.string ⟨#[]⟩)), .d (.v (.slice none 0 0)), .d (.v (.slice none 0 0))]),(7401, .row 119 3 ((m.tempi).map Tm.c)),(7402, .tree 78 2 [] ((m.cells.take k).map Ce.t))]) (fun k=>m.cells.length - k) (0) (Nat.zero_le _) ?_ ?_ ?_
 exact fz ⟨sr,sr,sr,sr,sr,trivial⟩
 exact gz ⟨R,R,R,R,trivial⟩
 intro k hk0
 refine zr<|zp (Au R R R)<|zn<|zs<|?_
 refine zd R (fun c16=> ?_) (fun c16=> ?_)
 have hk0a:k<m.cells.length:=by omega
 obtain ⟨x0,hx0⟩:=Ar hk0a
 have hf:=h.c x0 (List.mem_of_getElem? hx0)
 have htl:(m.cells.take k).length=k:=by rw [List.length_take];omega
 refine zi<|zs<|Ah<|zr<|zp (Ao R R R Em hx0)<|zp (Ae (s':= .d (.agg (Ce.c x0))) (Ay R R F2 lb) (by kernel_rfl))<|XL.step R (Aq 5 (l:= [.d (.v (.slice none 0 0)), .d (.v (.slice none 0 0))]) R Fe (by kernel_rfl))<|XL.step R (Af (l':= [.d (.sl 2 (x0.clefs.map Cf.c)), .d (.sl 2 (x0.voices.map Vo.c))]) R R R R Jf R lb (by kernel_rfl))<|zn<|?_
 refine Cq 5 [7301,7302,23] (by kernel_rfl) (by kernel_rfl) (by kernel_rfl) (by kernel_rfl) (by decide)<|yp (Aa R R Bm)<|yp (Ab R R Df R R)<|yp (Ae (s':= .d (.agg (Ce.c x0))) (Ac (Ad R R F2 R lb)) (by kernel_rfl))<|ChK.cons R (CStep.callS R (Aaq _ (by assumption)) R (Nd (by kernel_rfl)))<|?_
 refine ChK.cons R (CStep.slice1 23 (cs:= [.own 7301, .own 7302]) R Tryz.underlying28 Jf Fe R R (by decide) (by decide) R)<|?_
 refine ChK.nil ⟨by kernel_rfl, ?_⟩
 refine XL.step R (Hb [7301,7302] (lr:=((m.cells.take (k+1)).map Ce.t).set k [.own 7301, .own 7302]) R Aaj (.own R) (SrcT.ownS R) (by unfold maxLen;simp;omega) (by simp;omega) (O3 hx0 _) (Cv (Ces.t_in [] _) (Ee (R) (R)) _) R)<|?_
 refine XL.closeR (i:=7402) (j:=7301) (k:=k) (m:=0) (l':=((m.cells.take (k+1)).map Ce.t).set k [.row 84 2 (((x0.clefs).map Cf.c).map (·.map T.d)), .own 7302]) [7302] R R R (B1 (D7 hx0)) R (List.set_set ..) (Cv (Ces.t_in [] _) (Ee (Fh (T.inLL_d _ _)) (R)) _) R<|?_
 refine XL.closeT (i:=7402) (j:=7302) (k:=k) (m:=1) (l':=((m.cells.take (k+1)).map Ce.t).set k [.row 84 2 (((x0.clefs).map Cf.c).map (·.map T.d)), .row 82 2 (x0.voices.map Vo.t)]) [] R R R (B1 (D7 hx0)) R (List.set_set ..) (Cv (Ces.t_in [] _) (Ee (Fh (T.inLL_d _ _)) (Fh (T.nil_in (Vos.t_in [] _) _))) _) R<|?_
 refine XL.rowqT (i:=7402) (l':=(m.cells.take (k+1)).map Ce.t) [] R (set_same (D7 hx0)) (Ces.t_in [] _)<|zp (Aa R R Bm)<|?_
 refine XL.step R (Af (l':= [.d (dI m.h.site), .d (dI m.h.num), .d (dI m.h.m.count), .d (dI m.h.m.unit), .d (dI m.h.m.g0), .d (dI m.h.m.g1), .d (dI m.h.m.g2), .d (dI m.h.m.g3), .d (dI m.h.m.g4), .d (dI m.h.m.g5), .d (dI m.h.len), .d (dI m.h.fifths), .d (dB m.h.start), .d (dI m.h.fin), .d (dI m.h.ends), .d (dI m.h.jump), .d (dI m.h.labels), .d (dI m.h.swing), .d (dI m.h.brk), .d (.v (.string ⟨m.h.reh.toArray⟩)), .own 7401, .own 7402]) R R R R Um R lb (by kernel_rfl))<|?_
 refine zn<|Ag (by kernel_rfl)<|zp (Al R R R (by omega) (by omega))<|zm R R<|zn<|?_
 exact Am (k+1) (by omega) (by omega) (fz ⟨sr,sr,sr,sr,sr,trivial⟩) (gz ⟨R,R,R,R,trivial⟩)
 have hk0b:k=m.cells.length:=by omega
 have ht:m.cells.take k=m.cells:=by rw [hk0b,List.take_length]
 refine At<|zr<|zp (Ac (Ad R R Bj R lb))<|?_
 refine XL.step R (Af (l':= [.d (dI m.h.site), .d (dI m.h.num), .d (dI m.h.m.count), .d (dI m.h.m.unit), .d (dI m.h.m.g0), .d (dI m.h.m.g1), .d (dI m.h.m.g2), .d (dI m.h.m.g3), .d (dI m.h.m.g4), .d (dI m.h.m.g5), .d (dI m.h.len), .d (dI m.h.fifths), .d (dB m.h.start), .d (dI m.h.fin), .d (dI m.h.ends), .d (dI m.h.jump), .d (dI m.h.labels), .d (dI m.h.swing), .d (dI m.h.brk), .d (.v (.string ⟨m.h.reh.toArray⟩)), .own 7401, .own 7402]) R R R R E9 R lb (by kernel_rfl))<|?_
 refine zn<|zt<|?_
 exact ⟨Cs R (RVS.eq (RVS.cells (i:=2) R R R Bj lb) R),HSub.cons (R) (HSub.cons (by rw [ht];rfl) (HSub.nil))⟩
end Go.Proofs.YtaafemnkamfgnaaGreat
namespace Go.Proofs.YtaafemnkamfgnaaGreat
open Go.RowKit
def Me.lenV (t:Me):Int:=if t.err≠0 then 0 else t.len
theorem Atr {t:Me} (h:t.err≠0):0=t.lenV:=by rw [Me.lenV,if_pos h]
theorem Ahl {t:Me} (h:¬t.err≠0):t.len=t.lenV:=by rw [Me.lenV,if_neg h]
def mlN (t:Me) (n:Int):Int:=if 0<n then n else t.len
def mlE (t:Me) (n:Int):Int:=if t.err≠0 then t.err else if n<0 then 2 else if mlN t n % 7560≠0 then 16 else if 15482880<mlN t n then 5 else 0
def mlV (t:Me) (n:Int):Int:=if mlE t n≠0 then 0 else mlN t n
theorem Aog {t:Me} {n:Int} (h:0<n):mlN t n=n:=by rw [mlN,if_pos h]
theorem X4 {t:Me} {n:Int} (h:¬0<n):mlN t n=t.len:=by rw [mlN,if_neg h]
theorem Amr {t:Me} {n:Int} (h:t.err≠0):0=mlV t n∧t.err=mlE t n:=by
 have e:mlE t n=t.err:=by rw [mlE,if_pos h]
 exact ⟨by rw [mlV,e,if_pos h],e.symm⟩
theorem Asd {t:Me} {n:Int} (h:¬t.err≠0) (h2:n<0):0=mlV t n∧2=mlE t n:=by
 have e:mlE t n=2:=by rw [mlE,if_neg h,if_pos h2]
 exact ⟨by rw [mlV,e,if_pos (by decide)],e.symm⟩
theorem Ahj {t:Me} {n:Int} (h:¬t.err≠0) (h2:¬n<0) (h3:mlN t n % 7560≠0):0=mlV t n∧16=mlE t n:=by
 have e:mlE t n=16:=by rw [mlE,if_neg h,if_neg h2,if_pos h3]
 exact ⟨by rw [mlV,e,if_pos (by decide)],e.symm⟩
theorem Ahi {t:Me} {n:Int} (h:¬t.err≠0) (h2:¬n<0) (h3:¬mlN t n % 7560≠0) (h4:15482880<mlN t n):0=mlV t n∧5=mlE t n:=by
 have e:mlE t n=5:=by rw [mlE,if_neg h,if_neg h2,if_neg h3,if_pos h4]
 exact ⟨by rw [mlV,e,if_pos (by decide)],e.symm⟩
theorem Qn {t:Me} {n:Int} (h:¬t.err≠0) (h2:¬n<0) (h3:¬mlN t n % 7560≠0) (h4:¬15482880<mlN t n):mlN t n=mlV t n∧0=mlE t n:=by
 have e:mlE t n=0:=by rw [mlE,if_neg h,if_neg h2,if_neg h3,if_neg h4]
 exact ⟨by rw [mlV,e,if_neg (by decide)],e.symm⟩
structure Mlok (t:Me) (n:Int):Prop where
 me:Mok t
 nn:¬n<0
 v:mlV t n=mlN t n
 lo:1≤mlV t n
 hi:mlV t n≤15482880
 dv:mlV t n % 7560=0
theorem Amq {t:Me} {n:Int} (h:¬mlE t n≠0):Mlok t n:=by
 have h0:mlE t n=0:=by omega
 have hv:mlV t n=mlN t n:=by rw [mlV,if_neg h]
 unfold mlE at h0
 split at h0
 ·omega
 ·rename_i h1
  have hm:=Ln h1
  have hl:=hm.len
  split at h0
  ·omega
  ·rename_i h2
   have hN:1≤mlN t n:=by unfold mlN;split<;>omega
   split at h0
   ·omega
   ·split at h0
    ·omega
    ·exact ⟨hm,h2,hv,by omega,by omega,by omega⟩
def L6 (t:Me) (n:Int):Int:=if t.err≠0 then t.err else if n<1∨4398046511104<n then 2 else 0
def Pm (t:Me) (n:Int):Int:=if L6 t n≠0 then 0 else max 0 (t.len - n)
theorem Aux {t:Me} {n:Int} (h:t.err≠0):0=Pm t n∧t.err=L6 t n:=by
 have e:L6 t n=t.err:=by rw [L6,if_pos h]
 exact ⟨by rw [Pm,e,if_pos h],e.symm⟩
theorem Ar6 {t:Me} {n:Int} (h:¬t.err≠0) (h2:n<1∨4398046511104<n):0=Pm t n∧2=L6 t n:=by
 have e:L6 t n=2:=by rw [L6,if_neg h,if_pos h2]
 exact ⟨by rw [Pm,e,if_pos (by decide)],e.symm⟩
theorem Ar5 {t:Me} {n:Int} (h:¬t.err≠0) (h2:¬(n<1∨4398046511104<n)):max 0 (t.len - n)=Pm t n∧0=L6 t n:=by
 have e:L6 t n=0:=by rw [L6,if_neg h,if_neg h2]
 exact ⟨by rw [Pm,e,if_neg (by decide)],e.symm⟩
def Me.z:Me:=⟨0,0,0,0,0,0,0,0⟩
def Pl.z:Pl:=⟨Me.z,0,0⟩
def plS (t:Me) (n:Int):Pl:=if mlE t n≠0 then Pl.z else ⟨t,max 0 (t.len - mlV t n),mlV t n⟩
def placeS (t:Me) (n:Int):Pl:=⟨t,Pm t n,n⟩
theorem Ary {t:Me} {n:Int} (h:mlE t n≠0):plS t n=Pl.z:=by rw [plS,if_pos h]
theorem Ama {t:Me} {n:Int} (h:¬mlE t n≠0):plS t n=⟨t,max 0 (t.len - mlV t n),mlV t n⟩:=by rw [plS,if_neg h]
theorem Ajp {t:Me} {n:Int} (h:¬mlE t n≠0):L6 t (mlV t n)=0∧Pm t (mlV t n)=max 0 (t.len - mlV t n):=by
 have k:=Amq h
 have h1:¬t.err≠0:=fun e=>by
  have:=(Amr (n:=n) e).2;omega
 have h2:=Ar5 (n:=mlV t n) h1 (by have:=k.lo;have:=k.hi;omega)
 exact ⟨h2.2.symm,h2.1.symm⟩
def Ib (t:Me) (n:Int):Int:=if t.err=0∧t.len=n then 0 else n
def Mh.sh (h:Mh) (t:Me) (n:Int):Mh:={h with m:=t,len:=Ib t n}
theorem Aur {t:Me} {n:Int} (h:t.err=0) (h2:t.lenV=n):0=Ib t n:=by rw [Ib,if_pos ⟨h,by rw [←h2,Me.lenV,if_neg (by omega)]⟩]
theorem Auq {t:Me} {n:Int} (h:¬t.err=0):n=Ib t n:=by rw [Ib,if_neg fun e=>h e.1]
theorem Aup {t:Me} {n:Int} (h:t.err=0) (h2:¬t.lenV=n):n=Ib t n:=by rw [Ib,if_neg fun e=>h2 (by rw [Me.lenV,if_neg (by omega)];exact e.2)]
theorem r2p {a b a' b':Int} (h:a=a'∧b=b'):D.tup [dI a,dI b]= .tup [dI a',dI b']:=by rw [h.1,h.2]
theorem Uz {t:Me} {n:Int}:mlE t (Ib t n)=mlE t n:=by
 unfold Ib
 split
 ·rename_i h
  by_cases hn:n=0
  ·rw [hn]
  ·have hm:=Ln (m:=t) (by omega)
   have hl:=hm.len
   have e:mlN t 0=mlN t n:=by rw [X4 (by omega),mlN,if_pos (by omega)];exact h.2
   unfold mlE
   rw [e,if_neg (show ¬t.err≠0 by omega),if_neg (show ¬(0:Int)<0 by omega),if_neg (show ¬n<0 by omega),if_neg (show ¬t.err≠0 by omega)]
 ·rfl
theorem Asf {t:Me} {n:Int}:mlN t (Ib t n)=mlN t n∨n<0:=by
 unfold Ib
 split
 ·rename_i h
  have hm:=Ln (m:=t) (by omega)
  have hl:=hm.len
  left
  rw [X4 (by omega),mlN]
  split
  ·exact h.2
  ·rfl
 ·exact .inl rfl
theorem Ase {t:Me} {n:Int}:mlV t (Ib t n)=mlV t n:=by
 unfold mlV
 rw [Uz]
 by_cases h:mlE t n≠0
 ·rw [if_pos h,if_pos h]
 ·rw [if_neg h,if_neg h]
  rcases Asf (t:=t) (n:=n) with e|e
  ·exact e
  ·have:=(Amq h).nn;omega
theorem Arz {t:Me} {n:Int}:plS t (Ib t n)=plS t n:=by unfold plS;rw [Uz,Ase]
theorem Og (t:Me):XC Tryz.prog 52 [.agg (Me.c t)] (fun r=>r= .tup [dI t.lenV,dI t.err]):=by
 refine An Aer Tryz.func52 R R lb<|zr<|XL.step R (Ap 1 (l:= [.d (dI t.count), .d (dI t.unit), .d (dI t.g0), .d (dI t.g1), .d (dI t.g2), .d (dI t.g3), .d (dI t.g4), .d (dI t.g5)]) R R (by kernel_rfl))<|za R R<|za R R<|zn<|zs<|zr<|zp (Ae (s':= .d (.agg (Me.c t))) (Ac (Ad R R Bn R lb)) (by kernel_rfl))<|XL.call1 R R (N4 _) R<|za R R<|znr<|zm R R<|?_
 refine zp (A1 R R R)<|zn<|?_
 refine zd R (fun c8=> ?_) (fun c8=> ?_)
 refine zr<|zm R R<|za R R<|za R R<|zn<|zt<|?_
 exact A6 R (RV.tmp R R) (RV.tmp R R) (r2 (rI (Atr (by assumption))) R)
 refine zi<|zs<|?_
 have hM:=Ln c8
 refine Ag (by kernel_rfl)<|zp (Ae (s':= .d (.agg (Me.c t))) (Ac (Ad R R Bn R lb)) (by kernel_rfl))<|XL.call1 R R (Mb _ (by assumption)) R<|za R R<|za R R<|zn<|zt<|?_
 exact A6 R (RV.tmp R R) (RV.tmp R R) (r2 (rI (Ahl (by assumption))) (rI (by omega)))
theorem Wt (t:Me) (n:Int):XC Tryz.prog 18 [.agg (Me.c t), .v (.int .i64 n)] (fun r=>r= .tup [dI (Pm t n),dI (L6 t n)]):=by
 refine An Ae4 Tryz.func18 R R lb<|zr<|XL.step R (Ap 2 (l:= [.d (dI t.count), .d (dI t.unit), .d (dI t.g0), .d (dI t.g1), .d (dI t.g2), .d (dI t.g3), .d (dI t.g4), .d (dI t.g5)]) R R (by kernel_rfl))<|za R R<|za R R<|zn<|zs<|zr<|zp (Ae (s':= .d (.agg (Me.c t))) (Ac (Ad R R Bn R lb)) (by kernel_rfl))<|XL.call1 R R (N4 _) R<|za R R<|znr<|zm R R<|?_
 refine zp (A1 R R R)<|zn<|?_
 refine zd R (fun c10=> ?_) (fun c10=> ?_)
 refine zr<|zm R R<|za R R<|za R R<|zn<|zt<|?_
 exact A6 R (RV.tmp R R) (RV.tmp R R) (r2p (Aux c10))
 refine zi<|zs<|zr<|zm R R<|zp (Au R R R)<|zm R R<|?_
 refine XL.dec 14 R (fun g14=> ?_) (fun g14=> ?_)
 refine zk 2 R<|zq R R R<|zn<|Av (by kernel_rfl) R<|zr<|za R R<|za R R<|zn<|zt<|?_
 exact A6 R (RV.tmp R R) (RV.tmp R R) (r2p (Ar6 c10 (by omega)))
 refine zm R R<|zp (Bb R R R)<|zq R R R<|zn<|?_
 refine zd R (fun c17=> ?_) (fun c17=> ?_)
 refine zr<|za R R<|za R R<|zn<|zt<|?_
 exact A6 R (RV.tmp R R) (RV.tmp R R) (r2p (Ar6 c10 (by omega)))
 refine zi<|zs<|?_
 have hM:=Ln c10
 have hl:=hM.len
 refine Ag (by kernel_rfl)<|zp (Ae (s':= .d (.agg (Me.c t))) (Ac (Ad R R Bn R lb)) (by kernel_rfl))<|XL.call1 R R (Mb _ (by assumption)) R<|zm R R<|zp (Fk R R R (by omega) (by omega))<|zp (Rp R R R)<|za R R<|za R R<|zn<|zt<|?_
 exact A6 R (RV.tmp R R) (RV.tmp R R) (r2p (Ar5 c10 (by omega)))
theorem Yw {h:Mh} (x y:D) {t:Me} {n k:Int} (hk:k=Ib t n):D.tup [.agg [dI ({h with m:=t,len:=k}:Mh).site,dI ({h with m:=t,len:=k}:Mh).num,dI ({h with m:=t,len:=k}:Mh).m.count,dI ({h with m:=t,len:=k}:Mh).m.unit,dI ({h with m:=t,len:=k}:Mh).m.g0,dI ({h with m:=t,len:=k}:Mh).m.g1,dI ({h with m:=t,len:=k}:Mh).m.g2,dI ({h with m:=t,len:=k}:Mh).m.g3,dI ({h with m:=t,len:=k}:Mh).m.g4,dI ({h with m:=t,len:=k}:Mh).m.g5,dI ({h with m:=t,len:=k}:Mh).len,dI ({h with m:=t,len:=k}:Mh).fifths,dB ({h with m:=t,len:=k}:Mh).start,dI ({h with m:=t,len:=k}:Mh).fin,dI ({h with m:=t,len:=k}:Mh).ends,dI ({h with m:=t,len:=k}:Mh).jump,dI ({h with m:=t,len:=k}:Mh).labels,dI ({h with m:=t,len:=k}:Mh).swing,dI ({h with m:=t,len:=k}:Mh).brk, .v (.string ⟨({h with m:=t,len:=k}:Mh).reh.toArray⟩),x,y],dI (mlE t k)]= .tup [.agg [dI (h.sh t n).site,dI (h.sh t n).num,dI (h.sh t n).m.count,dI (h.sh t n).m.unit,dI (h.sh t n).m.g0,dI (h.sh t n).m.g1,dI (h.sh t n).m.g2,dI (h.sh t n).m.g3,dI (h.sh t n).m.g4,dI (h.sh t n).m.g5,dI (h.sh t n).len,dI (h.sh t n).fifths,dB (h.sh t n).start,dI (h.sh t n).fin,dI (h.sh t n).ends,dI (h.sh t n).jump,dI (h.sh t n).labels,dI (h.sh t n).swing,dI (h.sh t n).brk, .v (.string ⟨(h.sh t n).reh.toArray⟩),x,y],dI (mlE t n)]:=by subst hk;rw [Uz];rfl
theorem Qr (h:Mh) (tm:List Tm) (cs:List Ce):XC Tryz.prog 15 [.agg [dI h.site,dI h.num,dI h.m.count,dI h.m.unit,dI h.m.g0,dI h.m.g1,dI h.m.g2,dI h.m.g3,dI h.m.g4,dI h.m.g5,dI h.len,dI h.fifths,dB h.start,dI h.fin,dI h.ends,dI h.jump,dI h.labels,dI h.swing,dI h.brk, .v (.string ⟨h.reh.toArray⟩), .sl 3 (tm.map Tm.c), .sl 2 (cs.map Ce.c)]] (fun r=>r= .tup [dI (mlV h.m h.len),dI (mlE h.m h.len)]):=by
 refine An S3 Tryz.func15 R R lb<|zr<|?_
 refine XL.step R (Ap 1 (l:= [.d (dI h.site), .d (dI h.num), .d (dI h.m.count), .d (dI h.m.unit), .d (dI h.m.g0), .d (dI h.m.g1), .d (dI h.m.g2), .d (dI h.m.g3), .d (dI h.m.g4), .d (dI h.m.g5), .d (dI h.len), .d (dI h.fifths), .d (dB h.start), .d (dI h.fin), .d (dI h.ends), .d (dI h.jump), .d (dI h.labels), .d (dI h.swing), .d (dI h.brk), .d (.v (.string ⟨h.reh.toArray⟩)), .d (.sl 3 (tm.map Tm.c)), .d (.sl 2 (cs.map Ce.c))]) R R (by kernel_rfl))<|?_
 refine za R R<|za R R<|znr<|zp (Aa R R G6)<|zp (Ae (s':= .d (.agg [dI h.m.count,dI h.m.unit,dI h.m.g0,dI h.m.g1,dI h.m.g2,dI h.m.g3,dI h.m.g4,dI h.m.g5])) (Ac (Ad R R Bn R lb)) (by kernel_rfl))<|XL.call1 R R (Og _) R<|zm R R<|zp (A0 R R R)<|zp (A0 R R R)<|za R R<|za R R<|zn<|zs<|Ah<|?_
 refine zr<|zm R R<|zp (A1 R R R)<|za R R<|zn<|?_
 refine zd R (fun c12=> ?_) (fun c12=> ?_)
 refine zr<|zm R R<|za R R<|za R R<|zn<|zt<|?_
 exact A6 R (RV.tmp R R) (RV.tmp R R) (r2p (Amr (by assumption)))
 refine zs<|?_
 have hM:=Ln c12
 have hl:=hM.len
 have hv:=Ahl c12
 refine Ag (by kernel_rfl)<|zp (Aa R R Gb)<|zp (Ab R R Ai R R)<|zp (Au R R R)<|za R R<|zn<|?_
 refine zd R (fun c16=> ?_) (fun c16=> ?_)
 refine zr<|za R R<|za R R<|zn<|zt<|?_
 exact A6 R (RV.tmp R R) (RV.tmp R R) (r2p (Asd (by assumption) (by assumption)))
 refine zr<|zp (Aa R R Gb)<|zp (Ab R R Ai R R)<|zp (Bb R R R)<|za R R<|zn<|?_
 refine zd R (fun c20=> ?_) (fun c20=> ?_)
 have e:=Aog (t:=h.m) c20
 refine Ag (by kernel_rfl)<|zp (Aa R R Gb)<|zp (Ab R R Ai R R)<|za R R<|zn<|zs<|Ah<|zr<|zm R R<|zp (Fu R R R (by omega) (by omega))<|zp (A1 R R R)<|za R R<|zn<|?_
 refine zd R (fun c26=> ?_) (fun c26=> ?_)
 refine zr<|za R R<|za R R<|zn<|zt<|?_
 exact A6 R (RV.tmp R R) (RV.tmp R R) (r2p (Ahj c12 c16 (by rw [e];omega)))
 refine zr<|zm R R<|zp (Bb R R R)<|za R R<|zn<|?_
 refine zd R (fun c30=> ?_) (fun c30=> ?_)
 refine zr<|za R R<|za R R<|zn<|zt<|?_
 exact A6 R (RV.tmp R R) (RV.tmp R R) (r2p (Ahi c12 c16 (by rw [e];omega) (by omega)))
 refine zi<|zr<|zm R R<|za R R<|za R R<|zn<|zt<|?_
 exact A6 R (RV.tmp R R) (RV.tmp R R) (r2p ⟨by rw [←(Qn c12 c16 (by rw [e];omega) (by omega)).1,e],(Qn c12 c16 (by rw [e];omega) (by omega)).2⟩)
 have e:=X4 (t:=h.m) (n:=h.len) c20
 refine zi<|zs<|Ah<|zr<|zm R R<|zp (Fu R R R (by omega) (by omega))<|zp (A1 R R R)<|za R R<|zn<|?_
 refine zd R (fun c26=> ?_) (fun c26=> ?_)
 refine zr<|za R R<|za R R<|zn<|zt<|?_
 exact A6 R (RV.tmp R R) (RV.tmp R R) (r2p (Ahj c12 c16 (by rw [e];omega)))
 refine zr<|zm R R<|zp (Bb R R R)<|za R R<|zn<|?_
 refine zd R (fun c30=> ?_) (fun c30=> ?_)
 refine zr<|za R R<|za R R<|zn<|zt<|?_
 exact A6 R (RV.tmp R R) (RV.tmp R R) (r2p (Ahi c12 c16 (by rw [e];omega) (by omega)))
 refine zi<|zr<|zm R R<|za R R<|za R R<|zn<|zt<|?_
 exact A6 R (RV.tmp R R) (RV.tmp R R) (r2p ⟨by rw [←(Qn c12 c16 (by rw [e];omega) (by omega)).1,e];omega,(Qn c12 c16 (by rw [e];omega) (by omega)).2⟩)
theorem N5 (h:Mh) (A B:Option Addr) (n0 c0 n1 c1:Nat):XC Tryz.prog 15 [.agg [dI h.site,dI h.num,dI h.m.count,dI h.m.unit,dI h.m.g0,dI h.m.g1,dI h.m.g2,dI h.m.g3,dI h.m.g4,dI h.m.g5,dI h.len,dI h.fifths,dB h.start,dI h.fin,dI h.ends,dI h.jump,dI h.labels,dI h.swing,dI h.brk, .v (.string ⟨h.reh.toArray⟩), .v (.slice A n0 c0), .v (.slice B n1 c1)]] (fun r=>r= .tup [dI (mlV h.m h.len),dI (mlE h.m h.len)]):=by
 refine An S3 Tryz.func15 R R lb<|zr<|?_
 refine XL.step R (Ap 1 (l:= [.d (dI h.site), .d (dI h.num), .d (dI h.m.count), .d (dI h.m.unit), .d (dI h.m.g0), .d (dI h.m.g1), .d (dI h.m.g2), .d (dI h.m.g3), .d (dI h.m.g4), .d (dI h.m.g5), .d (dI h.len), .d (dI h.fifths), .d (dB h.start), .d (dI h.fin), .d (dI h.ends), .d (dI h.jump), .d (dI h.labels), .d (dI h.swing), .d (dI h.brk), .d (.v (.string ⟨h.reh.toArray⟩)), .d (.v (.slice A n0 c0)), .d (.v (.slice B n1 c1))]) R R (by kernel_rfl))<|?_
 refine za R R<|za R R<|znr<|zp (Aa R R G6)<|zp (Ae (s':= .d (.agg [dI h.m.count,dI h.m.unit,dI h.m.g0,dI h.m.g1,dI h.m.g2,dI h.m.g3,dI h.m.g4,dI h.m.g5])) (Ac (Ad R R Bn R lb)) (by kernel_rfl))<|XL.call1 R R (Og _) R<|zm R R<|zp (A0 R R R)<|zp (A0 R R R)<|za R R<|za R R<|zn<|zs<|Ah<|?_
 refine zr<|zm R R<|zp (A1 R R R)<|za R R<|zn<|?_
 refine zd R (fun c12=> ?_) (fun c12=> ?_)
 refine zr<|zm R R<|za R R<|za R R<|zn<|zt<|?_
 exact A6 R (RV.tmp R R) (RV.tmp R R) (r2p (Amr (by assumption)))
 refine zs<|?_
 have hM:=Ln c12
 have hl:=hM.len
 have hv:=Ahl c12
 refine Ag (by kernel_rfl)<|zp (Aa R R Gb)<|zp (Ab R R Ai R R)<|zp (Au R R R)<|za R R<|zn<|?_
 refine zd R (fun c16=> ?_) (fun c16=> ?_)
 refine zr<|za R R<|za R R<|zn<|zt<|?_
 exact A6 R (RV.tmp R R) (RV.tmp R R) (r2p (Asd (by assumption) (by assumption)))
 refine zr<|zp (Aa R R Gb)<|zp (Ab R R Ai R R)<|zp (Bb R R R)<|za R R<|zn<|?_
 refine zd R (fun c20=> ?_) (fun c20=> ?_)
 have e:=Aog (t:=h.m) c20
 refine Ag (by kernel_rfl)<|zp (Aa R R Gb)<|zp (Ab R R Ai R R)<|za R R<|zn<|zs<|Ah<|zr<|zm R R<|zp (Fu R R R (by omega) (by omega))<|zp (A1 R R R)<|za R R<|zn<|?_
 refine zd R (fun c26=> ?_) (fun c26=> ?_)
 refine zr<|za R R<|za R R<|zn<|zt<|?_
 exact A6 R (RV.tmp R R) (RV.tmp R R) (r2p (Ahj c12 c16 (by rw [e];omega)))
 refine zr<|zm R R<|zp (Bb R R R)<|za R R<|zn<|?_
 refine zd R (fun c30=> ?_) (fun c30=> ?_)
 refine zr<|za R R<|za R R<|zn<|zt<|?_
 exact A6 R (RV.tmp R R) (RV.tmp R R) (r2p (Ahi c12 c16 (by rw [e];omega) (by omega)))
 refine zi<|zr<|zm R R<|za R R<|za R R<|zn<|zt<|?_
 exact A6 R (RV.tmp R R) (RV.tmp R R) (r2p ⟨by rw [←(Qn c12 c16 (by rw [e];omega) (by omega)).1,e],(Qn c12 c16 (by rw [e];omega) (by omega)).2⟩)
 have e:=X4 (t:=h.m) (n:=h.len) c20
 refine zi<|zs<|Ah<|zr<|zm R R<|zp (Fu R R R (by omega) (by omega))<|zp (A1 R R R)<|za R R<|zn<|?_
 refine zd R (fun c26=> ?_) (fun c26=> ?_)
 refine zr<|za R R<|za R R<|zn<|zt<|?_
 exact A6 R (RV.tmp R R) (RV.tmp R R) (r2p (Ahj c12 c16 (by rw [e];omega)))
 refine zr<|zm R R<|zp (Bb R R R)<|za R R<|zn<|?_
 refine zd R (fun c30=> ?_) (fun c30=> ?_)
 refine zr<|za R R<|za R R<|zn<|zt<|?_
 exact A6 R (RV.tmp R R) (RV.tmp R R) (r2p (Ahi c12 c16 (by rw [e];omega) (by omega)))
 refine zi<|zr<|zm R R<|za R R<|za R R<|zn<|zt<|?_
 exact A6 R (RV.tmp R R) (RV.tmp R R) (r2p ⟨by rw [←(Qn c12 c16 (by rw [e];omega) (by omega)).1,e];omega,(Qn c12 c16 (by rw [e];omega) (by omega)).2⟩)
theorem Amv (h:Mh) (tm:List Tm) (cs:List Ce):XC Tryz.prog 16 [.agg [dI h.site,dI h.num,dI h.m.count,dI h.m.unit,dI h.m.g0,dI h.m.g1,dI h.m.g2,dI h.m.g3,dI h.m.g4,dI h.m.g5,dI h.len,dI h.fifths,dB h.start,dI h.fin,dI h.ends,dI h.jump,dI h.labels,dI h.swing,dI h.brk, .v (.string ⟨h.reh.toArray⟩), .sl 3 (tm.map Tm.c), .sl 2 (cs.map Ce.c)]] (fun r=>r= .tup [.agg (Pl.c (plS h.m h.len)),dI (mlE h.m h.len)]):=by
 refine An S2 Tryz.func16 R R lb<|zr<|?_
 refine XL.step R (Ap 1 (l:= [.d (dI h.site), .d (dI h.num), .d (dI h.m.count), .d (dI h.m.unit), .d (dI h.m.g0), .d (dI h.m.g1), .d (dI h.m.g2), .d (dI h.m.g3), .d (dI h.m.g4), .d (dI h.m.g5), .d (dI h.len), .d (dI h.fifths), .d (dB h.start), .d (dI h.fin), .d (dI h.ends), .d (dI h.jump), .d (dI h.labels), .d (dI h.swing), .d (dI h.brk), .d (.v (.string ⟨h.reh.toArray⟩)), .d (.sl 3 (tm.map Tm.c)), .d (.sl 2 (cs.map Ce.c))]) R R (by kernel_rfl))<|?_
 refine XL.step R (Aq 2 (l:= [.d (dI 0), .d (dI 0), .d (dI 0), .d (dI 0), .d (dI 0), .d (dI 0), .d (dI 0), .d (dI 0), .d (dI 0), .d (dI 0)]) R H5 (by kernel_rfl))<|za R R<|znr<|?_
 refine zp (Ae (s':= .d (.agg [dI h.site,dI h.num,dI h.m.count,dI h.m.unit,dI h.m.g0,dI h.m.g1,dI h.m.g2,dI h.m.g3,dI h.m.g4,dI h.m.g5,dI h.len,dI h.fifths,dB h.start,dI h.fin,dI h.ends,dI h.jump,dI h.labels,dI h.swing,dI h.brk, .v (.string ⟨h.reh.toArray⟩), .sl 3 (tm.map Tm.c), .sl 2 (cs.map Ce.c)])) (Ac (Ad R R Bj R lb)) (by kernel_rfl))<|?_
 refine XL.call1 R R (Qr h tm cs) R<|zm R R<|zp (A0 R R R)<|zp (A0 R R R)<|za R R<|za R R<|zn<|zs<|zr<|zm R R<|zp (A1 R R R)<|zn<|?_
 refine zd R (fun c13=> ?_) (fun c13=> ?_)
 refine zr<|zp (Ae (s':= .d (.agg [dI 0,dI 0,dI 0,dI 0,dI 0,dI 0,dI 0,dI 0,dI 0,dI 0])) (Ac (A4 R Ov H5 R)) (by kernel_rfl))<|zm R R<|XL.step R (Af (l':= [.d (dI 0), .d (dI 0), .d (dI 0), .d (dI 0), .d (dI 0), .d (dI 0), .d (dI 0), .d (dI 0), .d (dI 0), .d (dI 0)]) R R R R Nv R lb (by kernel_rfl))<|za R R<|zn<|zt<|?_
 exact A6 R (RV.cells R R R Gx lb R) (RV.tmp R R) (by rw [Ary c13];rfl)
 refine zi<|zs<|?_
 have ho:=Ajp c13
 refine Ag (by kernel_rfl)<|zp (Aa R R G6)<|zp (Ae (s':= .d (.agg [dI h.m.count,dI h.m.unit,dI h.m.g0,dI h.m.g1,dI h.m.g2,dI h.m.g3,dI h.m.g4,dI h.m.g5])) (Ac (Ad R R Bn R lb)) (by kernel_rfl))<|zm R R<|XL.call1 R R (Wt _ _) R<|zm R R<|zp (A0 R R R)<|zp (A0 R R R)<|za R R<|za R R<|zn<|zs<|zr<|zm R R<|?_
 refine zp (A1 R R R)<|zn<|?_
 refine zd R (fun c24=> ?_) (fun c24=> ?_)
 refine zr<|zp (Ae (s':= .d (.agg [dI 0,dI 0,dI 0,dI 0,dI 0,dI 0,dI 0,dI 0,dI 0,dI 0])) (Ac (A4 R Ov H5 R)) (by kernel_rfl))<|zm R R<|XL.step R (Af (l':= [.d (dI 0), .d (dI 0), .d (dI 0), .d (dI 0), .d (dI 0), .d (dI 0), .d (dI 0), .d (dI 0), .d (dI 0), .d (dI 0)]) R R R R Nv R lb (by kernel_rfl))<|za R R<|zn<|zt<|?_
 exact A6 R (RV.cells R R R Gx lb R) (RV.tmp R R) (by exfalso;omega)
 refine zi<|zr<|zp (Aa R R G6)<|zp (Ae (s':= .d (.agg [dI h.m.count,dI h.m.unit,dI h.m.g0,dI h.m.g1,dI h.m.g2,dI h.m.g3,dI h.m.g4,dI h.m.g5])) (Ac (Ad R R Bn R lb)) (by kernel_rfl))<|zm R R<|zm R R<|?_
 refine zp (Ae (s':= .d (.agg [dI h.m.count,dI h.m.unit,dI h.m.g0,dI h.m.g1,dI h.m.g2,dI h.m.g3,dI h.m.g4,dI h.m.g5,_,dI (mlV h.m h.len)])) (Ac (A4 R Ov H5 R)) R)<|?_
 refine XL.step R (Af (l':= [.d (dI h.m.count), .d (dI h.m.unit), .d (dI h.m.g0), .d (dI h.m.g1), .d (dI h.m.g2), .d (dI h.m.g3), .d (dI h.m.g4), .d (dI h.m.g5),_, .d (dI (mlV h.m h.len))]) R R R R Nv R lb R)<|za R R<|zn<|zt<|?_
 exact A6 R (RV.cells R R R Gx lb R) (RV.tmp R R) (by rw [Ama c13, ←ho.2];exact r2 rfl (rI (by omega)))
theorem Amu (h:Mh) (A B:Option Addr) (n0 c0 n1 c1:Nat):XC Tryz.prog 16 [.agg [dI h.site,dI h.num,dI h.m.count,dI h.m.unit,dI h.m.g0,dI h.m.g1,dI h.m.g2,dI h.m.g3,dI h.m.g4,dI h.m.g5,dI h.len,dI h.fifths,dB h.start,dI h.fin,dI h.ends,dI h.jump,dI h.labels,dI h.swing,dI h.brk, .v (.string ⟨h.reh.toArray⟩), .v (.slice A n0 c0), .v (.slice B n1 c1)]] (fun r=>r= .tup [.agg (Pl.c (plS h.m h.len)),dI (mlE h.m h.len)]):=by
 refine An S2 Tryz.func16 R R lb<|zr<|?_
 refine XL.step R (Ap 1 (l:= [.d (dI h.site), .d (dI h.num), .d (dI h.m.count), .d (dI h.m.unit), .d (dI h.m.g0), .d (dI h.m.g1), .d (dI h.m.g2), .d (dI h.m.g3), .d (dI h.m.g4), .d (dI h.m.g5), .d (dI h.len), .d (dI h.fifths), .d (dB h.start), .d (dI h.fin), .d (dI h.ends), .d (dI h.jump), .d (dI h.labels), .d (dI h.swing), .d (dI h.brk), .d (.v (.string ⟨h.reh.toArray⟩)), .d (.v (.slice A n0 c0)), .d (.v (.slice B n1 c1))]) R R (by kernel_rfl))<|?_
 refine XL.step R (Aq 2 (l:= [.d (dI 0), .d (dI 0), .d (dI 0), .d (dI 0), .d (dI 0), .d (dI 0), .d (dI 0), .d (dI 0), .d (dI 0), .d (dI 0)]) R H5 (by kernel_rfl))<|za R R<|znr<|?_
 refine zp (Ae (s':= .d (.agg [dI h.site,dI h.num,dI h.m.count,dI h.m.unit,dI h.m.g0,dI h.m.g1,dI h.m.g2,dI h.m.g3,dI h.m.g4,dI h.m.g5,dI h.len,dI h.fifths,dB h.start,dI h.fin,dI h.ends,dI h.jump,dI h.labels,dI h.swing,dI h.brk, .v (.string ⟨h.reh.toArray⟩), .v (.slice A n0 c0), .v (.slice B n1 c1)])) (Ac (Ad R R Bj R lb)) (by kernel_rfl))<|?_
 refine XL.call1 R R (N5 h A B n0 c0 n1 c1) R<|zm R R<|zp (A0 R R R)<|zp (A0 R R R)<|za R R<|za R R<|zn<|zs<|zr<|zm R R<|zp (A1 R R R)<|zn<|?_
 refine zd R (fun c13=> ?_) (fun c13=> ?_)
 refine zr<|zp (Ae (s':= .d (.agg [dI 0,dI 0,dI 0,dI 0,dI 0,dI 0,dI 0,dI 0,dI 0,dI 0])) (Ac (A4 R Ov H5 R)) (by kernel_rfl))<|zm R R<|XL.step R (Af (l':= [.d (dI 0), .d (dI 0), .d (dI 0), .d (dI 0), .d (dI 0), .d (dI 0), .d (dI 0), .d (dI 0), .d (dI 0), .d (dI 0)]) R R R R Nv R lb (by kernel_rfl))<|za R R<|zn<|zt<|?_
 exact A6 R (RV.cells R R R Gx lb R) (RV.tmp R R) (by rw [Ary c13];rfl)
 refine zi<|zs<|?_
 have ho:=Ajp c13
 refine Ag (by kernel_rfl)<|zp (Aa R R G6)<|zp (Ae (s':= .d (.agg [dI h.m.count,dI h.m.unit,dI h.m.g0,dI h.m.g1,dI h.m.g2,dI h.m.g3,dI h.m.g4,dI h.m.g5])) (Ac (Ad R R Bn R lb)) (by kernel_rfl))<|zm R R<|XL.call1 R R (Wt _ _) R<|zm R R<|zp (A0 R R R)<|zp (A0 R R R)<|za R R<|za R R<|zn<|zs<|zr<|zm R R<|?_
 refine zp (A1 R R R)<|zn<|?_
 refine zd R (fun c24=> ?_) (fun c24=> ?_)
 refine zr<|zp (Ae (s':= .d (.agg [dI 0,dI 0,dI 0,dI 0,dI 0,dI 0,dI 0,dI 0,dI 0,dI 0])) (Ac (A4 R Ov H5 R)) (by kernel_rfl))<|zm R R<|XL.step R (Af (l':= [.d (dI 0), .d (dI 0), .d (dI 0), .d (dI 0), .d (dI 0), .d (dI 0), .d (dI 0), .d (dI 0), .d (dI 0), .d (dI 0)]) R R R R Nv R lb (by kernel_rfl))<|za R R<|zn<|zt<|?_
 exact A6 R (RV.cells R R R Gx lb R) (RV.tmp R R) (by exfalso;omega)
 refine zi<|zr<|zp (Aa R R G6)<|zp (Ae (s':= .d (.agg [dI h.m.count,dI h.m.unit,dI h.m.g0,dI h.m.g1,dI h.m.g2,dI h.m.g3,dI h.m.g4,dI h.m.g5])) (Ac (Ad R R Bn R lb)) (by kernel_rfl))<|zm R R<|zm R R<|?_
 refine zp (Ae (s':= .d (.agg [dI h.m.count,dI h.m.unit,dI h.m.g0,dI h.m.g1,dI h.m.g2,dI h.m.g3,dI h.m.g4,dI h.m.g5,_,dI (mlV h.m h.len)])) (Ac (A4 R Ov H5 R)) R)<|?_
 refine XL.step R (Af (l':= [.d (dI h.m.count), .d (dI h.m.unit), .d (dI h.m.g0), .d (dI h.m.g1), .d (dI h.m.g2), .d (dI h.m.g3), .d (dI h.m.g4), .d (dI h.m.g5),_, .d (dI (mlV h.m h.len))]) R R R R Nv R lb R)<|za R R<|zn<|zt<|?_
 exact A6 R (RV.cells R R R Gx lb R) (RV.tmp R R) (by rw [Ama c13, ←ho.2];exact r2 rfl (rI (by omega)))
theorem Al1 (h:Mh) (A B:Option Addr) (n0 c0 n1 c1:Nat) (t:Me) (n:Int):XC Tryz.prog 62 [.agg [dI h.site,dI h.num,dI h.m.count,dI h.m.unit,dI h.m.g0,dI h.m.g1,dI h.m.g2,dI h.m.g3,dI h.m.g4,dI h.m.g5,dI h.len,dI h.fifths,dB h.start,dI h.fin,dI h.ends,dI h.jump,dI h.labels,dI h.swing,dI h.brk, .v (.string ⟨h.reh.toArray⟩), .v (.slice A n0 c0), .v (.slice B n1 c1)], .agg (Me.c t), .v (.int .i64 n)] (fun r=>r= .tup [.agg [dI (h.sh t n).site,dI (h.sh t n).num,dI (h.sh t n).m.count,dI (h.sh t n).m.unit,dI (h.sh t n).m.g0,dI (h.sh t n).m.g1,dI (h.sh t n).m.g2,dI (h.sh t n).m.g3,dI (h.sh t n).m.g4,dI (h.sh t n).m.g5,dI (h.sh t n).len,dI (h.sh t n).fifths,dB (h.sh t n).start,dI (h.sh t n).fin,dI (h.sh t n).ends,dI (h.sh t n).jump,dI (h.sh t n).labels,dI (h.sh t n).swing,dI (h.sh t n).brk, .v (.string ⟨(h.sh t n).reh.toArray⟩), .v (.slice A n0 c0), .v (.slice B n1 c1)],dI (mlE t n)]):=by
 refine An Aej Tryz.func62 R R lb<|zr<|?_
 refine XL.step R (Ap 3 (l:= [.d (dI h.site), .d (dI h.num), .d (dI h.m.count), .d (dI h.m.unit), .d (dI h.m.g0), .d (dI h.m.g1), .d (dI h.m.g2), .d (dI h.m.g3), .d (dI h.m.g4), .d (dI h.m.g5), .d (dI h.len), .d (dI h.fifths), .d (dB h.start), .d (dI h.fin), .d (dI h.ends), .d (dI h.jump), .d (dI h.labels), .d (dI h.swing), .d (dI h.brk), .d (.v (.string ⟨h.reh.toArray⟩)), .d (.v (.slice A n0 c0)), .d (.v (.slice B n1 c1))]) R R (by kernel_rfl))<|?_
 refine XL.step R (Ap 4 (l:= [.d (dI t.count), .d (dI t.unit), .d (dI t.g0), .d (dI t.g1), .d (dI t.g2), .d (dI t.g3), .d (dI t.g4), .d (dI t.g5)]) R R (by kernel_rfl))<|?_
 refine XL.step R (Aq 6 (l:= [.d (dI 0), .d (dI 0), .d (dI 0), .d (dI 0), .d (dI 0), .d (dI 0), .d (dI 0), .d (dI 0), .d (dI 0), .d (dI 0), .d (dI 0), .d (dI 0), .d (dB false), .d (dI 0), .d (dI 0), .d (dI 0), .d (dI 0), .d (dI 0), .d (dI 0), .d (.v (.string ⟨#[]⟩)), .d (.v (.slice none 0 0)), .d (.v (.slice none 0 0))]) R E6 (by kernel_rfl))<|za R R<|znr<|?_
 refine zp (Ae (s':= .d (.agg (Me.c t))) (Ac (Ad R R Bn R lb)) (by kernel_rfl))<|zm R R<|zp (Aa R R G6)<|?_
 refine XL.step R (Af (l':= [.d (dI h.site), .d (dI h.num), .d (dI t.count), .d (dI t.unit), .d (dI t.g0), .d (dI t.g1), .d (dI t.g2), .d (dI t.g3), .d (dI t.g4), .d (dI t.g5), .d (dI h.len), .d (dI h.fifths), .d (dB h.start), .d (dI h.fin), .d (dI h.ends), .d (dI h.jump), .d (dI h.labels), .d (dI h.swing), .d (dI h.brk), .d (.v (.string ⟨h.reh.toArray⟩)), .d (.v (.slice A n0 c0)), .d (.v (.slice B n1 c1))]) R R R R Ati R lb (by kernel_rfl))<|?_
 refine zp (Aa R R Gb)<|?_
 refine XL.step R (Af (l':= [.d (dI h.site), .d (dI h.num), .d (dI t.count), .d (dI t.unit), .d (dI t.g0), .d (dI t.g1), .d (dI t.g2), .d (dI t.g3), .d (dI t.g4), .d (dI t.g5), .d (dI n), .d (dI h.fifths), .d (dB h.start), .d (dI h.fin), .d (dI h.ends), .d (dI h.jump), .d (dI h.labels), .d (dI h.swing), .d (dI h.brk), .d (.v (.string ⟨h.reh.toArray⟩)), .d (.v (.slice A n0 c0)), .d (.v (.slice B n1 c1))]) R R R R Ey R lb (by kernel_rfl))<|?_
 refine zn<|zs<|zr<|zp (Ae (s':= .d (.agg (Me.c t))) (Ac (Ad R R Bn R lb)) (by kernel_rfl))<|XL.call1 R R (Og _) R<|zm R R<|zp (A0 R R R)<|zp (A0 R R R)<|za R R<|za R R<|znr<|zm R R<|zp (Bi R R R)<|zm R R<|?_
 refine XL.dec 23 R (fun g23=> ?_) (fun g23=> ?_)
 refine zm R R<|zm R R<|zp (Bi R R R)<|zq R R R<|zn<|?_
 refine zd R (fun c27=> ?_) (fun c27=> ?_)
 refine Ag (by kernel_rfl)<|zp (Aa R R Gb)<|?_
 refine XL.step R (Af (l':= [.d (dI h.site), .d (dI h.num), .d (dI t.count), .d (dI t.unit), .d (dI t.g0), .d (dI t.g1), .d (dI t.g2), .d (dI t.g3), .d (dI t.g4), .d (dI t.g5), .d (dI 0), .d (dI h.fifths), .d (dB h.start), .d (dI h.fin), .d (dI h.ends), .d (dI h.jump), .d (dI h.labels), .d (dI h.swing), .d (dI h.brk), .d (.v (.string ⟨h.reh.toArray⟩)), .d (.v (.slice A n0 c0)), .d (.v (.slice B n1 c1))]) R R R R Ey R lb (by kernel_rfl))<|?_
 refine znr<|zp (Ae (s':= .d (.agg [dI h.site,dI h.num,dI t.count,dI t.unit,dI t.g0,dI t.g1,dI t.g2,dI t.g3,dI t.g4,dI t.g5,dI 0,dI h.fifths,dB h.start,dI h.fin,dI h.ends,dI h.jump,dI h.labels,dI h.swing,dI h.brk, .v (.string ⟨h.reh.toArray⟩), .v (.slice A n0 c0), .v (.slice B n1 c1)])) (Ac (Ad R R Bj R lb)) (by kernel_rfl))<|?_
 refine XL.call1 R R (N5 (⟨h.site,h.num,t,0,h.fifths,h.start,h.fin,h.ends,h.jump,h.labels,h.swing,h.brk,h.reh⟩:Mh) A B n0 c0 n1 c1) R<|zm R R<|zp (A0 R R R)<|zp (A0 R R R)<|za R R<|za R R<|znr<|?_
 refine zp (Ae (s':= .d (.agg [dI h.site,dI h.num,dI t.count,dI t.unit,dI t.g0,dI t.g1,dI t.g2,dI t.g3,dI t.g4,dI t.g5,dI 0,dI h.fifths,dB h.start,dI h.fin,dI h.ends,dI h.jump,dI h.labels,dI h.swing,dI h.brk, .v (.string ⟨h.reh.toArray⟩), .v (.slice A n0 c0), .v (.slice B n1 c1)])) (Ac (Ad R R Bj R lb)) (by kernel_rfl))<|zm R R<|?_
 refine XL.step R (Af (l':= [.d (dI h.site), .d (dI h.num), .d (dI t.count), .d (dI t.unit), .d (dI t.g0), .d (dI t.g1), .d (dI t.g2), .d (dI t.g3), .d (dI t.g4), .d (dI t.g5), .d (dI 0), .d (dI h.fifths), .d (dB h.start), .d (dI h.fin), .d (dI h.ends), .d (dI h.jump), .d (dI h.labels), .d (dI h.swing), .d (dI h.brk), .d (.v (.string ⟨h.reh.toArray⟩)), .d (.v (.slice A n0 c0)), .d (.v (.slice B n1 c1))]) R R R R E9 R lb (by kernel_rfl))<|?_
 refine za R R<|zn<|zt<|?_
 exact A6 R (RV.cells R R R Bj lb R) (RV.tmp R R) (Yw _ _ (Aur g23 c27))
 refine zi<|zr<|zp (Ae (s':= .d (.agg [dI h.site,dI h.num,dI t.count,dI t.unit,dI t.g0,dI t.g1,dI t.g2,dI t.g3,dI t.g4,dI t.g5,dI n,dI h.fifths,dB h.start,dI h.fin,dI h.ends,dI h.jump,dI h.labels,dI h.swing,dI h.brk, .v (.string ⟨h.reh.toArray⟩), .v (.slice A n0 c0), .v (.slice B n1 c1)])) (Ac (Ad R R Bj R lb)) (by kernel_rfl))<|?_
 refine XL.call1 R R (N5 (⟨h.site,h.num,t,n,h.fifths,h.start,h.fin,h.ends,h.jump,h.labels,h.swing,h.brk,h.reh⟩:Mh) A B n0 c0 n1 c1) R<|zm R R<|zp (A0 R R R)<|zp (A0 R R R)<|za R R<|za R R<|znr<|?_
 refine zp (Ae (s':= .d (.agg [dI h.site,dI h.num,dI t.count,dI t.unit,dI t.g0,dI t.g1,dI t.g2,dI t.g3,dI t.g4,dI t.g5,dI n,dI h.fifths,dB h.start,dI h.fin,dI h.ends,dI h.jump,dI h.labels,dI h.swing,dI h.brk, .v (.string ⟨h.reh.toArray⟩), .v (.slice A n0 c0), .v (.slice B n1 c1)])) (Ac (Ad R R Bj R lb)) (by kernel_rfl))<|zm R R<|?_
 refine XL.step R (Af (l':= [.d (dI h.site), .d (dI h.num), .d (dI t.count), .d (dI t.unit), .d (dI t.g0), .d (dI t.g1), .d (dI t.g2), .d (dI t.g3), .d (dI t.g4), .d (dI t.g5), .d (dI n), .d (dI h.fifths), .d (dB h.start), .d (dI h.fin), .d (dI h.ends), .d (dI h.jump), .d (dI h.labels), .d (dI h.swing), .d (dI h.brk), .d (.v (.string ⟨h.reh.toArray⟩)), .d (.v (.slice A n0 c0)), .d (.v (.slice B n1 c1))]) R R R R E9 R lb (by kernel_rfl))<|?_
 refine za R R<|zn<|zt<|?_
 exact A6 R (RV.cells R R R Bj lb R) (RV.tmp R R) (Yw _ _ (Aup g23 c27))
 refine zk 3 R<|zq R R R<|zn<|A8 (by kernel_rfl) R<|zi<|zr<|?_
 refine zp (Ae (s':= .d (.agg [dI h.site,dI h.num,dI t.count,dI t.unit,dI t.g0,dI t.g1,dI t.g2,dI t.g3,dI t.g4,dI t.g5,dI n,dI h.fifths,dB h.start,dI h.fin,dI h.ends,dI h.jump,dI h.labels,dI h.swing,dI h.brk, .v (.string ⟨h.reh.toArray⟩), .v (.slice A n0 c0), .v (.slice B n1 c1)])) (Ac (Ad R R Bj R lb)) (by kernel_rfl))<|?_
 refine XL.call1 R R (N5 (⟨h.site,h.num,t,n,h.fifths,h.start,h.fin,h.ends,h.jump,h.labels,h.swing,h.brk,h.reh⟩:Mh) A B n0 c0 n1 c1) R<|zm R R<|zp (A0 R R R)<|zp (A0 R R R)<|za R R<|za R R<|znr<|?_
 refine zp (Ae (s':= .d (.agg [dI h.site,dI h.num,dI t.count,dI t.unit,dI t.g0,dI t.g1,dI t.g2,dI t.g3,dI t.g4,dI t.g5,dI n,dI h.fifths,dB h.start,dI h.fin,dI h.ends,dI h.jump,dI h.labels,dI h.swing,dI h.brk, .v (.string ⟨h.reh.toArray⟩), .v (.slice A n0 c0), .v (.slice B n1 c1)])) (Ac (Ad R R Bj R lb)) (by kernel_rfl))<|zm R R<|?_
 refine XL.step R (Af (l':= [.d (dI h.site), .d (dI h.num), .d (dI t.count), .d (dI t.unit), .d (dI t.g0), .d (dI t.g1), .d (dI t.g2), .d (dI t.g3), .d (dI t.g4), .d (dI t.g5), .d (dI n), .d (dI h.fifths), .d (dB h.start), .d (dI h.fin), .d (dI h.ends), .d (dI h.jump), .d (dI h.labels), .d (dI h.swing), .d (dI h.brk), .d (.v (.string ⟨h.reh.toArray⟩)), .d (.v (.slice A n0 c0)), .d (.v (.slice B n1 c1))]) R R R R E9 R lb (by kernel_rfl))<|?_
 refine za R R<|zn<|zt<|?_
 exact A6 R (RV.cells R R R Bj lb R) (RV.tmp R R) (Yw _ _ (Auq g23))
end Go.Proofs.YtaafemnkamfgnaaGreat
namespace Go.Proofs.YtaafemnkamfgnaaGreat
open Go.RowKit
def Ms.evs (m:Ms):Prop:=∀c∈m.cells,∀v∈c.voices,Evs v.evs
theorem Auf (v:Vo) (p:Pl) (a b:Int):(Eq v p a b).2=(Gi v p a b).2.2.2:=by
 obtain ⟨d,f,l,e,h,_⟩:=Tg v p a b
 by_cases he:e≠0
 ·rw [As6 h he,h]
 ·rw [Anx h he,h];show (0:Int)=e;omega
theorem Aal {v:Vo} {p:Pl} {a b:Int} (h:(Eq v p a b).2=0) (hF:v.fit):Evs (Eq v p a b).1.evs∧(Eq v p a b).1.fit:=by
 obtain ⟨d,f,l,e,hreg,hok⟩:=Tg v p a b
 have he:e=0:=by rw [Auf,hreg] at h;exact h
 have hO:=hok he
 rw [Anx hreg (show ¬e≠0 by omega)]
 obtain ⟨_,_,hck⟩:=He hO.chk
 have hE:=(R2 hck).2
 exact ⟨fun x hx=>hE x (List.mem_of_mem_take (List.mem_of_mem_drop hx)),Aam (hO.fit hF)⟩
theorem Ai8 {m:Me} {a b:Int} {e:Ev} (h:e∈Ij m a b):e.art=0:=by
 obtain ⟨i,hi⟩:=List.getElem?_of_mem h
 rw [Ij,By,List.getElem?_mapIdx] at hi
 cases hv:(m.split a b)[i]? with
 |none=>rw [hv] at hi;cases hi
 |some v=>
  rw [hv] at hi;cases hi
  unfold Fo
  split<;>rfl
theorem Wj (m:Me) (a b:Int):Evs (Ij m a b):=fun e he=>by rw [Ai8 he];decide
theorem Wi (m:Me) (a b:Int):(Ij m a b).length≤2049:=by rw [Ij,Hv];exact Ny m a b
theorem Af6 {a b:List Ev} (h:Evs a) (h':Evs b):Evs (a++b):=fun e he=>(List.mem_append.1 he).elim (h e) (h' e)
def Vo.same (v:Vo) (old p:Pl):Prop:=v.evs.length=0∨old.len=p.len∨(v.evs.length=1∧v.whole)
instance (v:Vo) (old p:Pl):Decidable (v.same old p):=by unfold Vo.same;exact inferInstance
def L7 (v:Vo) (old p:Pl):Vo:=⟨v.evs++Ij p.m (p.off+old.len) (p.off+p.len),v.tups⟩
def Ek (v:Vo) (old p:Pl):Vo × Int:=
 if v.same old p then (v,0) else if p.len<old.len then
  (if (Eq v old 0 p.len).2≠0 then (⟨[], []⟩,(Eq v old 0 p.len).2) else ((Eq v old 0 p.len).1,ckE (Eq v old 0 p.len).1 p.len))
 else if p.m.splitE (p.off+old.len) (p.off+p.len)≠0 then (⟨[], []⟩,p.m.splitE (p.off+old.len) (p.off+p.len)) else (L7 v old p,ckE (L7 v old p) p.len)
theorem Anb {v:Vo} {old p:Pl} (h:v.same old p):Ek v old p=(v,0):=by rw [Ek,if_pos h]
theorem Asu {v:Vo} {old p:Pl} (h:¬v.same old p) (h2:p.len<old.len) (h3:(Eq v old 0 p.len).2≠0):Ek v old p=(⟨[], []⟩,(Eq v old 0 p.len).2):=by rw [Ek,if_neg h,if_pos h2,if_pos h3]
theorem Ast {v:Vo} {old p:Pl} (h:¬v.same old p) (h2:p.len<old.len) (h3:¬(Eq v old 0 p.len).2≠0):Ek v old p=((Eq v old 0 p.len).1,ckE (Eq v old 0 p.len).1 p.len):=by rw [Ek,if_neg h,if_pos h2,if_neg h3]
theorem Ass {v:Vo} {old p:Pl} (h:¬v.same old p) (h2:¬p.len<old.len) (h3:p.m.splitE (p.off+old.len) (p.off+p.len)≠0):Ek v old p=(⟨[], []⟩,p.m.splitE (p.off+old.len) (p.off+p.len)):=by rw [Ek,if_neg h,if_neg h2,if_pos h3]
theorem Asr {v:Vo} {old p:Pl} (h:¬v.same old p) (h2:¬p.len<old.len) (h3:¬p.m.splitE (p.off+old.len) (p.off+p.len)≠0):Ek v old p=(L7 v old p,ckE (L7 v old p) p.len):=by rw [Ek,if_neg h,if_neg h2,if_neg h3]
theorem Ng {q:Vo × Int} {v:Vo} {e:Int} (h:q=(v,e)):D.tup [.agg (Vo.c v),dI e]= .tup [.agg (Vo.c q.1),dI q.2]:=by rw [h]
theorem Ag7 (v:Vo):XC Tryz.prog 56 [.agg (Vo.c v)] (fun r=>r=dB (decide (0<(v.evs.length:Int)))):=by
 exact An S1 Tryz.func56 R R lb<|zr<|XL.step R (Ap 1 (l:= [.d (.sl 13 (v.evs.map Ev.c)), .d (.sl 4 (v.tups.map Tp.c))]) R R (by kernel_rfl))<|za R R<|znr<|zp (Aa R R Bo)<|zp (Ab R R Cz R R)<|XL.len R R R Tryz.underlying79 fun hl5=>zp (Bb R R R)<|za R R<|zn<|zt<|z1 R R (R)
theorem Af2 (x:Cf) (p:Pl):XC Tryz.prog 65 [.agg (Cf.c x), .pt (Pl.c p)] (fun r=>r=dB (decide (p.len≤x.tk))):=by
 exact An Aeg Tryz.func65 R R lb<|zr<|XL.step R (Ap 2 (l:= [.d (dI x.tk), .d (dI x.clef)]) R R (by kernel_rfl))<|za R R<|znr<|zp (Aa R R Anf)<|zp (Ab R R Ai R R)<|zp (Gz R R Cx)<|zp (Bg R R Ai)<|zp (Gg R R R)<|za R R<|zn<|zt<|z1 R R (R)
theorem Af1 (x:Tm) (p:Pl):XC Tryz.prog 67 [.agg (Tm.c x), .pt (Pl.c p)] (fun r=>r=dB (decide (p.len≤x.tk))):=by
 exact An Aee Tryz.func67 R R lb<|zr<|XL.step R (Ap 2 (l:= [.d (dI x.tk), .d (dI x.micros), .d (dB x.ramp)]) R R (by kernel_rfl))<|za R R<|znr<|zp (Aa R R Akn)<|zp (Ab R R Ai R R)<|zp (Gz R R Cx)<|zp (Bg R R Ai)<|zp (Gg R R R)<|za R R<|zn<|zt<|z1 R R (R)
end Go.Proofs.YtaafemnkamfgnaaGreat
namespace Go.Proofs.YtaafemnkamfgnaaGreat
open Go.RowKit
theorem Oh {α β:Type} {f:Nat→α→β} {l:List α} {k:Nat} {x:α} (h:l[k]? =some x):(l.take (k+1)).mapIdx f=(l.take k).mapIdx f++ [f k x]:=by
 have hk:=(List.getElem?_eq_some_iff.1 h).1
 rw [B3 h,List.mapIdx_append,List.length_take,Nat.min_eq_left (by omega)]
 simp
def Pc (i k:Nat) (L:Int) (on:List Int) (n:Nat) (a:Int):Slt:=⟨i,k,n,a,match on[n+1]? with|some b=>b|none=>L⟩
def Ark (i k:Nat) (L:Int) (on:List Int):List Slt:=on.mapIdx (Pc i k L on)
def vSl (i:Nat) (L:Int) (k:Nat) (v:Vo):List Slt:=if v.evs.length=0 then [] else Ark i k L (Ba (ckL v L))
def O7 (i:Nat) (L:Int) (l:List Vo):List Slt:=(l.mapIdx (vSl i L)).flatten
def cSl (L:Int) (i:Nat) (c:Ce):List Slt:=O7 i L c.voices
def Om (L:Int) (l:List Ce):List Slt:=(l.mapIdx (cSl L)).flatten
def vE (L:Int) (v:Vo):Int:=if v.evs.length=0 then 0 else ckE v L
def vsE (L:Int):List Vo→Int
 | []=>0
 |v::l=>if vE L v≠0 then vE L v else vsE L l
def csE (L:Int):List Ce→Int
 | []=>0
 |c::l=>if vsE L c.voices≠0 then vsE L c.voices else csE L l
def slE (m:Ms):Int:=if mlE m.h.m m.h.len≠0 then mlE m.h.m m.h.len else csE (mlV m.h.m m.h.len) m.cells
def slL (m:Ms):List Slt:=if slE m≠0 then [] else Om (mlV m.h.m m.h.len) m.cells
theorem Aij {L:Int} {l:List Vo} {k:Nat} {v:Vo} (hv:l[k]? =some v) (h:vE L v=0):vsE L (l.drop k)=vsE L (l.drop (k+1)):=by rw [B5 hv,vsE,if_neg (by omega)]
theorem Aik {L:Int} {l:List Vo} {k:Nat} {v:Vo} (hv:l[k]? =some v) (h:vE L v≠0):vsE L (l.drop k)=vE L v:=by rw [B5 hv,vsE,if_pos h]
theorem As7 {L:Int} {l:List Ce} {k:Nat} {c:Ce} (hc:l[k]? =some c) (h:vsE L c.voices=0):csE L (l.drop k)=csE L (l.drop (k+1)):=by rw [B5 hc,csE,if_neg (by omega)]
theorem As8 {L:Int} {l:List Ce} {k:Nat} {c:Ce} (hc:l[k]? =some c) (h:vsE L c.voices≠0):csE L (l.drop k)=vsE L c.voices:=by rw [B5 hc,csE,if_pos h]
theorem Auk {L:Int} {v:Vo} (h:v.evs.length=0):vE L v=0:=by rw [vE,if_pos h]
theorem Yf {L:Int} {v:Vo} (h:¬v.evs.length=0):vE L v=ckE v L:=by rw [vE,if_neg h]
theorem Xg {α:Type} {a:List (List α)} {b:List α}:(a++ [b]).flatten=a.flatten++b:=by rw [List.flatten_append];simp
theorem V7 {i:Nat} {L:Int} {l:List Vo} {k:Nat} {v:Vo} (hv:l[k]? =some v):O7 i L (l.take (k+1))=O7 i L (l.take k)++vSl i L k v:=by rw [O7,Oh hv,Xg];rfl
theorem Ak9 {L:Int} {l:List Ce} {k:Nat} {c:Ce} (hc:l[k]? =some c):Om L (l.take (k+1))=Om L (l.take k)++O7 k L c.voices:=by rw [Om,Oh hc,Xg];rfl
theorem Wg {i k:Nat} {L:Int} {on:List Int} {n:Nat} {a:Int} (h:on[n]? =some a):(on.take (n+1)).mapIdx (Pc i k L on)=(on.take n).mapIdx (Pc i k L on)++ [Pc i k L on n a]:=Oh h
theorem Al0 {i k n:Nat} {L a b:Int} {on:List Int} (h:on[n+1]? =some b):Pc i k L on n a=⟨i,k,n,a,b⟩:=by unfold Pc;rw [h]
theorem Apl {i k n:Nat} {L a:Int} {on:List Int} (h:on.length≤n+1):Pc i k L on n a=⟨i,k,n,a,L⟩:=by unfold Pc;rw [List.getElem?_eq_none h]
theorem Alz {m:Ms} {e:Int} (h:slE m=e) (h2:e≠0): []=slL m∧e=slE m:=⟨by rw [slL,h,if_pos h2],h.symm⟩
theorem Auo {m:Ms} (h:slE m=0):Om (mlV m.h.m m.h.len) m.cells=slL m∧0=slE m:=⟨by rw [slL,h,if_neg (by decide)],h.symm⟩
theorem r2s {l l':List Slt} {a b:Int} (h:l=l'∧a=b):D.tup [.sl 5 (l.map Slt.c),dI a]= .tup [.sl 5 (l'.map Slt.c),dI b]:=by rw [h.1,h.2]
theorem Aoa {m:Ms} (h:mlE m.h.m m.h.len≠0):slE m=mlE m.h.m m.h.len:=by rw [slE,if_pos h]
theorem An9 {m:Ms} (h:¬mlE m.h.m m.h.len≠0):slE m=csE (mlV m.h.m m.h.len) m.cells:=by rw [slE,if_neg h]
theorem Z9 {α β:Type} {f:Nat→α→List β} {n:Nat} (hf:∀k x,(f k x).length≤n):∀l:List α,((l.mapIdx f).flatten).length≤l.length*n
 | []=>Nat.zero_le _
 |x::l=>by
  rw [List.mapIdx_cons,List.flatten_cons,List.length_append,List.length_cons,Nat.add_mul]
  have h1:=hf 0 x
  have h2:=Z9 (f:=fun k=>f (k+1)) (fun k=>hf (k+1)) l
  omega
theorem Ao5 (i:Nat) (L:Int) (k:Nat) (v:Vo):(vSl i L k v).length≤3000:=by
 unfold vSl
 split
 ·exact Nat.zero_le _
 ·rw [Ark,List.length_mapIdx,K1]
  have:=(Jp v L).len;omega
theorem Yc (i:Nat) (L:Int) (l:List Vo):(O7 i L l).length≤l.length*3000:=Z9 (Ao5 i L) l
theorem Aan {L:Int} {l:List Ce} (h:∀c∈l,c.voices.length≤1000):(Om L l).length≤l.length*3000000:=by
 unfold Om
 have:∀(l:List Ce) (s:Nat),(∀c∈l,c.voices.length≤1000)→((l.mapIdx fun i=>cSl L (i+s)).flatten).length≤l.length*3000000:=by
  intro l
  induction l with
  |nil=>intro s _;exact Nat.zero_le _
  |cons c l ih=>
   intro s h
   rw [List.mapIdx_cons,List.flatten_cons,List.length_append,List.length_cons,Nat.add_mul]
   have h1:=Yc (0+s) L c.voices
   have h2:=h c List.mem_cons_self
   have h3:=ih (s+1) (fun c hc=>h c (List.mem_cons_of_mem _ hc))
   have e:(fun i=>cSl L (i+1+s))=fun i=>cSl L (i+(s+1)):=by funext i;rw [Nat.add_assoc,Nat.add_comm 1 s]
   rw [e]
   have h4:(cSl L (0+s) c).length≤c.voices.length*3000:=h1
   have h5:c.voices.length*3000≤1000*3000:=Nat.mul_le_mul_right _ h2
   omega
 exact this l 0 h
theorem Yt (m:Ms) (hF:m.fit) (hE:m.evs):XC Tryz.prog 20 [.agg (Ms.c m)] (fun r=>r= .tup [.sl 5 ((slL m).map Slt.c),dI (slE m)]):=by
 have hcl:=hF.cells
 refine An Ae2 Tryz.func20 R R lb<|zr<|?_
 refine XL.step R (Ap 1 (l:= [.d (dI m.h.site), .d (dI m.h.num), .d (dI m.h.m.count), .d (dI m.h.m.unit), .d (dI m.h.m.g0), .d (dI m.h.m.g1), .d (dI m.h.m.g2), .d (dI m.h.m.g3), .d (dI m.h.m.g4), .d (dI m.h.m.g5), .d (dI m.h.len), .d (dI m.h.fifths), .d (dB m.h.start), .d (dI m.h.fin), .d (dI m.h.ends), .d (dI m.h.jump), .d (dI m.h.labels), .d (dI m.h.swing), .d (dI m.h.brk), .d (.v (.string ⟨m.h.reh.toArray⟩)), .d (.sl 3 (m.tempi.map Tm.c)), .d (.sl 2 (m.cells.map Ce.c))]) R R (by kernel_rfl))<|?_
 refine za R R<|za R R<|zn<|Alj (fun _ _ _ k=>k)<|zr<|zp (Ae (s':= .d (.agg (Ms.c m))) (Ac (Ad R R Bj R lb)) (by kernel_rfl))<|XL.call1 R R (Qr m.h m.tempi m.cells) R<|zm R R<|zp (A0 R R R)<|zp (A0 R R R)<|za R R<|za R R<|znr<|za R R<|?_
 refine zn<|zs<|Alk<|zs<|zr<|zp (Aa R R Bm)<|zp (Ab R R Df R R)<|XL.len R R R Tryz.underlying28 fun hl22=>zm R R<|zn<|Ah<|Dx 7801 6 49 5 R<|?_
 refine Az (α:=Nat) (fun k=>k≤m.cells.length∧csE (mlV m.h.m m.h.len) (m.cells.drop k)=csE (mlV m.h.m m.h.len) m.cells) (fun k=>mkF [(2, .d (.v (.slice none 0 0))),(3, .d (dI 0)),(4, .d (dI (mlV m.h.m m.h.len))),(5, .d (dI (mlE m.h.m m.h.len))),(6, .own 7801),(21, .d (.sl 2 (m.cells.map Ce.c))),(22, .d (dI m.cells.length)),(23, .d (dI k))]) (fun k=>mkH [(7801, .row 49 5 ((Om (mlV m.h.m m.h.len) (m.cells.take k)).map Slt.c))]) (fun k=>m.cells.length - k) (0) (⟨Nat.zero_le _,R⟩) ?_ ?_ ?_
 exact fz ⟨sr,sr,sr,sr,sr,sr,sr,sr,trivial⟩
 exact gz ⟨R,trivial⟩
 intro k hk0
 obtain ⟨hk,hce⟩:=hk0
 refine zr<|zp (Au R R R)<|zn<|zs<|?_
 refine zd R (fun c24=> ?_) (fun c24=> ?_)
 have hk0a:k<m.cells.length:=by omega
 obtain ⟨x0,hx0⟩:=Ar hk0a
 have hvl:=(hF.c x0 (List.mem_of_getElem? hx0)).voices
 have hol:=Aan (L:=(mlV m.h.m m.h.len)) (l:=m.cells.take k) (fun c hc=>(hF.c c (List.mem_of_mem_take hc)).voices)
 rw [List.length_take] at hol
 refine zi<|zs<|Ah<|zr<|zm R R<|zp (Ao R R R Em hx0)<|zp (Ae (s':= .d (.agg (Ce.c x0))) (Ay R R F2 lb) (by kernel_rfl))<|XL.step R (Aq 8 (l:= [.d (.v (.slice none 0 0)), .d (.v (.slice none 0 0))]) R Fe (by kernel_rfl))<|za R R<|XL.step R (Af (l':= [.d (.sl 2 (x0.clefs.map Cf.c)), .d (.sl 2 (x0.voices.map Vo.c))]) R R R R Jf R lb (by kernel_rfl))<|?_
 refine znr<|zp (Aa R R Cm)<|zp (Ab R R Eg R R)<|XL.len R R R Tryz.underlying76 fun hl30=>zm R R<|zn<|Ah<|?_
 refine Az (α:=Nat) (fun j=>j≤x0.voices.length∧vsE (mlV m.h.m m.h.len) (x0.voices.drop j)=vsE (mlV m.h.m m.h.len) x0.voices) (fun j=>mkF [(2, .d (.v (.slice none 0 0))),(3, .d (dI 0)),(4, .d (dI (mlV m.h.m m.h.len))),(5, .d (dI (mlE m.h.m m.h.len))),(6, .own 7801),(7, .d (dI k)),(21, .d (.sl 2 (m.cells.map Ce.c))),(22, .d (dI m.cells.length)),(23, .d (dI k)),(29, .d (.sl 2 (x0.voices.map Vo.c))),(30, .d (dI x0.voices.length)),(31, .d (dI j))]) (fun j=>mkH [(7801, .row 49 5 ((Om (mlV m.h.m m.h.len) (m.cells.take k)++O7 k (mlV m.h.m m.h.len) (x0.voices.take j)).map Slt.c))]) (fun j=>x0.voices.length - j) (0) (⟨Nat.zero_le _,R⟩) ?_ ?_ ?_
 exact fz ⟨sr,sr,sr,sr,sr,sr,sr,sr,sr,sr,sr,sr,trivial⟩
 exact gz ⟨Oe (by simp [O7]),trivial⟩
 intro j hk2
 obtain ⟨hj,hve⟩:=hk2
 refine zr<|zp (Au R R R)<|zn<|zs<|?_
 refine zd R (fun c32=> ?_) (fun c32=> ?_)
 have hk2a:j<x0.voices.length:=by omega
 obtain ⟨x2,hx2⟩:=Ar hk2a
 have hEv:=hE x0 (List.mem_of_getElem? hx0) x2 (List.mem_of_getElem? hx2)
 have hvs:=Yc k (mlV m.h.m m.h.len) (x0.voices.take j)
 rw [List.length_take] at hvs
 refine zi<|zs<|Ah<|zr<|zm R R<|zp (Ao R R R Ic hx2)<|zp (Ae (s':= .d (.agg (Vo.c x2))) (Ay R R Ax lb) (by kernel_rfl))<|XL.step R (Aq 10 (l:= [.d (.v (.slice none 0 0)), .d (.v (.slice none 0 0))]) R Bf (by kernel_rfl))<|za R R<|XL.step R (Af (l':= [.d (.sl 13 (x2.evs.map Ev.c)), .d (.sl 4 (x2.tups.map Tp.c))]) R R R R Bu R lb (by kernel_rfl))<|?_
 refine zn<|zs<|zr<|zm R R<|zp (A1 R R R)<|zn<|?_
 refine zd R (fun c37=> ?_) (fun c37=> ?_)
 refine At<|zs<|zr<|zm R R<|zp (A1 R R R)<|zn<|?_
 refine zd R (fun c80=> ?_) (fun c80=> ?_)
 refine zr<|zm R R<|za R R<|za R R<|zn<|zt<|?_
 exact A6 R (RV.nil (sz:=5) R R) (RV.tmp R R) (r2s (Alz (Aoa (by first|assumption|omega)) (by first|assumption|omega)))
 refine zi<|zr<|zp (As R (by conv=>lhs;whnf))<|?_
 refine zp (Aw R (by conv=>lhs;whnf))<|?_
 refine za R R<|zn<|zt<|Cd (i:=7801) R<|?_
 exact A6 R (RV.tmp R R) (RV.tmp R R) (by exfalso;omega)
 refine zi<|zs<|zr<|zp (Ae (s':= .d (.agg (Vo.c x2))) (Ac (Ad R R Ax R lb)) (by kernel_rfl))<|XL.call1 R R (Ag7 _) R<|zp (En R R)<|zn<|?_
 refine zd R (fun c40=> ?_) (fun c40=> ?_)
 refine At<|Ag (by kernel_rfl)<|zp (Al R R R (by omega) (by omega))<|zm R R<|zn<|?_
 exact Am (j+1) (⟨by omega,by rw [←Aij hx2 (Auk (by omega))];exact hve⟩) (by omega) (fz ⟨sr,sr,sr,sr,sr,sr,sr,sr,sr,sr,sr,sr,trivial⟩) (gz ⟨Oe (by rw [V7 hx2,vSl,if_pos (by omega),List.append_nil]),trivial⟩)
 refine zi<|zr<|za R R<|zn<|zs<|zr<|zp (Ae (s':= .d (.agg (Vo.c x2))) (Ac (Ad R R Ax R lb)) (by kernel_rfl))<|zm R R<|XL.call1 R R (Xq _ _ (by assumption)) R<|zm R R<|zp (A0 R R R)<|zp (A0 R R R)<|za R R<|za R R<|?_
 refine znr<|zm R R<|zp (A1 R R R)<|zn<|?_
 refine zd R (fun c48=> ?_) (fun c48=> ?_)
 refine At<|zs<|zr<|zm R R<|zp (A1 R R R)<|zn<|?_
 refine zd R (fun c80=> ?_) (fun c80=> ?_)
 refine zr<|zm R R<|za R R<|za R R<|zn<|zt<|?_
 exact A6 R (RV.nil (sz:=5) R R) (RV.tmp R R) (r2s (Alz ((An9 (by omega)).trans (hce.symm.trans ((As8 hx0 (by rw [←hve,Aik hx2 (by rw [Yf (by omega)];assumption),Yf (by omega)];assumption)).trans (by rw [←hve,Aik hx2 (by rw [Yf (by omega)];assumption),Yf (by omega)])))) (by assumption)))
 refine zi<|zr<|zp (As R (by conv=>lhs;whnf))<|?_
 refine zp (Aw R (by conv=>lhs;whnf))<|?_
 refine za R R<|zn<|zt<|Cd (i:=7801) R<|?_
 exact A6 R (RV.tmp R R) (RV.tmp R R) (by exfalso;omega)
 refine zi<|zs<|?_
 have hN:=Jp x2 (mlV m.h.m m.h.len)
 have hNl:=hN.len
 have honl:=K1 (ckL x2 (mlV m.h.m m.h.len))
 refine Ag (by kernel_rfl)<|zm R R<|XL.len R R R Tryz.underlying45 fun hl50=>zm R R<|zn<|Ah<|?_
 refine Az (α:=Nat) (fun n=>n≤(Ba (ckL x2 (mlV m.h.m m.h.len))).length) (fun n=>mkF [(2, .d (.v (.slice none 0 0))),(3, .d (dI 0)),(4, .d (dI (mlV m.h.m m.h.len))),(5, .d (dI (ckE x2 (mlV m.h.m m.h.len)))),(6, .own 7801),(7, .d (dI k)),(9, .d (dI j)),(11, .d (.sl 1 (Cg (Ba (ckL x2 (mlV m.h.m m.h.len)))))),(21, .d (.sl 2 (m.cells.map Ce.c))),(22, .d (dI m.cells.length)),(23, .d (dI k)),(29, .d (.sl 2 (x0.voices.map Vo.c))),(30, .d (dI x0.voices.length)),(31, .d (dI j)),(49, .d (.sl 1 (Cg (Ba (ckL x2 (mlV m.h.m m.h.len)))))),(50, .d (dI (Ba (ckL x2 (mlV m.h.m m.h.len))).length)),(51, .d (dI n))]) (fun n=>mkH [(7801, .row 49 5 (((Om (mlV m.h.m m.h.len) (m.cells.take k)++O7 k (mlV m.h.m m.h.len) (x0.voices.take j))++((Ba (ckL x2 (mlV m.h.m m.h.len))).take n).mapIdx (Pc k j (mlV m.h.m m.h.len) (Ba (ckL x2 (mlV m.h.m m.h.len))))).map Slt.c))]) (fun n=>(Ba (ckL x2 (mlV m.h.m m.h.len))).length - n) (0) (Nat.zero_le _) ?_ ?_ ?_
 exact fz ⟨sr,sr,sr,sr,sr,sr,sr,sr,sr,sr,sr,sr,sr,sr,sr,sr,sr,trivial⟩
 exact gz ⟨Oe (by simp),trivial⟩
 intro n hk4
 refine zr<|zp (Au R R R)<|zn<|zs<|?_
 refine zd R (fun c52=> ?_) (fun c52=> ?_)
 have hk4a:n<(Ba (ckL x2 (mlV m.h.m m.h.len))).length:=by omega
 obtain ⟨x4,hx4⟩:=Ar hk4a
 refine zi<|zs<|Ah<|zr<|zm R R<|zp (Ao R R R Dt hx4)<|zp (Bg R R Ai)<|za R R<|za R R<|znr<|zm R R<|za R R<|zn<|zs<|?_
 refine zr<|zm R R<|zp (Al R R R (by omega) (by omega))<|zm R R<|XL.len R R R Tryz.underlying45 fun hl60=>zp (Au R R R)<|zn<|?_
 refine zd R (fun c61=> ?_) (fun c61=> ?_)
 obtain ⟨b,hb⟩:∃b,(Ba (ckL x2 (mlV m.h.m m.h.len)))[n+1]? =some b:=Ar (by omega)
 refine Ag (by kernel_rfl)<|zm R R<|zm R R<|zp (Al R R R (by omega) (by omega))<|zp (Ma R R R ((by omega)) Dt (hb))<|zp (Bg R R Ai)<|za R R<|zng<|zp (As R (by conv=>lhs;whnf))<|?_
 refine zm R R<|zm R R<|zm R R<|zm R R<|zm R R<|zp (Ae (s':= .d (.agg [dI k,dI j,dI n,dI x4,dI b])) (Ac (A4 R Yp Mk R)) (by kernel_rfl))<|XL.step R (Br 74 R Tryz.underlying42 Agw Mk R R (by omega) (by omega))<|XL.step R (A5 R Ak1 (.own R) (Src.own R) (by unfold maxLen;simp;omega) (by simp;omega))<|zp (Aw R (by conv=>lhs;whnf))<|?_
 refine zn<|Ag (by kernel_rfl)<|zp (Al R R R (by omega) (by omega))<|zm R R<|zn<|?_
 exact Am (n+1) (by omega) (by omega) (fz ⟨sr,sr,sr,sr,sr,sr,sr,sr,sr,sr,sr,sr,sr,sr,sr,sr,sr,trivial⟩) (gz ⟨Jn (a:=⟨k,j,n,x4,b⟩) R (by rw [Wg hx4,Al0 hb, ←List.append_assoc]),trivial⟩)
 refine zi<|Ag (by kernel_rfl)<|zp (As R (by conv=>lhs;whnf))<|?_
 refine zm R R<|zm R R<|zm R R<|zm R R<|zm R R<|zp (Ae (s':= .d (.agg [dI k,dI j,dI n,dI x4,dI (mlV m.h.m m.h.len)])) (Ac (A4 R Yp Mk R)) (by kernel_rfl))<|XL.step R (Br 74 R Tryz.underlying42 Agw Mk R R (by omega) (by omega))<|XL.step R (A5 R Ak1 (.own R) (Src.own R) (by unfold maxLen;simp;omega) (by simp;omega))<|?_
 refine zp (Aw R (by conv=>lhs;whnf))<|?_
 refine zn<|Ag (by kernel_rfl)<|zp (Al R R R (by omega) (by omega))<|zm R R<|zn<|?_
 exact Am (n+1) (by omega) (by omega) (fz ⟨sr,sr,sr,sr,sr,sr,sr,sr,sr,sr,sr,sr,sr,sr,sr,sr,sr,trivial⟩) (gz ⟨Jn (a:=⟨k,j,n,x4,(mlV m.h.m m.h.len)⟩) R (by rw [Wg hx4,Apl (by omega), ←List.append_assoc]),trivial⟩)
 have hk4b:n=(Ba (ckL x2 (mlV m.h.m m.h.len))).length:=by omega
 refine At<|Ag (by kernel_rfl)<|zp (Al R R R (by omega) (by omega))<|zm R R<|zn<|?_
 exact Am (j+1) (⟨by omega,by rw [←Aij hx2 (by rw [Yf (by omega)];omega)];exact hve⟩) (by omega) (fz ⟨sr,sr,sr, .same (sI (by omega)),sr,sr,sr,sr,sr,sr,sr,sr,trivial⟩) (gz ⟨Oe (by rw [V7 hx2,vSl,if_neg (by omega),hk4b,List.take_length,List.append_assoc];rfl),trivial⟩)
 have hk2b:j=x0.voices.length:=by omega
 refine At<|Ag (by kernel_rfl)<|zp (Al R R R (by omega) (by omega))<|zm R R<|zn<|?_
 exact Am (k+1) (⟨by omega,by rw [←As7 hx0 (by rw [←hve,hk2b,List.drop_length];rfl)];exact hce⟩) (by omega) (fz ⟨sr,sr,sr,sr,sr,sr,sr,sr,trivial⟩) (gz ⟨Oe (by rw [Ak9 hx0,hk2b,List.take_length]),trivial⟩)
 have hk0b:k=m.cells.length:=by omega
 refine At<|zs<|zr<|zm R R<|zp (A1 R R R)<|zn<|?_
 refine zd R (fun c80=> ?_) (fun c80=> ?_)
 refine zr<|zm R R<|za R R<|za R R<|zn<|zt<|?_
 exact A6 R (RV.nil (sz:=5) R R) (RV.tmp R R) (r2s (Alz (Aoa (by first|assumption|omega)) (by first|assumption|omega)))
 refine zi<|zr<|zp (As R (by conv=>lhs;whnf))<|?_
 refine zp (Aw R (by conv=>lhs;whnf))<|?_
 refine za R R<|zn<|zt<|Cd (i:=7801) R<|?_
 exact A6 R (RV.tmp R R) (RV.tmp R R) (by rw [show m.cells.take k=m.cells from by rw [hk0b,List.take_length]];exact r2s (Auo ((An9 (by assumption)).trans (by rw [←hce,hk0b,List.drop_length];rfl))))
end Go.Proofs.YtaafemnkamfgnaaGreat
