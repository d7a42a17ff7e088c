/- Part 6 of what the statements need: lemmas and walks. -/
import Derived.Test.YtaafemnkamfgnaaGreatLn5
set_option linter.unusedVariables false
set_option linter.unusedSimpArgs false
set_option linter.unusedSectionVars false
set_option maxRecDepth 20000
set_option maxHeartbeats 8000000
namespace Go.Proofs.YtaafemnkamfgnaaGreat
open Go.RowKit
theorem V7 (t:Tp) (l:List Tp) (n:Int):hits (t::l) n=hits l n+(if t.has n then 1 else 0):=by
 unfold hits
 rw [List.filter_cons]
 by_cases h:t.has n<;>simp [h]
theorem Ak9 (l:List Tp) (n:Int):hits l n≤l.length:=List.length_filter_le _ _
theorem Ak8 (t:Tp) (s:List Tp) (n:Int) (hn:t.first≤n):hits (Cc t s) n=hits s n:=by
 induction s with
 |nil=>rfl
 |cons o r ih=>
  unfold Cc
  split
  ·rename_i h
   rw [ih,V7,if_neg (fun k=>by unfold Tp.has at k;unfold Tp.e at h;omega)]
   rfl
  ·rfl
theorem Afg {q t:Tp} (h:¬0<Jh q t):q.first≤t.first:=by
 unfold Jh at h
 split at h
 ·split at h<;>omega
 ·omega
theorem Aet (n:Int) (l:List Tp):∀(p:Option Tp) (s L:List Tp),Ee n p s l=0→s.length≤3→(∀e,hits L e≤3)→(∀e,(∀q,p=some q→q.first≤e)→hits L e=hits s e)→∀e,hits (L++l) e≤3:=by
 induction l with
 |nil=>intro p s L _ _ h1 _ e;rw [List.append_nil];exact h1 e
 |cons t l ih=>
  intro p s L hz hs h1 h2 e
  rw [Ee] at hz
  split at hz
  ·omega
  ·split at hz
   ·omega
   ·rename_i hin hna
    split at hz
    ·omega
    ·rename_i hov
     have hp:∀q,p=some q→q.first≤t.first:=fun q hq=>by subst hq;exact Afg hna
     have h3:(t::Cc t s).length≤3:=by
      have h4:=Akb t s
      have h5:¬(Cc t s).length=3:=fun k=>hov (.inl k)
      rw [List.length_cons]
      omega
     have heq:∀e,t.first≤e→hits (L++ [t]) e=hits (t::Cc t s) e:=fun e he=>by
      rw [Hy,V7,Ak8 t s e he,h2 e (fun q hq=>Int.le_trans (hp q hq) he)]
     have:=ih (some t) (t::Cc t s) (L++ [t]) hz h3 (fun e=> ?_) (fun e he=>heq e (he t rfl)) e
     ·rw [List.append_assoc] at this;exact this
     ·by_cases he:t.first≤e
      ·rw [heq e he];exact Nat.le_trans (Ak9 _ _) h3
      ·rw [Hy,if_neg (fun k=>he k.1)];exact h1 e
theorem Aju (n:Int) (l:List Tp):∀(p:Option Tp) (s:List Tp),Ee n p s l=0→∀t∈l,t.inR n:=by
 induction l with
 |nil=>intro p s _ t ht;cases ht
 |cons t l ih=>
  intro p s hz x hx
  rw [Ee] at hz
  split at hz
  ·omega
  ·rename_i hin
   split at hz
   ·omega
   ·split at hz
    ·omega
    ·rcases List.mem_cons.1 hx with e|e
     ·rw [e];exact Decidable.not_not.1 hin
     ·exact ih _ _ hz x e
structure Tups (l:List Tp) (n:Int):Prop where
 bd:0≤n∧n≤128
 len:l.length≤16
 inR:∀t∈l,t.inR n
 ok:∀t∈l,t.ok
 hits:∀e,hits l e≤3
theorem Uh {l:List Tp} {n:Int} (h:¬Du l n≠0):Tups l n:=by
 have h0:Du l n=0:=by omega
 unfold Du at h0
 split at h0
 ·omega
 ·split at h0
  ·omega
  ·have hi:=Aju n l _ _ h0
   refine ⟨by omega,by omega,hi,fun t ht=>(hi t ht).ok (by omega),fun e=> ?_⟩
   have:=Aet n l none [] [] h0 (by decide) (fun e=>Nat.zero_le _) (fun e _=>rfl) e
   rwa [List.nil_append] at this
def Ct (l:List Tp):Nat→List Int→List Int
 |_, []=> []
 |i,w::r=>Dw l i w::Ct l (i+1) r
def Ik (l:List Tp):Nat→List Int→Int
 |_, []=>0
 |i,w::r=>if Dp l i w≠0 then Dp l i w else Ik l (i+1) r
def Cx (l:List Tp) (ws:List Int):Int:=if Du l ws.length≠0 then Du l ws.length else Ik l 0 ws
def Gx (l:List Tp) (ws:List Int):List Int:=if Cx l ws=0 then Ct l 0 ws else []
theorem Afo (l:List Tp) (a:List Int) (w:Int):∀i,Ct l i (a++ [w])=Ct l i a++ [Dw l ((i+a.length:Nat):Int) w]:=by
 induction a with
 |nil=>intro i;rfl
 |cons x a ih=>
  intro i
  rw [List.cons_append,Ct,ih (i+1),Ct,List.cons_append,List.length_cons,show i+1+a.length=i+(a.length+1) by omega]
theorem Ab0 {l:List Tp} {ws:List Int} {k:Nat} {w:Int} (h:ws[k]? =some w):Ct l 0 (ws.take (k+1))=Ct l 0 (ws.take k)++ [Dw l (k:Int) w]:=by
 have hk:=(List.getElem?_eq_some_iff.1 h).1
 rw [Bp h,Afo,List.length_take,Nat.zero_add,Nat.min_eq_left (by omega)]
theorem Ib (l:List Tp) (ws:List Int):∀i,(Ct l i ws).length=ws.length:=by
 induction ws with
 |nil=>intro i;rfl
 |cons w r ih=>intro i;rw [Ct,List.length_cons,ih,List.length_cons]
theorem Ag9 {l:List Tp} {ws:List Int} {k:Nat} {w:Int} (h:ws[k]? =some w) (hx:¬Dp l k w≠0):Ik l k (ws.drop k)=Ik l (k+1) (ws.drop (k+1)):=by rw [Br h,Ik,if_neg hx]
theorem Xw {l:List Tp} {ws:List Int} {k:Nat} {w:Int} (h:ws[k]? =some w) (hx:Dp l k w≠0):Ik l k (ws.drop k)=Dp l k w:=by rw [Br h,Ik,if_pos hx]
theorem Agy {l:List Tp} {ws:List Int} (h:Du l ws.length≠0): []=Gx l ws∧Du l ws.length=Cx l ws:=by
 have e:Cx l ws=Du l ws.length:=by rw [Cx,if_pos h]
 exact ⟨by rw [Gx,e,if_neg h],e.symm⟩
theorem Agx {l:List Tp} {ws:List Int} (h:¬Du l ws.length≠0) {e:Int} (he:e=Ik l 0 ws) (hn:e≠0): []=Gx l ws∧e=Cx l ws:=by
 have e2:Cx l ws=e:=by rw [Cx,if_neg h,he]
 exact ⟨by rw [Gx,e2,if_neg hn],e2.symm⟩
theorem Agw {l:List Tp} {ws:List Int} (h:¬Du l ws.length≠0) (he:Ik l 0 ws=0):Ct l 0 ws=Gx l ws∧0=Cx l ws:=by
 have e2:Cx l ws=0:=by rw [Cx,if_neg h,he]
 exact ⟨by rw [Gx,e2,if_pos rfl],e2.symm⟩
theorem R0 (l:List Tp) (ws:List Int):XC Tryz.prog 169 [.sl 4 (l.map Tp.c), .sl 1 (B7 ws)] (fun r=>r= .tup [.sl 1 (B7 (Gx l ws)),dI (Cx l ws)]):=by
 refine Al Aah Tryz.func169 R R lb<|zr<|za R R<|za R R<|zn<|zs<|zr<|zm R R<|zm R R<|XL.len R R R Tryz.underlying45 fun hl14=>XL.call1 R R (Vc _ _) R<|za R R<|znr<|zm R R<|?_
 refine zp (A1 R R R)<|zn<|?_
 refine zd R (fun c17=> ?_) (fun c17=> ?_)
 refine zr<|zm R R<|za R R<|za R R<|zn<|zt<|?_
 exact Ay R (RV.nil (sz:=1) R R) (RV.tmp R R) (r2 (rSl (Agy c17).1) (rI (Agy c17).2))
 refine zi<|zs<|?_
 have hT:=Uh c17
 have hbd:=hT.bd
 refine Ag (by kernel_rfl)<|zm R R<|XL.len R R R Tryz.underlying45 fun hl20=>XL.step R (Np 21 (m:=0) (z:=(.int .i64 0)) (zs:= [dI 0]) (sz:=1) (bytes:=8) R R R Tryz.underlying45 (by kernel_rfl) (by kernel_rfl) (by kernel_rfl) (by decide) (by decide) (by omega) (by unfold maxLen;omega) (by omega))<|zp (Ao R (by conv=>lhs;whnf))<|?_
 refine zn<|zs<|zr<|zm R R<|XL.len R R R Tryz.underlying45 fun hl23=>zm R R<|zn<|Ah<|?_
 refine A0 (α:=Nat) (fun k=>k≤ws.length∧Ik l k (ws.drop k)=Ik l 0 ws) (fun k=>mkF [(0, .d (.sl 4 (l.map Tp.c))),(7, .own 21),(22, .d (.sl 1 (B7 ws))),(23, .d (dI ws.length)),(24, .d (dI k))]) (fun k=>mkH [(21, .row 3 1 ((Ct l 0 (ws.take k)).map iv))]) (fun k=>ws.length - k) (0) (⟨Nat.zero_le _,by rw [List.drop_zero]⟩) ?_ ?_ ?_
 exact fz ⟨sr,sr,sr,sr,sr,trivial⟩
 exact gz ⟨R,trivial⟩
 intro k hk0
 obtain ⟨hk,hgo⟩:=hk0
 refine zr<|zp (At R R R)<|zn<|zs<|?_
 refine zd R (fun c25=> ?_) (fun c25=> ?_)
 have hk0a:k<ws.length:=by omega
 obtain ⟨x0,hx0⟩:=Ax hk0a
 have hok:=hT.ok
 have hh:=hT.hits k
 have hll:(Ct l 0 (ws.take k)).length=k:=by rw [Ib,List.length_take];omega
 refine zi<|zs<|Ah<|zr<|zm R R<|zp (Av R R R Dh hx0)<|zp (A9 R R Ai)<|za R R<|za R R<|znr<|zm R R<|zm R R<|zm R R<|XL.call1 R R (Xu _ _ _ (by assumption) (by assumption) (by omega) (by omega)) R<|?_
 refine zm R R<|zp (Aq R R R)<|zp (Aq R R R)<|za R R<|za R R<|zn<|zs<|zr<|zm R R<|zp (A1 R R R)<|zn<|?_
 refine zd R (fun c37=> ?_) (fun c37=> ?_)
 refine zr<|zm R R<|za R R<|za R R<|zn<|zt<|?_
 exact Ay R (RV.nil (sz:=1) R R) (RV.tmp R R) (r2 (rSl (Agx c17 (by rw [←hgo,Xw hx0 c37]) c37).1) (rI (Agx c17 (by rw [←hgo,Xw hx0 c37]) c37).2))
 refine zi<|Ag (by kernel_rfl)<|zp (Ar R (by conv=>lhs;whnf))<|?_
 refine zm R R<|XL.step R (Bk 41 R Tryz.underlying45 Eo G8 R R (by omega) (by omega))<|XL.step R (A3 R Qm (.own R) (Src.own R) (by unfold maxLen;simp;omega) (by simp;omega))<|zp (Ao R (by conv=>lhs;whnf))<|?_
 refine zn<|Ag (by kernel_rfl)<|zp (Ak R R R (by omega) (by omega))<|zm R R<|zn<|?_
 exact Am (k+1) (⟨by omega,by rw [←Ag9 hx0 c37];exact hgo⟩) (by omega) (fz ⟨sr,sr,sr,sr,sr,trivial⟩) (gz ⟨Iv rfl (Ab0 hx0),trivial⟩)
 have hk0b:k=ws.length:=by omega
 have hz:Ik l 0 ws=0:=by rw [←hgo,hk0b,List.drop_length];rfl
 have ht:ws.take k=ws:=by rw [hk0b,List.take_length]
 refine Au<|zr<|zp (Ar R (by conv=>lhs;whnf))<|?_
 refine zp (Ao R (by conv=>lhs;whnf))<|?_
 refine za R R<|zn<|zt<|B6 (i:=21) R<|?_
 exact Ay R (RV.tmp R R) (RV.tmp R R) (r2 (rSl (by rw [ht];exact (Agw c17 hz).1)) (rI (Agw c17 hz).2))
abbrev Mp (l:List Tp) (i:Nat):List Tp:=(l.take l.length).drop (i+1)
def Fu (l:List Tp):Nat→List Int→Int→Option Int
 |_, [],acc=>some acc
 |i,w::r,acc=>if Dp l i w≠0 then none else Fu l (i+1) r (acc+Dw l i w)
def Gz (t:Tp) (ws:List Int):List Int:=(ws.drop t.first.toNat).take t.count.toNat
def Sv (a s:Int):Option Int:=((List.range 10).find? fun j=>decide (s=a*(3870720 / 2 ^ j))).map fun j=>(j:Int) - 1
def Ft (l:List Tp) (t:Tp) (ws:List Int):Option Int:=(Fu l t.first.toNat (Gz t ws) 0).bind (Sv t.actual)
def Td (l:List Tp) (i:Nat) (ws:List Int):Option Int:=(l[i]?).bind fun t=>Ft (Mp l i) t ws
theorem Lr {l:List Tp} {i:Nat} {t:Tp} (h:l[i]? =some t) (ws:List Int):Td l i ws=Ft (Mp l i) t ws:=by rw [Td,h];rfl
theorem And {t:Tp} {ws:List Int} {j:Nat} (hj:j<t.count.toNat):(Gz t ws)[j]? =ws[t.first.toNat+j]? :=by
 rw [Gz,List.getElem?_take,if_pos hj,List.getElem?_drop]
theorem Aer {l:List Tp} {i k:Nat} {seg:List Int} {w acc:Int} (h:seg[k]? =some w) (hx:¬Dp l i w≠0):Fu l i (seg.drop k) acc=Fu l (i+1) (seg.drop (k+1)) (acc+Dw l i w):=by rw [Br h,Fu,if_neg hx]
theorem Aeq {l:List Tp} {i k:Nat} {seg:List Int} {w acc:Int} (h:seg[k]? =some w) (hx:Dp l i w≠0):Fu l i (seg.drop k) acc=none:=by rw [Br h,Fu,if_pos hx]
theorem Agr {l:List Tp} {i k:Nat} {seg:List Int} {acc:Int} (h:seg.length≤k):Fu l i (seg.drop k) acc=some acc:=by rw [List.drop_eq_nil_of_le h,Fu]
theorem Aoh {p:Nat→Bool} {m k:Nat} (hk:k<m) (hp:p k=true) (h:∀j,j<k→p j=false):(List.range m).find? p=some k:=by
 rw [List.find?_range_eq_some]
 exact ⟨hp,List.mem_range.2 hk,fun j hj=>by simp [h j hj]⟩
theorem Anz {a s:Int} {k:Nat} (hk:k<10) (hp:s=a*(3870720 / 2 ^ k)) (h:∀j,j<k→¬s=a*(3870720 / 2 ^ j)):Sv a s=some ((k:Int) - 1):=by
 rw [Sv,Aoh hk (decide_eq_true hp) (fun j hj=>decide_eq_false (h j hj))];rfl
theorem Ah4 {a s:Int} (h:∀j,j<10→¬s=a*(3870720 / 2 ^ j)):Sv a s=none:=by
 rw [Sv,List.find?_eq_none.2 (fun j hj=>by simp [h j (List.mem_range.1 hj)])];rfl
theorem Tf {l:List Tp} {t:Tp} {ws:List Int} {s:Int} (h:Fu l t.first.toNat (Gz t ws) 0=some s):Ft l t ws=Sv t.actual s:=by rw [Ft,h];rfl
theorem Aep {l:List Tp} {t:Tp} {ws:List Int} (h:Fu l t.first.toNat (Gz t ws) 0=none):Ft l t ws=none:=by rw [Ft,h];rfl
theorem X8 {o:Option Int} (h:o=none):D.tup [dI 0,dB false]= .tup [dI (o.getD 0),dB o.isSome]:=by rw [h];rfl
theorem Akm {o:Option Int} {x:Int} (h:o=some x):D.tup [dI x,dB true]= .tup [dI (o.getD 0),dB o.isSome]:=by rw [h];rfl
theorem Apb (k:Nat):0≤(3870720:Int) / 2 ^ k∧(3870720:Int) / 2 ^ k≤3870720:=by
 have h:(0:Int)<2 ^ k:=Int.pow_pos (by omega)
 exact ⟨Int.ediv_nonneg (by omega) (by omega),Int.ediv_le_self _ (by omega)⟩
theorem Amy (l:List Tp) (i:Nat) (t:Tp) (ws:List Int) (ht:l[i]? =some t) (hT:Tups l ws.length):XC Tryz.prog 192 [.sl 4 (l.map Tp.c), .v (.int .i64 i), .sl 1 (B7 ws)] (fun r=>r= .tup [dI ((Ft (Mp l i) t ws).getD 0),dB (Ft (Mp l i) t ws).isSome]):=by
 have hin:=hT.inR t (List.mem_of_getElem? ht)
 have hok:=hT.ok t (List.mem_of_getElem? ht)
 have hbd:=hT.bd
 have hlen:=hT.len
 have hil:=(List.getElem?_eq_some_iff.1 ht).1
 have hin2:=hin
 simp only [Tp.inR] at hin2
 have hte:t.e=t.first+t.count:=rfl
 obtain ⟨f,hf⟩:∃f:Nat,t.first=f:=⟨t.first.toNat,by omega⟩
 have hf2:t.first.toNat=f:=by omega
 have hsl:(Gz t ws).length=t.count.toNat:=by rw [Gz,List.length_take,List.length_drop];omega
 have hoks:∀x∈(l.take l.length).drop (i+1),x.ok:=Ano (Adt hT.ok _) _
 have hhs:∀e,hits ((l.take l.length).drop (i+1)) e≤3:=fun e=>Nat.le_trans (Ail _ _ e) (Nat.le_trans (Qe _ _ e) (hT.hits e))
 refine Al Zw Tryz.func192 R R lb<|zr<|za R R<|za R R<|znr<|zm R R<|zm R R<|zp (Av R R R E3 (ht))<|zp (Ae (s':= .d (.agg (Tp.c t))) (Be R R B5 lb) (by kernel_rfl))<|XL.step R (Ap 8 (l:= [.d (dI 0), .d (dI 0), .d (dI 0), .d (dI 0)]) R Dn (by kernel_rfl))<|?_
 refine XL.step R (Af (l':= [.d (dI t.first), .d (dI t.count), .d (dI t.actual), .d (dI t.normal)]) R R R R Et R lb (by kernel_rfl))<|znr<|za R R<|zn<|zs<|zr<|zp (Aa R R Bl)<|zp (Ab R R Ai R R)<|za R R<|zn<|Ah<|?_
 refine A0 (α:=Nat × Int) (fun p=>p.1≤t.count.toNat∧Fu ((l.take l.length).drop (i+1)) (f+p.1) ((Gz t ws).drop p.1) p.2=Fu ((l.take l.length).drop (i+1)) f (Gz t ws) 0∧0≤p.2∧p.2≤(p.1:Int)*253671505920) (fun p=>mkF [(0, .d (.sl 4 (l.map Tp.c))),(1, .d (dI i)),(2, .d (.sl 1 (B7 ws))),(8, .ptr 8 0 0),(9, .d (dI p.2)),(10, .d (dI ((f+p.1:Nat):Int)))]) (fun p=>mkH [(8, .box ((Tp.c t).map S.d))]) (fun p=>t.count.toNat - p.1) ((0,0)) (⟨Nat.zero_le _,by rw [List.drop_zero];rfl,Int.le_refl _,by simp⟩) ?_ ?_ ?_
 exact fz ⟨sr,sr,sr,sr,sr, .same (sI (by rw [hf];rfl)),trivial⟩
 exact gz ⟨R,trivial⟩
 intro p hk0
 obtain ⟨hk,hgo,hs0,hs1⟩:=hk0
 refine zs<|zr<|zm R R<|zp (Ae (s':= .d (.agg (Tp.c t))) (Ac (Ad R R B5 R lb)) (by kernel_rfl))<|XL.call1 R R (Gk _ (by assumption)) R<|zp (At R R R)<|zn<|?_
 refine zd R (fun c23=> ?_) (fun c23=> ?_)
 have hkc:p.1<t.count.toNat:=by omega
 obtain ⟨w,hw⟩:∃w,ws[f+p.1]? =some w:=Ax (by omega)
 have hsw:(Gz t ws)[p.1]? =some w:=by rw [And hkc,hf2];exact hw
 have hh:=hhs ((f+p.1:Nat):Int)
 have hsb:=Xv (n:=((f+p.1:Nat):Int)) (w:=w) hoks hh
 refine zi<|zs<|Ah<|zs<|B8 [] (by kernel_rfl) (by kernel_rfl) (by kernel_rfl) (by decide)<|ym R R<|ym R R<|yp (Ak R R R (by omega) (by omega))<|yp (In R R E3 (Bd.ati (a:=i+1) R (by omega)) Bd.no (by omega) (by omega))<|ym R R<|ym R R<|ym R R<|yp (Av R R R Dh (hw))<|yp (A9 R R Ai)<|?_
 refine ChK.cons R (CStep.call R (Xu _ _ _ (by assumption) (by assumption) (by omega) (by omega)) R)<|ym R R<|yp (Aq R R R)<|yp (Aq R R R)<|ya R R<|ya R R<|?_
 refine ChK.nil ⟨by kernel_rfl, ?_⟩
 refine zs<|zr<|zm R R<|zp (A1 R R R)<|zn<|?_
 refine zd R (fun c40=> ?_) (fun c40=> ?_)
 refine zr<|za R R<|za R R<|zn<|zt<|?_
 exact Ay R (RV.tmp R R) (RV.tmp R R) (X8 (Aep (by rw [hf2, ←hgo];exact Aeq hsw c40)))
 refine zi<|Ag (by kernel_rfl)<|zm R R<|zm R R<|zp (Ak R R R (by omega) (by omega))<|za R R<|zn<|Ag (by kernel_rfl)<|zm R R<|zp (Ak R R R (by omega) (by omega))<|za R R<|zn<|?_
 exact Am ((p.1+1,p.2+Dw ((l.take l.length).drop (i+1)) ((f+p.1:Nat):Int) w)) (⟨by simp only;omega,(Aer hsw c40).symm.trans hgo,by simp only;omega,by simp only;omega⟩) (by simp only;omega) (fz ⟨sr,sr,sr,sr,sr,sr,trivial⟩) (gz ⟨rfl,trivial⟩)
 have hu:Fu ((l.take l.length).drop (i+1)) t.first.toNat (Gz t ws) 0=some p.2:=by rw [hf2, ←hgo];exact Agr (by omega)
 refine Au<|zs<|zr<|za R R<|zn<|Ah<|?_
 refine A0 (α:=Nat) (fun k=>k≤10∧∀j,j<k→¬p.2=t.actual*(3870720 / 2 ^ j)) (fun k=>mkF [(8, .ptr 8 0 0),(9, .d (dI p.2)),(13, .d (dI ((k:Int) - 1)))]) (fun k=>mkH [(8, .box ((Tp.c t).map S.d))]) (fun k=>10 - k) (0) (⟨Nat.zero_le _,fun j hj=>absurd hj (Nat.not_lt_zero _)⟩) ?_ ?_ ?_
 exact fz ⟨sr,sr,sr,trivial⟩
 exact gz ⟨R,trivial⟩
 intro k hk2
 obtain ⟨hk,hno⟩:=hk2
 have hkk:((k:Int) - 1+1).toNat=k:=by omega
 have hsh:=Apb k
 refine zs<|zr<|zm R R<|zp (My R R R)<|zn<|?_
 refine zd R (fun c45=> ?_) (fun c45=> ?_)
 have hml1:0≤t.actual*(3870720 / 2 ^ k):=Int.mul_nonneg (by omega) hsh.1
 have hml2:t.actual*(3870720 / 2 ^ k)≤32*3870720:=Int.mul_le_mul (by omega) hsh.2 hsh.1 (by omega)
 refine zi<|zs<|Ah<|zs<|B8 [] (by kernel_rfl) (by kernel_rfl) (by kernel_rfl) (by decide)<|ym R R<|yp (Aa R R M9)<|yp (Ab R R Ai R R)<|ym R R<|yp (Ak R R R (by omega) (by omega))<|yp (Al8 R R R (by omega) (by omega))<|yp (K4 R R R (by rw [hkk];omega) (by rw [hkk];omega))<|yp (Bb R R R)<|?_
 refine ChK.nil ⟨by kernel_rfl, ?_⟩
 refine zd R (fun c55=> ?_) (fun c55=> ?_)
 refine zr<|zm R R<|za R R<|za R R<|zn<|zt<|?_
 exact Ay R (RV.tmp R R) (RV.tmp R R) (Akm (by rw [Tf hu];exact Anz (by omega) (by rw [hkk] at c55;exact c55) hno))
 refine zi<|Ag (by kernel_rfl)<|zm R R<|zp (Ak R R R (by omega) (by omega))<|za R R<|zn<|?_
 exact Am (k+1) (⟨by omega,fun j hj=>by by_cases e:j=k;(· subst e;rw [hkk] at c55;exact c55);(· exact hno j (by omega))⟩) (by omega) (fz ⟨sr,sr, .same (sI (by omega)),trivial⟩) (gz ⟨rfl,trivial⟩)
 have hke:k=10:=by omega
 have hnone:Sv t.actual p.2=none:=Ah4 (fun j hj=>hno j (by omega))
 refine Au<|zr<|za R R<|za R R<|zn<|zt<|?_
 exact Ay R (RV.tmp R R) (RV.tmp R R) (X8 (by rw [Tf hu];exact hnone))
theorem Mo {l:List Tp} {ws:List Int} (h:¬Cx l ws≠0):Tups l ws.length:=by
 unfold Cx at h
 split at h
 ·rename_i h2;exact absurd h2 h
 ·rename_i h2;exact Uh h2
def Lg (l:List Tp) (ws:List Int):Prop:=∀j,j<l.length→(Td l j ws).isSome=true
instance (l:List Tp) (ws:List Int):Decidable (Lg l ws):=by unfold Lg;exact inferInstance
def Es (l:List Tp) (ws:List Int):Int:=if Cx l ws≠0 then Cx l ws else if Lg l ws then 0 else 21
def Mn (l:List Tp) (ws:List Int) (k:Nat):List Int:=(List.range k).map fun j=>(Td l j ws).getD 0
def Ls (l:List Tp) (ws:List Int):List Int:=if Es l ws=0 then Mn l ws l.length else []
theorem Aes {l:List Tp} {ws:List Int} {k:Nat} {t:Tp} (h:l[k]? =some t):Mn l ws (k+1)=Mn l ws k++ [(Ft (Mp l k) t ws).getD 0]:=by
 rw [Mn,List.range_succ,List.map_append,List.map_singleton,Lr h];rfl
theorem Ags (l:List Tp) (ws:List Int) (k:Nat):(Mn l ws k).length=k:=by rw [Mn,List.length_map,List.length_range]
theorem Ao5 {l:List Tp} {ws:List Int} (h:Cx l ws≠0): []=Ls l ws∧Cx l ws=Es l ws:=by
 have e:Es l ws=Cx l ws:=by rw [Es,if_pos h]
 exact ⟨by rw [Ls,e,if_neg h],e.symm⟩
theorem Ao4 {l:List Tp} {ws:List Int} (h:¬Cx l ws≠0) {k:Nat} {t:Tp} (ht:l[k]? =some t) (hn:(!(Ft (Mp l k) t ws).isSome)=true): []=Ls l ws∧21=Es l ws:=by
 have e:Es l ws=21:=by
  rw [Es,if_neg h,if_neg fun ha=> ?_]
  have:=ha k (List.getElem?_eq_some_iff.1 ht).1
  rw [Lr ht] at this
  rw [this] at hn
  cases hn
 exact ⟨by rw [Ls,e,if_neg (by decide)],e.symm⟩
theorem Ao3 {l:List Tp} {ws:List Int} (h:¬Cx l ws≠0) (ha:Lg l ws):Mn l ws l.length=Ls l ws∧0=Es l ws:=by
 have e:Es l ws=0:=by rw [Es,if_neg h,if_pos ha]
 exact ⟨by rw [Ls,e,if_pos rfl],e.symm⟩
theorem Ajt (l:List Tp) (ws:List Int):XC Tryz.prog 170 [.sl 4 (l.map Tp.c), .sl 1 (B7 ws)] (fun r=>r= .tup [.sl 1 (B7 (Ls l ws)),dI (Es l ws)]):=by
 refine Al Aag Tryz.func170 R R lb<|zr<|za R R<|za R R<|zn<|zs<|zr<|zm R R<|zm R R<|XL.call1 R R (R0 _ _) R<|zm R R<|zp (Aq R R R)<|zp (Aq R R R)<|za R R<|?_
 refine za R R<|znr<|zm R R<|zp (A1 R R R)<|zn<|?_
 refine zd R (fun c19=> ?_) (fun c19=> ?_)
 refine zr<|zm R R<|za R R<|za R R<|zn<|zt<|?_
 exact Ay R (RV.nil (sz:=1) R R) (RV.tmp R R) (r2 (rSl (Ao5 c19).1) (rI (Ao5 c19).2))
 refine zi<|zs<|?_
 have hT:=Mo c19
 have hbd:=hT.bd
 have hlen:=hT.len
 refine Ag (by kernel_rfl)<|zm R R<|XL.len R R R Tryz.underlying80 fun hl22=>XL.step R (Np 23 (m:=0) (z:=(.int .i64 0)) (zs:= [dI 0]) (sz:=1) (bytes:=8) R R R Tryz.underlying45 (by kernel_rfl) (by kernel_rfl) (by kernel_rfl) (by decide) (by decide) (by omega) (by unfold maxLen;omega) (by omega))<|zp (Ao R (by conv=>lhs;whnf))<|?_
 refine zn<|zs<|zr<|zm R R<|XL.len R R R Tryz.underlying80 fun hl25=>zm R R<|zn<|Ah<|?_
 refine A0 (α:=Nat) (fun k=>k≤l.length∧∀j,j<k→(Td l j ws).isSome=true) (fun k=>mkF [(0, .d (.sl 4 (l.map Tp.c))),(1, .d (.sl 1 (B7 ws))),(8, .own 23),(25, .d (dI l.length)),(26, .d (dI k))]) (fun k=>mkH [(23, .row 3 1 ((Mn l ws k).map iv))]) (fun k=>l.length - k) (0) (⟨Nat.zero_le _,fun j hj=>absurd hj (Nat.not_lt_zero _)⟩) ?_ ?_ ?_
 exact fz ⟨sr,sr,sr,sr,sr,trivial⟩
 exact gz ⟨R,trivial⟩
 intro k hk0
 obtain ⟨hk,hall⟩:=hk0
 refine zr<|zp (At R R R)<|zn<|zs<|?_
 refine zd R (fun c27=> ?_) (fun c27=> ?_)
 have hk0a:k<l.length:=by omega
 obtain ⟨x0,hx0⟩:=Ax hk0a
 have hll:=Ags l ws k
 refine zi<|zs<|Ah<|zr<|zm R R<|za R R<|znr<|zm R R<|zm R R<|zm R R<|XL.call1 R R (Amy _ _ _ _ hx0 hT) R<|zm R R<|zp (Aq R R R)<|zp (Aq R R R)<|?_
 refine za R R<|za R R<|zn<|zs<|zr<|zm R R<|zp (D1 R R)<|zn<|?_
 refine Ew (by kernel_rfl) R (fun c37=> ?_) (fun c37=> ?_)
 refine zr<|za R R<|za R R<|zn<|zt<|?_
 exact Ay R (RV.nil (sz:=1) R R) (RV.tmp R R) (r2 (rSl (Ao4 c19 hx0 c37).1) (rI (Ao4 c19 hx0 c37).2))
 refine zi<|Ag (by kernel_rfl)<|zp (Ar R (by conv=>lhs;whnf))<|?_
 refine zm R R<|XL.step R (Bk 40 R Tryz.underlying45 Eo G8 R R (by omega) (by omega))<|XL.step R (A3 R Qm (.own R) (Src.own R) (by unfold maxLen;simp;omega) (by simp;omega))<|zp (Ao R (by conv=>lhs;whnf))<|?_
 refine zn<|Ag (by kernel_rfl)<|zp (Ak R R R (by omega) (by omega))<|zm R R<|zn<|?_
 exact Am (k+1) (⟨by omega,fun j hj=>by by_cases e:j=k;(· subst e;rw [Lr hx0];exact (by simpa using c37));(· exact hall j (by omega))⟩) (by omega) (fz ⟨sr,sr,sr,sr,sr,trivial⟩) (gz ⟨Iv rfl (Aes hx0),trivial⟩)
 have hk0b:k=l.length:=by omega
 have ha:Lg l ws:=fun j hj=>hall j (by omega)
 refine Au<|zr<|zp (Ar R (by conv=>lhs;whnf))<|?_
 refine zp (Ao R (by conv=>lhs;whnf))<|?_
 refine za R R<|zn<|zt<|B6 (i:=23) R<|?_
 exact Ay R (RV.tmp R R) (RV.tmp R R) (r2 (rSl (by rw [hk0b];exact (Ao3 c19 ha).1)) (rI (Ao3 c19 ha).2))
def Ha (l:List Tp) (n:Int):Int:=if Du l 128≠0 then 0 else (hits l n:Int)
theorem Ak7 {l:List Tp} {k:Nat} {t:Tp} {n:Int} (h:l[k]? =some t) (ht:t.has n):hits (l.take (k+1)) n=hits (l.take k) n+1:=by rw [Bp h,Hy,if_pos ht]
theorem An7 {l:List Tp} {k:Nat} {t:Tp} {n:Int} (h:l[k]? =some t) (ht:¬t.has n):hits (l.take (k+1)) n=hits (l.take k) n:=by rw [Bp h,Hy,if_neg ht];rfl
theorem Alr (l:List Tp) (n:Int) (h0:0≤n) (h1:n≤128):XC Tryz.prog 152 [.sl 4 (l.map Tp.c), .v (.int .i64 n)] (fun r=>r=dI (Ha l n)):=by
 refine Al Aay Tryz.func152 R R lb<|zr<|za R R<|zn<|zs<|zr<|zm R R<|XL.call1 R R (Vc _ _) R<|zp (A1 R R R)<|zn<|?_
 refine zd R (fun c10=> ?_) (fun c10=> ?_)
 exact zr<|za R R<|zn<|zt<|z1 R R (rI (by rw [Ha,if_pos c10]))
 refine zi<|zs<|?_
 have hT:=Uh c10
 refine Ag (by kernel_rfl)<|za R R<|zn<|zs<|zr<|zm R R<|XL.len R R R Tryz.underlying80 fun hl12=>zm R R<|zn<|Ah<|?_
 refine A0 (α:=Nat) (fun k=>k≤l.length) (fun k=>mkF [(1, .d (dI n)),(4, .d (dI 0)),(5, .d (dI (hits (l.take k) n:Int))),(11, .d (.sl 4 (l.map Tp.c))),(12, .d (dI l.length)),(13, .d (dI k))]) (fun k=>mkH []) (fun k=>l.length - k) (0) (Nat.zero_le _) ?_ ?_ ?_
 exact fz ⟨sr,sr,sr,sr,sr,sr,trivial⟩
 exact HSub.nil
 intro k hk0
 refine zr<|zp (At R R R)<|zn<|zs<|?_
 refine zd R (fun c14=> ?_) (fun c14=> ?_)
 have hk0a:k<l.length:=by omega
 obtain ⟨x0,hx0⟩:=Ax hk0a
 have hok:=hT.ok x0 (List.mem_of_getElem? hx0)
 have hle:=Nat.le_trans (Qe l k n) (hT.hits n)
 refine zi<|zs<|Ah<|zr<|zp (Av R R R E3 hx0)<|zp (Ae (s':= .d (.agg (Tp.c x0))) (Be R R B5 lb) (by kernel_rfl))<|XL.step R (Ap 7 (l:= [.d (dI 0), .d (dI 0), .d (dI 0), .d (dI 0)]) R Dn (by kernel_rfl))<|XL.step R (Af (l':= [.d (dI x0.first), .d (dI x0.count), .d (dI x0.actual), .d (dI x0.normal)]) R R R R Et R lb (by kernel_rfl))<|znr<|?_
 refine zp (Ae (s':= .d (.agg (Tp.c x0))) (Ac (Ad R R B5 R lb)) (by kernel_rfl))<|zm R R<|XL.call1 R R (R7 _ _ (by assumption) (by omega) (by omega)) R<|zn<|?_
 refine zd R (fun c19=> ?_) (fun c19=> ?_)
 refine Ag (by kernel_rfl)<|zm R R<|zp (Ak R R R (by omega) (by omega))<|za R R<|zn<|Ag (by kernel_rfl)<|zp (Ak R R R (by omega) (by omega))<|zm R R<|zn<|?_
 exact Am (k+1) (by omega) (by omega) (fz ⟨sr,sr, .same (sI (by rw [Ak7 hx0 c19];rfl)),sr,sr,sr,trivial⟩) (HSub.nil)
 refine zi<|Ag (by kernel_rfl)<|zp (Ak R R R (by omega) (by omega))<|zm R R<|zn<|?_
 exact Am (k+1) (by omega) (by omega) (fz ⟨sr,sr, .same (sI (by rw [An7 hx0 c19])),sr,sr,sr,trivial⟩) (HSub.nil)
 have hk0b:k=l.length:=by omega
 have ht:l.take k=l:=by rw [hk0b,List.take_length]
 exact Au<|zr<|zm R R<|za R R<|zn<|zt<|z1 R R (rI (by rw [Ha,if_neg c10,ht]))
end Go.Proofs.YtaafemnkamfgnaaGreat
namespace Go.Proofs.YtaafemnkamfgnaaGreat
open Go.RowKit
def tot (l:List Int):Int:=l.foldl (· + ·) 0
theorem N1 (l:List Int) (x:Int):tot (l++ [x])=tot l+x:=by unfold tot;rw [List.foldl_append];rfl
theorem Sg {l:List Int} {k:Nat} {x:Int} (h:l[k]? =some x):tot (l.take (k+1))=tot (l.take k)+x:=by rw [Bp h,N1]
structure Nums (l:List Int):Prop where
 len:l.length≤128
 bd:∀x∈l,0≤x∧x≤253671505920
theorem Am1 {l:List Int}:(∀x∈l,0≤x∧x≤253671505920)→0≤tot l∧tot l≤(l.length:Int)*253671505920:=by
 refine Si (p:=fun l=>(∀x∈l,0≤x∧x≤253671505920)→0≤tot l∧tot l≤(l.length:Int)*253671505920) (fun _=>by simp [tot]) (fun l x ih h=> ?_) l
 have h1:=ih fun y hy=>h y (List.mem_append_left _ hy)
 have h2:=h x (List.mem_append_right _ (List.mem_singleton.2 rfl))
 rw [N1,List.length_append,List.length_singleton,Int.natCast_add,Int.add_mul]
 omega
theorem Nums.tot {l:List Int} (h:Nums l):0≤Go.Proofs.YtaafemnkamfgnaaGreat.tot l∧Go.Proofs.YtaafemnkamfgnaaGreat.tot l≤32469952757760:=by
 have:=Am1 h.bd
 have:=h.len
 omega
theorem Nums.take {l:List Int} (h:Nums l) (k:Nat):Nums (l.take k):=⟨Nat.le_trans (List.length_take_le' _ _) h.len,fun x hx=>h.bd x (List.mem_of_mem_take hx)⟩
def Evs (l:List Ev):Prop:=∀e∈l,e.art≤9223372036854775807
def wrS (l:List Ev):List Int:=l.map Ev.len
theorem Ajv (l:List Int) (h:Nums l):XC Tryz.prog 116 [.sl 1 (B7 l)] (fun r=>r=dI (tot l)):=by
 refine Al Abb Tryz.func116 R R lb<|zr<|za R R<|znr<|za R R<|zn<|zs<|zr<|zm R R<|XL.len R R R Tryz.underlying45 fun hl7=>zm R R<|zn<|Ah<|?_
 refine A0 (α:=Nat) (fun k=>k≤l.length) (fun k=>mkF [(2, .d (dI 0)),(3, .d (dI (tot (l.take k)))),(6, .d (.sl 1 (B7 l))),(7, .d (dI l.length)),(8, .d (dI k))]) (fun k=>mkH []) (fun k=>l.length - k) (0) (Nat.zero_le _) ?_ ?_ ?_
 exact fz ⟨sr,sr,sr,sr,sr,trivial⟩
 exact HSub.nil
 intro k hk0
 refine zr<|zp (At R R R)<|zn<|zs<|?_
 refine zd R (fun c9=> ?_) (fun c9=> ?_)
 have hk0a:k<l.length:=by omega
 obtain ⟨x0,hx0⟩:=Ax hk0a
 have h1:=(h.take k).tot
 have h2:=h.bd x0 (List.mem_of_getElem? hx0)
 refine zi<|zs<|Ah<|zr<|zp (Av R R R Dh hx0)<|zp (A9 R R Ai)<|za R R<|zng<|zm R R<|zm R R<|zp (Ak R R R (by omega) (by omega))<|za R R<|zn<|Ag (by kernel_rfl)<|?_
 refine zp (Ak R R R (by omega) (by omega))<|zm R R<|zn<|?_
 exact Am (k+1) (by omega) (by omega) (fz ⟨sr, .same (sI (by rw [Sg hx0])),sr,sr,sr,trivial⟩) (HSub.nil)
 have hk0b:k=l.length:=by omega
 have ht:l.take k=l:=by rw [hk0b,List.take_length]
 exact Au<|zr<|zm R R<|za R R<|zn<|zt<|z1 R R (rI (by rw [ht]))
def Jk (l:List Int) (k:Nat):List Int:=(List.range l.length).map fun j=>if j<k then tot (l.take j) else 0
def A7 (l:List Int):List Int:=(List.range l.length).map fun j=>tot (l.take j)
theorem X9 (l:List Int) (k:Nat):(Jk l k).length=l.length:=by rw [Jk,List.length_map,List.length_range]
theorem Akp (l:List Int):List.replicate l.length (0:Int)=Jk l 1:=by
 rw [Jk]
 refine List.ext_getElem? fun j=> ?_
 rw [List.getElem?_replicate,List.getElem?_map]
 by_cases h:j<l.length
 ·rw [if_pos h,List.getElem?_range h,Option.map_some]
  congr 1
  split
  ·have:j=0:=by omega
   subst this;rfl
  ·rfl
 ·rw [if_neg h,List.getElem?_eq_none (by rw [List.length_range];omega)];rfl
theorem Ya {l:List Int} {j k:Nat} (h:j<k) (hj:j<l.length):(Jk l k)[j]? =some (tot (l.take j)):=by
 rw [Jk,List.getElem?_map,List.getElem?_range hj,Option.map_some,if_pos h]
theorem Ako {l:List Int} {k:Nat} (hk:k<l.length):(Jk l k).set k (tot (l.take k))=Jk l (k+1):=by
 refine List.ext_getElem? fun j=> ?_
 rw [List.getElem?_set]
 split
 ·rename_i h
  subst h
  rw [if_pos (by rw [X9];exact hk),Ya (by omega) hk]
 ·rename_i h
  rw [Jk,Jk,List.getElem?_map,List.getElem?_map]
  by_cases hj:j<l.length
  ·rw [List.getElem?_range hj,Option.map_some,Option.map_some]
   congr 1
   by_cases e:j<k
   ·rw [if_pos e,if_pos (by omega)]
   ·rw [if_neg e,if_neg (by omega)]
  ·rw [List.getElem?_eq_none (by rw [List.length_range];omega)];rfl
theorem Akq {l:List Int} {k:Nat} (hk:l.length≤k):Jk l k=A7 l:=by
 rw [Jk,A7]
 refine List.map_congr_left fun j hj=> ?_
 rw [if_pos (by have:=List.mem_range.1 hj;omega)]
theorem Vs (l:List Int) (h:Nums l):XC Tryz.prog 96 [.sl 1 (B7 l)] (fun r=>r= .sl 1 (B7 (A7 l))):=by
 have hll:=h.len
 refine Al Aca Tryz.func96 R R lb<|zr<|za R R<|znr<|zm R R<|XL.len R R R Tryz.underlying45 fun hl6=>XL.step R (Np 7 (z:=(.int .i64 0)) (zs:= [dI 0]) (sz:=1) (bytes:=8) R R R Tryz.underlying45 (by kernel_rfl) (by kernel_rfl) (by kernel_rfl) (by decide) (by decide) (by omega) (by unfold maxLen;omega) (by omega))<|zp (Ao R (by conv=>lhs;whnf))<|?_
 refine zn<|zs<|zr<|za R R<|zn<|Ah<|?_
 refine A0 (α:=Nat) (fun k=>1≤k∧k≤l.length+1) (fun k=>mkF [(0, .d (.sl 1 (B7 l))),(2, .d (.v (.slice none 0 0))),(3, .own 7),(4, .d (dI k))]) (fun k=>mkH [(7, .row 3 1 ((Jk l k).map iv))]) (fun k=>l.length+1 - k) (1) (⟨Nat.le_refl _,by omega⟩) ?_ ?_ ?_
 exact fz ⟨sr,sr,sr,sr,trivial⟩
 exact gz ⟨by rw [←Akp,List.map_replicate];rfl,trivial⟩
 intro k hk0
 refine zs<|zr<|zm R R<|zm R R<|XL.len R R R Tryz.underlying45 fun hl10=>zp (At R R R)<|zn<|?_
 refine zd R (fun c11=> ?_) (fun c11=> ?_)
 have hkl:k<l.length:=by omega
 have h1:=(h.take (k - 1)).tot
 obtain ⟨x,hx⟩:∃x,l[k - 1]? =some x:=Ax (by omega)
 have h2:=h.bd x (List.mem_of_getElem? hx)
 have ho:=Ya (l:=l) (k:=k) (j:=k - 1) (by omega) (by omega)
 have hol:=X9 l k
 obtain ⟨z,hz⟩:∃z,(Jk l k)[k]? =some z:=Ax (by omega)
 have htk:tot (l.take k)=tot (l.take (k - 1))+x:=by have:=Sg hx;rwa [Nat.sub_add_cancel (by omega)] at this
 refine zi<|zs<|Ah<|Ck 13 [] (by kernel_rfl) (by kernel_rfl) (by kernel_rfl) (by kernel_rfl) (by decide)<|yp (Ar R (by conv=>lhs;whnf))<|?_
 refine ym R R<|yp (Ar R (by conv=>lhs;whnf))<|?_
 refine ym R R<|yp (E1 R R R (by omega) (by omega))<|yp (Cn R R R ((by omega:(k:Int) - 1=((k - 1:Nat):Int))) R Dh (by omega))<|yp (H9 R R Ai R (C4 (ho)) R)<|ym R R<|ym R R<|yp (E1 R R R (by omega) (by omega))<|yp (K5 R R R ((by omega:(k:Int) - 1=((k - 1:Nat):Int))) Dh (hx))<|yp (A9 R R Ai)<|yp (Ak R R R (by omega) (by omega))<|?_
 refine ChK.nil ⟨by kernel_rfl, ?_⟩
 refine zp (Jg R R R R Dh (by omega))<|XL.step R (E4 R R R (C4 hz) R R Eo R lb)<|zn<|Ag (by kernel_rfl)<|zm R R<|zp (Ak R R R (by omega) (by omega))<|za R R<|zn<|?_
 exact Am (k+1) (by omega) (by omega) (fz ⟨sr,sr,sr,sr,trivial⟩) (gz ⟨Pe (a:=tot (l.take k)) (by rw [htk];rfl) (Ako hkl).symm,trivial⟩)
 have he:=Akq (l:=l) (k:=k) (by omega)
 refine Au<|zr<|zp (Ar R (by conv=>lhs;whnf))<|?_
 refine zp (Ao R (by conv=>lhs;whnf))<|?_
 exact zn<|zt<|B6 (i:=7) R<|z1 R R (rSl he)
end Go.Proofs.YtaafemnkamfgnaaGreat
namespace Go.Proofs.YtaafemnkamfgnaaGreat
open Go.RowKit
def Ig (f:Nat→Int) (n k:Nat):List Int:=(List.range n).map fun j=>if j<k then f j else 0
theorem We (f:Nat→Int) (n k:Nat):(Ig f n k).length=n:=by rw [Ig,List.length_map,List.length_range]
theorem Af1 (f:Nat→Int) (n:Nat):List.replicate n (0:Int)=Ig f n 0:=by
 rw [Ig]
 refine List.ext_getElem? fun j=> ?_
 rw [List.getElem?_replicate,List.getElem?_map]
 by_cases h:j<n
 ·rw [if_pos h,List.getElem?_range h,Option.map_some,if_neg (by omega)]
 ·rw [if_neg h,List.getElem?_eq_none (by rw [List.length_range];omega)];rfl
theorem Ait {f:Nat→Int} {n k:Nat} (hk:k<n):Ig f n (k+1)=(Ig f n k).set k (f k):=by
 refine List.ext_getElem? fun j=> ?_
 rw [List.getElem?_set]
 split
 ·rename_i h
  subst h
  rw [if_pos (by rw [We];exact hk),Ig,List.getElem?_map,List.getElem?_range hk,Option.map_some,if_pos (by omega)]
 ·rename_i h
  rw [Ig,Ig,List.getElem?_map,List.getElem?_map]
  by_cases hj:j<n
  ·rw [List.getElem?_range hj,Option.map_some,Option.map_some]
   congr 1
   by_cases e:j<k
   ·rw [if_pos e,if_pos (by omega)]
   ·rw [if_neg e,if_neg (by omega)]
  ·rw [List.getElem?_eq_none (by rw [List.length_range];omega)];rfl
theorem Aiu {f:Nat→Int} {n k:Nat} (hk:n≤k):Ig f n k=(List.range n).map f:=by
 rw [Ig]
 refine List.map_congr_left fun j hj=> ?_
 rw [if_pos (by have:=List.mem_range.1 hj;omega)]
def K8 (l:List Ev) (j:Nat):Int:=((l[j]?).map Ev.len).getD 0
theorem Ak0 {l:List Ev} {k:Nat} {e:Ev} (h:l[k]? =some e):K8 l k=e.len:=by rw [K8,h];rfl
theorem Ah7 (l:List Ev):(List.range l.length).map (K8 l)=wrS l:=by
 refine List.ext_getElem? fun j=> ?_
 rw [List.getElem?_map,wrS,List.getElem?_map]
 by_cases hj:j<l.length
 ·rw [List.getElem?_range hj,Option.map_some,K8,List.getElem?_eq_getElem hj];rfl
 ·rw [List.getElem?_eq_none (by rw [List.length_range];omega),List.getElem?_eq_none (by omega)];rfl
theorem Abp (l:List Ev) (hE:Evs l) (hlen:l.length≤128):XC Tryz.prog 168 [.sl 13 (l.map Ev.c)] (fun r=>r= .sl 1 (B7 (wrS l))):=by
 refine Al Aai Tryz.func168 R R lb<|zr<|za R R<|znr<|zm R R<|XL.len R R R Tryz.underlying79 fun hl7=>XL.step R (Np 8 (z:=(.int .i64 0)) (zs:= [dI 0]) (sz:=1) (bytes:=8) R R R Tryz.underlying45 (by kernel_rfl) (by kernel_rfl) (by kernel_rfl) (by decide) (by decide) (by omega) (by unfold maxLen;omega) (by omega))<|zp (Ao R (by conv=>lhs;whnf))<|?_
 refine zn<|zs<|zr<|zm R R<|XL.len R R R Tryz.underlying79 fun hl10=>zm R R<|zn<|Ah<|?_
 refine A0 (α:=Nat) (fun k=>k≤l.length) (fun k=>mkF [(2, .d (.v (.slice none 0 0))),(3, .own 8),(9, .d (.sl 13 (l.map Ev.c))),(10, .d (dI l.length)),(11, .d (dI k))]) (fun k=>mkH [(8, .row 3 1 ((Ig (K8 l) l.length k).map iv))]) (fun k=>l.length - k) (0) (Nat.zero_le _) ?_ ?_ ?_
 exact fz ⟨sr,sr,sr,sr,sr,trivial⟩
 exact gz ⟨by rw [←Af1,List.map_replicate];rfl,trivial⟩
 intro k hk0
 refine zr<|zp (At R R R)<|zn<|zs<|?_
 refine zd R (fun c12=> ?_) (fun c12=> ?_)
 have hk0a:k<l.length:=by omega
 obtain ⟨x0,hx0⟩:=Ax hk0a
 have he:=hE x0 (List.mem_of_getElem? hx0)
 have hfl:=We (K8 l) l.length k
 obtain ⟨z,hz⟩:∃z,(Ig (K8 l) l.length k)[k]? =some z:=Ax (by omega)
 refine zi<|zs<|Ah<|zr<|zm R R<|zp (Av R R R Hj hx0)<|zp (Ae (s':= .d (.agg (Ev.c x0))) (Be R R Bu lb) (by kernel_rfl))<|XL.step R (Ap 5 (l:= [.d (dI 0), .d (dI 0), .d (dI 0), .d (dI 0), .d (dI 0), .d (.v (.slice none 0 0)), .d (.v (.slice none 0 0)), .d (dI 0), .d (dI 0), .d (dI 0), .d (.v (.slice none 0 0)), .d (dI 0), .d (dI 0)]) R B9 (by kernel_rfl))<|?_
 refine za R R<|XL.step R (Af (l':= [.d (dI x0.site), .d (dI x0.num), .d (dI x0.kind), .d (dI x0.v.log), .d (dI x0.v.dots), .d (.sl 5 (x0.heads.map Hd.c)), .d (.sl 5 (x0.graces.map Gr.c)), .d (dI x0.art), .d (dI x0.orn), .d (dI x0.dyn), .d (.sl 2 (x0.lyr.map Sy.c)), .d (dI x0.stem), .d (dI x0.beam)]) R R R R Cy R lb (by kernel_rfl))<|zng<|zp (Ar R (by conv=>lhs;whnf))<|?_
 refine zm R R<|zp (Ae (s':= .d (.agg (Ev.c x0))) (Ac (Ad R R Bu R lb)) (by kernel_rfl))<|XL.call1 R R (Aej _ (by assumption)) R<|zm R R<|zp (Aq R R R)<|zp (Aq R R R)<|zp (Jg R R R R Dh (by omega))<|XL.step R (E4 R R R (C4 hz) R R Eo R lb)<|zn<|Ag (by kernel_rfl)<|zp (Ak R R R (by omega) (by omega))<|zm R R<|zn<|?_
 exact Am (k+1) (by omega) (by omega) (fz ⟨sr,sr,sr,sr,sr,trivial⟩) (gz ⟨Pe (a:=K8 l k) (by rw [Ak0 hx0];rfl) (Ait hk0a),trivial⟩)
 have hk0b:k=l.length:=by omega
 have he:=Aiu (f:=K8 l) (n:=l.length) (k:=k) (by omega)
 refine Au<|zr<|zp (Ar R (by conv=>lhs;whnf))<|?_
 refine zp (Ao R (by conv=>lhs;whnf))<|?_
 exact zn<|zt<|B6 (i:=8) R<|z1 R R (rSl (by rw [he,Ah7]))
def Vo.whole (v:Vo):Prop:=match v.evs with| []=>False|e::_=>e.kind=3
instance (v:Vo):Decidable v.whole:=by unfold Vo.whole;cases v.evs<;>exact inferInstance
theorem Jv {v:Vo} {e:Ev} (h:v.evs[0]? =some e):v.whole↔e.kind=3:=by
 unfold Vo.whole
 cases hv:v.evs with
 |nil=>rw [hv] at h;cases h
 |cons x l=>rw [hv] at h;cases h;exact Iff.rfl
theorem Ajs {v:Vo} (h:¬0<(v.evs.length:Int)):¬v.whole:=by
 unfold Vo.whole
 cases hv:v.evs with
 |nil=>exact fun h=>h
 |cons x l=>rw [hv] at h;simp at h
def Vo.absent (v:Vo):Prop:=v.evs.length=0∧v.tups.length=0
instance (v:Vo):Decidable v.absent:=by unfold Vo.absent;exact inferInstance
theorem Ajr (v:Vo):XC Tryz.prog 143 [.agg (Vo.c v)] (fun r=>r=dB (decide v.whole)):=by
 refine Al Aa1 Tryz.func143 R R lb<|zr<|XL.step R (An 1 (l:= [.d (.sl 13 (v.evs.map Ev.c)), .d (.sl 4 (v.tups.map Tp.c))]) R R (by kernel_rfl))<|za R R<|znr<|zp (Aa R R Bw)<|zp (Ab R R C7 R R)<|XL.len R R R Tryz.underlying79 fun hl5=>zp (A8 R R R)<|zm R R<|?_
 refine XL.dec 7 R (fun g7=> ?_) (fun g7=> ?_)
 obtain ⟨e,he⟩:∃e,v.evs[0]? =some e:=Ax (by omega)
 exact zp (Aa R R Bw)<|zp (Ab R R C7 R R)<|zp (Av (k:=0) R R R Hj (he))<|zp (F8 R R C9)<|zp (A9 R R Ai)<|zp (Bb R R R)<|zq R R R<|za R R<|zn<|zt<|z1 R R (rB (by rw [decide_eq_decide];exact (Jv he).symm))
 exact zk 6 R<|zq R R R<|za R R<|zn<|zt<|z1 R R (rB (by rw [eq_comm,decide_eq_false_iff_not];exact Ajs g7))
theorem Aeo (v:Vo):XC Tryz.prog 129 [.agg (Vo.c v)] (fun r=>r=dB (decide v.absent)):=by
 refine Al Aa9 Tryz.func129 R R lb<|zr<|XL.step R (An 1 (l:= [.d (.sl 13 (v.evs.map Ev.c)), .d (.sl 4 (v.tups.map Tp.c))]) R R (by kernel_rfl))<|za R R<|znr<|zp (Aa R R Bw)<|zp (Ab R R C7 R R)<|XL.len R R R Tryz.underlying79 fun hl5=>zp (Bb R R R)<|zm R R<|?_
 refine XL.dec 7 R (fun g7=> ?_) (fun g7=> ?_)
 exact zp (Aa R R B0)<|zp (Ab R R B1 R R)<|XL.len R R R Tryz.underlying80 fun hl10=>zp (Bb R R R)<|zq R R R<|za R R<|zn<|zt<|z1 R R (rB (by rw [decide_eq_decide];unfold Vo.absent;omega))
 exact zk 4 R<|zq R R R<|za R R<|zn<|zt<|z1 R R (rB (by rw [eq_comm,decide_eq_false_iff_not];unfold Vo.absent;omega))
def Gd (n:Nat):Nat→List Ev→Int
 |_, []=>0
 |k,e::r=>if e.err≠0 then e.err else if e.kind=3∧(0<k∨1<n) then 11 else Gd n (k+1) r
def E6 (v:Vo):Int:=
 if Gd v.evs.length 0 v.evs≠0 then Gd v.evs.length 0 v.evs else if Cx v.tups (wrS v.evs)≠0 then Cx v.tups (wrS v.evs) else if Es v.tups (wrS v.evs)≠0 then 21 else 0
def Gb (v:Vo):List Int:=if E6 v=0 then Gx v.tups (wrS v.evs) else []
theorem Yr {n k:Nat} {l:List Ev} {e:Ev} (h:l[k]? =some e) (he:e.err≠0):Gd n k (l.drop k)=e.err:=by rw [Br h,Gd,if_pos he]
theorem M7 {n k:Nat} {l:List Ev} {e:Ev} (h:l[k]? =some e) (he:¬e.err≠0) (hk:e.kind=3∧(0<k∨1<n)):Gd n k (l.drop k)=11:=by rw [Br h,Gd,if_neg he,if_pos hk]
theorem V5 {n k:Nat} {l:List Ev} {e:Ev} (h:l[k]? =some e) (he:¬e.err≠0) (hk:¬(e.kind=3∧(0<k∨1<n))):Gd n k (l.drop k)=Gd n (k+1) (l.drop (k+1)):=by rw [Br h,Gd,if_neg he,if_neg hk]
theorem Rh {v:Vo} {e:Int} (he:e=Gd v.evs.length 0 v.evs) (hn:e≠0): []=Gb v∧e=E6 v:=by
 have e2:E6 v=e:=by rw [E6, ←he,if_pos hn]
 exact ⟨by rw [Gb,e2,if_neg hn],e2.symm⟩
theorem Ame {v:Vo} (h:Gd v.evs.length 0 v.evs=0) (hn:Cx v.tups (wrS v.evs)≠0): []=Gb v∧Cx v.tups (wrS v.evs)=E6 v:=by
 have e2:E6 v=Cx v.tups (wrS v.evs):=by rw [E6,if_neg (by omega),if_pos hn]
 exact ⟨by rw [Gb,e2,if_neg hn],e2.symm⟩
theorem Amd {v:Vo} (h:Gd v.evs.length 0 v.evs=0) (h2:¬Cx v.tups (wrS v.evs)≠0) (hn:Es v.tups (wrS v.evs)≠0): []=Gb v∧21=E6 v:=by
 have e2:E6 v=21:=by rw [E6,if_neg (by omega),if_neg h2,if_pos hn]
 exact ⟨by rw [Gb,e2,if_neg (by decide)],e2.symm⟩
theorem Amc {v:Vo} (h:Gd v.evs.length 0 v.evs=0) (h2:¬Cx v.tups (wrS v.evs)≠0) (h3:¬Es v.tups (wrS v.evs)≠0):Gx v.tups (wrS v.evs)=Gb v∧0=E6 v:=by
 have e2:E6 v=0:=by rw [E6,if_neg (by omega),if_neg h2,if_neg h3]
 exact ⟨by rw [Gb,e2,if_pos rfl],e2.symm⟩
theorem Yq (v:Vo) (hE:Evs v.evs) (hlen:v.evs.length≤128):XC Tryz.prog 145 [.agg (Vo.c v)] (fun r=>r= .tup [.sl 1 (B7 (Gb v)),dI (E6 v)]):=by
 refine Al Aaz Tryz.func145 R R lb<|zr<|XL.step R (An 1 (l:= [.d (.sl 13 (v.evs.map Ev.c)), .d (.sl 4 (v.tups.map Tp.c))]) R R (by kernel_rfl))<|za R R<|za R R<|zn<|zs<|zr<|zp (Aa R R Bw)<|zp (Ab R R C7 R R)<|XL.len R R R Tryz.underlying79 fun hl14=>zm R R<|zn<|Ah<|?_
 refine A0 (α:=Nat) (fun k=>k≤v.evs.length∧Gd v.evs.length k (v.evs.drop k)=Gd v.evs.length 0 v.evs) (fun k=>mkF [(1, .ptr 1 0 0),(13, .d (.sl 13 (v.evs.map Ev.c))),(14, .d (dI v.evs.length)),(15, .d (dI k))]) (fun k=>mkH [(1, .box ((Vo.c v).map S.d))]) (fun k=>v.evs.length - k) (0) (⟨Nat.zero_le _,by rw [List.drop_zero]⟩) ?_ ?_ ?_
 exact fz ⟨sr,sr,sr,sr,trivial⟩
 exact gz ⟨R,trivial⟩
 intro k hk0
 obtain ⟨hk,hgo⟩:=hk0
 refine zr<|zp (At R R R)<|zn<|zs<|?_
 refine zd R (fun c16=> ?_) (fun c16=> ?_)
 have hk0a:k<v.evs.length:=by omega
 obtain ⟨x0,hx0⟩:=Ax hk0a
 have he:=hE x0 (List.mem_of_getElem? hx0)
 refine zi<|zs<|Ah<|zr<|zm R R<|zp (Av R R R Hj hx0)<|zp (Ae (s':= .d (.agg (Ev.c x0))) (Be R R Bu lb) (by kernel_rfl))<|XL.step R (Ap 5 (l:= [.d (dI 0), .d (dI 0), .d (dI 0), .d (dI 0), .d (dI 0), .d (.v (.slice none 0 0)), .d (.v (.slice none 0 0)), .d (dI 0), .d (dI 0), .d (dI 0), .d (.v (.slice none 0 0)), .d (dI 0), .d (dI 0)]) R B9 (by kernel_rfl))<|?_
 refine za R R<|XL.step R (Af (l':= [.d (dI x0.site), .d (dI x0.num), .d (dI x0.kind), .d (dI x0.v.log), .d (dI x0.v.dots), .d (.sl 5 (x0.heads.map Hd.c)), .d (.sl 5 (x0.graces.map Gr.c)), .d (dI x0.art), .d (dI x0.orn), .d (dI x0.dyn), .d (.sl 2 (x0.lyr.map Sy.c)), .d (dI x0.stem), .d (dI x0.beam)]) R R R R Cy R lb (by kernel_rfl))<|zn<|zs<|zr<|?_
 refine zp (Ae (s':= .d (.agg (Ev.c x0))) (Ac (Ad R R Bu R lb)) (by kernel_rfl))<|XL.call1 R R (Qo _ (by assumption)) R<|za R R<|znr<|zm R R<|zp (A1 R R R)<|zn<|?_
 refine zd R (fun c23=> ?_) (fun c23=> ?_)
 refine zr<|zm R R<|za R R<|za R R<|zn<|zt<|?_
 exact Ay R (RV.nil (sz:=1) R R) (RV.tmp R R) (r2 (rSl (Rh (by rw [←hgo,Yr hx0 c23]) c23).1) (rI (Rh (by rw [←hgo,Yr hx0 c23]) c23).2))
 refine zi<|zr<|zp (Aa R R C9)<|zp (Ab R R Ai R R)<|zp (Bb R R R)<|zm R R<|?_
 refine XL.dec 28 R (fun g28=> ?_) (fun g28=> ?_)
 refine zm R R<|zp (A8 R R R)<|zm R R<|?_
 refine XL.dec 31 R (fun g31=> ?_) (fun g31=> ?_)
 refine zk 4 R<|zq R R R<|zq R R R<|zn<|Aw (by kernel_rfl) R<|zr<|za R R<|za R R<|zn<|zt<|?_
 exact Ay R (RV.nil (sz:=1) R R) (RV.tmp R R) (r2 (rSl (Rh (e:=11) (by rw [←hgo,M7 hx0 c23 (by omega)]) (by decide)).1) (rI (Rh (by rw [←hgo,M7 hx0 c23 (by omega)]) (by decide)).2))
 refine zp (Aa R R Bw)<|zp (Ab R R C7 R R)<|XL.len R R R Tryz.underlying79 fun hl34=>zp (A8 R R R)<|zq R R R<|zq R R R<|zn<|?_
 refine zd R (fun c37=> ?_) (fun c37=> ?_)
 refine zr<|za R R<|za R R<|zn<|zt<|?_
 exact Ay R (RV.nil (sz:=1) R R) (RV.tmp R R) (r2 (rSl (Rh (e:=11) (by rw [←hgo,M7 hx0 c23 (by omega)]) (by decide)).1) (rI (Rh (by rw [←hgo,M7 hx0 c23 (by omega)]) (by decide)).2))
 refine zi<|Ag (by kernel_rfl)<|zp (Ak R R R (by omega) (by omega))<|zm R R<|zn<|?_
 exact Am (k+1) (⟨by omega,by rw [←V5 hx0 c23 (by omega)];exact hgo⟩) (by omega) (fz ⟨sr,sr,sr,sr,trivial⟩) (gz ⟨rfl,trivial⟩)
 refine zk 8 R<|zq R R R<|zn<|A6 (by kernel_rfl) R<|zi<|Ag (by kernel_rfl)<|zp (Ak R R R (by omega) (by omega))<|zm R R<|zn<|?_
 exact Am (k+1) (⟨by omega,by rw [←V5 hx0 c23 (by omega)];exact hgo⟩) (by omega) (fz ⟨sr,sr,sr,sr,trivial⟩) (gz ⟨rfl,trivial⟩)
 have hk0b:k=v.evs.length:=by omega
 have hz:Gd v.evs.length 0 v.evs=0:=by rw [←hgo,hk0b,List.drop_length];rfl
 refine Au<|zr<|zp (Aa R R Bw)<|zp (Ab R R C7 R R)<|XL.call1 R R (Abp _ (by assumption) (by omega)) R<|za R R<|znr<|zp (Aa R R B0)<|zp (Ab R R B1 R R)<|zm R R<|XL.call1 R R (R0 _ _) R<|zm R R<|zp (Aq R R R)<|zp (Aq R R R)<|?_
 refine za R R<|za R R<|zn<|zs<|zr<|zm R R<|zp (A1 R R R)<|zn<|?_
 refine zd R (fun c50=> ?_) (fun c50=> ?_)
 refine zr<|zm R R<|za R R<|za R R<|zn<|zt<|?_
 exact Ay R (RV.nil (sz:=1) R R) (RV.tmp R R) (r2 (rSl (Ame hz c50).1) (rI (Ame hz c50).2))
 refine zi<|zs<|zr<|zp (Aa R R B0)<|zp (Ab R R B1 R R)<|zm R R<|XL.call1 R R (Ajt _ _) R<|zm R R<|zp (Aq R R R)<|zp (Aq R R R)<|za R R<|za R R<|znr<|zm R R<|?_
 refine zp (A1 R R R)<|zn<|?_
 refine zd R (fun c60=> ?_) (fun c60=> ?_)
 refine zr<|za R R<|za R R<|zn<|zt<|?_
 exact Ay R (RV.nil (sz:=1) R R) (RV.tmp R R) (r2 (rSl (Amd hz c50 c60).1) (rI (Amd hz c50 c60).2))
 refine zi<|zr<|zm R R<|za R R<|za R R<|zn<|zt<|?_
 exact Ay R (RV.tmp R R) (RV.tmp R R) (r2 (rSl (Amc hz c50 c60).1) (rI (Amc hz c50 c60).2))
def Df (v:Vo) (L:Int):Int:=
 if L<1∨15482880<L then 2 else if 128<v.evs.length then 9 else
 if v.whole∧v.evs.length=1 then (match v.evs with| []=>0|e::_=>if e.err≠0 then e.err else if 0<v.tups.length then 21 else 0) else E6 v
def Eg (v:Vo) (L:Int):List Int:=if Df v L≠0 then [] else if v.whole∧v.evs.length=1 then [L] else Gb v
def ckE (v:Vo) (L:Int):Int:=if Df v L=0∧0<(Eg v L).length∧tot (Eg v L)≠L then 20 else Df v L
def ckL (v:Vo) (L:Int):List Int:=if ckE v L≠0 then [] else Eg v L
theorem Wx {v:Vo} {L:Int} (h:L<1∨15482880<L): []=Eg v L∧2=Df v L:=by
 have e:Df v L=2:=by rw [Df,if_pos h]
 exact ⟨by rw [Eg,e,if_pos (by decide)],e.symm⟩
theorem Ama {v:Vo} {L:Int} (h:¬L<1) (h':¬15482880<L) (h2:128<(v.evs.length:Int)): []=Eg v L∧9=Df v L:=by
 have e:Df v L=9:=by rw [Df,if_neg (by omega),if_pos (by omega)]
 exact ⟨by rw [Eg,e,if_pos (by decide)],e.symm⟩
theorem Afq {v:Vo} {L:Int} (h:¬L<1) (h':¬15482880<L) (h2:¬128<(v.evs.length:Int)) (hw:v.whole) (h1:(v.evs.length:Int)=1) {e:Ev} (he:v.evs[0]? =some e):
  Df v L=(if e.err≠0 then e.err else if 0<v.tups.length then 21 else 0):=by
 rw [Df,if_neg (by omega),if_neg (by omega),if_pos ⟨hw,by omega⟩]
 cases hv:v.evs with
 |nil=>rw [hv] at he;cases he
 |cons x l=>rw [hv] at he;cases he;rfl
theorem Ww {v:Vo} {L:Int} (h:¬L<1) (h':¬15482880<L) (h2:¬128<(v.evs.length:Int)) (hw:¬(v.whole∧(v.evs.length:Int)=1)):Gb v=Eg v L∧E6 v=Df v L:=by
 have hw':¬(v.whole∧v.evs.length=1):=fun k=>hw ⟨k.1,by omega⟩
 have e:Df v L=E6 v:=by rw [Df,if_neg (by omega),if_neg (by omega),if_neg hw']
 refine ⟨?_,e.symm⟩
 rw [Eg,e,if_neg hw']
 split
 ·rename_i hn;rw [Gb,if_neg hn]
 ·rfl
theorem T2 {v:Vo} {L a:Int} (h:Df v L=a) (ha:a≠0): []=Eg v L∧a=Df v L:=⟨by rw [Eg,h,if_pos ha],h.symm⟩
theorem Ah6 {v:Vo} {L:Int} (h:Df v L=0) (hw:v.whole) (h1:(v.evs.length:Int)=1): [L]=Eg v L∧0=Df v L:=⟨by rw [Eg,h,if_neg (by decide),if_pos ⟨hw,by omega⟩],h.symm⟩
theorem Afp (v:Vo) (L:Int) (hE:Evs v.evs):XC Tryz.prog 115 [.agg (Vo.c v), .v (.int .i64 L)] (fun r=>r= .tup [.sl 1 (B7 (Eg v L)),dI (Df v L)]):=by
 refine Al Abc Tryz.func115 R R lb<|zr<|XL.step R (An 2 (l:= [.d (.sl 13 (v.evs.map Ev.c)), .d (.sl 4 (v.tups.map Tp.c))]) R R (by kernel_rfl))<|za R R<|za R R<|zn<|zs<|Ah<|zr<|zm R R<|zp (At R R R)<|zm R R<|?_
 refine XL.dec 10 R (fun g10=> ?_) (fun g10=> ?_)
 refine zk 2 R<|zq R R R<|za R R<|zn<|Aw (by kernel_rfl) R<|zr<|za R R<|za R R<|zn<|zt<|?_
 exact Ay R (RV.nil (sz:=1) R R) (RV.tmp R R) (r2 (rSl (Wx (v:=v) (by omega)).1) (rI (Wx (v:=v) (by omega)).2))
 refine zm R R<|zp (A8 R R R)<|zq R R R<|za R R<|zn<|?_
 refine zd R (fun c7=> ?_) (fun c7=> ?_)
 refine zr<|za R R<|za R R<|zn<|zt<|?_
 exact Ay R (RV.nil (sz:=1) R R) (RV.tmp R R) (r2 (rSl (Wx (v:=v) (by omega)).1) (rI (Wx (v:=v) (by omega)).2))
 refine zr<|zp (Aa R R Bw)<|zp (Ab R R C7 R R)<|XL.len R R R Tryz.underlying79 fun hl17=>zp (A8 R R R)<|za R R<|zn<|?_
 refine zd R (fun c14=> ?_) (fun c14=> ?_)
 refine zr<|za R R<|za R R<|zn<|zt<|?_
 exact Ay R (RV.nil (sz:=1) R R) (RV.tmp R R) (r2 (rSl (Ama g10 c7 c14).1) (rI (Ama g10 c7 c14).2))
 refine zi<|zs<|zr<|zp (Ae (s':= .d (.agg (Vo.c v))) (Ac (Ad R R As R lb)) (by kernel_rfl))<|XL.call1 R R (Ajr _) R<|zm R R<|?_
 refine XL.dec 21 R (fun g21=> ?_) (fun g21=> ?_)
 refine zp (Aa R R Bw)<|zp (Ab R R C7 R R)<|XL.len R R R Tryz.underlying79 fun hl24=>zp (Bb R R R)<|zq R R R<|zn<|?_
 refine zd R (fun c26=> ?_) (fun c26=> ?_)
 refine zs<|zs<|?_
 obtain ⟨e,hxe⟩:∃e,v.evs[0]? =some e:=Ax (by omega)
 have he:=hE e (List.mem_of_getElem? hxe)
 have hle:=Afq (L:=L) g10 c7 c14 g21 c26 hxe
 refine Ag (by kernel_rfl)<|zp (Aa R R Bw)<|zp (Ab R R C7 R R)<|zp (Av (k:=0) R R R Hj (hxe))<|zp (Ae (s':= .d (.agg (Ev.c e))) (Be R R Bu lb) (by kernel_rfl))<|XL.call1 R R (Qo _ (by assumption)) R<|za R R<|znr<|zm R R<|zp (A1 R R R)<|zn<|?_
 refine zd R (fun c33=> ?_) (fun c33=> ?_)
 refine zr<|zm R R<|za R R<|za R R<|zn<|zt<|?_
 exact Ay R (RV.nil (sz:=1) R R) (RV.tmp R R) (r2 (rSl (T2 (by rw [hle,if_pos c33]) c33).1) (rI (T2 (by rw [hle,if_pos c33]) c33).2))
 refine zi<|zs<|zr<|zp (Aa R R B0)<|zp (Ab R R B1 R R)<|XL.len R R R Tryz.underlying80 fun hl37=>zp (A8 R R R)<|zn<|?_
 refine zd R (fun c38=> ?_) (fun c38=> ?_)
 refine zr<|za R R<|za R R<|zn<|zt<|?_
 exact Ay R (RV.nil (sz:=1) R R) (RV.tmp R R) (r2 (rSl (T2 (a:=21) (by rw [hle,if_neg c33,if_pos (by omega)]) (by decide)).1) (rI (T2 (a:=21) (by rw [hle,if_neg c33,if_pos (by omega)]) (by decide)).2))
 refine zi<|zr<|zm R R<|XL.step R (Bk 40 R Tryz.underlying45 Eo G8 R R (by omega) (by omega))<|zp (Ao R (by conv=>lhs;whnf))<|?_
 refine za R R<|zn<|zt<|B6 (i:=40) R<|?_
 exact Ay R (RV.tmp R R) (RV.tmp R R) (r2 (rSl (l:= [L]) (g:=iv) (Ah6 (by rw [hle,if_neg c33,if_neg (by omega)]) g21 c26).1) (rI (Ah6 (by rw [hle,if_neg c33,if_neg (by omega)]) g21 c26).2))
 refine zi<|zr<|zp (Ae (s':= .d (.agg (Vo.c v))) (Ac (Ad R R As R lb)) (by kernel_rfl))<|XL.call1 R R (Yq _ (by assumption) (by omega)) R<|zp (Aq R R R)<|zp (Aq R R R)<|za R R<|za R R<|zn<|zt<|?_
 exact Ay R (RV.tmp R R) (RV.tmp R R) (r2 (rSl (Ww g10 c7 c14 (fun h=>c26 h.2)).1) (rI (Ww g10 c7 c14 (fun h=>c26 h.2)).2))
 refine zk 4 R<|zq R R R<|zn<|A6 (by kernel_rfl) R<|zi<|zr<|zp (Ae (s':= .d (.agg (Vo.c v))) (Ac (Ad R R As R lb)) (by kernel_rfl))<|XL.call1 R R (Yq _ (by assumption) (by omega)) R<|zp (Aq R R R)<|zp (Aq R R R)<|za R R<|za R R<|zn<|zt<|?_
 exact Ay R (RV.tmp R R) (RV.tmp R R) (r2 (rSl (Ww g10 c7 c14 (fun h=>g21 h.1)).1) (rI (Ww g10 c7 c14 (fun h=>g21 h.1)).2))
end Go.Proofs.YtaafemnkamfgnaaGreat
namespace Go.Proofs.YtaafemnkamfgnaaGreat
open Go.RowKit
theorem Anp {l:List Tp} {n:Int} (hT:Tups l n) (ws:List Int):∀i x,x∈Ct l i ws→0≤x∧x≤253671505920:=by
 induction ws with
 |nil=>intro i x h;cases h
 |cons w r ih=>
  intro i x h
  rw [Ct] at h
  rcases List.mem_cons.1 h with e|e
  ·rw [e];exact Xv hT.ok (hT.hits i)
  ·exact ih _ _ e
theorem Afh (l:List Tp) (ws:List Int):Nums (Gx l ws):=by
 unfold Gx
 split
 ·rename_i h
  have hT:=Mo (show ¬Cx l ws≠0 by omega)
  have hb:=hT.bd
  exact ⟨by rw [Ib];omega,Anp hT ws 0⟩
 ·exact ⟨by simp,fun x h=>by cases h⟩
theorem Sr:Nums []:=⟨by simp,fun x h=>by cases h⟩
theorem Ahs (v:Vo):Nums (Gb v):=by
 unfold Gb
 split
 ·exact Afh _ _
 ·exact Sr
theorem Vu (v:Vo) (L:Int):Nums (Eg v L):=by
 unfold Eg
 split
 ·exact Sr
 ·rename_i h
  split
  ·refine ⟨by simp,fun x hx=> ?_⟩
   rw [List.mem_singleton.1 hx]
   unfold Df at h
   split at h
   ·omega
   ·omega
  ·exact Ahs v
theorem Ix (v:Vo) (L:Int):Nums (ckL v L):=by
 unfold ckL
 split
 ·exact Sr
 ·exact Vu v L
theorem Aqq {v:Vo} {L:Int} (h0:Df v L=0) (h1:0<((Eg v L).length:Int)) (h2:tot (Eg v L)≠L): []=ckL v L∧20=ckE v L:=by
 have e:ckE v L=20:=by rw [ckE,if_pos ⟨h0,by omega,h2⟩]
 exact ⟨by rw [ckL,e,if_pos (by decide)],e.symm⟩
theorem Aga {v:Vo} {L:Int} (h0:Df v L=0) (h:¬(0<((Eg v L).length:Int)∧tot (Eg v L)≠L)):Eg v L=ckL v L∧0=ckE v L:=by
 have e:ckE v L=0:=by rw [ckE,if_neg (fun k=>h ⟨by omega,k.2.2⟩),h0]
 exact ⟨by rw [ckL,e,if_neg (by decide)],e.symm⟩
theorem Aqp {v:Vo} {L:Int} (h:Df v L≠0): []=ckL v L∧Df v L=ckE v L:=by
 have e:ckE v L=Df v L:=by rw [ckE,if_neg (fun k=>h k.1)]
 exact ⟨by rw [ckL,e,if_pos h],e.symm⟩
theorem Ld (v:Vo) (L:Int) (hE:Evs v.evs):XC Tryz.prog 95 [.agg (Vo.c v), .v (.int .i64 L)] (fun r=>r= .tup [.sl 1 (B7 (ckL v L)),dI (ckE v L)]):=by
 have hN:=Vu v L
 refine Al Acb Tryz.func95 R R lb<|zr<|XL.step R (An 2 (l:= [.d (.sl 13 (v.evs.map Ev.c)), .d (.sl 4 (v.tups.map Tp.c))]) R R (by kernel_rfl))<|za R R<|za R R<|znr<|zp (Ae (s':= .d (.agg (Vo.c v))) (Ac (Ad R R As R lb)) (by kernel_rfl))<|zm R R<|XL.call1 R R (Afp _ _ (by assumption)) R<|zm R R<|zp (Aq R R R)<|zp (Aq R R R)<|za R R<|za R R<|?_
 refine zn<|zs<|zr<|zm R R<|zp (Bb R R R)<|zm R R<|?_
 refine XL.dec 16 R (fun g16=> ?_) (fun g16=> ?_)
 refine zm R R<|XL.len R R R Tryz.underlying45 fun hl18=>zp (A8 R R R)<|zq R R R<|zm R R<|?_
 refine XL.dec 21 R (fun g21=> ?_) (fun g21=> ?_)
 refine zm R R<|XL.call1 R R (Ajv _ (by assumption)) R<|zm R R<|zp (A1 R R R)<|zq R R R<|zn<|?_
 refine zd R (fun c26=> ?_) (fun c26=> ?_)
 refine Ag (by kernel_rfl)<|za R R<|zn<|zs<|zr<|zm R R<|zp (A1 R R R)<|zn<|?_
 refine zd R (fun c28=> ?_) (fun c28=> ?_)
 refine zr<|zm R R<|za R R<|za R R<|zn<|zt<|?_
 exact Ay R (RV.nil (sz:=1) R R) (RV.tmp R R) (r2 (rSl (Aqq g16 g21 c26).1) (rI (Aqq g16 g21 c26).2))
 refine zi<|zr<|zm R R<|za R R<|za R R<|zn<|zt<|?_
 exact Ay R (RV.tmp R R) (RV.tmp R R) (by exfalso;omega)
 refine zi<|zs<|zr<|zm R R<|zp (A1 R R R)<|zn<|?_
 refine zd R (fun c28=> ?_) (fun c28=> ?_)
 refine zr<|zm R R<|za R R<|za R R<|zn<|zt<|?_
 exact Ay R (RV.nil (sz:=1) R R) (RV.tmp R R) (by exfalso;omega)
 refine zi<|zr<|zm R R<|za R R<|za R R<|zn<|zt<|?_
 exact Ay R (RV.tmp R R) (RV.tmp R R) (r2 (rSl (Aga g16 (fun h=>c26 h.2)).1) (rI (Aga g16 (fun h=>c26 h.2)).2))
 refine zk 4 R<|zq R R R<|zn<|A6 (by kernel_rfl) R<|zi<|zs<|zr<|zm R R<|zp (A1 R R R)<|zn<|?_
 refine zd R (fun c28=> ?_) (fun c28=> ?_)
 refine zr<|zm R R<|za R R<|za R R<|zn<|zt<|?_
 exact Ay R (RV.nil (sz:=1) R R) (RV.tmp R R) (by exfalso;omega)
 refine zi<|zr<|zm R R<|za R R<|za R R<|zn<|zt<|?_
 exact Ay R (RV.tmp R R) (RV.tmp R R) (r2 (rSl (Aga g16 (fun h=>g21 h.1)).1) (rI (Aga g16 (fun h=>g21 h.1)).2))
 refine zk 3 R<|zq R R R<|zm R R<|zk 4 R<|zq R R R<|zn<|A6 (by kernel_rfl) R<|zi<|zs<|zr<|zm R R<|zp (A1 R R R)<|zn<|?_
 refine zd R (fun c28=> ?_) (fun c28=> ?_)
 refine zr<|zm R R<|za R R<|za R R<|zn<|zt<|?_
 exact Ay R (RV.nil (sz:=1) R R) (RV.tmp R R) (r2 (rSl (Aqp g16).1) (rI (Aqp g16).2))
 refine zi<|zr<|zm R R<|za R R<|za R R<|zn<|zt<|?_
 exact Ay R (RV.tmp R R) (RV.tmp R R) (by exfalso;omega)
theorem Ml (v:Vo) (L:Int) (hE:Evs v.evs):XC Tryz.prog 71 [.agg (Vo.c v), .v (.int .i64 L)] (fun r=>r=dI (ckE v L)):=by
 refine Al Aci Tryz.func71 R R lb<|zr<|XL.step R (An 2 (l:= [.d (.sl 13 (v.evs.map Ev.c)), .d (.sl 4 (v.tups.map Tp.c))]) R R (by kernel_rfl))<|za R R<|znr<|zp (Ae (s':= .d (.agg (Vo.c v))) (Ac (Ad R R As R lb)) (by kernel_rfl))<|zm R R<|XL.call1 R R (Ld _ _ (by assumption)) R<|zm R R<|zp (Aq R R R)<|zp (Aq R R R)<|za R R<|za R R<|znr<|?_
 exact zm R R<|za R R<|zn<|zt<|z1 R R (R)
theorem Apn {v:Vo} {L:Int} (h:ckE v L≠0): []=A7 (ckL v L):=by rw [ckL,if_pos h];rfl
theorem Wm (v:Vo) (L:Int) (hE:Evs v.evs):XC Tryz.prog 57 [.agg (Vo.c v), .v (.int .i64 L)] (fun r=>r= .tup [.sl 1 (B7 (A7 (ckL v L))),dI (ckE v L)]):=by
 have hN:=Ix v L
 refine Al Acv Tryz.func57 R R lb<|zr<|XL.step R (An 2 (l:= [.d (.sl 13 (v.evs.map Ev.c)), .d (.sl 4 (v.tups.map Tp.c))]) R R (by kernel_rfl))<|za R R<|za R R<|znr<|zp (Ae (s':= .d (.agg (Vo.c v))) (Ac (Ad R R As R lb)) (by kernel_rfl))<|zm R R<|XL.call1 R R (Ld _ _ (by assumption)) R<|zm R R<|zp (Aq R R R)<|zp (Aq R R R)<|za R R<|za R R<|?_
 refine zn<|zs<|zr<|zm R R<|zp (A1 R R R)<|zn<|?_
 refine zd R (fun c15=> ?_) (fun c15=> ?_)
 refine zr<|zm R R<|za R R<|za R R<|zn<|zt<|?_
 exact Ay R (RV.nil (sz:=1) R R) (RV.tmp R R) (r2 (rSl (Apn c15)) R)
 refine zi<|zr<|zm R R<|XL.call1 R R (Vs _ (by assumption)) R<|za R R<|za R R<|zn<|zt<|?_
 exact Ay R (RV.tmp R R) (RV.tmp R R) (r2 R (rI (by omega)))
def atS (l:List Int) (t:Int):Nat→Int × Int
 |0=>(0,0)
 |k+1=>match l[k]? with
  |some x=>if tot (l.take k)≤t∧0<x then (k,tot (l.take k)) else atS l t k
  |none=>atS l t k
theorem Abj {l:List Int} {t x:Int} {k:Nat} (h:l[k]? =some x) (h1:tot (l.take k)≤t) (h2:0<x):atS l t (k+1)=((k:Int),tot (l.take k)):=by simp only [atS,h];rw [if_pos ⟨h1,h2⟩]
theorem Nw {l:List Int} {t x:Int} {k:Nat} (h:l[k]? =some x) (h1:¬(tot (l.take k)≤t∧0<x)):atS l t (k+1)=atS l t k:=by simp only [atS,h];rw [if_neg h1]
def atE (v:Vo) (L t:Int):Int:=if ckE v L≠0 then ckE v L else if (ckL v L).length=0 then 10 else if t<0∨L≤t then 2 else 0
def atV (v:Vo) (L t:Int):Int × Int:=if atE v L t≠0 then (0,0) else atS (ckL v L) t (ckL v L).length
theorem Hs {l:List Int} {k:Nat} {x:Int} (h:(A7 l)[k]? =some x):x=tot (l.take k):=by
 have hk:=(List.getElem?_eq_some_iff.1 h).1
 rw [A7,List.length_map,List.length_range] at hk
 rw [A7,List.getElem?_map,List.getElem?_range hk] at h
 cases h;rfl
theorem J1 (l:List Int):(A7 l).length=l.length:=by rw [A7,List.length_map,List.length_range]
theorem K2 {v:Vo} {L t a:Int} (h:atE v L t=a) (ha:a≠0):0=(atV v L t).1∧0=(atV v L t).2∧a=atE v L t:=by
 have e:atV v L t=(0,0):=by rw [atV,h,if_pos ha]
 rw [e];exact ⟨rfl,rfl,h.symm⟩
theorem Age {v:Vo} {L t:Int} (h:ckE v L≠0):atE v L t=ckE v L:=by rw [atE,if_pos h]
theorem Agd {v:Vo} {L t:Int} (h:¬ckE v L≠0) (h2:((ckL v L).length:Int)=0):atE v L t=10:=by rw [atE,if_neg h,if_pos (by omega)]
theorem U2 {v:Vo} {L t:Int} (h:¬ckE v L≠0) (h2:¬((ckL v L).length:Int)=0) (h3:t<0∨L≤t):atE v L t=2:=by rw [atE,if_neg h,if_neg (by omega),if_pos h3]
theorem Alw {v:Vo} {L t:Int} (h:¬ckE v L≠0) (h2:¬((ckL v L).length:Int)=0) (h3:¬(t<0∨L≤t)):atS (ckL v L) t (ckL v L).length=atV v L t∧0=atE v L t:=by
 have e:atE v L t=0:=by rw [atE,if_neg h,if_neg (by omega),if_neg h3]
 exact ⟨by rw [atV,e,if_neg (by decide)],e.symm⟩
theorem Arw (v:Vo) (L t:Int) (hE:Evs v.evs):XC Tryz.prog 61 [.agg (Vo.c v), .v (.int .i64 L), .v (.int .i64 t)] (fun r=>r= .tup [dI (atV v L t).1,dI (atV v L t).2,dI (atE v L t)]):=by
 have hN:=Ix v L
 have hol:=J1 (ckL v L)
 refine Al Acr Tryz.func61 R R lb<|zr<|XL.step R (An 3 (l:= [.d (.sl 13 (v.evs.map Ev.c)), .d (.sl 4 (v.tups.map Tp.c))]) R R (by kernel_rfl))<|za R R<|za R R<|za R R<|znr<|zp (Ae (s':= .d (.agg (Vo.c v))) (Ac (Ad R R As R lb)) (by kernel_rfl))<|zm R R<|XL.call1 R R (Ld _ _ (by assumption)) R<|zm R R<|zp (Aq R R R)<|zp (Aq R R R)<|za R R<|?_
 refine za R R<|zn<|zs<|Ah<|zr<|zm R R<|zp (A1 R R R)<|za R R<|zn<|?_
 refine zd R (fun c18=> ?_) (fun c18=> ?_)
 refine zr<|zm R R<|za R R<|za R R<|za R R<|zn<|zt<|?_
 exact Un R (RV.tmp R R) (RV.tmp R R) (RV.tmp R R) (r3 (rI (K2 (t:=t) (Age c18) c18).1) (rI (K2 (t:=t) (Age c18) c18).2.1) (rI (K2 (t:=t) (Age c18) c18).2.2))
 refine zr<|zm R R<|XL.len R R R Tryz.underlying45 fun hl24=>zp (Bb R R R)<|za R R<|zn<|?_
 refine zd R (fun c22=> ?_) (fun c22=> ?_)
 refine zr<|za R R<|za R R<|za R R<|zn<|zt<|?_
 exact Un R (RV.tmp R R) (RV.tmp R R) (RV.tmp R R) (r3 (rI (K2 (t:=t) (Agd c18 c22) (by decide)).1) (rI (K2 (t:=t) (Agd c18 c22) (by decide)).2.1) (rI (K2 (t:=t) (Agd c18 c22) (by decide)).2.2))
 refine zr<|zm R R<|zp (At R R R)<|zm R R<|?_
 refine XL.dec 29 R (fun g29=> ?_) (fun g29=> ?_)
 refine zk 3 R<|zq R R R<|za R R<|zn<|Aw (by kernel_rfl) R<|zr<|za R R<|za R R<|za R R<|zn<|zt<|?_
 exact Un R (RV.tmp R R) (RV.tmp R R) (RV.tmp R R) (r3 (rI (K2 (U2 c18 c22 (by omega)) (by decide)).1) (rI (K2 (U2 c18 c22 (by omega)) (by decide)).2.1) (rI (K2 (U2 c18 c22 (by omega)) (by decide)).2.2))
 refine zm R R<|zm R R<|zp (Fx R R R)<|zq R R R<|za R R<|zn<|?_
 refine zd R (fun c26=> ?_) (fun c26=> ?_)
 refine zr<|za R R<|za R R<|za R R<|zn<|zt<|?_
 exact Un R (RV.tmp R R) (RV.tmp R R) (RV.tmp R R) (r3 (rI (K2 (U2 c18 c22 (by omega)) (by decide)).1) (rI (K2 (U2 c18 c22 (by omega)) (by decide)).2.1) (rI (K2 (U2 c18 c22 (by omega)) (by decide)).2.2))
 refine zi<|zs<|zr<|zm R R<|XL.call1 R R (Vs _ (by assumption)) R<|XL.len R R R Tryz.underlying45 fun hl36=>zm R R<|zn<|Ah<|?_
 refine A0 (α:=Nat) (fun k=>k≤(A7 (ckL v L)).length) (fun k=>mkF [(2, .d (dI t)),(6, .d (dI (atS (ckL v L) t k).1)),(7, .d (dI (atS (ckL v L) t k).2)),(8, .d (dI (ckE v L))),(9, .d (.sl 1 (B7 (ckL v L)))),(35, .d (.sl 1 (B7 (A7 (ckL v L))))),(36, .d (dI (A7 (ckL v L)).length)),(37, .d (dI k))]) (fun k=>mkH []) (fun k=>(A7 (ckL v L)).length - k) (0) (Nat.zero_le _) ?_ ?_ ?_
 exact fz ⟨sr,sr,sr,sr,sr,sr,sr,sr,trivial⟩
 exact HSub.nil
 intro k hk1
 refine zr<|zp (At R R R)<|zn<|zs<|?_
 refine zd R (fun c38=> ?_) (fun c38=> ?_)
 have hk1a:k<(A7 (ckL v L)).length:=by omega
 obtain ⟨x1,hx1⟩:=Ax hk1a
 have hxe:=Hs hx1
 obtain ⟨y,hy⟩:∃y,(ckL v L)[k]? =some y:=Ax (by omega)
 refine zi<|zs<|Ah<|zr<|zm R R<|zp (Av R R R Dh hx1)<|zp (A9 R R Ai)<|za R R<|za R R<|znr<|zm R R<|zm R R<|zp (My R R R)<|zm R R<|?_
 refine XL.dec 45 R (fun g45=> ?_) (fun g45=> ?_)
 refine zm R R<|zm R R<|zp (Av R R R Dh (hy))<|zp (A9 R R Ai)<|zp (A8 R R R)<|zq R R R<|zn<|?_
 refine zd R (fun c51=> ?_) (fun c51=> ?_)
 refine Ag (by kernel_rfl)<|zm R R<|zm R R<|za R R<|za R R<|zn<|Ag (by kernel_rfl)<|zp (Ak R R R (by omega) (by omega))<|zm R R<|zn<|?_
 exact Am (k+1) (by omega) (by omega) (fz ⟨sr, .same (sI (by rw [Abj hy (by rw [←Hs hx1];exact g45) c51])), .same (sI (by rw [Abj hy (by rw [←Hs hx1];exact g45) c51];exact Hs hx1)),sr,sr,sr,sr,sr,trivial⟩) (HSub.nil)
 refine zi<|Ag (by kernel_rfl)<|zp (Ak R R R (by omega) (by omega))<|zm R R<|zn<|?_
 exact Am (k+1) (by omega) (by omega) (fz ⟨sr, .same (sI (by rw [Nw hy (fun h=>c51 h.2)])), .same (sI (by rw [Nw hy (fun h=>c51 h.2)])),sr,sr,sr,sr,sr,trivial⟩) (HSub.nil)
 refine zk 5 R<|zq R R R<|zn<|A6 (by kernel_rfl) R<|zi<|Ag (by kernel_rfl)<|zp (Ak R R R (by omega) (by omega))<|zm R R<|zn<|?_
 exact Am (k+1) (by omega) (by omega) (fz ⟨sr, .same (sI (by rw [Nw hy (fun h=>g45 (by rw [Hs hx1];exact h.1))])), .same (sI (by rw [Nw hy (fun h=>g45 (by rw [Hs hx1];exact h.1))])),sr,sr,sr,sr,sr,trivial⟩) (HSub.nil)
 have hk1b:k=(A7 (ckL v L)).length:=by omega
 have hke:k=(ckL v L).length:=by omega
 refine Au<|zr<|zm R R<|zm R R<|za R R<|za R R<|za R R<|zn<|zt<|?_
 exact Un R (RV.tmp R R) (RV.tmp R R) (RV.tmp R R) (r3 (rI (by rw [hke,(Alw c18 c22 (by omega)).1])) (rI (by rw [hke,(Alw c18 c22 (by omega)).1])) (rI (Alw c18 c22 (by omega)).2))
end Go.Proofs.YtaafemnkamfgnaaGreat
namespace Go.Proofs.YtaafemnkamfgnaaGreat
open Go.RowKit
set_option maxRecDepth 4000
set_option maxHeartbeats 4000000 in
theorem Uz (d:Nat) (w:World) (a0 a1 a2 a3 a4 a5 b0 b1 b2 b3 b4 b5:Int):(Op.equalIn (d+2) 24 (.agg #[.int .i64 a0, .int .i64 a1, .int .i64 a2, .int .i64 a3, .int .i64 a4, .int .i64 a5]) (.agg #[.int .i64 b0, .int .i64 b1, .int .i64 b2, .int .i64 b3, .int .i64 b4, .int .i64 b5])).run Tryz.prog w=
  .ok (decide (a0=b0∧a1=b1∧a2=b2∧a3=b3∧a4=b4∧a5=b5)) w:=by
 rw [show d+2=(d+1)+1 from rfl]
 have hp:∀(cs:Array Value) (k:Nat) (v:Value),cs[k]? =some v→(part 3 cs k).run Tryz.prog w= .ok v w:=fun cs k v h=>Cm Ai w h
 have he:∀a b:Int,(Op.equalIn (d+1) 3 (.int .i64 a) (.int .i64 b)).run Tryz.prog w= .ok (decide (a=b)) w:=fun a b=>D3 d 3 Tryz.underlying3 a b
 have ha0:=hp (#[.int .i64 a0, .int .i64 a1, .int .i64 a2, .int .i64 a3, .int .i64 a4, .int .i64 a5]) ((0)*1) (.int .i64 a0) rfl
 have hb0:=hp (#[.int .i64 b0, .int .i64 b1, .int .i64 b2, .int .i64 b3, .int .i64 b4, .int .i64 b5]) ((0)*1) (.int .i64 b0) rfl
 have ha1:=hp (#[.int .i64 a0, .int .i64 a1, .int .i64 a2, .int .i64 a3, .int .i64 a4, .int .i64 a5]) ((0+1)*1) (.int .i64 a1) rfl
 have hb1:=hp (#[.int .i64 b0, .int .i64 b1, .int .i64 b2, .int .i64 b3, .int .i64 b4, .int .i64 b5]) ((0+1)*1) (.int .i64 b1) rfl
 have ha2:=hp (#[.int .i64 a0, .int .i64 a1, .int .i64 a2, .int .i64 a3, .int .i64 a4, .int .i64 a5]) ((0+1+1)*1) (.int .i64 a2) rfl
 have hb2:=hp (#[.int .i64 b0, .int .i64 b1, .int .i64 b2, .int .i64 b3, .int .i64 b4, .int .i64 b5]) ((0+1+1)*1) (.int .i64 b2) rfl
 have ha3:=hp (#[.int .i64 a0, .int .i64 a1, .int .i64 a2, .int .i64 a3, .int .i64 a4, .int .i64 a5]) ((0+1+1+1)*1) (.int .i64 a3) rfl
 have hb3:=hp (#[.int .i64 b0, .int .i64 b1, .int .i64 b2, .int .i64 b3, .int .i64 b4, .int .i64 b5]) ((0+1+1+1)*1) (.int .i64 b3) rfl
 have ha4:=hp (#[.int .i64 a0, .int .i64 a1, .int .i64 a2, .int .i64 a3, .int .i64 a4, .int .i64 a5]) ((0+1+1+1+1)*1) (.int .i64 a4) rfl
 have hb4:=hp (#[.int .i64 b0, .int .i64 b1, .int .i64 b2, .int .i64 b3, .int .i64 b4, .int .i64 b5]) ((0+1+1+1+1)*1) (.int .i64 b4) rfl
 have ha5:=hp (#[.int .i64 a0, .int .i64 a1, .int .i64 a2, .int .i64 a3, .int .i64 a4, .int .i64 a5]) ((0+1+1+1+1+1)*1) (.int .i64 a5) rfl
 have hb5:=hp (#[.int .i64 b0, .int .i64 b1, .int .i64 b2, .int .i64 b3, .int .i64 b4, .int .i64 b5]) ((0+1+1+1+1+1)*1) (.int .i64 b5) rfl
 clear hp
 generalize hd:d+1=d1 at*
 generalize hA:(#[.int .i64 a0, .int .i64 a1, .int .i64 a2, .int .i64 a3, .int .i64 a4, .int .i64 a5]:Array Value)=A at*
 generalize hB:(#[.int .i64 b0, .int .i64 b1, .int .i64 b2, .int .i64 b3, .int .i64 b4, .int .i64 b5]:Array Value)=B at*
 unfold Op.equalIn
 simp only [Sem.run_bind,run_underlying Tryz.underlying24,Result.andThen_ok,sizeB.run Eo]
 simp only [Std.Legacy.Range.forIn_eq_forIn_range',Std.Legacy.Range.size,List.range',List.forIn_cons,List.forIn_nil]
 by_cases e0:a0=b0
 rotate_left
 ·simp_all
 by_cases e1:a1=b1
 rotate_left
 ·simp_all
 by_cases e2:a2=b2
 rotate_left
 ·simp_all
 by_cases e3:a3=b3
 rotate_left
 ·simp_all
 by_cases e4:a4=b4
 rotate_left
 ·simp_all
 by_cases e5:a5=b5
 rotate_left
 ·simp_all
 ·simp_all
theorem Akj {t':TypeId} {o:Oper} {e:Operand→S} {h:Xh} {x y:Operand} {a0:Int} {a1:Int} {a2:Int} {a3:Int} {a4:Int} {a5:Int} {b0:Int} {b1:Int} {b2:Int} {b3:Int} {b4:Int} {b5:Int} (ho:o.op= .binOp .eql 24 x y t') (hx:e x= .d (.agg [.v (.int .i64 a0), .v (.int .i64 a1), .v (.int .i64 a2), .v (.int .i64 a3), .v (.int .i64 a4), .v (.int .i64 a5)])) (hy:e y= .d (.agg [.v (.int .i64 b0), .v (.int .i64 b1), .v (.int .i64 b2), .v (.int .i64 b3), .v (.int .i64 b4), .v (.int .i64 b5)])):Ba Tryz.prog o e h (.d (.v (.bool (decide (a0=b0∧a1=b1∧a2=b2∧a3=b3∧a4=b4∧a5=b5))))):=by
 refine G3 ho hx hy rfl rfl (by kernel_rfl) fun w=> ?_
 refine (run_eql_struct w 24 #[.int .i64 a0, .int .i64 a1, .int .i64 a2, .int .i64 a3, .int .i64 a4, .int .i64 a5] #[.int .i64 b0, .int .i64 b1, .int .i64 b2, .int .i64 b3, .int .i64 b4, .int .i64 b5]).trans ?_
 have hq:=Uz 9998 w a0 a1 a2 a3 a4 a5 b0 b1 b2 b3 b4 b5
 simp only [Nat.reduceAdd] at hq
 rw [hq]
 simp only [Result.andThen_ok]
theorem Ake {t':TypeId} {o:Oper} {e:Operand→S} {h:Xh} {x y:Operand} {a0:Int} {a1:Int} {a2:Int} {a3:Int} {a4:Int} {a5:Int} {b0:Int} {b1:Int} {b2:Int} {b3:Int} {b4:Int} {b5:Int} (ho:o.op= .binOp .neq 24 x y t') (hx:e x= .d (.agg [.v (.int .i64 a0), .v (.int .i64 a1), .v (.int .i64 a2), .v (.int .i64 a3), .v (.int .i64 a4), .v (.int .i64 a5)])) (hy:e y= .d (.agg [.v (.int .i64 b0), .v (.int .i64 b1), .v (.int .i64 b2), .v (.int .i64 b3), .v (.int .i64 b4), .v (.int .i64 b5)])):Ba Tryz.prog o e h (.d (.v (.bool (decide (¬(a0=b0∧a1=b1∧a2=b2∧a3=b3∧a4=b4∧a5=b5)))))):=by
 refine G3 ho hx hy rfl rfl (by kernel_rfl) fun w=> ?_
 refine (run_neq_struct w 24 #[.int .i64 a0, .int .i64 a1, .int .i64 a2, .int .i64 a3, .int .i64 a4, .int .i64 a5] #[.int .i64 b0, .int .i64 b1, .int .i64 b2, .int .i64 b3, .int .i64 b4, .int .i64 b5]).trans ?_
 have hq:=Uz 9998 w a0 a1 a2 a3 a4 a5 b0 b1 b2 b3 b4 b5
 simp only [Nat.reduceAdd] at hq
 rw [hq]
 simp only [Result.andThen_ok,decide_not]
end Go.Proofs.YtaafemnkamfgnaaGreat
namespace Go.Proofs.YtaafemnkamfgnaaGreat
open Go.RowKit
theorem Ap4 {m:Me} {k:Nat} {g:Int} (h:m.gs[k]? =some g): [dI m.g0,dI m.g1,dI m.g2,dI m.g3,dI m.g4,dI m.g5][k]? =some (dI g):=by
 have:(m.gs.map dI)[k]? =some (dI g):=by rw [List.getElem?_map,h];rfl
 exact this
def Me.flat (m:Me):Prop:=m.g0=0∧m.g1=0∧m.g2=0∧m.g3=0∧m.g4=0∧m.g5=0
instance (m:Me):Decidable m.flat:=by unfold Me.flat;exact inferInstance
def gGo (k:Nat) (s n:Int):List Int→Option (Int × Int)
 | []=>some (s,n)
 |g::r=>if g<0∨64<g∨(0<g∧(k:Int)≠n) then none else if 0<g then gGo (k+1) (s+g) (n+1) r else gGo (k+1) s n r
def gOk (c:Int) (o:Option (Int × Int)):Prop:=match o with|some p=>p.1=c∧2≤p.2|none=>False
instance (c:Int) (o:Option (Int × Int)):Decidable (gOk c o):=by unfold gOk;cases o<;>exact inferInstance
def Me.grouped (m:Me):Prop:=m.flat∨gOk m.count (gGo 0 0 0 m.gs)
instance (m:Me):Decidable m.grouped:=by unfold Me.grouped;exact inferInstance
theorem Sw {m:Me} {k:Nat} {g s n:Int} (h:m.gs[k]? =some g) (hb:g<0∨64<g∨(0<g∧(k:Int)≠n)):gGo k s n (m.gs.drop k)=none:=by rw [Br h,gGo,if_pos hb]
theorem Aob {m:Me} {k:Nat} {g s n:Int} (h:m.gs[k]? =some g) (hb:¬(g<0∨64<g∨(0<g∧(k:Int)≠n))) (hg:0<g):gGo k s n (m.gs.drop k)=gGo (k+1) (s+g) (n+1) (m.gs.drop (k+1)):=by rw [Br h,gGo,if_neg hb,if_pos hg]
theorem Ap6 {m:Me} {k:Nat} {g s n:Int} (h:m.gs[k]? =some g) (hb:¬(g<0∨64<g∨(0<g∧(k:Int)≠n))) (hg:¬0<g):gGo k s n (m.gs.drop k)=gGo (k+1) s n (m.gs.drop (k+1)):=by rw [Br h,gGo,if_neg hb,if_neg hg]
theorem An9 {m:Me} (h:m.grouped):true=decide m.grouped:=by rw [decide_eq_true h]
theorem Yt {m:Me} (h1:¬m.flat) (h:gGo 0 0 0 m.gs=none):false=decide m.grouped:=by rw [decide_eq_false];exact fun k=>k.elim h1 (by rw [h];exact fun k=>k)
theorem Aim {m:Me} (h1:¬m.flat) {s n:Int} (h:gGo 0 0 0 m.gs=some (s,n)):m.grouped↔s=m.count∧2≤n:=by
 unfold Me.grouped
 rw [h]
 exact ⟨fun k=>k.elim (fun k=>absurd k h1) fun k=>k,fun k=> .inr k⟩
theorem Afw (m:Me):XC Tryz.prog 92 [.agg (Me.c m)] (fun r=>r=dB (decide m.grouped)):=by
 refine Al Ace Tryz.func92 R R lb<|zr<|XL.step R (An 1 (l:= [.d (dI m.count), .d (dI m.unit), .d (dI m.g0), .d (dI m.g1), .d (dI m.g2), .d (dI m.g3), .d (dI m.g4), .d (dI m.g5)]) R R (by kernel_rfl))<|za R R<|zn<|zs<|zr<|zp (Aa R R Ok)<|?_
 refine zp (Ae (s':= .d (.agg [dI m.g0,dI m.g1,dI m.g2,dI m.g3,dI m.g4,dI m.g5])) (Ac (Ad R R Q1 R lb)) (by kernel_rfl))<|zp (Ae (s':= .d (.agg [dI 0,dI 0,dI 0,dI 0,dI 0,dI 0])) (Ac (Oc R Tryz.underlying24 Eo Adb R)) (by kernel_rfl))<|zp (Akj R R R)<|zn<|?_
 refine zd R (fun c10=> ?_) (fun c10=> ?_)
 exact zr<|za R R<|zn<|zt<|z1 R R (rB (An9 (.inl c10)))
 refine zi<|zr<|za R R<|za R R<|zn<|zs<|zr<|zp (Aa R R Ok)<|zp (Ae (s':= .d (.agg [dI m.g0,dI m.g1,dI m.g2,dI m.g3,dI m.g4,dI m.g5])) (Ac (Ad R R Q1 R lb)) (by kernel_rfl))<|zm R R<|zn<|Ah<|?_
 refine A0 (α:=Nat × Int × Int) (fun p=>p.1≤6∧gGo p.1 p.2.1 p.2.2 (m.gs.drop p.1)=gGo 0 0 0 m.gs∧0≤p.2.1∧p.2.1≤64*p.1∧0≤p.2.2∧p.2.2≤p.1) (fun p=>mkF [(1, .ptr 1 0 0),(3, .d (dI p.2.1)),(4, .d (dI p.2.2)),(12, .d (.agg [dI m.g0,dI m.g1,dI m.g2,dI m.g3,dI m.g4,dI m.g5])),(13, .d (dI p.1))]) (fun p=>mkH [(1, .box ((Me.c m).map S.d))]) (fun p=>6 - p.1) ((0,0,0)) (⟨Nat.zero_le _,R,by simp,by simp,by simp,by simp⟩) ?_ ?_ ?_
 exact fz ⟨sr,sr,sr,sr,sr,trivial⟩
 exact gz ⟨R,trivial⟩
 intro p hk0
 obtain ⟨hk,hgo,hs0,hs1,hn0,hn1⟩:=hk0
 refine zr<|zp (At R R R)<|zn<|zs<|?_
 refine zd R (fun c14=> ?_) (fun c14=> ?_)
 obtain ⟨g,hg⟩:∃g,m.gs[p.1]? =some g:=Ax (by show p.1<6;omega)
 refine zi<|zs<|Ah<|zr<|zm R R<|zp (Vp (k:=p.1) R R R R Tryz.underlying24 Ai Eo (by omega) (Ap4 hg))<|za R R<|za R R<|zn<|Ah<|zr<|zm R R<|zp (At R R R)<|zm R R<|?_
 refine XL.dec 20 R (fun g20=> ?_) (fun g20=> ?_)
 exact zk 2 R<|zq R R R<|zm R R<|zk 7 R<|zq R R R<|za R R<|zn<|Aw (by kernel_rfl) R<|zr<|za R R<|zn<|zt<|z1 R R (rB (Yt c10 (by rw [←hgo];exact Sw hg (by omega))))
 refine zm R R<|zp (A8 R R R)<|zq R R R<|zm R R<|?_
 refine XL.dec 24 R (fun g24=> ?_) (fun g24=> ?_)
 exact zk 7 R<|zq R R R<|za R R<|zn<|Aw (by kernel_rfl) R<|zr<|za R R<|zn<|zt<|z1 R R (rB (Yt c10 (by rw [←hgo];exact Sw hg (by omega))))
 refine zm R R<|zp (A8 R R R)<|zm R R<|?_
 refine XL.dec 27 R (fun g27=> ?_) (fun g27=> ?_)
 refine zm R R<|zm R R<|zp (A1 R R R)<|zq R R R<|zq R R R<|za R R<|zn<|?_
 refine zd R (fun c17=> ?_) (fun c17=> ?_)
 exact zr<|za R R<|zn<|zt<|z1 R R (rB (Yt c10 (by rw [←hgo];exact Sw hg (by omega))))
 refine zr<|zm R R<|zp (A8 R R R)<|za R R<|zn<|?_
 refine zd R (fun c33=> ?_) (fun c33=> ?_)
 refine Ag (by kernel_rfl)<|zm R R<|zm R R<|zp (Ak R R R (by omega) (by omega))<|zm R R<|zp (Ak R R R (by omega) (by omega))<|za R R<|za R R<|zn<|Ag (by kernel_rfl)<|zp (Ak R R R (by omega) (by omega))<|zm R R<|zn<|?_
 exact Am ((p.1+1,p.2.1+g,p.2.2+1)) (⟨by simp only;omega,by rw [←Aob hg (by omega) c33];exact hgo,by simp only;omega,by simp only;omega,by simp only;omega,by simp only;omega⟩) (by simp only;omega) (fz ⟨sr,sr,sr,sr,sr,trivial⟩) (gz ⟨rfl,trivial⟩)
 refine zi<|Ag (by kernel_rfl)<|zp (Ak R R R (by omega) (by omega))<|zm R R<|zn<|?_
 exfalso;omega
 refine zk 3 R<|zq R R R<|zq R R R<|za R R<|zn<|A6 (by kernel_rfl) R<|zr<|zm R R<|zp (A8 R R R)<|za R R<|zn<|?_
 refine zd R (fun c33=> ?_) (fun c33=> ?_)
 refine Ag (by kernel_rfl)<|zm R R<|zm R R<|zp (Ak R R R (by omega) (by omega))<|zm R R<|zp (Ak R R R (by omega) (by omega))<|za R R<|za R R<|zn<|Ag (by kernel_rfl)<|zp (Ak R R R (by omega) (by omega))<|zm R R<|zn<|?_
 exfalso;omega
 refine zi<|Ag (by kernel_rfl)<|zp (Ak R R R (by omega) (by omega))<|zm R R<|zn<|?_
 exact Am ((p.1+1,p.2.1,p.2.2)) (⟨by simp only;omega,by rw [←Ap6 hg (by omega) c33];exact hgo,by simp only;omega,by simp only;omega,by simp only;omega,by simp only;omega⟩) (by simp only;omega) (fz ⟨sr,sr,sr,sr,sr,trivial⟩) (gz ⟨rfl,trivial⟩)
 have hke:p.1=6:=by omega
 have hend:gGo 0 0 0 m.gs=some (p.2.1,p.2.2):=by rw [←hgo,hke];rfl
 refine Au<|zr<|zm R R<|zp (Aa R R H4)<|zp (Ab R R Ai R R)<|zp (Bb R R R)<|zm R R<|?_
 refine XL.dec 46 R (fun g46=> ?_) (fun g46=> ?_)
 exact zm R R<|zp (Fx R R R)<|zq R R R<|za R R<|zn<|zt<|z1 R R (rB (by rw [decide_eq_decide,Aim c10 hend];exact ⟨fun h=>⟨g46,h⟩,fun h=>h.2⟩))
 exact zk 2 R<|zq R R R<|za R R<|zn<|zt<|z1 R R (rB (by rw [eq_comm,decide_eq_false_iff_not,Aim c10 hend];exact fun h=>g46 h.1))
def Me.pow (m:Me):Prop:=((m.unit.toNat &&& (m.unit - 1).toNat:Nat):Int)=0
instance (m:Me):Decidable m.pow:=by unfold Me.pow;exact inferInstance
def Me.err (m:Me):Int:=if m.count<1∨64<m.count then 2 else if m.unit<1∨64<m.unit∨¬m.pow then 17 else if ¬m.grouped then 19 else 0
theorem Apx {m:Me} (h:m.count<1∨64<m.count):2=m.err:=by rw [Me.err,if_pos h]
theorem Akt {m:Me} (h:¬(m.count<1∨64<m.count)) (h2:m.unit<1∨64<m.unit∨¬m.pow):17=m.err:=by rw [Me.err,if_neg h,if_pos h2]
theorem Asa {m:Me} (h:¬(m.count<1∨64<m.count)) (h2:¬(m.unit<1∨64<m.unit∨¬m.pow)) (h3:¬m.grouped):19=m.err:=by rw [Me.err,if_neg h,if_neg h2,if_pos h3]
theorem Ar9 {m:Me} (h:¬(m.count<1∨64<m.count)) (h2:¬(m.unit<1∨64<m.unit∨¬m.pow)) (h3:m.grouped):0=m.err:=by rw [Me.err,if_neg h,if_neg h2,if_neg (fun k=>k h3)]
theorem Adu {a b c:Prop} (h1:¬a) (h2:¬b) (h3:¬c):¬(a∨b∨c):=fun k=>k.elim h1 fun k=>k.elim h2 h3
theorem Nr {a b:Prop} (h1:¬a) (h2:¬b):¬(a∨b):=fun k=>k.elim h1 h2
theorem M0 (m:Me):XC Tryz.prog 53 [.agg (Me.c m)] (fun r=>r=dI m.err):=by
 refine Al Acy Tryz.func53 R R lb<|zr<|XL.step R (An 1 (l:= [.d (dI m.count), .d (dI m.unit), .d (dI m.g0), .d (dI m.g1), .d (dI m.g2), .d (dI m.g3), .d (dI m.g4), .d (dI m.g5)]) R R (by kernel_rfl))<|za R R<|zn<|zs<|Ah<|zr<|zp (Aa R R H4)<|zp (Ab R R Ai R R)<|zp (At R R R)<|zm R R<|?_
 refine XL.dec 7 R (fun g7=> ?_) (fun g7=> ?_)
 exact zk 3 R<|zq R R R<|za R R<|zn<|Aw (by kernel_rfl) R<|zr<|za R R<|zn<|zt<|z1 R R (rI (Apx (.inl g7)))
 refine zp (Aa R R H4)<|zp (Ab R R Ai R R)<|zp (A8 R R R)<|zq R R R<|za R R<|zn<|?_
 refine zd R (fun c3=> ?_) (fun c3=> ?_)
 exact zr<|za R R<|zn<|zt<|z1 R R (rI (Apx (.inr c3)))
 refine zr<|zp (Aa R R J6)<|zp (Ab R R Ai R R)<|zp (At R R R)<|zm R R<|?_
 refine XL.dec 16 R (fun g16=> ?_) (fun g16=> ?_)
 exact zk 3 R<|zq R R R<|zm R R<|zk 7 R<|zq R R R<|za R R<|zn<|Aw (by kernel_rfl) R<|zr<|za R R<|zn<|zt<|z1 R R (rI (Akt (Nr g7 c3) (.inl g16)))
 refine zp (Aa R R J6)<|zp (Ab R R Ai R R)<|zp (A8 R R R)<|zq R R R<|zm R R<|?_
 refine XL.dec 21 R (fun g21=> ?_) (fun g21=> ?_)
 exact zk 7 R<|zq R R R<|za R R<|zn<|Aw (by kernel_rfl) R<|zr<|za R R<|zn<|zt<|z1 R R (rI (Akt (Nr g7 c3) (.inr (.inl g21))))
 refine zp (Aa R R J6)<|zp (Ab R R Ai R R)<|zp (Aa R R J6)<|zp (Ab R R Ai R R)<|zp (E1 R R R (by omega) (by omega))<|zp (Al9 R R R (by omega) (by omega) (by omega) (by omega))<|zp (A1 R R R)<|zq R R R<|za R R<|zn<|?_
 refine zd R (fun c12=> ?_) (fun c12=> ?_)
 exact zr<|za R R<|zn<|zt<|z1 R R (rI (Akt (Nr g7 c3) (.inr (.inr c12))))
 refine zr<|zp (Ae (s':= .d (.agg (Me.c m))) (Ac (Ad R R Bh R lb)) (by kernel_rfl))<|XL.call1 R R (Afw _) R<|zp (Fp R R)<|za R R<|zn<|?_
 refine zd R (fun c30=> ?_) (fun c30=> ?_)
 exact zr<|za R R<|zn<|zt<|z1 R R (rI (Asa (Nr g7 c3) (Adu g16 g21 c12) c30))
 exact zi<|zr<|za R R<|zn<|zt<|z1 R R (rI (Ar9 (Nr g7 c3) (Adu g16 g21 c12) (Decidable.not_not.1 c30)))
structure Mok (m:Me):Prop where
 count:1≤m.count∧m.count≤64
 unit:1≤m.unit∧m.unit≤64
 pow:m.pow
 grp:m.grouped
theorem Jm {m:Me} (h:¬m.err≠0):Mok m:=by
 have h0:m.err=0:=by omega
 unfold Me.err at h0
 split at h0
 ·omega
 ·split at h0
  ·omega
  ·rename_i h2
   split at h0
   ·omega
   ·rename_i h3
    exact ⟨by omega,⟨by omega,by omega⟩,Decidable.not_not.1 fun k=>h2 (.inr (.inr k)),Decidable.not_not.1 h3⟩
def Me.u (m:Me):Int:=1935360 / m.unit
def Me.len (m:Me):Int:=m.count*m.u
theorem Mok.u {m:Me} (h:Mok m):1≤m.u∧m.u≤1935360:=by
 have:=h.unit
 unfold Me.u
 exact ⟨(Int.le_ediv_iff_mul_le (by omega)).2 (by omega),Int.ediv_le_self _ (by omega)⟩
theorem Mok.len {m:Me} (h:Mok m):1≤m.len∧m.len≤123863040:=by
 have h1:=h.u
 have h2:=h.count
 unfold Me.len
 have h3:1*1≤m.count*m.u:=Int.mul_le_mul h2.1 h1.1 (by omega) (by omega)
 have h4:m.count*m.u≤64*1935360:=Int.mul_le_mul h2.2 h1.2 (by omega) (by omega)
 omega
theorem Ht (m:Me) (h:Mok m):XC Tryz.prog 93 [.agg (Me.c m)] (fun r=>r=dI m.u):=by
 have hu:=h.unit
 exact Al Acd Tryz.func93 R R lb<|zr<|XL.step R (An 1 (l:= [.d (dI m.count), .d (dI m.unit), .d (dI m.g0), .d (dI m.g1), .d (dI m.g2), .d (dI m.g3), .d (dI m.g4), .d (dI m.g5)]) R R (by kernel_rfl))<|za R R<|znr<|zp (Aa R R J6)<|zp (Ab R R Ai R R)<|zp (Is R R R (by omega) (by omega) (by omega))<|za R R<|zn<|zt<|z1 R R (rI R)
theorem K6 (m:Me) (h:Mok m):XC Tryz.prog 54 [.agg (Me.c m)] (fun r=>r=dI m.len):=by
 have hu:=h.u
 have hc:=h.count
 have hl:=h.len
 have hl2:m.count*m.u=m.len:=rfl
 refine Al Acx Tryz.func54 R R lb<|zr<|XL.step R (An 1 (l:= [.d (dI m.count), .d (dI m.unit), .d (dI m.g0), .d (dI m.g1), .d (dI m.g2), .d (dI m.g3), .d (dI m.g4), .d (dI m.g5)]) R R (by kernel_rfl))<|za R R<|zn<|zs<|B8 [] (by kernel_rfl) (by kernel_rfl) (by kernel_rfl) (by decide)<|yp (Aa R R H4)<|yp (Ab R R Ai R R)<|?_
 refine yp (Ae (s':= .d (.agg (Me.c m))) (Ac (Ad R R Bh R lb)) (by kernel_rfl))<|ChK.cons R (CStep.call R (Ht _ (by assumption)) R)<|yp (K4 R R R (by omega) (by omega))<|ya R R<|?_
 refine ChK.nil ⟨by kernel_rfl, ?_⟩
 exact zt<|z1 R R (rI R)
end Go.Proofs.YtaafemnkamfgnaaGreat
namespace Go.Proofs.YtaafemnkamfgnaaGreat
open Go.RowKit
def Il:List Int→Int
 | []=>0
 |x::r=>r.foldl min x
def Im:List Int→Int
 | []=>0
 |x::r=>r.foldl max x
theorem Ahz {l:List Int} (h:l≠ []) (x:Int):Il (l++ [x])=min (Il l) x:=by
 cases l with
 |nil=>exact absurd rfl h
 |cons a r=>simp only [Il,List.cons_append,List.foldl_append,List.foldl_cons,List.foldl_nil]
theorem Ah2 {l:List Int} (h:l≠ []) (x:Int):Im (l++ [x])=max (Im l) x:=by
 cases l with
 |nil=>exact absurd rfl h
 |cons a r=>simp only [Im,List.cons_append,List.foldl_append,List.foldl_cons,List.foldl_nil]
theorem Adh {l:List Int} {k:Nat} (h:1≤k) (h2:0<l.length):l.take k≠ []:=fun e=>by
 have:=congrArg List.length e
 rw [List.length_take,List.length_nil] at this
 omega
theorem Ahy {l:List Int} {k:Nat} {x:Int} (h:l[k]? =some x) (hk:1≤k):Il (l.take (k+1))=min (Il (l.take k)) x:=by
 rw [Bp h,Ahz (Adh hk (by have:=(List.getElem?_eq_some_iff.1 h).1;omega))]
theorem Ah1 {l:List Int} {k:Nat} {x:Int} (h:l[k]? =some x) (hk:1≤k):Im (l.take (k+1))=max (Im (l.take k)) x:=by
 rw [Bp h,Ah2 (Adh hk (by have:=(List.getElem?_eq_some_iff.1 h).1;omega))]
theorem Yf {l:List Int} {x:Int} (h:l[0]? =some x):Il (l.take 1)=x∧Im (l.take 1)=x:=by
 cases l with
 |nil=>cases h
 |cons a r=>cases h;exact ⟨rfl,rfl⟩
theorem Anf (l:List Int) (h:0<l.length):XC Tryz.prog 181 [.sl 1 (B7 l)] (fun r=>r=dI (Il l)):=by
 refine Al Z7 Tryz.func181 R R lb<|zr<|za R R<|zn<|zs<|zr<|zm R R<|XL.len R R R Tryz.underlying45 fun hl6=>zp (At R R R)<|zn<|?_
 refine zd R (fun c7=> ?_) (fun c7=> ?_)
 exfalso;omega
 refine zi<|zs<|?_
 obtain ⟨x,hx⟩:∃x,l[0]? =some x:=Ax h
 refine Ag (by kernel_rfl)<|zm R R<|zp (Av (k:=0) R R R Dh (hx))<|zp (A9 R R Ai)<|za R R<|zn<|zs<|zr<|za R R<|zn<|Ah<|?_
 refine A0 (α:=Nat) (fun k=>1≤k∧k≤l.length) (fun k=>mkF [(0, .d (.sl 1 (B7 l))),(2, .d (dI 0)),(3, .d (dI (Il (l.take k)))),(4, .d (dI k))]) (fun k=>mkH []) (fun k=>l.length - k) (1) (⟨Nat.le_refl _,h⟩) ?_ ?_ ?_
 exact fz ⟨sr,sr, .same (sI (Yf hx).1.symm),sr,trivial⟩
 exact HSub.nil
 intro k hk0
 refine zs<|zr<|zm R R<|zm R R<|XL.len R R R Tryz.underlying45 fun hl14=>zp (At R R R)<|zn<|?_
 refine zd R (fun c15=> ?_) (fun c15=> ?_)
 obtain ⟨y,hy⟩:∃y,l[k]? =some y:=Ax (by omega)
 refine zi<|zs<|Ah<|Ag (by kernel_rfl)<|zm R R<|zm R R<|zm R R<|zp (Av R R R Dh (hy))<|zp (A9 R R Ai)<|zp (Fi R R R)<|za R R<|zn<|Ag (by kernel_rfl)<|zm R R<|?_
 refine zp (Ak R R R (by omega) (by omega))<|za R R<|zn<|?_
 exact Am (k+1) (by omega) (by omega) (fz ⟨sr,sr, .same (sI (by rw [Ahy hy (by omega)])),sr,trivial⟩) (HSub.nil)
 have ht:l.take k=l:=List.take_of_length_le (by omega)
 exact Au<|zr<|zm R R<|za R R<|zn<|zt<|z1 R R (rI (by rw [ht]))
theorem Ang (l:List Int) (h:0<l.length):XC Tryz.prog 182 [.sl 1 (B7 l)] (fun r=>r=dI (Im l)):=by
 refine Al Z6 Tryz.func182 R R lb<|zr<|za R R<|zn<|zs<|zr<|zm R R<|XL.len R R R Tryz.underlying45 fun hl6=>zp (At R R R)<|zn<|?_
 refine zd R (fun c7=> ?_) (fun c7=> ?_)
 exfalso;omega
 refine zi<|zs<|?_
 obtain ⟨x,hx⟩:∃x,l[0]? =some x:=Ax h
 refine Ag (by kernel_rfl)<|zm R R<|zp (Av (k:=0) R R R Dh (hx))<|zp (A9 R R Ai)<|za R R<|zn<|zs<|zr<|za R R<|zn<|Ah<|?_
 refine A0 (α:=Nat) (fun k=>1≤k∧k≤l.length) (fun k=>mkF [(0, .d (.sl 1 (B7 l))),(2, .d (dI 0)),(3, .d (dI (Im (l.take k)))),(4, .d (dI k))]) (fun k=>mkH []) (fun k=>l.length - k) (1) (⟨Nat.le_refl _,h⟩) ?_ ?_ ?_
 exact fz ⟨sr,sr, .same (sI (Yf hx).2.symm),sr,trivial⟩
 exact HSub.nil
 intro k hk0
 refine zs<|zr<|zm R R<|zm R R<|XL.len R R R Tryz.underlying45 fun hl14=>zp (At R R R)<|zn<|?_
 refine zd R (fun c15=> ?_) (fun c15=> ?_)
 obtain ⟨y,hy⟩:∃y,l[k]? =some y:=Ax (by omega)
 refine zi<|zs<|Ah<|Ag (by kernel_rfl)<|zm R R<|zm R R<|zm R R<|zp (Av R R R Dh (hy))<|zp (A9 R R Ai)<|zp (Q8 R R R)<|za R R<|zn<|Ag (by kernel_rfl)<|zm R R<|?_
 refine zp (Ak R R R (by omega) (by omega))<|za R R<|zn<|?_
 exact Am (k+1) (by omega) (by omega) (fz ⟨sr,sr, .same (sI (by rw [Ah1 hy (by omega)])),sr,trivial⟩) (HSub.nil)
 have ht:l.take k=l:=List.take_of_length_le (by omega)
 exact Au<|zr<|zm R R<|za R R<|zn<|zt<|z1 R R (rI (by rw [ht]))
def Ic (v:Int) (k:Nat):List Int→Int
 | []=> -1
 |x::r=>if v=x then k else Ic v (k+1) r
theorem Aij {v x:Int} {l:List Int} {k:Nat} (h:l[k]? =some x) (hv:v=x):Ic v k (l.drop k)=k:=by rw [Br h,Ic,if_pos hv]
theorem Afu {v x:Int} {l:List Int} {k:Nat} (h:l[k]? =some x) (hv:¬v=x):Ic v k (l.drop k)=Ic v (k+1) (l.drop (k+1)):=by rw [Br h,Ic,if_neg hv]
theorem Aii (v:Int) (l:List Int):∀k,0≤Ic v k l↔v∈l:=by
 induction l with
 |nil=>intro k;simp [Ic]
 |cons x r ih=>
  intro k
  rw [Ic]
  split
  ·rename_i h;simp [h]
  ·rename_i h;rw [ih,List.mem_cons];exact ⟨.inr,fun k=>k.elim (fun e=>absurd e h) fun e=>e⟩
theorem Aha (l:List Int) (v:Int):XC Tryz.prog 203 [.sl 1 (B7 l), .v (.int .i64 v)] (fun r=>r=dI (Ic v 0 l)):=by
 refine Al Zn Tryz.func203 R R lb<|zr<|za R R<|zn<|zs<|zr<|zm R R<|XL.len R R R Tryz.underlying45 fun hl7=>zm R R<|zn<|Ah<|?_
 refine A0 (α:=Nat) (fun k=>k≤l.length∧Ic v k (l.drop k)=Ic v 0 l) (fun k=>mkF [(0, .d (.sl 1 (B7 l))),(1, .d (dI v)),(7, .d (dI l.length)),(8, .d (dI k))]) (fun k=>mkH []) (fun k=>l.length - k) (0) (⟨Nat.zero_le _,by rw [List.drop_zero]⟩) ?_ ?_ ?_
 exact fz ⟨sr,sr,sr,sr,trivial⟩
 exact HSub.nil
 intro k hk0
 obtain ⟨hk,hgo⟩:=hk0
 refine zr<|zp (At R R R)<|zn<|zs<|?_
 refine zd R (fun c9=> ?_) (fun c9=> ?_)
 have hk0a:k<l.length:=by omega
 obtain ⟨x0,hx0⟩:=Ax hk0a
 refine zi<|zs<|Ah<|zr<|zm R R<|za R R<|znr<|zm R R<|zm R R<|zm R R<|zp (Av R R R Dh hx0)<|zp (A9 R R Ai)<|zp (Bb R R R)<|zn<|?_
 refine zd R (fun c16=> ?_) (fun c16=> ?_)
 exact zr<|zm R R<|za R R<|zn<|zt<|z1 R R (rI (by rw [←hgo,Aij hx0 c16]))
 refine zi<|Ag (by kernel_rfl)<|zp (Ak R R R (by omega) (by omega))<|zm R R<|zn<|?_
 exact Am (k+1) (⟨by omega,by rw [←Afu hx0 c16];exact hgo⟩) (by omega) (fz ⟨sr,sr,sr,sr,trivial⟩) (HSub.nil)
 have hk0b:k=l.length:=by omega
 have hz:Ic v 0 l= -1:=by rw [←hgo,hk0b,List.drop_length];rfl
 exact Au<|zr<|za R R<|zn<|zt<|z1 R R (rI hz.symm)
theorem Lx (l:List Int) (v:Int):XC Tryz.prog 183 [.sl 1 (B7 l), .v (.int .i64 v)] (fun r=>r=dB (decide (v∈l))):=by
 exact Al Z5 Tryz.func183 R R lb<|zr<|za R R<|znr<|zm R R<|zm R R<|XL.call1 R R (Aha _ _) R<|zp (Fx R R R)<|za R R<|zn<|zt<|z1 R R (rB (by rw [decide_eq_decide];exact Aii v l 0))
end Go.Proofs.YtaafemnkamfgnaaGreat
namespace Go.Proofs.YtaafemnkamfgnaaGreat
open Go.RowKit
theorem Nl (l:List Hd) (h:l.length≤1000):XS Tryz.prog 140 [.sl 5 (l.map Hd.c)] (.own 5) [(5, .row 200 5 ((l).map Hd.c))]:=by
 refine Ds Qw Tryz.func140 R R lb (by kernel_rfl) (by kernel_rfl)<|zr<|za R R<|zn<|zs<|zr<|zm R R<|?_
 refine XL.eqnil R R R Tryz.underlying55 (fun hn4=> ?_) ?_
 refine zn<|Aw (by kernel_rfl) R<|zr<|za R R<|zn<|Dl 5 2 200 5 R<|zt<|?_
 exact ⟨Cg R (RVS.tmp R R),HSub.cons (by rw [hn4];rfl) (HSub.nil)⟩
 refine zn<|A6 (by kernel_rfl) R<|zi<|zr<|XL.step R (Bk 5 R Tryz.underlying55 Xf Se R R (by omega) (by omega))<|zm R R<|XL.step R (A3 R Ai1 (.own R) (Src.sl (by omega)) (by unfold maxLen;simp;omega) (by simp;omega))<|zp (Ao R (by conv=>lhs;whnf))<|?_
 refine zn<|zt<|?_
 exact ⟨Cg R (RVS.tmp R R),HSub.cons (R) (HSub.nil)⟩
theorem Ab6 (l:List Gr) (h:l.length≤1000):XS Tryz.prog 141 [.sl 5 (l.map Gr.c)] (.own 5) [(5, .row 203 5 ((l).map Gr.c))]:=by
 refine Ds Qv Tryz.func141 R R lb (by kernel_rfl) (by kernel_rfl)<|zr<|za R R<|zn<|zs<|zr<|zm R R<|?_
 refine XL.eqnil R R R Tryz.underlying56 (fun hn4=> ?_) ?_
 refine zn<|Aw (by kernel_rfl) R<|zr<|za R R<|zn<|Dl 5 2 203 5 R<|zt<|?_
 exact ⟨Cg R (RVS.tmp R R),HSub.cons (by rw [hn4];rfl) (HSub.nil)⟩
 refine zn<|A6 (by kernel_rfl) R<|zi<|zr<|XL.step R (Bk 5 R Tryz.underlying56 Xe Sd R R (by omega) (by omega))<|zm R R<|XL.step R (A3 R Ai0 (.own R) (Src.sl (by omega)) (by unfold maxLen;simp;omega) (by simp;omega))<|zp (Ao R (by conv=>lhs;whnf))<|?_
 refine zn<|zt<|?_
 exact ⟨Cg R (RVS.tmp R R),HSub.cons (R) (HSub.nil)⟩
theorem Ab3 (l:List Sy) (h:l.length≤1000):XS Tryz.prog 142 [.sl 2 (l.map Sy.c)] (.own 5) [(5, .row 171 2 ((l).map Sy.c))]:=by
 refine Ds Qu Tryz.func142 R R lb (by kernel_rfl) (by kernel_rfl)<|zr<|za R R<|zn<|zs<|zr<|zm R R<|?_
 refine XL.eqnil R R R Tryz.underlying57 (fun hn4=> ?_) ?_
 refine zn<|Aw (by kernel_rfl) R<|zr<|za R R<|zn<|Dl 5 2 171 2 R<|zt<|?_
 exact ⟨Cg R (RVS.tmp R R),HSub.cons (by rw [hn4];rfl) (HSub.nil)⟩
 refine zn<|A6 (by kernel_rfl) R<|zi<|zr<|XL.step R (Bk 5 R Tryz.underlying57 Xg Nz R R (by omega) (by omega))<|zm R R<|XL.step R (A3 R Aiz (.own R) (Src.sl (by omega)) (by unfold maxLen;simp;omega) (by simp;omega))<|zp (Ao R (by conv=>lhs;whnf))<|?_
 refine zn<|zt<|?_
 exact ⟨Cg R (RVS.tmp R R),HSub.cons (R) (HSub.nil)⟩
theorem Zd (l:List Int) (h:l.length≤1000):XS Tryz.prog 200 [.sl 1 (l.map iv)] (.own 5) [(5, .row 3 1 ((l).map iv))]:=by
 refine Ds Zq Tryz.func200 R R lb (by kernel_rfl) (by kernel_rfl)<|zr<|za R R<|zn<|zs<|zr<|zm R R<|?_
 refine XL.eqnil R R R Tryz.underlying45 (fun hn4=> ?_) ?_
 refine zn<|Aw (by kernel_rfl) R<|zr<|za R R<|zn<|Dl 5 2 3 1 R<|zt<|?_
 exact ⟨Cg R (RVS.tmp R R),HSub.cons (by rw [hn4];rfl) (HSub.nil)⟩
 refine zn<|A6 (by kernel_rfl) R<|zi<|zr<|XL.step R (Bk 5 R Tryz.underlying45 Eo G8 R R (by omega) (by omega))<|zm R R<|XL.step R (A3 R Qm (.own R) (Src.sl (by omega)) (by unfold maxLen;simp;omega) (by simp;omega))<|zp (Ao R (by conv=>lhs;whnf))<|?_
 refine zn<|zt<|?_
 exact ⟨Cg R (RVS.tmp R R),HSub.cons (R) (HSub.nil)⟩
def G6 {α:Type} (f:α→α) (l:List α) (k:Nat):List α:=(l.take k).map f++l.drop k
theorem Oh {α:Type} (f:α→α) (l:List α):l=G6 f l 0:=by simp [G6]
theorem Qa {α:Type} {f:α→α} {l:List α} {k:Nat} (h:l.length≤k):G6 f l k=l.map f:=by rw [G6,List.take_of_length_le h,List.drop_eq_nil_of_le h,List.append_nil]
theorem M3 {α:Type} (f:α→α) (l:List α) (k:Nat):(G6 f l k).length=l.length:=by rw [G6,List.length_append,List.length_map,List.length_take,List.length_drop];omega
theorem P9 {α:Type} {f:α→α} {l:List α} {k:Nat} {x:α} (h:l[k]? =some x):(G6 f l k)[k]? =some x:=by
 have hk:=(List.getElem?_eq_some_iff.1 h).1
 rw [G6,List.getElem?_append_right (by rw [List.length_map,List.length_take];omega),List.length_map,List.length_take,Nat.min_eq_left (by omega),Nat.sub_self,List.getElem?_drop]
 exact h
theorem P8 {α:Type} {f:α→α} {l:List α} {k:Nat} {x:α} (h:l[k]? =some x):G6 f l (k+1)=(G6 f l k).set k (f x):=by
 have hk:=(List.getElem?_eq_some_iff.1 h).1
 have hl:((l.take k).map f).length=k:=by rw [List.length_map,List.length_take];omega
 rw [G6,G6,Bp h,List.map_append,List.set_append_right _ _ (by omega),hl,Nat.sub_self,Br h,List.set_cons_zero,List.append_assoc]
 rfl
def Hd.tie (h:Hd):Hd:=⟨h.p,true,h.sh⟩
def Hd.plain (h:Hd):Hd:=⟨h.p,h.tied,0⟩
theorem O3 (l:List Hd) (h:l.length≤1000):XC Tryz.prog 136 [.sl 5 (l.map Hd.c)] (fun r=>r= .sl 5 ((l.map Hd.tie).map Hd.c)):=by
 refine Al Aa3 Tryz.func136 R R lb<|zr<|za R R<|znr<|zm R R<|XL.callS R R ((Nl _ (by omega)).lab 7001) R<|zp (Ao R (by conv=>lhs;whnf))<|?_
 refine zn<|zs<|zr<|zp (Ar R (by conv=>lhs;whnf))<|?_
 refine zp (Bz R R R Tryz.underlying55)<|zm R R<|zn<|Ah<|?_
 refine A0 (α:=Nat) (fun k=>k≤l.length) (fun k=>mkF [(0, .own 7001),(2, .d (.v (.slice none 0 0))),(6, .own 7001),(7, .d (dI l.length)),(8, .d (dI k))]) (fun k=>mkH [(7001, .row 200 5 ((G6 Hd.tie l k).map Hd.c))]) (fun k=>l.length - k) (0) (Nat.zero_le _) ?_ ?_ ?_
 exact fz ⟨sr,sr,sr,sr,sr,trivial⟩
 exact gz ⟨by rw [←Oh];rfl,trivial⟩
 intro k hk0
 refine zr<|zp (At R R R)<|zn<|zs<|?_
 refine zd R (fun c9=> ?_) (fun c9=> ?_)
 have hkl:k<l.length:=by omega
 obtain ⟨x,hx⟩:=Ax hkl
 have hml:=M3 Hd.tie l k
 have hg:=P9 (f:=Hd.tie) hx
 refine zi<|zs<|Ah<|zr<|zm R R<|za R R<|zng<|zp (Ar R (by conv=>lhs;whnf))<|?_
 refine zm R R<|zp (Jg R R R R Rl (by omega))<|zp (Aa R R Aip)<|XL.step R (E4 R R R (C4 hg) R R Arz R lb)<|zn<|Ag (by kernel_rfl)<|zp (Ak R R R (by omega) (by omega))<|zm R R<|zn<|?_
 exact Am (k+1) (by omega) (by omega) (fz ⟨sr,sr,sr,sr,sr,trivial⟩) (gz ⟨Pe (a:=Hd.tie x) R (P8 hx),trivial⟩)
 have he:=Qa (f:=Hd.tie) (l:=l) (k:=k) (by omega)
 refine Au<|zr<|zp (Ar R (by conv=>lhs;whnf))<|?_
 refine zp (Ao R (by conv=>lhs;whnf))<|?_
 exact zn<|zt<|B6 (i:=7001) R<|z1 R R (rSl he)
theorem Ow (l:List Hd) (h:l.length≤1000):XC Tryz.prog 135 [.sl 5 (l.map Hd.c)] (fun r=>r= .sl 5 ((l.map Hd.plain).map Hd.c)):=by
 refine Al Aa4 Tryz.func135 R R lb<|zr<|za R R<|znr<|zm R R<|XL.callS R R ((Nl _ (by omega)).lab 7001) R<|zp (Ao R (by conv=>lhs;whnf))<|?_
 refine zn<|zs<|zr<|zp (Ar R (by conv=>lhs;whnf))<|?_
 refine zp (Bz R R R Tryz.underlying55)<|zm R R<|zn<|Ah<|?_
 refine A0 (α:=Nat) (fun k=>k≤l.length) (fun k=>mkF [(0, .own 7001),(2, .d (.v (.slice none 0 0))),(6, .own 7001),(7, .d (dI l.length)),(8, .d (dI k))]) (fun k=>mkH [(7001, .row 200 5 ((G6 Hd.plain l k).map Hd.c))]) (fun k=>l.length - k) (0) (Nat.zero_le _) ?_ ?_ ?_
 exact fz ⟨sr,sr,sr,sr,sr,trivial⟩
 exact gz ⟨by rw [←Oh];rfl,trivial⟩
 intro k hk0
 refine zr<|zp (At R R R)<|zn<|zs<|?_
 refine zd R (fun c9=> ?_) (fun c9=> ?_)
 have hkl:k<l.length:=by omega
 obtain ⟨x,hx⟩:=Ax hkl
 have hml:=M3 Hd.plain l k
 have hg:=P9 (f:=Hd.plain) hx
 refine zi<|zs<|Ah<|zr<|zm R R<|za R R<|zng<|zp (Ar R (by conv=>lhs;whnf))<|?_
 refine zm R R<|zp (Jg R R R R Rl (by omega))<|zp (Aa R R Wa)<|XL.step R (E4 R R R (C4 hg) R R Eo R lb)<|zn<|Ag (by kernel_rfl)<|zp (Ak R R R (by omega) (by omega))<|zm R R<|zn<|?_
 exact Am (k+1) (by omega) (by omega) (fz ⟨sr,sr,sr,sr,sr,trivial⟩) (gz ⟨Pe (a:=Hd.plain x) R (P8 hx),trivial⟩)
 have he:=Qa (f:=Hd.plain) (l:=l) (k:=k) (by omega)
 refine Au<|zr<|zp (Ar R (by conv=>lhs;whnf))<|?_
 refine zp (Ao R (by conv=>lhs;whnf))<|?_
 exact zn<|zt<|B6 (i:=7001) R<|z1 R R (rSl he)
end Go.Proofs.YtaafemnkamfgnaaGreat
namespace Go.Proofs.YtaafemnkamfgnaaGreat
open Go.RowKit
def Ev.fit (e:Ev):Prop:=e.heads.length≤1000∧e.graces.length≤1000∧e.lyr.length≤1000
theorem Qn (e:Ev) (h:e.fit):XC Tryz.prog 111 [.agg (Ev.c e)] (fun r=>r= .agg (Ev.c e)):=by
 obtain ⟨h1,h2,h3⟩:=h
 refine Al Qy Tryz.func111 R R lb<|zr<|XL.step R (An 1 (l:= [.d (dI e.site), .d (dI e.num), .d (dI e.kind), .d (dI e.v.log), .d (dI e.v.dots), .d (.sl 5 (e.heads.map Hd.c)), .d (.sl 5 (e.graces.map Gr.c)), .d (dI e.art), .d (dI e.orn), .d (dI e.dyn), .d (.sl 2 (e.lyr.map Sy.c)), .d (dI e.stem), .d (dI e.beam)]) R R (by kernel_rfl))<|?_
 refine XL.step R (Ap 2 (l:= [.d (dI 0), .d (dI 0), .d (dI 0), .d (dI 0), .d (dI 0), .d (.v (.slice none 0 0)), .d (.v (.slice none 0 0)), .d (dI 0), .d (dI 0), .d (dI 0), .d (.v (.slice none 0 0)), .d (dI 0), .d (dI 0)]) R B9 (by kernel_rfl))<|zn<|zs<|Ck 10 [7001,7002,7003] (by kernel_rfl) (by kernel_rfl) (by kernel_rfl) (by kernel_rfl) (by decide)<|yp (Aa R R Cw)<|?_
 refine yp (Ab R R G0 R R)<|ChK.cons R (CStep.callS R ((Nl _ (by omega)).lab 7001) R (F4 (by kernel_rfl)))<|yp (Aa R R Fs)<|yp (Ab R R Mw R R)<|ChK.cons R (CStep.callS R ((Ab6 _ (by omega)).lab 7002) R (F4 (by kernel_rfl)))<|yp (Aa R R D9)<|yp (Ab R R Ir R R)<|?_
 refine ChK.cons R (CStep.callS R ((Ab3 _ (by omega)).lab 7003) R (F4 (by kernel_rfl)))<|yp (Aa R R Cw)<|?_
 refine ChK.nil ⟨by kernel_rfl, ?_⟩
 refine XL.step R (Af (l':= [.d (dI e.site), .d (dI e.num), .d (dI e.kind), .d (dI e.v.log), .d (dI e.v.dots), .own 7001, .d (.sl 5 (e.graces.map Gr.c)), .d (dI e.art), .d (dI e.orn), .d (dI e.dyn), .d (.sl 2 (e.lyr.map Sy.c)), .d (dI e.stem), .d (dI e.beam)]) R R R R Mr R lb (by kernel_rfl))<|zp (Aa R R Fs)<|?_
 refine XL.step R (Af (l':= [.d (dI e.site), .d (dI e.num), .d (dI e.kind), .d (dI e.v.log), .d (dI e.v.dots), .own 7001, .own 7002, .d (dI e.art), .d (dI e.orn), .d (dI e.dyn), .d (.sl 2 (e.lyr.map Sy.c)), .d (dI e.stem), .d (dI e.beam)]) R R R R Aex R lb (by kernel_rfl))<|zp (Aa R R D9)<|?_
 refine XL.step R (Af (l':= [.d (dI e.site), .d (dI e.num), .d (dI e.kind), .d (dI e.v.log), .d (dI e.v.dots), .own 7001, .own 7002, .d (dI e.art), .d (dI e.orn), .d (dI e.dyn), .own 7003, .d (dI e.stem), .d (dI e.beam)]) R R R R Aew R lb (by kernel_rfl))<|znr<|zp (Ac (Ad R R Bu R lb))<|?_
 refine XL.step R (Af (l':= [.d (dI e.site), .d (dI e.num), .d (dI e.kind), .d (dI e.v.log), .d (dI e.v.dots), .own 7001, .own 7002, .d (dI e.art), .d (dI e.orn), .d (dI e.dyn), .own 7003, .d (dI e.stem), .d (dI e.beam)]) R R R R Cy R lb (by kernel_rfl))<|zn<|zt<|B6 (i:=7001) R<|B6 (i:=7002) R<|B6 (i:=7003) R<|?_
 exact J0 R (RV.cells R R R Bu lb R) (R)
def Ev.eqv (a b:Ev):Prop:=(a.site=b.site∧a.num=b.num)∧a.same b
instance (a b:Ev):Decidable (a.eqv b):=by unfold Ev.eqv;exact inferInstance
structure Vo.fit (v:Vo):Prop where
 evs:v.evs.length≤1000
 tups:v.tups.length≤1000
 ev:∀e∈v.evs,e.fit
theorem Kg (v:Vo) (h:v.fit):XC Tryz.prog 82 [.agg (Vo.c v)] (fun r=>r= .agg (Vo.c v)):=by
 have h1:=h.evs
 have h2:=h.tups
 refine Al R8 Tryz.func82 R R lb<|zr<|XL.step R (An 1 (l:= [.d (.sl 13 (v.evs.map Ev.c)), .d (.sl 4 (v.tups.map Tp.c))]) R R (by kernel_rfl))<|XL.step R (Ap 2 (l:= [.d (.v (.slice none 0 0)), .d (.v (.slice none 0 0))]) R Bc (by kernel_rfl))<|znr<|XL.step R (Ap 3 (l:= [.d (.v (.slice none 0 0)), .d (.v (.slice none 0 0))]) R Bc (by kernel_rfl))<|zn<|zs<|zr<|?_
 refine zp (Aa R R Bw)<|zp (Ab R R C7 R R)<|XL.len R R R Tryz.underlying79 fun hl8=>zm R R<|zn<|Ah<|En 900 3 0 59 13 (l':= [.own 900, .d (.v (.slice none 0 0))]) R R (by decide) (by kernel_rfl)<|?_
 refine A0 (α:=Nat) (fun k=>k≤v.evs.length) (fun k=>mkF [(1, .ptr 1 0 0),(2, .ptr 2 0 0),(3, .ptr 3 0 0),(7, .d (.sl 13 (v.evs.map Ev.c))),(8, .d (dI v.evs.length)),(9, .d (dI k))]) (fun k=>mkH [(1, .box ((Vo.c v).map S.d)),(2, .box [.d (.v (.slice none 0 0)), .d (.v (.slice none 0 0))]),(3, .box [.own 900, .d (.v (.slice none 0 0))]),(900, .row 59 13 ((v.evs.take k).map Ev.c))]) (fun k=>v.evs.length - k) (0) (Nat.zero_le _) ?_ ?_ ?_
 exact fz ⟨sr,sr,sr,sr,sr,sr,trivial⟩
 exact gz ⟨R,R,R,R,trivial⟩
 intro k hk0
 refine zr<|zp (At R R R)<|zn<|zs<|?_
 refine zd R (fun c10=> ?_) (fun c10=> ?_)
 have hk0a:k<v.evs.length:=by omega
 obtain ⟨x0,hx0⟩:=Ax hk0a
 have hf:=h.ev x0 (List.mem_of_getElem? hx0)
 have htl:(v.evs.take k).length=k:=by rw [List.length_take];omega
 refine zi<|zs<|Ah<|zr<|zp (Av R R R Hj hx0)<|zp (Ae (s':= .d (.agg (Ev.c x0))) (Be R R Bu lb) (by kernel_rfl))<|XL.step R (Ap 5 (l:= [.d (dI 0), .d (dI 0), .d (dI 0), .d (dI 0), .d (dI 0), .d (.v (.slice none 0 0)), .d (.v (.slice none 0 0)), .d (dI 0), .d (dI 0), .d (dI 0), .d (.v (.slice none 0 0)), .d (dI 0), .d (dI 0)]) R B9 (by kernel_rfl))<|?_
 refine XL.step R (Af (l':= [.d (dI x0.site), .d (dI x0.num), .d (dI x0.kind), .d (dI x0.v.log), .d (dI x0.v.dots), .d (.sl 5 (x0.heads.map Hd.c)), .d (.sl 5 (x0.graces.map Gr.c)), .d (dI x0.art), .d (dI x0.orn), .d (dI x0.dyn), .d (.sl 2 (x0.lyr.map Sy.c)), .d (dI x0.stem), .d (dI x0.beam)]) R R R R Cy R lb (by kernel_rfl))<|zn<|?_
 refine Ck 5 [] (by kernel_rfl) (by kernel_rfl) (by kernel_rfl) (by kernel_rfl) (by decide)<|yp (Aa R R Bw)<|yp (Ab R R C7 R R)<|yp (Ae (s':= .d (.agg (Ev.c x0))) (Ac (Ad R R Bu R lb)) (by kernel_rfl))<|ChK.cons R (CStep.call R (Qn _ (by assumption)) R)<|ChK.cons R (CStep.slice R Tryz.underlying79 Cy B9 R R (by omega) (by omega))<|?_
 refine ChK.nil ⟨by kernel_rfl, ?_⟩
 refine XL.step R (A3 R F5 (.own R) (Src.sl (by omega)) (by unfold maxLen;simp;omega) (by simp;omega))<|zp (Aa R R Bw)<|XL.step R (Af (l':= [.own 900, .d (.v (.slice none 0 0))]) R R R R Q4 R lb (by kernel_rfl))<|zn<|Ag (by kernel_rfl)<|zp (Ak R R R (by omega) (by omega))<|zm R R<|zn<|?_
 exact Am (k+1) (by omega) (by omega) (fz ⟨sr,sr,sr,sr,sr,sr,trivial⟩) (gz ⟨R,R,R,Iv R (Bp hx0),trivial⟩)
 have hk0b:k=v.evs.length:=by omega
 have ht:v.evs.take k=v.evs:=by rw [hk0b,List.take_length]
 refine Au<|zr<|zp (Aa R R B0)<|zp (Ab R R B1 R R)<|zp (Aa R R B0)<|zp (Ab R R B1 R R)<|XL.step R (A3 R Ff (.nil 25 _ _) (Src.sl (by omega)) (by unfold maxLen;simp;omega) (by simp;omega))<|zp (Aa R R B0)<|XL.step R (Af (l':= [.own 900, .own 25]) R R R R Fv R lb (by kernel_rfl))<|znr<|?_
 refine zp (Ac (Ad R R As R lb))<|XL.step R (Af (l':= [.own 900, .own 25]) R R R R Bn R lb (by kernel_rfl))<|zn<|zt<|B6 (i:=900) R<|B6 (i:=25) R<|?_
 exact J0 R (RV.cells R R R As lb R) (by rw [ht];rfl)
end Go.Proofs.YtaafemnkamfgnaaGreat
namespace Go.Proofs.YtaafemnkamfgnaaGreat
open Go.RowKit
def Ev.further (x:Ev):Ev:=⟨0,0,x.kind,⟨0,0⟩,x.heads.map Hd.plain, [],0,0,0, [],x.stem,0⟩
def Ev.put (y:Ev) (v:Val) (t:Bool):Ev:=⟨y.site,y.num,y.kind,v,if t then y.heads.map Hd.tie else y.heads,y.graces,y.art,y.orn,y.dyn,y.lyr,y.stem,y.beam⟩
def E5 (x:Ev) (n:Nat) (fu:Bool) (i:Nat) (v:Val):Ev:=(if 0<(i:Int)∨fu=true then x.further else x).put v (decide ((i:Int)+1<(n:Int)))
def Bm (x:Ev) (vs:List Val) (fu:Bool):List Ev:=vs.mapIdx (E5 x vs.length fu)
def Jl (x:Ev) (vs:List Val) (fu:Bool) (k:Nat):List Ev:=(vs.take k).mapIdx (E5 x vs.length fu)
theorem Hb {x:Ev} {vs:List Val} {fu:Bool} {k:Nat} {v:Val} (h:vs[k]? =some v) {y:Ev} (hy:E5 x vs.length fu k v=y):Jl x vs fu (k+1)=Jl x vs fu k++ [y]:=by
 have hk:=(List.getElem?_eq_some_iff.1 h).1
 rw [Jl,Bp h,List.mapIdx_append, ←hy]
 simp [Jl,List.length_take,Nat.min_eq_left (Nat.le_of_lt hk)]
theorem Ahu {x:Ev} {n i:Nat} {fu:Bool} {v:Val} (h:0<(i:Int)∨fu=true) (h2:(i:Int)+1<(n:Int)):E5 x n fu i v=x.further.put v true:=by rw [E5,if_pos h,decide_eq_true h2]
theorem Aht {x:Ev} {n i:Nat} {fu:Bool} {v:Val} (h:0<(i:Int)∨fu=true) (h2:¬(i:Int)+1<(n:Int)):E5 x n fu i v=x.further.put v false:=by rw [E5,if_pos h,decide_eq_false h2]
theorem Apt {x:Ev} {n i:Nat} {fu:Bool} {v:Val} (h:¬0<(i:Int)) (h':fu=false) (h2:(i:Int)+1<(n:Int)):E5 x n fu i v=x.put v true:=by rw [E5,if_neg (by rw [h'];simp;omega),decide_eq_true h2]
theorem Aps {x:Ev} {n i:Nat} {fu:Bool} {v:Val} (h:¬0<(i:Int)) (h':fu=false) (h2:¬(i:Int)+1<(n:Int)):E5 x n fu i v=x.put v false:=by rw [E5,if_neg (by rw [h'];simp;omega),decide_eq_false h2]
theorem L6 (x:Ev) (vs:List Val) (fu:Bool) (h:x.fit) (hv:vs.length≤3000):XS Tryz.prog 105 [.agg (Ev.c x), .sl 2 (vs.map Val.c), .v (.bool fu)] (.own 900) [(900, .row 59 13 ((Bm x vs fu).map Ev.c))]:=by
 have hf:=h
 have hf1:=h.1
 refine Ds Abd Tryz.func105 R R lb (by kernel_rfl) (by kernel_rfl)<|zr<|XL.step R (An 3 (l:= [.d (dI x.site), .d (dI x.num), .d (dI x.kind), .d (dI x.v.log), .d (dI x.v.dots), .d (.sl 5 (x.heads.map Hd.c)), .d (.sl 5 (x.graces.map Gr.c)), .d (dI x.art), .d (dI x.orn), .d (dI x.dyn), .d (.sl 2 (x.lyr.map Sy.c)), .d (dI x.stem), .d (dI x.beam)]) R R (by kernel_rfl))<|za R R<|znr<|?_
 refine za R R<|zn<|zs<|zr<|zm R R<|XL.len R R R Tryz.underlying159 fun hl12=>zm R R<|zn<|Ah<|Dl 900 7 59 13 R<|?_
 refine A0 (α:=Nat) (fun k=>k≤vs.length) (fun k=>mkF [(1, .d (.sl 2 (vs.map Val.c))),(2, .d (dB fu)),(3, .ptr 3 0 0),(6, .d (.v (.slice none 0 0))),(7, .own 900),(11, .d (.sl 2 (vs.map Val.c))),(12, .d (dI vs.length)),(13, .d (dI k))]) (fun k=>mkH [(3, .box ((Ev.c x).map S.d)),(900, .row 59 13 ((Jl x vs fu k).map Ev.c))]) (fun k=>vs.length - k) (0) (Nat.zero_le _) ?_ ?_ ?_
 exact fz ⟨sr,sr,sr,sr,sr,sr,sr,sr,trivial⟩
 exact gz ⟨R,R,trivial⟩
 intro k hk0
 refine zr<|zp (At R R R)<|zn<|zs<|?_
 refine zd R (fun c14=> ?_) (fun c14=> ?_)
 have hk0a:k<vs.length:=by omega
 obtain ⟨x0,hx0⟩:=Ax hk0a
 have hnl:(Jl x vs fu k).length=k:=by rw [Jl,List.length_mapIdx,List.length_take];omega
 have hpl:(x.heads.map Hd.plain).length≤1000:=by rw [List.length_map];exact hf1
 refine zi<|zs<|Ah<|zr<|zm R R<|zp (Av R R R Aqg hx0)<|zp (Ae (s':= .d (.agg (Val.c x0))) (Be R R D7 lb) (by kernel_rfl))<|XL.step R (Ap 9 (l:= [.d (dI 0), .d (dI 0)]) R Fa (by kernel_rfl))<|za R R<|XL.step R (Af (l':= [.d (dI x0.log), .d (dI x0.dots)]) R R R R Gy R lb (by kernel_rfl))<|znr<|?_
 refine zp (Ae (s':= .d (.agg (Ev.c x))) (Ac (Ad R R Bu R lb)) (by kernel_rfl))<|XL.call1 R R (Qn _ (by assumption)) R<|XL.step R (Ap 10 (l:= [.d (dI 0), .d (dI 0), .d (dI 0), .d (dI 0), .d (dI 0), .d (.v (.slice none 0 0)), .d (.v (.slice none 0 0)), .d (dI 0), .d (dI 0), .d (dI 0), .d (.v (.slice none 0 0)), .d (dI 0), .d (dI 0)]) R B9 (by kernel_rfl))<|?_
 refine XL.step R (Af (l':= [.d (dI x.site), .d (dI x.num), .d (dI x.kind), .d (dI x.v.log), .d (dI x.v.dots), .d (.sl 5 (x.heads.map Hd.c)), .d (.sl 5 (x.graces.map Gr.c)), .d (dI x.art), .d (dI x.orn), .d (dI x.dyn), .d (.sl 2 (x.lyr.map Sy.c)), .d (dI x.stem), .d (dI x.beam)]) R R R R Cy R lb (by kernel_rfl))<|zn<|zs<|zr<|zm R R<|zp (A8 R R R)<|zm R R<|?_
 refine XL.dec 22 R (fun g22=> ?_) (fun g22=> ?_)
 refine XL.skip R<|zq R R R<|zn<|Aw (by kernel_rfl) R<|Ck 7 [] (by kernel_rfl) (by kernel_rfl) (by kernel_rfl) (by kernel_rfl) (by decide)<|yp (Aa R R C9)<|yp (Ab R R Ai R R)<|yp (Aa R R H1)<|yp (Ab R R Ai R R)<|yp (Aa R R Cw)<|yp (Ab R R G0 R R)<|ChK.cons R (CStep.call R (Ow _ (by omega)) R)<|?_
 refine ChK.nil ⟨by kernel_rfl, ?_⟩
 refine zp (Ae (s':= .d (.agg [dI 0,dI 0,dI x.kind,dI 0,dI 0, .sl 5 ((x.heads.map Hd.plain).map Hd.c), .v (.slice none 0 0),dI 0,dI 0,dI 0, .v (.slice none 0 0),dI x.stem,dI 0])) (Ac (A4 R O5 B9 R)) (by kernel_rfl))<|?_
 refine XL.step R (Af (l':= [.d (dI 0), .d (dI 0), .d (dI x.kind), .d (dI 0), .d (dI 0), .d (.sl 5 ((x.heads.map Hd.plain).map Hd.c)), .d (.v (.slice none 0 0)), .d (dI 0), .d (dI 0), .d (dI 0), .d (.v (.slice none 0 0)), .d (dI x.stem), .d (dI 0)]) R R R R Cy R lb (by kernel_rfl))<|znr<|zp (Ae (s':= .d (.agg (Val.c x0))) (Ac (Ad R R D7 R lb)) (by kernel_rfl))<|?_
 refine zp (Aa R R G7)<|XL.step R (Af (l':= [.d (dI 0), .d (dI 0), .d (dI x.kind), .d (dI x0.log), .d (dI x0.dots), .d (.sl 5 ((x.heads.map Hd.plain).map Hd.c)), .d (.v (.slice none 0 0)), .d (dI 0), .d (dI 0), .d (dI 0), .d (.v (.slice none 0 0)), .d (dI x.stem), .d (dI 0)]) R R R R Gy R lb (by kernel_rfl))<|zn<|zs<|zr<|zm R R<|zp (Ak R R R (by omega) (by omega))<|zm R R<|?_
 refine XL.len R R R Tryz.underlying159 fun hl38=>zp (At R R R)<|zn<|?_
 refine zd R (fun c39=> ?_) (fun c39=> ?_)
 refine Ag (by kernel_rfl)<|zp (Aa R R Cw)<|zp (Ab R R G0 R R)<|XL.call1 R R (O3 _ (by omega)) R<|zp (Aa R R Cw)<|?_
 refine XL.step R (Af (l':= [.d (dI 0), .d (dI 0), .d (dI x.kind), .d (dI x0.log), .d (dI x0.dots), .d (.sl 5 (((x.heads.map Hd.plain).map Hd.tie).map Hd.c)), .d (.v (.slice none 0 0)), .d (dI 0), .d (dI 0), .d (dI 0), .d (.v (.slice none 0 0)), .d (dI x.stem), .d (dI 0)]) R R R R Mr R lb (by kernel_rfl))<|zng<|zp (Ar R (by conv=>lhs;whnf))<|?_
 refine zp (Ae (s':= .d (.agg [dI 0,dI 0,dI x.kind,dI x0.log,dI x0.dots, .sl 5 (((x.heads.map Hd.plain).map Hd.tie).map Hd.c), .v (.slice none 0 0),dI 0,dI 0,dI 0, .v (.slice none 0 0),dI x.stem,dI 0])) (Ac (Ad R R Bu R lb)) (by kernel_rfl))<|XL.step R (Bk 46 R Tryz.underlying79 Cy B9 R R (by omega) (by omega))<|?_
 refine XL.row1 (i:=46) R (.cons (.same R) (.cons (.same R) (.cons (.same R) (.cons (.same R) (.cons (.same R) (.cons (.same R) (.cons (.nil 5) (.cons (.same R) (.cons (.same R) (.cons (.same R) (.cons (.nil 2) (.cons (.same R) (.cons (.same R) (.nil))))))))))))))<|XL.step R (A3 R F5 (.own R) (Src.own R) (by unfold maxLen;simp;omega) (by simp;omega))<|?_
 refine zp (Ao R (by conv=>lhs;whnf))<|?_
 refine zn<|Ag (by kernel_rfl)<|zp (Ak R R R (by omega) (by omega))<|zm R R<|zn<|?_
 exact Am (k+1) (by omega) (by omega) (fz ⟨sr,sr,sr,sr,sr,sr,sr,sr,trivial⟩) (gz ⟨R,Iv R (Hb hx0 (Ahu (.inl g22) c39)),trivial⟩)
 refine zi<|Ag (by kernel_rfl)<|zp (Ar R (by conv=>lhs;whnf))<|?_
 refine zp (Ae (s':= .d (.agg [dI 0,dI 0,dI x.kind,dI x0.log,dI x0.dots, .sl 5 ((x.heads.map Hd.plain).map Hd.c), .v (.slice none 0 0),dI 0,dI 0,dI 0, .v (.slice none 0 0),dI x.stem,dI 0])) (Ac (Ad R R Bu R lb)) (by kernel_rfl))<|XL.step R (Bk 46 R Tryz.underlying79 Cy B9 R R (by omega) (by omega))<|?_
 refine XL.row1 (i:=46) R (.cons (.same R) (.cons (.same R) (.cons (.same R) (.cons (.same R) (.cons (.same R) (.cons (.same R) (.cons (.nil 5) (.cons (.same R) (.cons (.same R) (.cons (.same R) (.cons (.nil 2) (.cons (.same R) (.cons (.same R) (.nil))))))))))))))<|XL.step R (A3 R F5 (.own R) (Src.own R) (by unfold maxLen;simp;omega) (by simp;omega))<|?_
 refine zp (Ao R (by conv=>lhs;whnf))<|?_
 refine zn<|Ag (by kernel_rfl)<|zp (Ak R R R (by omega) (by omega))<|zm R R<|zn<|?_
 exact Am (k+1) (by omega) (by omega) (fz ⟨sr,sr,sr,sr,sr,sr,sr,sr,trivial⟩) (gz ⟨R,Iv R (Hb hx0 (Aht (.inl g22) c39)),trivial⟩)
 refine zm R R<|zq R R R<|zn<|?_
 refine Ew (by kernel_rfl) R (fun c24=> ?_) (fun c24=> ?_)
 refine Ck 7 [] (by kernel_rfl) (by kernel_rfl) (by kernel_rfl) (by kernel_rfl) (by decide)<|yp (Aa R R C9)<|yp (Ab R R Ai R R)<|yp (Aa R R H1)<|yp (Ab R R Ai R R)<|yp (Aa R R Cw)<|yp (Ab R R G0 R R)<|ChK.cons R (CStep.call R (Ow _ (by omega)) R)<|?_
 refine ChK.nil ⟨by kernel_rfl, ?_⟩
 refine zp (Ae (s':= .d (.agg [dI 0,dI 0,dI x.kind,dI 0,dI 0, .sl 5 ((x.heads.map Hd.plain).map Hd.c), .v (.slice none 0 0),dI 0,dI 0,dI 0, .v (.slice none 0 0),dI x.stem,dI 0])) (Ac (A4 R O5 B9 R)) (by kernel_rfl))<|?_
 refine XL.step R (Af (l':= [.d (dI 0), .d (dI 0), .d (dI x.kind), .d (dI 0), .d (dI 0), .d (.sl 5 ((x.heads.map Hd.plain).map Hd.c)), .d (.v (.slice none 0 0)), .d (dI 0), .d (dI 0), .d (dI 0), .d (.v (.slice none 0 0)), .d (dI x.stem), .d (dI 0)]) R R R R Cy R lb (by kernel_rfl))<|znr<|zp (Ae (s':= .d (.agg (Val.c x0))) (Ac (Ad R R D7 R lb)) (by kernel_rfl))<|?_
 refine zp (Aa R R G7)<|XL.step R (Af (l':= [.d (dI 0), .d (dI 0), .d (dI x.kind), .d (dI x0.log), .d (dI x0.dots), .d (.sl 5 ((x.heads.map Hd.plain).map Hd.c)), .d (.v (.slice none 0 0)), .d (dI 0), .d (dI 0), .d (dI 0), .d (.v (.slice none 0 0)), .d (dI x.stem), .d (dI 0)]) R R R R Gy R lb (by kernel_rfl))<|zn<|zs<|zr<|zm R R<|zp (Ak R R R (by omega) (by omega))<|zm R R<|?_
 refine XL.len R R R Tryz.underlying159 fun hl38=>zp (At R R R)<|zn<|?_
 refine zd R (fun c39=> ?_) (fun c39=> ?_)
 refine Ag (by kernel_rfl)<|zp (Aa R R Cw)<|zp (Ab R R G0 R R)<|XL.call1 R R (O3 _ (by omega)) R<|zp (Aa R R Cw)<|?_
 refine XL.step R (Af (l':= [.d (dI 0), .d (dI 0), .d (dI x.kind), .d (dI x0.log), .d (dI x0.dots), .d (.sl 5 (((x.heads.map Hd.plain).map Hd.tie).map Hd.c)), .d (.v (.slice none 0 0)), .d (dI 0), .d (dI 0), .d (dI 0), .d (.v (.slice none 0 0)), .d (dI x.stem), .d (dI 0)]) R R R R Mr R lb (by kernel_rfl))<|zng<|zp (Ar R (by conv=>lhs;whnf))<|?_
 refine zp (Ae (s':= .d (.agg [dI 0,dI 0,dI x.kind,dI x0.log,dI x0.dots, .sl 5 (((x.heads.map Hd.plain).map Hd.tie).map Hd.c), .v (.slice none 0 0),dI 0,dI 0,dI 0, .v (.slice none 0 0),dI x.stem,dI 0])) (Ac (Ad R R Bu R lb)) (by kernel_rfl))<|XL.step R (Bk 46 R Tryz.underlying79 Cy B9 R R (by omega) (by omega))<|?_
 refine XL.row1 (i:=46) R (.cons (.same R) (.cons (.same R) (.cons (.same R) (.cons (.same R) (.cons (.same R) (.cons (.same R) (.cons (.nil 5) (.cons (.same R) (.cons (.same R) (.cons (.same R) (.cons (.nil 2) (.cons (.same R) (.cons (.same R) (.nil))))))))))))))<|XL.step R (A3 R F5 (.own R) (Src.own R) (by unfold maxLen;simp;omega) (by simp;omega))<|?_
 refine zp (Ao R (by conv=>lhs;whnf))<|?_
 refine zn<|Ag (by kernel_rfl)<|zp (Ak R R R (by omega) (by omega))<|zm R R<|zn<|?_
 exact Am (k+1) (by omega) (by omega) (fz ⟨sr,sr,sr,sr,sr,sr,sr,sr,trivial⟩) (gz ⟨R,Iv R (Hb hx0 (Ahu (.inr c24) c39)),trivial⟩)
 refine zi<|Ag (by kernel_rfl)<|zp (Ar R (by conv=>lhs;whnf))<|?_
 refine zp (Ae (s':= .d (.agg [dI 0,dI 0,dI x.kind,dI x0.log,dI x0.dots, .sl 5 ((x.heads.map Hd.plain).map Hd.c), .v (.slice none 0 0),dI 0,dI 0,dI 0, .v (.slice none 0 0),dI x.stem,dI 0])) (Ac (Ad R R Bu R lb)) (by kernel_rfl))<|XL.step R (Bk 46 R Tryz.underlying79 Cy B9 R R (by omega) (by omega))<|?_
 refine XL.row1 (i:=46) R (.cons (.same R) (.cons (.same R) (.cons (.same R) (.cons (.same R) (.cons (.same R) (.cons (.same R) (.cons (.nil 5) (.cons (.same R) (.cons (.same R) (.cons (.same R) (.cons (.nil 2) (.cons (.same R) (.cons (.same R) (.nil))))))))))))))<|XL.step R (A3 R F5 (.own R) (Src.own R) (by unfold maxLen;simp;omega) (by simp;omega))<|?_
 refine zp (Ao R (by conv=>lhs;whnf))<|?_
 refine zn<|Ag (by kernel_rfl)<|zp (Ak R R R (by omega) (by omega))<|zm R R<|zn<|?_
 exact Am (k+1) (by omega) (by omega) (fz ⟨sr,sr,sr,sr,sr,sr,sr,sr,trivial⟩) (gz ⟨R,Iv R (Hb hx0 (Aht (.inr c24) c39)),trivial⟩)
 refine zi<|zr<|zp (Ae (s':= .d (.agg (Val.c x0))) (Ac (Ad R R D7 R lb)) (by kernel_rfl))<|zp (Aa R R G7)<|?_
 refine XL.step R (Af (l':= [.d (dI x.site), .d (dI x.num), .d (dI x.kind), .d (dI x0.log), .d (dI x0.dots), .d (.sl 5 (x.heads.map Hd.c)), .d (.sl 5 (x.graces.map Gr.c)), .d (dI x.art), .d (dI x.orn), .d (dI x.dyn), .d (.sl 2 (x.lyr.map Sy.c)), .d (dI x.stem), .d (dI x.beam)]) R R R R Gy R lb (by kernel_rfl))<|zn<|zs<|zr<|zm R R<|zp (Ak R R R (by omega) (by omega))<|zm R R<|?_
 refine XL.len R R R Tryz.underlying159 fun hl38=>zp (At R R R)<|zn<|?_
 refine zd R (fun c39=> ?_) (fun c39=> ?_)
 refine Ag (by kernel_rfl)<|zp (Aa R R Cw)<|zp (Ab R R G0 R R)<|XL.call1 R R (O3 _ (by omega)) R<|zp (Aa R R Cw)<|?_
 refine XL.step R (Af (l':= [.d (dI x.site), .d (dI x.num), .d (dI x.kind), .d (dI x0.log), .d (dI x0.dots), .d (.sl 5 ((x.heads.map Hd.tie).map Hd.c)), .d (.sl 5 (x.graces.map Gr.c)), .d (dI x.art), .d (dI x.orn), .d (dI x.dyn), .d (.sl 2 (x.lyr.map Sy.c)), .d (dI x.stem), .d (dI x.beam)]) R R R R Mr R lb (by kernel_rfl))<|zng<|zp (Ar R (by conv=>lhs;whnf))<|?_
 refine zp (Ae (s':= .d (.agg [dI x.site,dI x.num,dI x.kind,dI x0.log,dI x0.dots, .sl 5 ((x.heads.map Hd.tie).map Hd.c), .sl 5 (x.graces.map Gr.c),dI x.art,dI x.orn,dI x.dyn, .sl 2 (x.lyr.map Sy.c),dI x.stem,dI x.beam])) (Ac (Ad R R Bu R lb)) (by kernel_rfl))<|XL.step R (Bk 46 R Tryz.underlying79 Cy B9 R R (by omega) (by omega))<|?_
 refine XL.step R (A3 R F5 (.own R) (Src.own R) (by unfold maxLen;simp;omega) (by simp;omega))<|zp (Ao R (by conv=>lhs;whnf))<|?_
 refine zn<|Ag (by kernel_rfl)<|zp (Ak R R R (by omega) (by omega))<|zm R R<|zn<|?_
 exact Am (k+1) (by omega) (by omega) (fz ⟨sr,sr,sr,sr,sr,sr,sr,sr,trivial⟩) (gz ⟨R,Iv R (Hb hx0 (Apt g22 c24 c39)),trivial⟩)
 refine zi<|Ag (by kernel_rfl)<|zp (Ar R (by conv=>lhs;whnf))<|?_
 refine zp (Ae (s':= .d (.agg [dI x.site,dI x.num,dI x.kind,dI x0.log,dI x0.dots, .sl 5 (x.heads.map Hd.c), .sl 5 (x.graces.map Gr.c),dI x.art,dI x.orn,dI x.dyn, .sl 2 (x.lyr.map Sy.c),dI x.stem,dI x.beam])) (Ac (Ad R R Bu R lb)) (by kernel_rfl))<|XL.step R (Bk 46 R Tryz.underlying79 Cy B9 R R (by omega) (by omega))<|?_
 refine XL.step R (A3 R F5 (.own R) (Src.own R) (by unfold maxLen;simp;omega) (by simp;omega))<|zp (Ao R (by conv=>lhs;whnf))<|?_
 refine zn<|Ag (by kernel_rfl)<|zp (Ak R R R (by omega) (by omega))<|zm R R<|zn<|?_
 exact Am (k+1) (by omega) (by omega) (fz ⟨sr,sr,sr,sr,sr,sr,sr,sr,trivial⟩) (gz ⟨R,Iv R (Hb hx0 (Aps g22 c24 c39)),trivial⟩)
 have hk0b:k=vs.length:=by omega
 have ht:Jl x vs fu k=Bm x vs fu:=by rw [Jl,hk0b,List.take_length];rfl
 refine Au<|zr<|zp (Ar R (by conv=>lhs;whnf))<|?_
 refine zp (Ao R (by conv=>lhs;whnf))<|?_
 refine zn<|zt<|?_
 exact ⟨Cg R (RVS.tmp R R),HSub.cons (by rw [ht];rfl) (HSub.nil)⟩
end Go.Proofs.YtaafemnkamfgnaaGreat
namespace Go.Proofs.YtaafemnkamfgnaaGreat
open Go.RowKit
def Ev.silent (e:Ev):Prop:=(e.kind=2∨e.kind=4)∧e.dyn=0∧e.art=0
instance (e:Ev):Decidable e.silent:=by unfold Ev.silent;exact inferInstance
def Ev.bare (y:Ev) (stem:Int):Ev:=⟨y.site,y.num,1,y.v,y.heads.map Hd.plain, [],0,0,0, [],stem,0⟩
def W9 (a b:List Hd):Prop:=∀(j:Nat) (x y:Hd),a[j]? =some x→b[j]? =some y→x.tied=true∧x.p=y.p
def Ev.conts (x y:Ev) (stem:Int):Prop:=x.kind=1∧x.heads.length=y.heads.length∧W9 x.heads y.heads∧y.eqv (y.bare stem)
open Classical in
noncomputable def Ev.contB (x y:Ev) (stem:Int):Bool:=decide (x.conts y stem)
def Pl.bad (p:Pl):Prop:=p.off<0∨15482880<p.off∨p.len<1∨15482880<p.len
instance (p:Pl):Decidable p.bad:=by unfold Pl.bad;exact inferInstance
def Pl.chk (p:Pl) (v:Vo):Int:=if p.m.err≠0 then p.m.err else if p.bad then 2 else ckE v p.len
theorem Ar6 {p:Pl} {v:Vo} (h:p.m.err≠0):p.m.err=p.chk v:=by rw [Pl.chk,if_pos h]
theorem Afe {p:Pl} {v:Vo} (h:¬p.m.err≠0) (h2:p.bad):2=p.chk v:=by rw [Pl.chk,if_neg h,if_pos h2]
theorem Ar5 {p:Pl} {v:Vo} (h:¬p.m.err≠0) (h2:¬p.bad):ckE v p.len=p.chk v:=by rw [Pl.chk,if_neg h,if_neg h2]
theorem Afd (p:Pl) (v:Vo) (hE:Evs v.evs):XC Tryz.prog 128 [.agg (Pl.c p), .agg (Vo.c v)] (fun r=>r=dI (p.chk v)):=by
 refine Al Aba Tryz.func128 R R lb<|zr<|XL.step R (An 2 (l:= [.d (dI p.m.count), .d (dI p.m.unit), .d (dI p.m.g0), .d (dI p.m.g1), .d (dI p.m.g2), .d (dI p.m.g3), .d (dI p.m.g4), .d (dI p.m.g5), .d (dI p.off), .d (dI p.len)]) R R (by kernel_rfl))<|XL.step R (An 3 (l:= [.d (.sl 13 (v.evs.map Ev.c)), .d (.sl 4 (v.tups.map Tp.c))]) R R (by kernel_rfl))<|za R R<|zn<|zs<|zr<|?_
 refine zp (Aa R R Mf)<|zp (Ae (s':= .d (.agg (Me.c p.m))) (Ac (Ad R R Bh R lb)) (by kernel_rfl))<|XL.call1 R R (M0 _) R<|za R R<|znr<|zm R R<|zp (A1 R R R)<|zn<|?_
 refine zd R (fun c10=> ?_) (fun c10=> ?_)
 exact zr<|zm R R<|za R R<|zn<|zt<|z1 R R (rI (Ar6 c10))
 refine zi<|zs<|zr<|zp (Aa R R Gf)<|zp (Ab R R Ai R R)<|zp (At R R R)<|zm R R<|?_
 refine XL.dec 15 R (fun g15=> ?_) (fun g15=> ?_)
 exact zk 3 R<|zq R R R<|zm R R<|zk 3 R<|zq R R R<|zm R R<|zk 3 R<|zq R R R<|zn<|Aw (by kernel_rfl) R<|zr<|za R R<|zn<|zt<|z1 R R (rI (Afe c10 (by unfold Pl.bad;omega)))
 refine zp (Aa R R Gf)<|zp (Ab R R Ai R R)<|zp (A8 R R R)<|zq R R R<|zm R R<|?_
 refine XL.dec 20 R (fun g20=> ?_) (fun g20=> ?_)
 exact zk 3 R<|zq R R R<|zm R R<|zk 3 R<|zq R R R<|zn<|Aw (by kernel_rfl) R<|zr<|za R R<|zn<|zt<|z1 R R (rI (Afe c10 (by unfold Pl.bad;omega)))
 refine zp (Aa R R Cp)<|zp (Ab R R Ai R R)<|zp (At R R R)<|zq R R R<|zm R R<|?_
 refine XL.dec 25 R (fun g25=> ?_) (fun g25=> ?_)
 exact zk 3 R<|zq R R R<|zn<|Aw (by kernel_rfl) R<|zr<|za R R<|zn<|zt<|z1 R R (rI (Afe c10 (by unfold Pl.bad;omega)))
 refine zp (Aa R R Cp)<|zp (Ab R R Ai R R)<|zp (A8 R R R)<|zq R R R<|zn<|?_
 refine zd R (fun c29=> ?_) (fun c29=> ?_)
 exact zr<|za R R<|zn<|zt<|z1 R R (rI (Afe c10 (by unfold Pl.bad;omega)))
 exact zi<|zr<|zp (Ae (s':= .d (.agg (Vo.c v))) (Ac (Ad R R As R lb)) (by kernel_rfl))<|zp (Aa R R Cp)<|zp (Ab R R Ai R R)<|XL.call1 R R (Ml _ _ (by assumption)) R<|za R R<|zn<|zt<|z1 R R (rI (Ar5 c10 (by unfold Pl.bad;omega)))
end Go.Proofs.YtaafemnkamfgnaaGreat
namespace Go.Proofs.YtaafemnkamfgnaaGreat
open Go.RowKit
theorem Aoo (t:Tp) (a b:Int):XC Tryz.prog 103 [.agg (Tp.c t), .pt [dI a], .pt [dI b]] (fun r=>r=dB (decide (a≤t.first∧t.first<b))):=by
 refine Al Abf Tryz.func103 R R lb<|zr<|XL.step R (An 3 (l:= [.d (dI t.first), .d (dI t.count), .d (dI t.actual), .d (dI t.normal)]) R R (by kernel_rfl))<|za R R<|znr<|zp (Aa R R Bl)<|zp (Ab R R Ai R R)<|zp (A9 R R Ai)<|zp (Fx R R R)<|zm R R<|?_
 refine XL.dec 9 R (fun g9=> ?_) (fun g9=> ?_)
 exact zp (Aa R R Bl)<|zp (Ab R R Ai R R)<|zp (A9 R R Ai)<|zp (At R R R)<|zq R R R<|za R R<|zn<|zt<|z1 R R (rB (by rw [decide_eq_decide];omega))
 exact zk 4 R<|zq R R R<|za R R<|zn<|zt<|z1 R R (rB (by rw [eq_comm,decide_eq_false_iff_not];omega))
theorem Ank (t:Tp) (a:Int):XC Tryz.prog 175 [.agg (Tp.c t), .pt [dI a]] (fun r=>r=dB (decide (t.first<a))):=by
 exact Al Aac Tryz.func175 R R lb<|zr<|XL.step R (An 2 (l:= [.d (dI t.first), .d (dI t.count), .d (dI t.actual), .d (dI t.normal)]) R R (by kernel_rfl))<|za R R<|znr<|zp (Aa R R Bl)<|zp (Ab R R Ai R R)<|zp (A9 R R Ai)<|zp (At R R R)<|za R R<|zn<|zt<|z1 R R (R)
theorem Anj (t:Tp) (a b:Int) (h0:0≤a∧a≤100000) (h1:0≤b∧b≤100000):XC Tryz.prog 176 [.agg (Tp.c t), .pt [dI a], .pt [dI b]] (fun r=>r=dB (decide (a+b≤t.first))):=by
 exact Al Aab Tryz.func176 R R lb<|zr<|XL.step R (An 3 (l:= [.d (dI t.first), .d (dI t.count), .d (dI t.actual), .d (dI t.normal)]) R R (by kernel_rfl))<|za R R<|znr<|zp (Aa R R Bl)<|zp (Ab R R Ai R R)<|zp (A9 R R Ai)<|zp (A9 R R Ai)<|zp (Ak R R R (by omega) (by omega))<|zp (Fx R R R)<|za R R<|zn<|zt<|z1 R R (R)
theorem Ani (t:Tp):XC Tryz.prog 177 [.agg (Tp.c t)] (fun r=>r=dB true):=by
 exact Al Aaa Tryz.func177 R R lb<|zr<|XL.step R (An 1 (l:= [.d (dI t.first), .d (dI t.count), .d (dI t.actual), .d (dI t.normal)]) R R (by kernel_rfl))<|za R R<|znr<|za R R<|zn<|zt<|z1 R R (R)
end Go.Proofs.YtaafemnkamfgnaaGreat
