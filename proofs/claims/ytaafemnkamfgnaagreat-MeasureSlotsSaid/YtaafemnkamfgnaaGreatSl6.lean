/- Part 6 of what the statements need: lemmas and walks. -/
import Derived.Test.YtaafemnkamfgnaaGreatSl5
set_option linter.unusedVariables false
set_option linter.unusedSimpArgs false
set_option linter.unusedSectionVars false
set_option maxRecDepth 20000
set_option maxHeartbeats 8000000
namespace Go.Proofs.YtaafemnkamfgnaaGreat
open Go.RowKit
theorem W3 (t:Tp) (l:List Tp) (n:Int):hits (t::l) n=hits l n+(if t.has n then 1 else 0):=by
 unfold hits
 rw [List.filter_cons]
 by_cases h:t.has n<;>simp [h]
theorem Amq (l:List Tp) (n:Int):hits l n≤l.length:=List.length_filter_le _ _
theorem Amp (t:Tp) (s:List Tp) (n:Int) (hn:t.first≤n):hits (Cm t s) n=hits s n:=by
 induction s with
 |nil=>rfl
 |cons o r ih=>
  unfold Cm
  split
  ·rename_i h
   rw [ih,W3,if_neg (fun k=>by unfold Tp.has at k;unfold Tp.e at h;omega)]
   rfl
  ·rfl
theorem Agt {q t:Tp} (h:¬0<J5 q t):q.first≤t.first:=by
 unfold J5 at h
 split at h
 ·split at h<;>omega
 ·omega
theorem Af7 (n:Int) (l:List Tp):∀(p:Option Tp) (s L:List Tp),Ep n p s l=0→s.length≤3→(∀e,hits L e≤3)→(∀e,(∀q,p=some q→q.first≤e)→hits L e=hits s e)→∀e,hits (L++l) e≤3:=by
 induction l with
 |nil=>intro p s L _ _ h1 _ e;rw [List.append_nil];exact h1 e
 |cons t l ih=>
  intro p s L hz hs h1 h2 e
  rw [Ep] at hz
  split at hz
  ·omega
  ·split at hz
   ·omega
   ·rename_i hin hna
    split at hz
    ·omega
    ·rename_i hov
     have hp:∀q,p=some q→q.first≤t.first:=fun q hq=>by subst hq;exact Agt hna
     have h3:(t::Cm t s).length≤3:=by
      have h4:=Als t s
      have h5:¬(Cm t s).length=3:=fun k=>hov (.inl k)
      rw [List.length_cons]
      omega
     have heq:∀e,t.first≤e→hits (L++ [t]) e=hits (t::Cm t s) e:=fun e he=>by
      rw [If,W3,Amp t s e he,h2 e (fun q hq=>Int.le_trans (hp q hq) he)]
     have:=ih (some t) (t::Cm t s) (L++ [t]) hz h3 (fun e=> ?_) (fun e he=>heq e (he t rfl)) e
     ·rw [List.append_assoc] at this;exact this
     ·by_cases he:t.first≤e
      ·rw [heq e he];exact Nat.le_trans (Amq _ _) h3
      ·rw [If,if_neg (fun k=>he k.1)];exact h1 e
theorem Ak4 (n:Int) (l:List Tp):∀(p:Option Tp) (s:List Tp),Ep n p s l=0→∀t∈l,t.inR n:=by
 induction l with
 |nil=>intro p s _ t ht;cases ht
 |cons t l ih=>
  intro p s hz x hx
  rw [Ep] at hz
  split at hz
  ·omega
  ·rename_i hin
   split at hz
   ·omega
   ·split at hz
    ·omega
    ·rcases List.mem_cons.1 hx with e|e
     ·rw [e];exact Decidable.not_not.1 hin
     ·exact ih _ _ hz x e
structure Tups (l:List Tp) (n:Int):Prop where
 bd:0≤n∧n≤128
 len:l.length≤16
 inR:∀t∈l,t.inR n
 ok:∀t∈l,t.ok
 hits:∀e,hits l e≤3
theorem Va {l:List Tp} {n:Int} (h:¬D3 l n≠0):Tups l n:=by
 have h0:D3 l n=0:=by omega
 unfold D3 at h0
 split at h0
 ·omega
 ·split at h0
  ·omega
  ·have hi:=Ak4 n l _ _ h0
   refine ⟨by omega,by omega,hi,fun t ht=>(hi t ht).ok (by omega),fun e=> ?_⟩
   have:=Af7 n l none [] [] h0 (by decide) (fun e=>Nat.zero_le _) (fun e _=>rfl) e
   rwa [List.nil_append] at this
def Cy (l:List Tp):Nat→List Int→List Int
 |_, []=> []
 |i,w::r=>D5 l i w::Cy l (i+1) r
def I5 (l:List Tp):Nat→List Int→Int
 |_, []=>0
 |i,w::r=>if Dy l i w≠0 then Dy l i w else I5 l (i+1) r
def C2 (l:List Tp) (ws:List Int):Int:=if D3 l ws.length≠0 then D3 l ws.length else I5 l 0 ws
def G3 (l:List Tp) (ws:List Int):List Int:=if C2 l ws=0 then Cy l 0 ws else []
theorem Ag1 (l:List Tp) (a:List Int) (w:Int):∀i,Cy l i (a++ [w])=Cy l i a++ [D5 l ((i+a.length:Nat):Int) w]:=by
 induction a with
 |nil=>intro i;rfl
 |cons x a ih=>
  intro i
  rw [List.cons_append,Cy,ih (i+1),Cy,List.cons_append,List.length_cons,show i+1+a.length=i+(a.length+1) by omega]
theorem Acz {l:List Tp} {ws:List Int} {k:Nat} {w:Int} (h:ws[k]? =some w):Cy l 0 (ws.take (k+1))=Cy l 0 (ws.take k)++ [D5 l (k:Int) w]:=by
 have hk:=(List.getElem?_eq_some_iff.1 h).1
 rw [Bp h,Ag1,List.length_take,Nat.zero_add,Nat.min_eq_left (by omega)]
theorem Iv (l:List Tp) (ws:List Int):∀i,(Cy l i ws).length=ws.length:=by
 induction ws with
 |nil=>intro i;rfl
 |cons w r ih=>intro i;rw [Cy,List.length_cons,ih,List.length_cons]
theorem Aih {l:List Tp} {ws:List Int} {k:Nat} {w:Int} (h:ws[k]? =some w) (hx:¬Dy l k w≠0):I5 l k (ws.drop k)=I5 l (k+1) (ws.drop (k+1)):=by rw [Bz h,I5,if_neg hx]
theorem Yq {l:List Tp} {ws:List Int} {k:Nat} {w:Int} (h:ws[k]? =some w) (hx:Dy l k w≠0):I5 l k (ws.drop k)=Dy l k w:=by rw [Bz h,I5,if_pos hx]
theorem Ah6 {l:List Tp} {ws:List Int} (h:D3 l ws.length≠0): []=G3 l ws∧D3 l ws.length=C2 l ws:=by
 have e:C2 l ws=D3 l ws.length:=by rw [C2,if_pos h]
 exact ⟨by rw [G3,e,if_neg h],e.symm⟩
theorem Ah5 {l:List Tp} {ws:List Int} (h:¬D3 l ws.length≠0) {e:Int} (he:e=I5 l 0 ws) (hn:e≠0): []=G3 l ws∧e=C2 l ws:=by
 have e2:C2 l ws=e:=by rw [C2,if_neg h,he]
 exact ⟨by rw [G3,e2,if_neg hn],e2.symm⟩
theorem Ah4 {l:List Tp} {ws:List Int} (h:¬D3 l ws.length≠0) (he:I5 l 0 ws=0):Cy l 0 ws=G3 l ws∧0=C2 l ws:=by
 have e2:C2 l ws=0:=by rw [C2,if_neg h,he]
 exact ⟨by rw [G3,e2,if_pos rfl],e2.symm⟩
theorem Rs (l:List Tp) (ws:List Int):XC Tryz.prog 169 [.sl 4 (l.map Tp.c), .sl 1 (B2 ws)] (fun r=>r= .tup [.sl 1 (B2 (G3 l ws)),dI (C2 l ws)]):=by
 refine Ap Abd Tryz.func169 R R lb<|zr<|za R R<|za R R<|zn<|zs<|zr<|zm R R<|zm R R<|XL.len R R R Tryz.underlying45 fun hl14=>XL.call1 R R (V5 _ _) R<|za R R<|znr<|zm R R<|?_
 refine zp (A5 R R R)<|zn<|?_
 refine zd R (fun c17=> ?_) (fun c17=> ?_)
 refine zr<|zm R R<|za R R<|za R R<|zn<|zt<|?_
 exact A6 R (RV.nil (sz:=1) R R) (RV.tmp R R) (r2 (rSl (Ah6 c17).1) (rI (Ah6 c17).2))
 refine zi<|zs<|?_
 have hT:=Va c17
 have hbd:=hT.bd
 refine Ag (by kernel_rfl)<|zm R R<|XL.len R R R Tryz.underlying45 fun hl20=>XL.step R (N9 21 (m:=0) (z:=(.int .i64 0)) (zs:= [dI 0]) (sz:=1) (bytes:=8) R R R Tryz.underlying45 (by kernel_rfl) (by kernel_rfl) (by kernel_rfl) (by decide) (by decide) (by omega) (by unfold maxLen;omega) (by omega))<|zp (Ar R (by conv=>lhs;whnf))<|?_
 refine zn<|zs<|zr<|zm R R<|XL.len R R R Tryz.underlying45 fun hl23=>zm R R<|zn<|Ah<|?_
 refine A4 (α:=Nat) (fun k=>k≤ws.length∧I5 l k (ws.drop k)=I5 l 0 ws) (fun k=>mkF [(0, .d (.sl 4 (l.map Tp.c))),(7, .own 21),(22, .d (.sl 1 (B2 ws))),(23, .d (dI ws.length)),(24, .d (dI k))]) (fun k=>mkH [(21, .row 3 1 ((Cy l 0 (ws.take k)).map iv))]) (fun k=>ws.length - k) (0) (⟨Nat.zero_le _,by rw [List.drop_zero]⟩) ?_ ?_ ?_
 exact fz ⟨sr,sr,sr,sr,sr,trivial⟩
 exact gz ⟨R,trivial⟩
 intro k hk0
 obtain ⟨hk,hgo⟩:=hk0
 refine zr<|zp (Au R R R)<|zn<|zs<|?_
 refine zd R (fun c25=> ?_) (fun c25=> ?_)
 have hk0a:k<ws.length:=by omega
 obtain ⟨x0,hx0⟩:=Az hk0a
 have hok:=hT.ok
 have hh:=hT.hits k
 have hll:(Cy l 0 (ws.take k)).length=k:=by rw [Iv,List.length_take];omega
 refine zi<|zs<|Ah<|zr<|zm R R<|zp (Aj R R R Cc hx0)<|zp (Am R R Ai)<|za R R<|za R R<|znr<|zm R R<|zm R R<|zm R R<|XL.call1 R R (Yo _ _ _ (by assumption) (by assumption) (by omega) (by omega)) R<|?_
 refine zm R R<|zp (As R R R)<|zp (As R R R)<|za R R<|za R R<|zn<|zs<|zr<|zm R R<|zp (A5 R R R)<|zn<|?_
 refine zd R (fun c37=> ?_) (fun c37=> ?_)
 refine zr<|zm R R<|za R R<|za R R<|zn<|zt<|?_
 exact A6 R (RV.nil (sz:=1) R R) (RV.tmp R R) (r2 (rSl (Ah5 c17 (by rw [←hgo,Yq hx0 c37]) c37).1) (rI (Ah5 c17 (by rw [←hgo,Yq hx0 c37]) c37).2))
 refine zi<|Ag (by kernel_rfl)<|zp (Ao R (by conv=>lhs;whnf))<|?_
 refine zm R R<|XL.step R (Bl 41 R Tryz.underlying45 D8 Fo R R (by omega) (by omega))<|XL.step R (A7 R Io (.own R) (Src.own R) (by unfold maxLen;simp;omega) (by simp;omega))<|zp (Ar R (by conv=>lhs;whnf))<|?_
 refine zn<|Ag (by kernel_rfl)<|zp (Al R R R (by omega) (by omega))<|zm R R<|zn<|?_
 exact An (k+1) (⟨by omega,by rw [←Aih hx0 c37];exact hgo⟩) (by omega) (fz ⟨sr,sr,sr,sr,sr,trivial⟩) (gz ⟨I6 rfl (Acz hx0),trivial⟩)
 have hk0b:k=ws.length:=by omega
 have hz:I5 l 0 ws=0:=by rw [←hgo,hk0b,List.drop_length];rfl
 have ht:ws.take k=ws:=by rw [hk0b,List.take_length]
 refine Av<|zr<|zp (Ao R (by conv=>lhs;whnf))<|?_
 refine zp (Ar R (by conv=>lhs;whnf))<|?_
 refine za R R<|zn<|zt<|B8 (i:=21) R<|?_
 exact A6 R (RV.tmp R R) (RV.tmp R R) (r2 (rSl (by rw [ht];exact (Ah4 c17 hz).1)) (rI (Ah4 c17 hz).2))
abbrev Nb (l:List Tp) (i:Nat):List Tp:=(l.take l.length).drop (i+1)
def F4 (l:List Tp):Nat→List Int→Int→Option Int
 |_, [],acc=>some acc
 |i,w::r,acc=>if Dy l i w≠0 then none else F4 l (i+1) r (acc+D5 l i w)
def G5 (t:Tp) (ws:List Int):List Int:=(ws.drop t.first.toNat).take t.count.toNat
def Tb (a s:Int):Option Int:=((List.range 10).find? fun j=>decide (s=a*(3870720 / 2 ^ j))).map fun j=>(j:Int) - 1
def F3 (l:List Tp) (t:Tp) (ws:List Int):Option Int:=(F4 l t.first.toNat (G5 t ws) 0).bind (Tb t.actual)
def Tw (l:List Tp) (i:Nat) (ws:List Int):Option Int:=(l[i]?).bind fun t=>F3 (Nb l i) t ws
theorem Mb {l:List Tp} {i:Nat} {t:Tp} (h:l[i]? =some t) (ws:List Int):Tw l i ws=F3 (Nb l i) t ws:=by rw [Tw,h];rfl
theorem Aov {t:Tp} {ws:List Int} {j:Nat} (hj:j<t.count.toNat):(G5 t ws)[j]? =ws[t.first.toNat+j]? :=by
 rw [G5,List.getElem?_take,if_pos hj,List.getElem?_drop]
theorem Af5 {l:List Tp} {i k:Nat} {seg:List Int} {w acc:Int} (h:seg[k]? =some w) (hx:¬Dy l i w≠0):F4 l i (seg.drop k) acc=F4 l (i+1) (seg.drop (k+1)) (acc+D5 l i w):=by rw [Bz h,F4,if_neg hx]
theorem Af4 {l:List Tp} {i k:Nat} {seg:List Int} {w acc:Int} (h:seg[k]? =some w) (hx:Dy l i w≠0):F4 l i (seg.drop k) acc=none:=by rw [Bz h,F4,if_pos hx]
theorem Ahz {l:List Tp} {i k:Nat} {seg:List Int} {acc:Int} (h:seg.length≤k):F4 l i (seg.drop k) acc=some acc:=by rw [List.drop_eq_nil_of_le h,F4]
theorem Apz {p:Nat→Bool} {m k:Nat} (hk:k<m) (hp:p k=true) (h:∀j,j<k→p j=false):(List.range m).find? p=some k:=by
 rw [List.find?_range_eq_some]
 exact ⟨hp,List.mem_range.2 hk,fun j hj=>by simp [h j hj]⟩
theorem Apg {a s:Int} {k:Nat} (hk:k<10) (hp:s=a*(3870720 / 2 ^ k)) (h:∀j,j<k→¬s=a*(3870720 / 2 ^ j)):Tb a s=some ((k:Int) - 1):=by
 rw [Tb,Apz hk (decide_eq_true hp) (fun j hj=>decide_eq_false (h j hj))];rfl
theorem Ajd {a s:Int} (h:∀j,j<10→¬s=a*(3870720 / 2 ^ j)):Tb a s=none:=by
 rw [Tb,List.find?_eq_none.2 (fun j hj=>by simp [h j (List.mem_range.1 hj)])];rfl
theorem Tx {l:List Tp} {t:Tp} {ws:List Int} {s:Int} (h:F4 l t.first.toNat (G5 t ws) 0=some s):F3 l t ws=Tb t.actual s:=by rw [F3,h];rfl
theorem Af3 {l:List Tp} {t:Tp} {ws:List Int} (h:F4 l t.first.toNat (G5 t ws) 0=none):F3 l t ws=none:=by rw [F3,h];rfl
theorem Y0 {o:Option Int} (h:o=none):D.tup [dI 0,dB false]= .tup [dI (o.getD 0),dB o.isSome]:=by rw [h];rfl
theorem Al3 {o:Option Int} {x:Int} (h:o=some x):D.tup [dI x,dB true]= .tup [dI (o.getD 0),dB o.isSome]:=by rw [h];rfl
theorem Aqt (k:Nat):0≤(3870720:Int) / 2 ^ k∧(3870720:Int) / 2 ^ k≤3870720:=by
 have h:(0:Int)<2 ^ k:=Int.pow_pos (by omega)
 exact ⟨Int.ediv_nonneg (by omega) (by omega),Int.ediv_le_self _ (by omega)⟩
theorem Aoh (l:List Tp) (i:Nat) (t:Tp) (ws:List Int) (ht:l[i]? =some t) (hT:Tups l ws.length):XC Tryz.prog 192 [.sl 4 (l.map Tp.c), .v (.int .i64 i), .sl 1 (B2 ws)] (fun r=>r= .tup [dI ((F3 (Nb l i) t ws).getD 0),dB (F3 (Nb l i) t ws).isSome]):=by
 have hin:=hT.inR t (List.mem_of_getElem? ht)
 have hok:=hT.ok t (List.mem_of_getElem? ht)
 have hbd:=hT.bd
 have hlen:=hT.len
 have hil:=(List.getElem?_eq_some_iff.1 ht).1
 have hin2:=hin
 simp only [Tp.inR] at hin2
 have hte:t.e=t.first+t.count:=rfl
 obtain ⟨f,hf⟩:∃f:Nat,t.first=f:=⟨t.first.toNat,by omega⟩
 have hf2:t.first.toNat=f:=by omega
 have hsl:(G5 t ws).length=t.count.toNat:=by rw [G5,List.length_take,List.length_drop];omega
 have hoks:∀x∈(l.take l.length).drop (i+1),x.ok:=Ao6 (Ae2 hT.ok _) _
 have hhs:∀e,hits ((l.take l.length).drop (i+1)) e≤3:=fun e=>Nat.le_trans (Aju _ _ e) (Nat.le_trans (Qg _ _ e) (hT.hits e))
 refine Ap Aas Tryz.func192 R R lb<|zr<|za R R<|za R R<|znr<|zm R R<|zm R R<|zp (Aj R R R E8 (ht))<|zp (Ae (s':= .d (.agg (Tp.c t))) (Bf R R B9 lb) (by kernel_rfl))<|XL.step R (Ax 8 (l:= [.d (dI 0), .d (dI 0), .d (dI 0), .d (dI 0)]) R Dw (by kernel_rfl))<|?_
 refine XL.step R (Af (l':= [.d (dI t.first), .d (dI t.count), .d (dI t.actual), .d (dI t.normal)]) R R R R E0 R lb (by kernel_rfl))<|znr<|za R R<|zn<|zs<|zr<|zp (Aa R R Br)<|zp (Ab R R Ai R R)<|za R R<|zn<|Ah<|?_
 refine A4 (α:=Nat × Int) (fun p=>p.1≤t.count.toNat∧F4 ((l.take l.length).drop (i+1)) (f+p.1) ((G5 t ws).drop p.1) p.2=F4 ((l.take l.length).drop (i+1)) f (G5 t ws) 0∧0≤p.2∧p.2≤(p.1:Int)*253671505920) (fun p=>mkF [(0, .d (.sl 4 (l.map Tp.c))),(1, .d (dI i)),(2, .d (.sl 1 (B2 ws))),(8, .ptr 8 0 0),(9, .d (dI p.2)),(10, .d (dI ((f+p.1:Nat):Int)))]) (fun p=>mkH [(8, .box ((Tp.c t).map S.d))]) (fun p=>t.count.toNat - p.1) ((0,0)) (⟨Nat.zero_le _,by rw [List.drop_zero];rfl,Int.le_refl _,by simp⟩) ?_ ?_ ?_
 exact fz ⟨sr,sr,sr,sr,sr, .same (sI (by rw [hf];rfl)),trivial⟩
 exact gz ⟨R,trivial⟩
 intro p hk0
 obtain ⟨hk,hgo,hs0,hs1⟩:=hk0
 refine zs<|zr<|zm R R<|zp (Ae (s':= .d (.agg (Tp.c t))) (Ac (Ad R R B9 R lb)) (by kernel_rfl))<|XL.call1 R R (Gw _ (by assumption)) R<|zp (Au R R R)<|zn<|?_
 refine zd R (fun c23=> ?_) (fun c23=> ?_)
 have hkc:p.1<t.count.toNat:=by omega
 obtain ⟨w,hw⟩:∃w,ws[f+p.1]? =some w:=Az (by omega)
 have hsw:(G5 t ws)[p.1]? =some w:=by rw [Aov hkc,hf2];exact hw
 have hh:=hhs ((f+p.1:Nat):Int)
 have hsb:=Yp (n:=((f+p.1:Nat):Int)) (w:=w) hoks hh
 refine zi<|zs<|Ah<|zs<|Bo [] (by kernel_rfl) (by kernel_rfl) (by kernel_rfl) (by decide)<|ym R R<|ym R R<|yp (Al R R R (by omega) (by omega))<|yp (Dv R R E8 (Bd.ati (a:=i+1) R (by omega)) Bd.no (by omega) (by omega))<|ym R R<|ym R R<|ym R R<|yp (Aj R R R Cc (hw))<|yp (Am R R Ai)<|?_
 refine ChK.cons R (CStep.call R (Yo _ _ _ (by assumption) (by assumption) (by omega) (by omega)) R)<|ym R R<|yp (As R R R)<|yp (As R R R)<|ya R R<|ya R R<|?_
 refine ChK.nil ⟨by kernel_rfl, ?_⟩
 refine zs<|zr<|zm R R<|zp (A5 R R R)<|zn<|?_
 refine zd R (fun c40=> ?_) (fun c40=> ?_)
 refine zr<|za R R<|za R R<|zn<|zt<|?_
 exact A6 R (RV.tmp R R) (RV.tmp R R) (Y0 (Af3 (by rw [hf2, ←hgo];exact Af4 hsw c40)))
 refine zi<|Ag (by kernel_rfl)<|zm R R<|zm R R<|zp (Al R R R (by omega) (by omega))<|za R R<|zn<|Ag (by kernel_rfl)<|zm R R<|zp (Al R R R (by omega) (by omega))<|za R R<|zn<|?_
 exact An ((p.1+1,p.2+D5 ((l.take l.length).drop (i+1)) ((f+p.1:Nat):Int) w)) (⟨by simp only;omega,(Af5 hsw c40).symm.trans hgo,by simp only;omega,by simp only;omega⟩) (by simp only;omega) (fz ⟨sr,sr,sr,sr,sr,sr,trivial⟩) (gz ⟨rfl,trivial⟩)
 have hu:F4 ((l.take l.length).drop (i+1)) t.first.toNat (G5 t ws) 0=some p.2:=by rw [hf2, ←hgo];exact Ahz (by omega)
 refine Av<|zs<|zr<|za R R<|zn<|Ah<|?_
 refine A4 (α:=Nat) (fun k=>k≤10∧∀j,j<k→¬p.2=t.actual*(3870720 / 2 ^ j)) (fun k=>mkF [(8, .ptr 8 0 0),(9, .d (dI p.2)),(13, .d (dI ((k:Int) - 1)))]) (fun k=>mkH [(8, .box ((Tp.c t).map S.d))]) (fun k=>10 - k) (0) (⟨Nat.zero_le _,fun j hj=>absurd hj (Nat.not_lt_zero _)⟩) ?_ ?_ ?_
 exact fz ⟨sr,sr,sr,trivial⟩
 exact gz ⟨R,trivial⟩
 intro k hk2
 obtain ⟨hk,hno⟩:=hk2
 have hkk:((k:Int) - 1+1).toNat=k:=by omega
 have hsh:=Aqt k
 refine zs<|zr<|zm R R<|zp (Nl R R R)<|zn<|?_
 refine zd R (fun c45=> ?_) (fun c45=> ?_)
 have hml1:0≤t.actual*(3870720 / 2 ^ k):=Int.mul_nonneg (by omega) hsh.1
 have hml2:t.actual*(3870720 / 2 ^ k)≤32*3870720:=Int.mul_le_mul (by omega) hsh.2 hsh.1 (by omega)
 refine zi<|zs<|Ah<|zs<|Bo [] (by kernel_rfl) (by kernel_rfl) (by kernel_rfl) (by decide)<|ym R R<|yp (Aa R R Nt)<|yp (Ab R R Ai R R)<|ym R R<|yp (Al R R R (by omega) (by omega))<|yp (Anq R R R (by omega) (by omega))<|yp (Lr R R R (by rw [hkk];omega) (by rw [hkk];omega))<|yp (A8 R R R)<|?_
 refine ChK.nil ⟨by kernel_rfl, ?_⟩
 refine zd R (fun c55=> ?_) (fun c55=> ?_)
 refine zr<|zm R R<|za R R<|za R R<|zn<|zt<|?_
 exact A6 R (RV.tmp R R) (RV.tmp R R) (Al3 (by rw [Tx hu];exact Apg (by omega) (by rw [hkk] at c55;exact c55) hno))
 refine zi<|Ag (by kernel_rfl)<|zm R R<|zp (Al R R R (by omega) (by omega))<|za R R<|zn<|?_
 exact An (k+1) (⟨by omega,fun j hj=>by by_cases e:j=k;(· subst e;rw [hkk] at c55;exact c55);(· exact hno j (by omega))⟩) (by omega) (fz ⟨sr,sr, .same (sI (by omega)),trivial⟩) (gz ⟨rfl,trivial⟩)
 have hke:k=10:=by omega
 have hnone:Tb t.actual p.2=none:=Ajd (fun j hj=>hno j (by omega))
 refine Av<|zr<|za R R<|za R R<|zn<|zt<|?_
 exact A6 R (RV.tmp R R) (RV.tmp R R) (Y0 (by rw [Tx hu];exact hnone))
theorem Na {l:List Tp} {ws:List Int} (h:¬C2 l ws≠0):Tups l ws.length:=by
 unfold C2 at h
 split at h
 ·rename_i h2;exact absurd h2 h
 ·rename_i h2;exact Va h2
def Lz (l:List Tp) (ws:List Int):Prop:=∀j,j<l.length→(Tw l j ws).isSome=true
instance (l:List Tp) (ws:List Int):Decidable (Lz l ws):=by unfold Lz;exact inferInstance
def Ez (l:List Tp) (ws:List Int):Int:=if C2 l ws≠0 then C2 l ws else if Lz l ws then 0 else 21
def M9 (l:List Tp) (ws:List Int) (k:Nat):List Int:=(List.range k).map fun j=>(Tw l j ws).getD 0
def Mc (l:List Tp) (ws:List Int):List Int:=if Ez l ws=0 then M9 l ws l.length else []
theorem Af6 {l:List Tp} {ws:List Int} {k:Nat} {t:Tp} (h:l[k]? =some t):M9 l ws (k+1)=M9 l ws k++ [(F3 (Nb l k) t ws).getD 0]:=by
 rw [M9,List.range_succ,List.map_append,List.map_singleton,Mb h];rfl
theorem Ah0 (l:List Tp) (ws:List Int) (k:Nat):(M9 l ws k).length=k:=by rw [M9,List.length_map,List.length_range]
theorem Aqn {l:List Tp} {ws:List Int} (h:C2 l ws≠0): []=Mc l ws∧C2 l ws=Ez l ws:=by
 have e:Ez l ws=C2 l ws:=by rw [Ez,if_pos h]
 exact ⟨by rw [Mc,e,if_neg h],e.symm⟩
theorem Aqm {l:List Tp} {ws:List Int} (h:¬C2 l ws≠0) {k:Nat} {t:Tp} (ht:l[k]? =some t) (hn:(!(F3 (Nb l k) t ws).isSome)=true): []=Mc l ws∧21=Ez l ws:=by
 have e:Ez l ws=21:=by
  rw [Ez,if_neg h,if_neg fun ha=> ?_]
  have:=ha k (List.getElem?_eq_some_iff.1 ht).1
  rw [Mb ht] at this
  rw [this] at hn
  cases hn
 exact ⟨by rw [Mc,e,if_neg (by decide)],e.symm⟩
theorem Aql {l:List Tp} {ws:List Int} (h:¬C2 l ws≠0) (ha:Lz l ws):M9 l ws l.length=Mc l ws∧0=Ez l ws:=by
 have e:Ez l ws=0:=by rw [Ez,if_neg h,if_pos ha]
 exact ⟨by rw [Mc,e,if_pos rfl],e.symm⟩
theorem Ak3 (l:List Tp) (ws:List Int):XC Tryz.prog 170 [.sl 4 (l.map Tp.c), .sl 1 (B2 ws)] (fun r=>r= .tup [.sl 1 (B2 (Mc l ws)),dI (Ez l ws)]):=by
 refine Ap Abc Tryz.func170 R R lb<|zr<|za R R<|za R R<|zn<|zs<|zr<|zm R R<|zm R R<|XL.call1 R R (Rs _ _) R<|zm R R<|zp (As R R R)<|zp (As R R R)<|za R R<|?_
 refine za R R<|znr<|zm R R<|zp (A5 R R R)<|zn<|?_
 refine zd R (fun c19=> ?_) (fun c19=> ?_)
 refine zr<|zm R R<|za R R<|za R R<|zn<|zt<|?_
 exact A6 R (RV.nil (sz:=1) R R) (RV.tmp R R) (r2 (rSl (Aqn c19).1) (rI (Aqn c19).2))
 refine zi<|zs<|?_
 have hT:=Na c19
 have hbd:=hT.bd
 have hlen:=hT.len
 refine Ag (by kernel_rfl)<|zm R R<|XL.len R R R Tryz.underlying80 fun hl22=>XL.step R (N9 23 (m:=0) (z:=(.int .i64 0)) (zs:= [dI 0]) (sz:=1) (bytes:=8) R R R Tryz.underlying45 (by kernel_rfl) (by kernel_rfl) (by kernel_rfl) (by decide) (by decide) (by omega) (by unfold maxLen;omega) (by omega))<|zp (Ar R (by conv=>lhs;whnf))<|?_
 refine zn<|zs<|zr<|zm R R<|XL.len R R R Tryz.underlying80 fun hl25=>zm R R<|zn<|Ah<|?_
 refine A4 (α:=Nat) (fun k=>k≤l.length∧∀j,j<k→(Tw l j ws).isSome=true) (fun k=>mkF [(0, .d (.sl 4 (l.map Tp.c))),(1, .d (.sl 1 (B2 ws))),(8, .own 23),(25, .d (dI l.length)),(26, .d (dI k))]) (fun k=>mkH [(23, .row 3 1 ((M9 l ws k).map iv))]) (fun k=>l.length - k) (0) (⟨Nat.zero_le _,fun j hj=>absurd hj (Nat.not_lt_zero _)⟩) ?_ ?_ ?_
 exact fz ⟨sr,sr,sr,sr,sr,trivial⟩
 exact gz ⟨R,trivial⟩
 intro k hk0
 obtain ⟨hk,hall⟩:=hk0
 refine zr<|zp (Au R R R)<|zn<|zs<|?_
 refine zd R (fun c27=> ?_) (fun c27=> ?_)
 have hk0a:k<l.length:=by omega
 obtain ⟨x0,hx0⟩:=Az hk0a
 have hll:=Ah0 l ws k
 refine zi<|zs<|Ah<|zr<|zm R R<|za R R<|znr<|zm R R<|zm R R<|zm R R<|XL.call1 R R (Aoh _ _ _ _ hx0 hT) R<|zm R R<|zp (As R R R)<|zp (As R R R)<|?_
 refine za R R<|za R R<|zn<|zs<|zr<|zm R R<|zp (Eb R R)<|zn<|?_
 refine E2 (by kernel_rfl) R (fun c37=> ?_) (fun c37=> ?_)
 refine zr<|za R R<|za R R<|zn<|zt<|?_
 exact A6 R (RV.nil (sz:=1) R R) (RV.tmp R R) (r2 (rSl (Aqm c19 hx0 c37).1) (rI (Aqm c19 hx0 c37).2))
 refine zi<|Ag (by kernel_rfl)<|zp (Ao R (by conv=>lhs;whnf))<|?_
 refine zm R R<|XL.step R (Bl 40 R Tryz.underlying45 D8 Fo R R (by omega) (by omega))<|XL.step R (A7 R Io (.own R) (Src.own R) (by unfold maxLen;simp;omega) (by simp;omega))<|zp (Ar R (by conv=>lhs;whnf))<|?_
 refine zn<|Ag (by kernel_rfl)<|zp (Al R R R (by omega) (by omega))<|zm R R<|zn<|?_
 exact An (k+1) (⟨by omega,fun j hj=>by by_cases e:j=k;(· subst e;rw [Mb hx0];exact (by simpa using c37));(· exact hall j (by omega))⟩) (by omega) (fz ⟨sr,sr,sr,sr,sr,trivial⟩) (gz ⟨I6 rfl (Af6 hx0),trivial⟩)
 have hk0b:k=l.length:=by omega
 have ha:Lz l ws:=fun j hj=>hall j (by omega)
 refine Av<|zr<|zp (Ao R (by conv=>lhs;whnf))<|?_
 refine zp (Ar R (by conv=>lhs;whnf))<|?_
 refine za R R<|zn<|zt<|B8 (i:=23) R<|?_
 exact A6 R (RV.tmp R R) (RV.tmp R R) (r2 (rSl (by rw [hk0b];exact (Aql c19 ha).1)) (rI (Aql c19 ha).2))
def Hh (l:List Tp) (n:Int):Int:=if D3 l 128≠0 then 0 else (hits l n:Int)
theorem Amo {l:List Tp} {k:Nat} {t:Tp} {n:Int} (h:l[k]? =some t) (ht:t.has n):hits (l.take (k+1)) n=hits (l.take k) n+1:=by rw [Bp h,If,if_pos ht]
theorem App {l:List Tp} {k:Nat} {t:Tp} {n:Int} (h:l[k]? =some t) (ht:¬t.has n):hits (l.take (k+1)) n=hits (l.take k) n:=by rw [Bp h,If,if_neg ht];rfl
theorem Am8 (l:List Tp) (n:Int) (h0:0≤n) (h1:n≤128):XC Tryz.prog 152 [.sl 4 (l.map Tp.c), .v (.int .i64 n)] (fun r=>r=dI (Hh l n)):=by
 refine Ap Abu Tryz.func152 R R lb<|zr<|za R R<|zn<|zs<|zr<|zm R R<|XL.call1 R R (V5 _ _) R<|zp (A5 R R R)<|zn<|?_
 refine zd R (fun c10=> ?_) (fun c10=> ?_)
 exact zr<|za R R<|zn<|zt<|z1 R R (rI (by rw [Hh,if_pos c10]))
 refine zi<|zs<|?_
 have hT:=Va c10
 refine Ag (by kernel_rfl)<|za R R<|zn<|zs<|zr<|zm R R<|XL.len R R R Tryz.underlying80 fun hl12=>zm R R<|zn<|Ah<|?_
 refine A4 (α:=Nat) (fun k=>k≤l.length) (fun k=>mkF [(1, .d (dI n)),(4, .d (dI 0)),(5, .d (dI (hits (l.take k) n:Int))),(11, .d (.sl 4 (l.map Tp.c))),(12, .d (dI l.length)),(13, .d (dI k))]) (fun k=>mkH []) (fun k=>l.length - k) (0) (Nat.zero_le _) ?_ ?_ ?_
 exact fz ⟨sr,sr,sr,sr,sr,sr,trivial⟩
 exact HSub.nil
 intro k hk0
 refine zr<|zp (Au R R R)<|zn<|zs<|?_
 refine zd R (fun c14=> ?_) (fun c14=> ?_)
 have hk0a:k<l.length:=by omega
 obtain ⟨x0,hx0⟩:=Az hk0a
 have hok:=hT.ok x0 (List.mem_of_getElem? hx0)
 have hle:=Nat.le_trans (Qg l k n) (hT.hits n)
 refine zi<|zs<|Ah<|zr<|zp (Aj R R R E8 hx0)<|zp (Ae (s':= .d (.agg (Tp.c x0))) (Bf R R B9 lb) (by kernel_rfl))<|XL.step R (Ax 7 (l:= [.d (dI 0), .d (dI 0), .d (dI 0), .d (dI 0)]) R Dw (by kernel_rfl))<|XL.step R (Af (l':= [.d (dI x0.first), .d (dI x0.count), .d (dI x0.actual), .d (dI x0.normal)]) R R R R E0 R lb (by kernel_rfl))<|znr<|?_
 refine zp (Ae (s':= .d (.agg (Tp.c x0))) (Ac (Ad R R B9 R lb)) (by kernel_rfl))<|zm R R<|XL.call1 R R (Rz _ _ (by assumption) (by omega) (by omega)) R<|zn<|?_
 refine zd R (fun c19=> ?_) (fun c19=> ?_)
 refine Ag (by kernel_rfl)<|zm R R<|zp (Al R R R (by omega) (by omega))<|za R R<|zn<|Ag (by kernel_rfl)<|zp (Al R R R (by omega) (by omega))<|zm R R<|zn<|?_
 exact An (k+1) (by omega) (by omega) (fz ⟨sr,sr, .same (sI (by rw [Amo hx0 c19];rfl)),sr,sr,sr,trivial⟩) (HSub.nil)
 refine zi<|Ag (by kernel_rfl)<|zp (Al R R R (by omega) (by omega))<|zm R R<|zn<|?_
 exact An (k+1) (by omega) (by omega) (fz ⟨sr,sr, .same (sI (by rw [App hx0 c19])),sr,sr,sr,trivial⟩) (HSub.nil)
 have hk0b:k=l.length:=by omega
 have ht:l.take k=l:=by rw [hk0b,List.take_length]
 exact Av<|zr<|zm R R<|za R R<|zn<|zt<|z1 R R (rI (by rw [Hh,if_neg c10,ht]))
end Go.Proofs.YtaafemnkamfgnaaGreat
namespace Go.Proofs.YtaafemnkamfgnaaGreat
open Go.RowKit
def tot (l:List Int):Int:=l.foldl (· + ·) 0
theorem Ok (l:List Int) (x:Int):tot (l++ [x])=tot l+x:=by unfold tot;rw [List.foldl_append];rfl
theorem Md {l:List Int} {k:Nat} {x:Int} (h:l[k]? =some x):tot (l.take (k+1))=tot (l.take k)+x:=by rw [Bp h,Ok]
structure Nums (l:List Int):Prop where
 len:l.length≤128
 bd:∀x∈l,0≤x∧x≤253671505920
theorem Aok {l:List Int}:(∀x∈l,0≤x∧x≤253671505920)→0≤tot l∧tot l≤(l.length:Int)*253671505920:=by
 refine Sa (p:=fun l=>(∀x∈l,0≤x∧x≤253671505920)→0≤tot l∧tot l≤(l.length:Int)*253671505920) (fun _=>by simp [tot]) (fun l x ih h=> ?_) l
 have h1:=ih fun y hy=>h y (List.mem_append_left _ hy)
 have h2:=h x (List.mem_append_right _ (List.mem_singleton.2 rfl))
 rw [Ok,List.length_append,List.length_singleton,Int.natCast_add,Int.add_mul]
 omega
theorem Nums.tot {l:List Int} (h:Nums l):0≤Go.Proofs.YtaafemnkamfgnaaGreat.tot l∧Go.Proofs.YtaafemnkamfgnaaGreat.tot l≤32469952757760:=by
 have:=Aok h.bd
 have:=h.len
 omega
theorem Nums.take {l:List Int} (h:Nums l) (k:Nat):Nums (l.take k):=⟨Nat.le_trans (List.length_take_le' _ _) h.len,fun x hx=>h.bd x (List.mem_of_mem_take hx)⟩
def Evs (l:List Ev):Prop:=∀e∈l,e.art≤9223372036854775807
def wrS (l:List Ev):List Int:=l.map Ev.len
theorem Ak5 (l:List Int) (h:Nums l):XC Tryz.prog 116 [.sl 1 (B2 l)] (fun r=>r=dI (tot l)):=by
 refine Ap Ab7 Tryz.func116 R R lb<|zr<|za R R<|znr<|za R R<|zn<|zs<|zr<|zm R R<|XL.len R R R Tryz.underlying45 fun hl7=>zm R R<|zn<|Ah<|?_
 refine A4 (α:=Nat) (fun k=>k≤l.length) (fun k=>mkF [(2, .d (dI 0)),(3, .d (dI (tot (l.take k)))),(6, .d (.sl 1 (B2 l))),(7, .d (dI l.length)),(8, .d (dI k))]) (fun k=>mkH []) (fun k=>l.length - k) (0) (Nat.zero_le _) ?_ ?_ ?_
 exact fz ⟨sr,sr,sr,sr,sr,trivial⟩
 exact HSub.nil
 intro k hk0
 refine zr<|zp (Au R R R)<|zn<|zs<|?_
 refine zd R (fun c9=> ?_) (fun c9=> ?_)
 have hk0a:k<l.length:=by omega
 obtain ⟨x0,hx0⟩:=Az hk0a
 have h1:=(h.take k).tot
 have h2:=h.bd x0 (List.mem_of_getElem? hx0)
 refine zi<|zs<|Ah<|zr<|zp (Aj R R R Cc hx0)<|zp (Am R R Ai)<|za R R<|zng<|zm R R<|zm R R<|zp (Al R R R (by omega) (by omega))<|za R R<|zn<|Ag (by kernel_rfl)<|?_
 refine zp (Al R R R (by omega) (by omega))<|zm R R<|zn<|?_
 exact An (k+1) (by omega) (by omega) (fz ⟨sr, .same (sI (by rw [Md hx0])),sr,sr,sr,trivial⟩) (HSub.nil)
 have hk0b:k=l.length:=by omega
 have ht:l.take k=l:=by rw [hk0b,List.take_length]
 exact Av<|zr<|zm R R<|za R R<|zn<|zt<|z1 R R (rI (by rw [ht]))
def J7 (l:List Int) (k:Nat):List Int:=(List.range l.length).map fun j=>if j<k then tot (l.take j) else 0
def A9 (l:List Int):List Int:=(List.range l.length).map fun j=>tot (l.take j)
theorem Y2 (l:List Int) (k:Nat):(J7 l k).length=l.length:=by rw [J7,List.length_map,List.length_range]
theorem Al6 (l:List Int):List.replicate l.length (0:Int)=J7 l 1:=by
 rw [J7]
 refine List.ext_getElem? fun j=> ?_
 rw [List.getElem?_replicate,List.getElem?_map]
 by_cases h:j<l.length
 ·rw [if_pos h,List.getElem?_range h,Option.map_some]
  congr 1
  split
  ·have:j=0:=by omega
   subst this;rfl
  ·rfl
 ·rw [if_neg h,List.getElem?_eq_none (by rw [List.length_range];omega)];rfl
theorem Y3 {l:List Int} {j k:Nat} (h:j<k) (hj:j<l.length):(J7 l k)[j]? =some (tot (l.take j)):=by
 rw [J7,List.getElem?_map,List.getElem?_range hj,Option.map_some,if_pos h]
theorem Al5 {l:List Int} {k:Nat} (hk:k<l.length):(J7 l k).set k (tot (l.take k))=J7 l (k+1):=by
 refine List.ext_getElem? fun j=> ?_
 rw [List.getElem?_set]
 split
 ·rename_i h
  subst h
  rw [if_pos (by rw [Y2];exact hk),Y3 (by omega) hk]
 ·rename_i h
  rw [J7,J7,List.getElem?_map,List.getElem?_map]
  by_cases hj:j<l.length
  ·rw [List.getElem?_range hj,Option.map_some,Option.map_some]
   congr 1
   by_cases e:j<k
   ·rw [if_pos e,if_pos (by omega)]
   ·rw [if_neg e,if_neg (by omega)]
  ·rw [List.getElem?_eq_none (by rw [List.length_range];omega)];rfl
theorem Al7 {l:List Int} {k:Nat} (hk:l.length≤k):J7 l k=A9 l:=by
 rw [J7,A9]
 refine List.map_congr_left fun j hj=> ?_
 rw [if_pos (by have:=List.mem_range.1 hj;omega)]
theorem Wj (l:List Int) (h:Nums l):XC Tryz.prog 96 [.sl 1 (B2 l)] (fun r=>r= .sl 1 (B2 (A9 l))):=by
 have hll:=h.len
 refine Ap Adb Tryz.func96 R R lb<|zr<|za R R<|znr<|zm R R<|XL.len R R R Tryz.underlying45 fun hl6=>XL.step R (N9 7 (z:=(.int .i64 0)) (zs:= [dI 0]) (sz:=1) (bytes:=8) R R R Tryz.underlying45 (by kernel_rfl) (by kernel_rfl) (by kernel_rfl) (by decide) (by decide) (by omega) (by unfold maxLen;omega) (by omega))<|zp (Ar R (by conv=>lhs;whnf))<|?_
 refine zn<|zs<|zr<|za R R<|zn<|Ah<|?_
 refine A4 (α:=Nat) (fun k=>1≤k∧k≤l.length+1) (fun k=>mkF [(0, .d (.sl 1 (B2 l))),(2, .d (.v (.slice none 0 0))),(3, .own 7),(4, .d (dI k))]) (fun k=>mkH [(7, .row 3 1 ((J7 l k).map iv))]) (fun k=>l.length+1 - k) (1) (⟨Nat.le_refl _,by omega⟩) ?_ ?_ ?_
 exact fz ⟨sr,sr,sr,sr,trivial⟩
 exact gz ⟨by rw [←Al6,List.map_replicate];rfl,trivial⟩
 intro k hk0
 refine zs<|zr<|zm R R<|zm R R<|XL.len R R R Tryz.underlying45 fun hl10=>zp (Au R R R)<|zn<|?_
 refine zd R (fun c11=> ?_) (fun c11=> ?_)
 have hkl:k<l.length:=by omega
 have h1:=(h.take (k - 1)).tot
 obtain ⟨x,hx⟩:∃x,l[k - 1]? =some x:=Az (by omega)
 have h2:=h.bd x (List.mem_of_getElem? hx)
 have ho:=Y3 (l:=l) (k:=k) (j:=k - 1) (by omega) (by omega)
 have hol:=Y2 l k
 obtain ⟨z,hz⟩:∃z,(J7 l k)[k]? =some z:=Az (by omega)
 have htk:tot (l.take k)=tot (l.take (k - 1))+x:=by have:=Md hx;rwa [Nat.sub_add_cancel (by omega)] at this
 refine zi<|zs<|Ah<|Cp 13 [] (by kernel_rfl) (by kernel_rfl) (by kernel_rfl) (by kernel_rfl) (by decide)<|yp (Ao R (by conv=>lhs;whnf))<|?_
 refine ym R R<|yp (Ao R (by conv=>lhs;whnf))<|?_
 refine ym R R<|yp (Dg R R R (by omega) (by omega))<|yp (Ct R R R ((by omega:(k:Int) - 1=((k - 1:Nat):Int))) R Cc (by omega))<|yp (It R R Ai R (Dc (ho)) R)<|ym R R<|ym R R<|yp (Dg R R R (by omega) (by omega))<|yp (Dh R R R ((by omega:(k:Int) - 1=((k - 1:Nat):Int))) Cc (hx))<|yp (Am R R Ai)<|yp (Al R R R (by omega) (by omega))<|?_
 refine ChK.nil ⟨by kernel_rfl, ?_⟩
 refine zp (J4 R R R R Cc (by omega))<|XL.step R (E9 R R R (Dc hz) R R D8 R lb)<|zn<|Ag (by kernel_rfl)<|zm R R<|zp (Al R R R (by omega) (by omega))<|za R R<|zn<|?_
 exact An (k+1) (by omega) (by omega) (fz ⟨sr,sr,sr,sr,trivial⟩) (gz ⟨P2 (a:=tot (l.take k)) (by rw [htk];rfl) (Al5 hkl).symm,trivial⟩)
 have he:=Al7 (l:=l) (k:=k) (by omega)
 refine Av<|zr<|zp (Ao R (by conv=>lhs;whnf))<|?_
 refine zp (Ar R (by conv=>lhs;whnf))<|?_
 exact zn<|zt<|B8 (i:=7) R<|z1 R R (rSl he)
end Go.Proofs.YtaafemnkamfgnaaGreat
namespace Go.Proofs.YtaafemnkamfgnaaGreat
open Go.RowKit
def Iz (f:Nat→Int) (n k:Nat):List Int:=(List.range n).map fun j=>if j<k then f j else 0
theorem Xa (f:Nat→Int) (n k:Nat):(Iz f n k).length=n:=by rw [Iz,List.length_map,List.length_range]
theorem Ahd (f:Nat→Int) (n:Nat):List.replicate n (0:Int)=Iz f n 0:=by
 rw [Iz]
 refine List.ext_getElem? fun j=> ?_
 rw [List.getElem?_replicate,List.getElem?_map]
 by_cases h:j<n
 ·rw [if_pos h,List.getElem?_range h,Option.map_some,if_neg (by omega)]
 ·rw [if_neg h,List.getElem?_eq_none (by rw [List.length_range];omega)];rfl
theorem Aj2 {f:Nat→Int} {n k:Nat} (hk:k<n):Iz f n (k+1)=(Iz f n k).set k (f k):=by
 refine List.ext_getElem? fun j=> ?_
 rw [List.getElem?_set]
 split
 ·rename_i h
  subst h
  rw [if_pos (by rw [Xa];exact hk),Iz,List.getElem?_map,List.getElem?_range hk,Option.map_some,if_pos (by omega)]
 ·rename_i h
  rw [Iz,Iz,List.getElem?_map,List.getElem?_map]
  by_cases hj:j<n
  ·rw [List.getElem?_range hj,Option.map_some,Option.map_some]
   congr 1
   by_cases e:j<k
   ·rw [if_pos e,if_pos (by omega)]
   ·rw [if_neg e,if_neg (by omega)]
  ·rw [List.getElem?_eq_none (by rw [List.length_range];omega)];rfl
theorem Aj3 {f:Nat→Int} {n k:Nat} (hk:n≤k):Iz f n k=(List.range n).map f:=by
 rw [Iz]
 refine List.map_congr_left fun j hj=> ?_
 rw [if_pos (by have:=List.mem_range.1 hj;omega)]
def Lu (l:List Ev) (j:Nat):Int:=((l[j]?).map Ev.len).getD 0
theorem Ami {l:List Ev} {k:Nat} {e:Ev} (h:l[k]? =some e):Lu l k=e.len:=by rw [Lu,h];rfl
theorem Ajg (l:List Ev):(List.range l.length).map (Lu l)=wrS l:=by
 refine List.ext_getElem? fun j=> ?_
 rw [List.getElem?_map,wrS,List.getElem?_map]
 by_cases hj:j<l.length
 ·rw [List.getElem?_range hj,Option.map_some,Lu,List.getElem?_eq_getElem hj];rfl
 ·rw [List.getElem?_eq_none (by rw [List.length_range];omega),List.getElem?_eq_none (by omega)];rfl
theorem Acn (l:List Ev) (hE:Evs l) (hlen:l.length≤128):XC Tryz.prog 168 [.sl 13 (l.map Ev.c)] (fun r=>r= .sl 1 (B2 (wrS l))):=by
 refine Ap Abe Tryz.func168 R R lb<|zr<|za R R<|znr<|zm R R<|XL.len R R R Tryz.underlying79 fun hl7=>XL.step R (N9 8 (z:=(.int .i64 0)) (zs:= [dI 0]) (sz:=1) (bytes:=8) R R R Tryz.underlying45 (by kernel_rfl) (by kernel_rfl) (by kernel_rfl) (by decide) (by decide) (by omega) (by unfold maxLen;omega) (by omega))<|zp (Ar R (by conv=>lhs;whnf))<|?_
 refine zn<|zs<|zr<|zm R R<|XL.len R R R Tryz.underlying79 fun hl10=>zm R R<|zn<|Ah<|?_
 refine A4 (α:=Nat) (fun k=>k≤l.length) (fun k=>mkF [(2, .d (.v (.slice none 0 0))),(3, .own 8),(9, .d (.sl 13 (l.map Ev.c))),(10, .d (dI l.length)),(11, .d (dI k))]) (fun k=>mkH [(8, .row 3 1 ((Iz (Lu l) l.length k).map iv))]) (fun k=>l.length - k) (0) (Nat.zero_le _) ?_ ?_ ?_
 exact fz ⟨sr,sr,sr,sr,sr,trivial⟩
 exact gz ⟨by rw [←Ahd,List.map_replicate];rfl,trivial⟩
 intro k hk0
 refine zr<|zp (Au R R R)<|zn<|zs<|?_
 refine zd R (fun c12=> ?_) (fun c12=> ?_)
 have hk0a:k<l.length:=by omega
 obtain ⟨x0,hx0⟩:=Az hk0a
 have he:=hE x0 (List.mem_of_getElem? hx0)
 have hfl:=Xa (Lu l) l.length k
 obtain ⟨z,hz⟩:∃z,(Iz (Lu l) l.length k)[k]? =some z:=Az (by omega)
 refine zi<|zs<|Ah<|zr<|zm R R<|zp (Aj R R R Hv hx0)<|zp (Ae (s':= .d (.agg (Ev.c x0))) (Bf R R B0 lb) (by kernel_rfl))<|XL.step R (Ax 5 (l:= [.d (dI 0), .d (dI 0), .d (dI 0), .d (dI 0), .d (dI 0), .d (.v (.slice none 0 0)), .d (.v (.slice none 0 0)), .d (dI 0), .d (dI 0), .d (dI 0), .d (.v (.slice none 0 0)), .d (dI 0), .d (dI 0)]) R Cb (by kernel_rfl))<|?_
 refine za R R<|XL.step R (Af (l':= [.d (dI x0.site), .d (dI x0.num), .d (dI x0.kind), .d (dI x0.v.log), .d (dI x0.v.dots), .d (.sl 5 (x0.heads.map Hd.c)), .d (.sl 5 (x0.graces.map Gr.c)), .d (dI x0.art), .d (dI x0.orn), .d (dI x0.dyn), .d (.sl 2 (x0.lyr.map Sy.c)), .d (dI x0.stem), .d (dI x0.beam)]) R R R R C4 R lb (by kernel_rfl))<|zng<|zp (Ao R (by conv=>lhs;whnf))<|?_
 refine zm R R<|zp (Ae (s':= .d (.agg (Ev.c x0))) (Ac (Ad R R B0 R lb)) (by kernel_rfl))<|XL.call1 R R (Afx _ (by assumption)) R<|zm R R<|zp (As R R R)<|zp (As R R R)<|zp (J4 R R R R Cc (by omega))<|XL.step R (E9 R R R (Dc hz) R R D8 R lb)<|zn<|Ag (by kernel_rfl)<|zp (Al R R R (by omega) (by omega))<|zm R R<|zn<|?_
 exact An (k+1) (by omega) (by omega) (fz ⟨sr,sr,sr,sr,sr,trivial⟩) (gz ⟨P2 (a:=Lu l k) (by rw [Ami hx0];rfl) (Aj2 hk0a),trivial⟩)
 have hk0b:k=l.length:=by omega
 have he:=Aj3 (f:=Lu l) (n:=l.length) (k:=k) (by omega)
 refine Av<|zr<|zp (Ao R (by conv=>lhs;whnf))<|?_
 refine zp (Ar R (by conv=>lhs;whnf))<|?_
 exact zn<|zt<|B8 (i:=8) R<|z1 R R (rSl (by rw [he,Ajg]))
def Vo.whole (v:Vo):Prop:=match v.evs with| []=>False|e::_=>e.kind=3
instance (v:Vo):Decidable v.whole:=by unfold Vo.whole;cases v.evs<;>exact inferInstance
theorem Kj {v:Vo} {e:Ev} (h:v.evs[0]? =some e):v.whole↔e.kind=3:=by
 unfold Vo.whole
 cases hv:v.evs with
 |nil=>rw [hv] at h;cases h
 |cons x l=>rw [hv] at h;cases h;exact Iff.rfl
theorem Ak1 {v:Vo} (h:¬0<(v.evs.length:Int)):¬v.whole:=by
 unfold Vo.whole
 cases hv:v.evs with
 |nil=>exact fun h=>h
 |cons x l=>rw [hv] at h;simp at h
def Vo.absent (v:Vo):Prop:=v.evs.length=0∧v.tups.length=0
instance (v:Vo):Decidable v.absent:=by unfold Vo.absent;exact inferInstance
theorem Ak0 (v:Vo):XC Tryz.prog 143 [.agg (Vo.c v)] (fun r=>r=dB (decide v.whole)):=by
 refine Ap Abx Tryz.func143 R R lb<|zr<|XL.step R (At 1 (l:= [.d (.sl 13 (v.evs.map Ev.c)), .d (.sl 4 (v.tups.map Tp.c))]) R R (by kernel_rfl))<|za R R<|znr<|zp (Aa R R Bv)<|zp (Ab R R C9 R R)<|XL.len R R R Tryz.underlying79 fun hl5=>zp (Bb R R R)<|zm R R<|?_
 refine XL.dec 7 R (fun g7=> ?_) (fun g7=> ?_)
 obtain ⟨e,he⟩:∃e,v.evs[0]? =some e:=Az (by omega)
 exact zp (Aa R R Bv)<|zp (Ab R R C9 R R)<|zp (Aj (k:=0) R R R Hv (he))<|zp (Bc R R Dk)<|zp (Am R R Ai)<|zp (A8 R R R)<|zq R R R<|za R R<|zn<|zt<|z1 R R (rB (by rw [decide_eq_decide];exact (Kj he).symm))
 exact zk 6 R<|zq R R R<|za R R<|zn<|zt<|z1 R R (rB (by rw [eq_comm,decide_eq_false_iff_not];exact Ak1 g7))
theorem Af2 (v:Vo):XC Tryz.prog 129 [.agg (Vo.c v)] (fun r=>r=dB (decide v.absent)):=by
 refine Ap Ab5 Tryz.func129 R R lb<|zr<|XL.step R (At 1 (l:= [.d (.sl 13 (v.evs.map Ev.c)), .d (.sl 4 (v.tups.map Tp.c))]) R R (by kernel_rfl))<|za R R<|znr<|zp (Aa R R Bv)<|zp (Ab R R C9 R R)<|XL.len R R R Tryz.underlying79 fun hl5=>zp (A8 R R R)<|zm R R<|?_
 refine XL.dec 7 R (fun g7=> ?_) (fun g7=> ?_)
 exact zp (Aa R R B5)<|zp (Ab R R B6 R R)<|XL.len R R R Tryz.underlying80 fun hl10=>zp (A8 R R R)<|zq R R R<|za R R<|zn<|zt<|z1 R R (rB (by rw [decide_eq_decide];unfold Vo.absent;omega))
 exact zk 4 R<|zq R R R<|za R R<|zn<|zt<|z1 R R (rB (by rw [eq_comm,decide_eq_false_iff_not];unfold Vo.absent;omega))
def Gp (n:Nat):Nat→List Ev→Int
 |_, []=>0
 |k,e::r=>if e.err≠0 then e.err else if e.kind=3∧(0<k∨1<n) then 11 else Gp n (k+1) r
def Fb (v:Vo):Int:=
 if Gp v.evs.length 0 v.evs≠0 then Gp v.evs.length 0 v.evs else if C2 v.tups (wrS v.evs)≠0 then C2 v.tups (wrS v.evs) else if Ez v.tups (wrS v.evs)≠0 then 21 else 0
def Gm (v:Vo):List Int:=if Fb v=0 then G3 v.tups (wrS v.evs) else []
theorem Zj {n k:Nat} {l:List Ev} {e:Ev} (h:l[k]? =some e) (he:e.err≠0):Gp n k (l.drop k)=e.err:=by rw [Bz h,Gp,if_pos he]
theorem Nr {n k:Nat} {l:List Ev} {e:Ev} (h:l[k]? =some e) (he:¬e.err≠0) (hk:e.kind=3∧(0<k∨1<n)):Gp n k (l.drop k)=11:=by rw [Bz h,Gp,if_neg he,if_pos hk]
theorem Wy {n k:Nat} {l:List Ev} {e:Ev} (h:l[k]? =some e) (he:¬e.err≠0) (hk:¬(e.kind=3∧(0<k∨1<n))):Gp n k (l.drop k)=Gp n (k+1) (l.drop (k+1)):=by rw [Bz h,Gp,if_neg he,if_neg hk]
theorem Ri {v:Vo} {e:Int} (he:e=Gp v.evs.length 0 v.evs) (hn:e≠0): []=Gm v∧e=Fb v:=by
 have e2:Fb v=e:=by rw [Fb, ←he,if_pos hn]
 exact ⟨by rw [Gm,e2,if_neg hn],e2.symm⟩
theorem Anw {v:Vo} (h:Gp v.evs.length 0 v.evs=0) (hn:C2 v.tups (wrS v.evs)≠0): []=Gm v∧C2 v.tups (wrS v.evs)=Fb v:=by
 have e2:Fb v=C2 v.tups (wrS v.evs):=by rw [Fb,if_neg (by omega),if_pos hn]
 exact ⟨by rw [Gm,e2,if_neg hn],e2.symm⟩
theorem Anv {v:Vo} (h:Gp v.evs.length 0 v.evs=0) (h2:¬C2 v.tups (wrS v.evs)≠0) (hn:Ez v.tups (wrS v.evs)≠0): []=Gm v∧21=Fb v:=by
 have e2:Fb v=21:=by rw [Fb,if_neg (by omega),if_neg h2,if_pos hn]
 exact ⟨by rw [Gm,e2,if_neg (by decide)],e2.symm⟩
theorem Anu {v:Vo} (h:Gp v.evs.length 0 v.evs=0) (h2:¬C2 v.tups (wrS v.evs)≠0) (h3:¬Ez v.tups (wrS v.evs)≠0):G3 v.tups (wrS v.evs)=Gm v∧0=Fb v:=by
 have e2:Fb v=0:=by rw [Fb,if_neg (by omega),if_neg h2,if_neg h3]
 exact ⟨by rw [Gm,e2,if_pos rfl],e2.symm⟩
theorem Zi (v:Vo) (hE:Evs v.evs) (hlen:v.evs.length≤128):XC Tryz.prog 145 [.agg (Vo.c v)] (fun r=>r= .tup [.sl 1 (B2 (Gm v)),dI (Fb v)]):=by
 refine Ap Abv Tryz.func145 R R lb<|zr<|XL.step R (At 1 (l:= [.d (.sl 13 (v.evs.map Ev.c)), .d (.sl 4 (v.tups.map Tp.c))]) R R (by kernel_rfl))<|za R R<|za R R<|zn<|zs<|zr<|zp (Aa R R Bv)<|zp (Ab R R C9 R R)<|XL.len R R R Tryz.underlying79 fun hl14=>zm R R<|zn<|Ah<|?_
 refine A4 (α:=Nat) (fun k=>k≤v.evs.length∧Gp v.evs.length k (v.evs.drop k)=Gp v.evs.length 0 v.evs) (fun k=>mkF [(1, .ptr 1 0 0),(13, .d (.sl 13 (v.evs.map Ev.c))),(14, .d (dI v.evs.length)),(15, .d (dI k))]) (fun k=>mkH [(1, .box ((Vo.c v).map S.d))]) (fun k=>v.evs.length - k) (0) (⟨Nat.zero_le _,by rw [List.drop_zero]⟩) ?_ ?_ ?_
 exact fz ⟨sr,sr,sr,sr,trivial⟩
 exact gz ⟨R,trivial⟩
 intro k hk0
 obtain ⟨hk,hgo⟩:=hk0
 refine zr<|zp (Au R R R)<|zn<|zs<|?_
 refine zd R (fun c16=> ?_) (fun c16=> ?_)
 have hk0a:k<v.evs.length:=by omega
 obtain ⟨x0,hx0⟩:=Az hk0a
 have he:=hE x0 (List.mem_of_getElem? hx0)
 refine zi<|zs<|Ah<|zr<|zm R R<|zp (Aj R R R Hv hx0)<|zp (Ae (s':= .d (.agg (Ev.c x0))) (Bf R R B0 lb) (by kernel_rfl))<|XL.step R (Ax 5 (l:= [.d (dI 0), .d (dI 0), .d (dI 0), .d (dI 0), .d (dI 0), .d (.v (.slice none 0 0)), .d (.v (.slice none 0 0)), .d (dI 0), .d (dI 0), .d (dI 0), .d (.v (.slice none 0 0)), .d (dI 0), .d (dI 0)]) R Cb (by kernel_rfl))<|?_
 refine za R R<|XL.step R (Af (l':= [.d (dI x0.site), .d (dI x0.num), .d (dI x0.kind), .d (dI x0.v.log), .d (dI x0.v.dots), .d (.sl 5 (x0.heads.map Hd.c)), .d (.sl 5 (x0.graces.map Gr.c)), .d (dI x0.art), .d (dI x0.orn), .d (dI x0.dyn), .d (.sl 2 (x0.lyr.map Sy.c)), .d (dI x0.stem), .d (dI x0.beam)]) R R R R C4 R lb (by kernel_rfl))<|zn<|zs<|zr<|?_
 refine zp (Ae (s':= .d (.agg (Ev.c x0))) (Ac (Ad R R B0 R lb)) (by kernel_rfl))<|XL.call1 R R (Qp _ (by assumption)) R<|za R R<|znr<|zm R R<|zp (A5 R R R)<|zn<|?_
 refine zd R (fun c23=> ?_) (fun c23=> ?_)
 refine zr<|zm R R<|za R R<|za R R<|zn<|zt<|?_
 exact A6 R (RV.nil (sz:=1) R R) (RV.tmp R R) (r2 (rSl (Ri (by rw [←hgo,Zj hx0 c23]) c23).1) (rI (Ri (by rw [←hgo,Zj hx0 c23]) c23).2))
 refine zi<|zr<|zp (Aa R R Dk)<|zp (Ab R R Ai R R)<|zp (A8 R R R)<|zm R R<|?_
 refine XL.dec 28 R (fun g28=> ?_) (fun g28=> ?_)
 refine zm R R<|zp (Bb R R R)<|zm R R<|?_
 refine XL.dec 31 R (fun g31=> ?_) (fun g31=> ?_)
 refine zk 4 R<|zq R R R<|zq R R R<|zn<|A0 (by kernel_rfl) R<|zr<|za R R<|za R R<|zn<|zt<|?_
 exact A6 R (RV.nil (sz:=1) R R) (RV.tmp R R) (r2 (rSl (Ri (e:=11) (by rw [←hgo,Nr hx0 c23 (by omega)]) (by decide)).1) (rI (Ri (by rw [←hgo,Nr hx0 c23 (by omega)]) (by decide)).2))
 refine zp (Aa R R Bv)<|zp (Ab R R C9 R R)<|XL.len R R R Tryz.underlying79 fun hl34=>zp (Bb R R R)<|zq R R R<|zq R R R<|zn<|?_
 refine zd R (fun c37=> ?_) (fun c37=> ?_)
 refine zr<|za R R<|za R R<|zn<|zt<|?_
 exact A6 R (RV.nil (sz:=1) R R) (RV.tmp R R) (r2 (rSl (Ri (e:=11) (by rw [←hgo,Nr hx0 c23 (by omega)]) (by decide)).1) (rI (Ri (by rw [←hgo,Nr hx0 c23 (by omega)]) (by decide)).2))
 refine zi<|Ag (by kernel_rfl)<|zp (Al R R R (by omega) (by omega))<|zm R R<|zn<|?_
 exact An (k+1) (⟨by omega,by rw [←Wy hx0 c23 (by omega)];exact hgo⟩) (by omega) (fz ⟨sr,sr,sr,sr,trivial⟩) (gz ⟨rfl,trivial⟩)
 refine zk 8 R<|zq R R R<|zn<|A3 (by kernel_rfl) R<|zi<|Ag (by kernel_rfl)<|zp (Al R R R (by omega) (by omega))<|zm R R<|zn<|?_
 exact An (k+1) (⟨by omega,by rw [←Wy hx0 c23 (by omega)];exact hgo⟩) (by omega) (fz ⟨sr,sr,sr,sr,trivial⟩) (gz ⟨rfl,trivial⟩)
 have hk0b:k=v.evs.length:=by omega
 have hz:Gp v.evs.length 0 v.evs=0:=by rw [←hgo,hk0b,List.drop_length];rfl
 refine Av<|zr<|zp (Aa R R Bv)<|zp (Ab R R C9 R R)<|XL.call1 R R (Acn _ (by assumption) (by omega)) R<|za R R<|znr<|zp (Aa R R B5)<|zp (Ab R R B6 R R)<|zm R R<|XL.call1 R R (Rs _ _) R<|zm R R<|zp (As R R R)<|zp (As R R R)<|?_
 refine za R R<|za R R<|zn<|zs<|zr<|zm R R<|zp (A5 R R R)<|zn<|?_
 refine zd R (fun c50=> ?_) (fun c50=> ?_)
 refine zr<|zm R R<|za R R<|za R R<|zn<|zt<|?_
 exact A6 R (RV.nil (sz:=1) R R) (RV.tmp R R) (r2 (rSl (Anw hz c50).1) (rI (Anw hz c50).2))
 refine zi<|zs<|zr<|zp (Aa R R B5)<|zp (Ab R R B6 R R)<|zm R R<|XL.call1 R R (Ak3 _ _) R<|zm R R<|zp (As R R R)<|zp (As R R R)<|za R R<|za R R<|znr<|zm R R<|?_
 refine zp (A5 R R R)<|zn<|?_
 refine zd R (fun c60=> ?_) (fun c60=> ?_)
 refine zr<|za R R<|za R R<|zn<|zt<|?_
 exact A6 R (RV.nil (sz:=1) R R) (RV.tmp R R) (r2 (rSl (Anv hz c50 c60).1) (rI (Anv hz c50 c60).2))
 refine zi<|zr<|zm R R<|za R R<|za R R<|zn<|zt<|?_
 exact A6 R (RV.tmp R R) (RV.tmp R R) (r2 (rSl (Anu hz c50 c60).1) (rI (Anu hz c50 c60).2))
def Do (v:Vo) (L:Int):Int:=
 if L<1∨15482880<L then 2 else if 128<v.evs.length then 9 else
 if v.whole∧v.evs.length=1 then (match v.evs with| []=>0|e::_=>if e.err≠0 then e.err else if 0<v.tups.length then 21 else 0) else Fb v
def Em (v:Vo) (L:Int):List Int:=if Do v L≠0 then [] else if v.whole∧v.evs.length=1 then [L] else Gm v
def ckE (v:Vo) (L:Int):Int:=if Do v L=0∧0<(Em v L).length∧tot (Em v L)≠L then 20 else Do v L
def ckL (v:Vo) (L:Int):List Int:=if ckE v L≠0 then [] else Em v L
theorem Xx {v:Vo} {L:Int} (h:L<1∨15482880<L): []=Em v L∧2=Do v L:=by
 have e:Do v L=2:=by rw [Do,if_pos h]
 exact ⟨by rw [Em,e,if_pos (by decide)],e.symm⟩
theorem Ans {v:Vo} {L:Int} (h:¬L<1) (h':¬15482880<L) (h2:128<(v.evs.length:Int)): []=Em v L∧9=Do v L:=by
 have e:Do v L=9:=by rw [Do,if_neg (by omega),if_pos (by omega)]
 exact ⟨by rw [Em,e,if_pos (by decide)],e.symm⟩
theorem Ag3 {v:Vo} {L:Int} (h:¬L<1) (h':¬15482880<L) (h2:¬128<(v.evs.length:Int)) (hw:v.whole) (h1:(v.evs.length:Int)=1) {e:Ev} (he:v.evs[0]? =some e):
  Do v L=(if e.err≠0 then e.err else if 0<v.tups.length then 21 else 0):=by
 rw [Do,if_neg (by omega),if_neg (by omega),if_pos ⟨hw,by omega⟩]
 cases hv:v.evs with
 |nil=>rw [hv] at he;cases he
 |cons x l=>rw [hv] at he;cases he;rfl
theorem Xw {v:Vo} {L:Int} (h:¬L<1) (h':¬15482880<L) (h2:¬128<(v.evs.length:Int)) (hw:¬(v.whole∧(v.evs.length:Int)=1)):Gm v=Em v L∧Fb v=Do v L:=by
 have hw':¬(v.whole∧v.evs.length=1):=fun k=>hw ⟨k.1,by omega⟩
 have e:Do v L=Fb v:=by rw [Do,if_neg (by omega),if_neg (by omega),if_neg hw']
 refine ⟨?_,e.symm⟩
 rw [Em,e,if_neg hw']
 split
 ·rename_i hn;rw [Gm,if_neg hn]
 ·rfl
theorem Us {v:Vo} {L a:Int} (h:Do v L=a) (ha:a≠0): []=Em v L∧a=Do v L:=⟨by rw [Em,h,if_pos ha],h.symm⟩
theorem Ajf {v:Vo} {L:Int} (h:Do v L=0) (hw:v.whole) (h1:(v.evs.length:Int)=1): [L]=Em v L∧0=Do v L:=⟨by rw [Em,h,if_neg (by decide),if_pos ⟨hw,by omega⟩],h.symm⟩
theorem Ag2 (v:Vo) (L:Int) (hE:Evs v.evs):XC Tryz.prog 115 [.agg (Vo.c v), .v (.int .i64 L)] (fun r=>r= .tup [.sl 1 (B2 (Em v L)),dI (Do v L)]):=by
 refine Ap Ab8 Tryz.func115 R R lb<|zr<|XL.step R (At 2 (l:= [.d (.sl 13 (v.evs.map Ev.c)), .d (.sl 4 (v.tups.map Tp.c))]) R R (by kernel_rfl))<|za R R<|za R R<|zn<|zs<|Ah<|zr<|zm R R<|zp (Au R R R)<|zm R R<|?_
 refine XL.dec 10 R (fun g10=> ?_) (fun g10=> ?_)
 refine zk 2 R<|zq R R R<|za R R<|zn<|A0 (by kernel_rfl) R<|zr<|za R R<|za R R<|zn<|zt<|?_
 exact A6 R (RV.nil (sz:=1) R R) (RV.tmp R R) (r2 (rSl (Xx (v:=v) (by omega)).1) (rI (Xx (v:=v) (by omega)).2))
 refine zm R R<|zp (Bb R R R)<|zq R R R<|za R R<|zn<|?_
 refine zd R (fun c7=> ?_) (fun c7=> ?_)
 refine zr<|za R R<|za R R<|zn<|zt<|?_
 exact A6 R (RV.nil (sz:=1) R R) (RV.tmp R R) (r2 (rSl (Xx (v:=v) (by omega)).1) (rI (Xx (v:=v) (by omega)).2))
 refine zr<|zp (Aa R R Bv)<|zp (Ab R R C9 R R)<|XL.len R R R Tryz.underlying79 fun hl17=>zp (Bb R R R)<|za R R<|zn<|?_
 refine zd R (fun c14=> ?_) (fun c14=> ?_)
 refine zr<|za R R<|za R R<|zn<|zt<|?_
 exact A6 R (RV.nil (sz:=1) R R) (RV.tmp R R) (r2 (rSl (Ans g10 c7 c14).1) (rI (Ans g10 c7 c14).2))
 refine zi<|zs<|zr<|zp (Ae (s':= .d (.agg (Vo.c v))) (Ac (Ad R R Aw R lb)) (by kernel_rfl))<|XL.call1 R R (Ak0 _) R<|zm R R<|?_
 refine XL.dec 21 R (fun g21=> ?_) (fun g21=> ?_)
 refine zp (Aa R R Bv)<|zp (Ab R R C9 R R)<|XL.len R R R Tryz.underlying79 fun hl24=>zp (A8 R R R)<|zq R R R<|zn<|?_
 refine zd R (fun c26=> ?_) (fun c26=> ?_)
 refine zs<|zs<|?_
 obtain ⟨e,hxe⟩:∃e,v.evs[0]? =some e:=Az (by omega)
 have he:=hE e (List.mem_of_getElem? hxe)
 have hle:=Ag3 (L:=L) g10 c7 c14 g21 c26 hxe
 refine Ag (by kernel_rfl)<|zp (Aa R R Bv)<|zp (Ab R R C9 R R)<|zp (Aj (k:=0) R R R Hv (hxe))<|zp (Ae (s':= .d (.agg (Ev.c e))) (Bf R R B0 lb) (by kernel_rfl))<|XL.call1 R R (Qp _ (by assumption)) R<|za R R<|znr<|zm R R<|zp (A5 R R R)<|zn<|?_
 refine zd R (fun c33=> ?_) (fun c33=> ?_)
 refine zr<|zm R R<|za R R<|za R R<|zn<|zt<|?_
 exact A6 R (RV.nil (sz:=1) R R) (RV.tmp R R) (r2 (rSl (Us (by rw [hle,if_pos c33]) c33).1) (rI (Us (by rw [hle,if_pos c33]) c33).2))
 refine zi<|zs<|zr<|zp (Aa R R B5)<|zp (Ab R R B6 R R)<|XL.len R R R Tryz.underlying80 fun hl37=>zp (Bb R R R)<|zn<|?_
 refine zd R (fun c38=> ?_) (fun c38=> ?_)
 refine zr<|za R R<|za R R<|zn<|zt<|?_
 exact A6 R (RV.nil (sz:=1) R R) (RV.tmp R R) (r2 (rSl (Us (a:=21) (by rw [hle,if_neg c33,if_pos (by omega)]) (by decide)).1) (rI (Us (a:=21) (by rw [hle,if_neg c33,if_pos (by omega)]) (by decide)).2))
 refine zi<|zr<|zm R R<|XL.step R (Bl 40 R Tryz.underlying45 D8 Fo R R (by omega) (by omega))<|zp (Ar R (by conv=>lhs;whnf))<|?_
 refine za R R<|zn<|zt<|B8 (i:=40) R<|?_
 exact A6 R (RV.tmp R R) (RV.tmp R R) (r2 (rSl (l:= [L]) (g:=iv) (Ajf (by rw [hle,if_neg c33,if_neg (by omega)]) g21 c26).1) (rI (Ajf (by rw [hle,if_neg c33,if_neg (by omega)]) g21 c26).2))
 refine zi<|zr<|zp (Ae (s':= .d (.agg (Vo.c v))) (Ac (Ad R R Aw R lb)) (by kernel_rfl))<|XL.call1 R R (Zi _ (by assumption) (by omega)) R<|zp (As R R R)<|zp (As R R R)<|za R R<|za R R<|zn<|zt<|?_
 exact A6 R (RV.tmp R R) (RV.tmp R R) (r2 (rSl (Xw g10 c7 c14 (fun h=>c26 h.2)).1) (rI (Xw g10 c7 c14 (fun h=>c26 h.2)).2))
 refine zk 4 R<|zq R R R<|zn<|A3 (by kernel_rfl) R<|zi<|zr<|zp (Ae (s':= .d (.agg (Vo.c v))) (Ac (Ad R R Aw R lb)) (by kernel_rfl))<|XL.call1 R R (Zi _ (by assumption) (by omega)) R<|zp (As R R R)<|zp (As R R R)<|za R R<|za R R<|zn<|zt<|?_
 exact A6 R (RV.tmp R R) (RV.tmp R R) (r2 (rSl (Xw g10 c7 c14 (fun h=>g21 h.1)).1) (rI (Xw g10 c7 c14 (fun h=>g21 h.1)).2))
end Go.Proofs.YtaafemnkamfgnaaGreat
namespace Go.Proofs.YtaafemnkamfgnaaGreat
open Go.RowKit
theorem Ao7 {l:List Tp} {n:Int} (hT:Tups l n) (ws:List Int):∀i x,x∈Cy l i ws→0≤x∧x≤253671505920:=by
 induction ws with
 |nil=>intro i x h;cases h
 |cons w r ih=>
  intro i x h
  rw [Cy] at h
  rcases List.mem_cons.1 h with e|e
  ·rw [e];exact Yp hT.ok (hT.hits i)
  ·exact ih _ _ e
theorem Agu (l:List Tp) (ws:List Int):Nums (G3 l ws):=by
 unfold G3
 split
 ·rename_i h
  have hT:=Na (show ¬C2 l ws≠0 by omega)
  have hb:=hT.bd
  exact ⟨by rw [Iv];omega,Ao7 hT ws 0⟩
 ·exact ⟨by simp,fun x h=>by cases h⟩
theorem Sk:Nums []:=⟨by simp,fun x h=>by cases h⟩
theorem Ai1 (v:Vo):Nums (Gm v):=by
 unfold Gm
 split
 ·exact Agu _ _
 ·exact Sk
theorem Wm (v:Vo) (L:Int):Nums (Em v L):=by
 unfold Em
 split
 ·exact Sk
 ·rename_i h
  split
  ·refine ⟨by simp,fun x hx=> ?_⟩
   rw [List.mem_singleton.1 hx]
   unfold Do at h
   split at h
   ·omega
   ·omega
  ·exact Ai1 v
theorem H9 (v:Vo) (L:Int):Nums (ckL v L):=by
 unfold ckL
 split
 ·exact Sk
 ·exact Wm v L
theorem Asa {v:Vo} {L:Int} (h0:Do v L=0) (h1:0<((Em v L).length:Int)) (h2:tot (Em v L)≠L): []=ckL v L∧20=ckE v L:=by
 have e:ckE v L=20:=by rw [ckE,if_pos ⟨h0,by omega,h2⟩]
 exact ⟨by rw [ckL,e,if_pos (by decide)],e.symm⟩
theorem Ahk {v:Vo} {L:Int} (h0:Do v L=0) (h:¬(0<((Em v L).length:Int)∧tot (Em v L)≠L)):Em v L=ckL v L∧0=ckE v L:=by
 have e:ckE v L=0:=by rw [ckE,if_neg (fun k=>h ⟨by omega,k.2.2⟩),h0]
 exact ⟨by rw [ckL,e,if_neg (by decide)],e.symm⟩
theorem Ar9 {v:Vo} {L:Int} (h:Do v L≠0): []=ckL v L∧Do v L=ckE v L:=by
 have e:ckE v L=Do v L:=by rw [ckE,if_neg (fun k=>h k.1)]
 exact ⟨by rw [ckL,e,if_pos h],e.symm⟩
theorem Kh (v:Vo) (L:Int) (hE:Evs v.evs):XC Tryz.prog 95 [.agg (Vo.c v), .v (.int .i64 L)] (fun r=>r= .tup [.sl 1 (B2 (ckL v L)),dI (ckE v L)]):=by
 have hN:=Wm v L
 refine Ap Adc Tryz.func95 R R lb<|zr<|XL.step R (At 2 (l:= [.d (.sl 13 (v.evs.map Ev.c)), .d (.sl 4 (v.tups.map Tp.c))]) R R (by kernel_rfl))<|za R R<|za R R<|znr<|zp (Ae (s':= .d (.agg (Vo.c v))) (Ac (Ad R R Aw R lb)) (by kernel_rfl))<|zm R R<|XL.call1 R R (Ag2 _ _ (by assumption)) R<|zm R R<|zp (As R R R)<|zp (As R R R)<|za R R<|za R R<|?_
 refine zn<|zs<|zr<|zm R R<|zp (A8 R R R)<|zm R R<|?_
 refine XL.dec 16 R (fun g16=> ?_) (fun g16=> ?_)
 refine zm R R<|XL.len R R R Tryz.underlying45 fun hl18=>zp (Bb R R R)<|zq R R R<|zm R R<|?_
 refine XL.dec 21 R (fun g21=> ?_) (fun g21=> ?_)
 refine zm R R<|XL.call1 R R (Ak5 _ (by assumption)) R<|zm R R<|zp (A5 R R R)<|zq R R R<|zn<|?_
 refine zd R (fun c26=> ?_) (fun c26=> ?_)
 refine Ag (by kernel_rfl)<|za R R<|zn<|zs<|zr<|zm R R<|zp (A5 R R R)<|zn<|?_
 refine zd R (fun c28=> ?_) (fun c28=> ?_)
 refine zr<|zm R R<|za R R<|za R R<|zn<|zt<|?_
 exact A6 R (RV.nil (sz:=1) R R) (RV.tmp R R) (r2 (rSl (Asa g16 g21 c26).1) (rI (Asa g16 g21 c26).2))
 refine zi<|zr<|zm R R<|za R R<|za R R<|zn<|zt<|?_
 exact A6 R (RV.tmp R R) (RV.tmp R R) (by exfalso;omega)
 refine zi<|zs<|zr<|zm R R<|zp (A5 R R R)<|zn<|?_
 refine zd R (fun c28=> ?_) (fun c28=> ?_)
 refine zr<|zm R R<|za R R<|za R R<|zn<|zt<|?_
 exact A6 R (RV.nil (sz:=1) R R) (RV.tmp R R) (by exfalso;omega)
 refine zi<|zr<|zm R R<|za R R<|za R R<|zn<|zt<|?_
 exact A6 R (RV.tmp R R) (RV.tmp R R) (r2 (rSl (Ahk g16 (fun h=>c26 h.2)).1) (rI (Ahk g16 (fun h=>c26 h.2)).2))
 refine zk 4 R<|zq R R R<|zn<|A3 (by kernel_rfl) R<|zi<|zs<|zr<|zm R R<|zp (A5 R R R)<|zn<|?_
 refine zd R (fun c28=> ?_) (fun c28=> ?_)
 refine zr<|zm R R<|za R R<|za R R<|zn<|zt<|?_
 exact A6 R (RV.nil (sz:=1) R R) (RV.tmp R R) (by exfalso;omega)
 refine zi<|zr<|zm R R<|za R R<|za R R<|zn<|zt<|?_
 exact A6 R (RV.tmp R R) (RV.tmp R R) (r2 (rSl (Ahk g16 (fun h=>g21 h.1)).1) (rI (Ahk g16 (fun h=>g21 h.1)).2))
 refine zk 3 R<|zq R R R<|zm R R<|zk 4 R<|zq R R R<|zn<|A3 (by kernel_rfl) R<|zi<|zs<|zr<|zm R R<|zp (A5 R R R)<|zn<|?_
 refine zd R (fun c28=> ?_) (fun c28=> ?_)
 refine zr<|zm R R<|za R R<|za R R<|zn<|zt<|?_
 exact A6 R (RV.nil (sz:=1) R R) (RV.tmp R R) (r2 (rSl (Ar9 g16).1) (rI (Ar9 g16).2))
 refine zi<|zr<|zm R R<|za R R<|za R R<|zn<|zt<|?_
 exact A6 R (RV.tmp R R) (RV.tmp R R) (by exfalso;omega)
theorem Ahr (v:Vo) (L:Int) (hE:Evs v.evs):XC Tryz.prog 60 [.agg (Vo.c v), .v (.int .i64 L)] (fun r=>r= .tup [.sl 1 (B2 (ckL v L)),dI (ckE v L)]):=by
 refine Ap Adu Tryz.func60 R R lb<|zr<|XL.step R (At 2 (l:= [.d (.sl 13 (v.evs.map Ev.c)), .d (.sl 4 (v.tups.map Tp.c))]) R R (by kernel_rfl))<|za R R<|za R R<|znr<|zp (Ae (s':= .d (.agg (Vo.c v))) (Ac (Ad R R Aw R lb)) (by kernel_rfl))<|zm R R<|XL.call1 R R (Kh _ _ (by assumption)) R<|zp (As R R R)<|zp (As R R R)<|za R R<|za R R<|zn<|?_
 refine zt<|?_
 exact A6 R (RV.tmp R R) (RV.tmp R R) (R)
theorem M7 (v:Vo) (L:Int) (hE:Evs v.evs):XC Tryz.prog 71 [.agg (Vo.c v), .v (.int .i64 L)] (fun r=>r=dI (ckE v L)):=by
 refine Ap Adk Tryz.func71 R R lb<|zr<|XL.step R (At 2 (l:= [.d (.sl 13 (v.evs.map Ev.c)), .d (.sl 4 (v.tups.map Tp.c))]) R R (by kernel_rfl))<|za R R<|znr<|zp (Ae (s':= .d (.agg (Vo.c v))) (Ac (Ad R R Aw R lb)) (by kernel_rfl))<|zm R R<|XL.call1 R R (Kh _ _ (by assumption)) R<|zm R R<|zp (As R R R)<|zp (As R R R)<|za R R<|za R R<|znr<|?_
 exact zm R R<|za R R<|zn<|zt<|z1 R R (R)
theorem Aq6 {v:Vo} {L:Int} (h:ckE v L≠0): []=A9 (ckL v L):=by rw [ckL,if_pos h];rfl
theorem Q4 (v:Vo) (L:Int) (hE:Evs v.evs):XC Tryz.prog 57 [.agg (Vo.c v), .v (.int .i64 L)] (fun r=>r= .tup [.sl 1 (B2 (A9 (ckL v L))),dI (ckE v L)]):=by
 have hN:=H9 v L
 refine Ap Adx Tryz.func57 R R lb<|zr<|XL.step R (At 2 (l:= [.d (.sl 13 (v.evs.map Ev.c)), .d (.sl 4 (v.tups.map Tp.c))]) R R (by kernel_rfl))<|za R R<|za R R<|znr<|zp (Ae (s':= .d (.agg (Vo.c v))) (Ac (Ad R R Aw R lb)) (by kernel_rfl))<|zm R R<|XL.call1 R R (Kh _ _ (by assumption)) R<|zm R R<|zp (As R R R)<|zp (As R R R)<|za R R<|za R R<|?_
 refine zn<|zs<|zr<|zm R R<|zp (A5 R R R)<|zn<|?_
 refine zd R (fun c15=> ?_) (fun c15=> ?_)
 refine zr<|zm R R<|za R R<|za R R<|zn<|zt<|?_
 exact A6 R (RV.nil (sz:=1) R R) (RV.tmp R R) (r2 (rSl (Aq6 c15)) R)
 refine zi<|zr<|zm R R<|XL.call1 R R (Wj _ (by assumption)) R<|za R R<|za R R<|zn<|zt<|?_
 exact A6 R (RV.tmp R R) (RV.tmp R R) (r2 R (rI (by omega)))
def atS (l:List Int) (t:Int):Nat→Int × Int
 |0=>(0,0)
 |k+1=>match l[k]? with
  |some x=>if tot (l.take k)≤t∧0<x then (k,tot (l.take k)) else atS l t k
  |none=>atS l t k
theorem Acf {l:List Int} {t x:Int} {k:Nat} (h:l[k]? =some x) (h1:tot (l.take k)≤t) (h2:0<x):atS l t (k+1)=((k:Int),tot (l.take k)):=by simp only [atS,h];rw [if_pos ⟨h1,h2⟩]
theorem Og {l:List Int} {t x:Int} {k:Nat} (h:l[k]? =some x) (h1:¬(tot (l.take k)≤t∧0<x)):atS l t (k+1)=atS l t k:=by simp only [atS,h];rw [if_neg h1]
def atE (v:Vo) (L t:Int):Int:=if ckE v L≠0 then ckE v L else if (ckL v L).length=0 then 10 else if t<0∨L≤t then 2 else 0
def atV (v:Vo) (L t:Int):Int × Int:=if atE v L t≠0 then (0,0) else atS (ckL v L) t (ckL v L).length
theorem H8 {l:List Int} {k:Nat} {x:Int} (h:(A9 l)[k]? =some x):x=tot (l.take k):=by
 have hk:=(List.getElem?_eq_some_iff.1 h).1
 rw [A9,List.length_map,List.length_range] at hk
 rw [A9,List.getElem?_map,List.getElem?_range hk] at h
 cases h;rfl
theorem Ha (l:List Int):(A9 l).length=l.length:=by rw [A9,List.length_map,List.length_range]
theorem Lq {v:Vo} {L t a:Int} (h:atE v L t=a) (ha:a≠0):0=(atV v L t).1∧0=(atV v L t).2∧a=atE v L t:=by
 have e:atV v L t=(0,0):=by rw [atV,h,if_pos ha]
 rw [e];exact ⟨rfl,rfl,h.symm⟩
theorem Aho {v:Vo} {L t:Int} (h:ckE v L≠0):atE v L t=ckE v L:=by rw [atE,if_pos h]
theorem Ahn {v:Vo} {L t:Int} (h:¬ckE v L≠0) (h2:((ckL v L).length:Int)=0):atE v L t=10:=by rw [atE,if_neg h,if_pos (by omega)]
theorem Vv {v:Vo} {L t:Int} (h:¬ckE v L≠0) (h2:¬((ckL v L).length:Int)=0) (h3:t<0∨L≤t):atE v L t=2:=by rw [atE,if_neg h,if_neg (by omega),if_pos h3]
theorem Anf {v:Vo} {L t:Int} (h:¬ckE v L≠0) (h2:¬((ckL v L).length:Int)=0) (h3:¬(t<0∨L≤t)):atS (ckL v L) t (ckL v L).length=atV v L t∧0=atE v L t:=by
 have e:atE v L t=0:=by rw [atE,if_neg h,if_neg (by omega),if_neg h3]
 exact ⟨by rw [atV,e,if_neg (by decide)],e.symm⟩
theorem Ath (v:Vo) (L t:Int) (hE:Evs v.evs):XC Tryz.prog 61 [.agg (Vo.c v), .v (.int .i64 L), .v (.int .i64 t)] (fun r=>r= .tup [dI (atV v L t).1,dI (atV v L t).2,dI (atE v L t)]):=by
 have hN:=H9 v L
 have hol:=Ha (ckL v L)
 refine Ap Adt Tryz.func61 R R lb<|zr<|XL.step R (At 3 (l:= [.d (.sl 13 (v.evs.map Ev.c)), .d (.sl 4 (v.tups.map Tp.c))]) R R (by kernel_rfl))<|za R R<|za R R<|za R R<|znr<|zp (Ae (s':= .d (.agg (Vo.c v))) (Ac (Ad R R Aw R lb)) (by kernel_rfl))<|zm R R<|XL.call1 R R (Kh _ _ (by assumption)) R<|zm R R<|zp (As R R R)<|zp (As R R R)<|za R R<|?_
 refine za R R<|zn<|zs<|Ah<|zr<|zm R R<|zp (A5 R R R)<|za R R<|zn<|?_
 refine zd R (fun c18=> ?_) (fun c18=> ?_)
 refine zr<|zm R R<|za R R<|za R R<|za R R<|zn<|zt<|?_
 exact Vg R (RV.tmp R R) (RV.tmp R R) (RV.tmp R R) (r3 (rI (Lq (t:=t) (Aho c18) c18).1) (rI (Lq (t:=t) (Aho c18) c18).2.1) (rI (Lq (t:=t) (Aho c18) c18).2.2))
 refine zr<|zm R R<|XL.len R R R Tryz.underlying45 fun hl24=>zp (A8 R R R)<|za R R<|zn<|?_
 refine zd R (fun c22=> ?_) (fun c22=> ?_)
 refine zr<|za R R<|za R R<|za R R<|zn<|zt<|?_
 exact Vg R (RV.tmp R R) (RV.tmp R R) (RV.tmp R R) (r3 (rI (Lq (t:=t) (Ahn c18 c22) (by decide)).1) (rI (Lq (t:=t) (Ahn c18 c22) (by decide)).2.1) (rI (Lq (t:=t) (Ahn c18 c22) (by decide)).2.2))
 refine zr<|zm R R<|zp (Au R R R)<|zm R R<|?_
 refine XL.dec 29 R (fun g29=> ?_) (fun g29=> ?_)
 refine zk 3 R<|zq R R R<|za R R<|zn<|A0 (by kernel_rfl) R<|zr<|za R R<|za R R<|za R R<|zn<|zt<|?_
 exact Vg R (RV.tmp R R) (RV.tmp R R) (RV.tmp R R) (r3 (rI (Lq (Vv c18 c22 (by omega)) (by decide)).1) (rI (Lq (Vv c18 c22 (by omega)) (by decide)).2.1) (rI (Lq (Vv c18 c22 (by omega)) (by decide)).2.2))
 refine zm R R<|zm R R<|zp (F7 R R R)<|zq R R R<|za R R<|zn<|?_
 refine zd R (fun c26=> ?_) (fun c26=> ?_)
 refine zr<|za R R<|za R R<|za R R<|zn<|zt<|?_
 exact Vg R (RV.tmp R R) (RV.tmp R R) (RV.tmp R R) (r3 (rI (Lq (Vv c18 c22 (by omega)) (by decide)).1) (rI (Lq (Vv c18 c22 (by omega)) (by decide)).2.1) (rI (Lq (Vv c18 c22 (by omega)) (by decide)).2.2))
 refine zi<|zs<|zr<|zm R R<|XL.call1 R R (Wj _ (by assumption)) R<|XL.len R R R Tryz.underlying45 fun hl36=>zm R R<|zn<|Ah<|?_
 refine A4 (α:=Nat) (fun k=>k≤(A9 (ckL v L)).length) (fun k=>mkF [(2, .d (dI t)),(6, .d (dI (atS (ckL v L) t k).1)),(7, .d (dI (atS (ckL v L) t k).2)),(8, .d (dI (ckE v L))),(9, .d (.sl 1 (B2 (ckL v L)))),(35, .d (.sl 1 (B2 (A9 (ckL v L))))),(36, .d (dI (A9 (ckL v L)).length)),(37, .d (dI k))]) (fun k=>mkH []) (fun k=>(A9 (ckL v L)).length - k) (0) (Nat.zero_le _) ?_ ?_ ?_
 exact fz ⟨sr,sr,sr,sr,sr,sr,sr,sr,trivial⟩
 exact HSub.nil
 intro k hk1
 refine zr<|zp (Au R R R)<|zn<|zs<|?_
 refine zd R (fun c38=> ?_) (fun c38=> ?_)
 have hk1a:k<(A9 (ckL v L)).length:=by omega
 obtain ⟨x1,hx1⟩:=Az hk1a
 have hxe:=H8 hx1
 obtain ⟨y,hy⟩:∃y,(ckL v L)[k]? =some y:=Az (by omega)
 refine zi<|zs<|Ah<|zr<|zm R R<|zp (Aj R R R Cc hx1)<|zp (Am R R Ai)<|za R R<|za R R<|znr<|zm R R<|zm R R<|zp (Nl R R R)<|zm R R<|?_
 refine XL.dec 45 R (fun g45=> ?_) (fun g45=> ?_)
 refine zm R R<|zm R R<|zp (Aj R R R Cc (hy))<|zp (Am R R Ai)<|zp (Bb R R R)<|zq R R R<|zn<|?_
 refine zd R (fun c51=> ?_) (fun c51=> ?_)
 refine Ag (by kernel_rfl)<|zm R R<|zm R R<|za R R<|za R R<|zn<|Ag (by kernel_rfl)<|zp (Al R R R (by omega) (by omega))<|zm R R<|zn<|?_
 exact An (k+1) (by omega) (by omega) (fz ⟨sr, .same (sI (by rw [Acf hy (by rw [←H8 hx1];exact g45) c51])), .same (sI (by rw [Acf hy (by rw [←H8 hx1];exact g45) c51];exact H8 hx1)),sr,sr,sr,sr,sr,trivial⟩) (HSub.nil)
 refine zi<|Ag (by kernel_rfl)<|zp (Al R R R (by omega) (by omega))<|zm R R<|zn<|?_
 exact An (k+1) (by omega) (by omega) (fz ⟨sr, .same (sI (by rw [Og hy (fun h=>c51 h.2)])), .same (sI (by rw [Og hy (fun h=>c51 h.2)])),sr,sr,sr,sr,sr,trivial⟩) (HSub.nil)
 refine zk 5 R<|zq R R R<|zn<|A3 (by kernel_rfl) R<|zi<|Ag (by kernel_rfl)<|zp (Al R R R (by omega) (by omega))<|zm R R<|zn<|?_
 exact An (k+1) (by omega) (by omega) (fz ⟨sr, .same (sI (by rw [Og hy (fun h=>g45 (by rw [H8 hx1];exact h.1))])), .same (sI (by rw [Og hy (fun h=>g45 (by rw [H8 hx1];exact h.1))])),sr,sr,sr,sr,sr,trivial⟩) (HSub.nil)
 have hk1b:k=(A9 (ckL v L)).length:=by omega
 have hke:k=(ckL v L).length:=by omega
 refine Av<|zr<|zm R R<|zm R R<|za R R<|za R R<|za R R<|zn<|zt<|?_
 exact Vg R (RV.tmp R R) (RV.tmp R R) (RV.tmp R R) (r3 (rI (by rw [hke,(Anf c18 c22 (by omega)).1])) (rI (by rw [hke,(Anf c18 c22 (by omega)).1])) (rI (Anf c18 c22 (by omega)).2))
end Go.Proofs.YtaafemnkamfgnaaGreat
namespace Go.Proofs.YtaafemnkamfgnaaGreat
open Go.RowKit
set_option maxRecDepth 4000
set_option maxHeartbeats 4000000 in
theorem Afl (d:Nat) (w:World) (a0 a1 a2 a3 a4 a5 b0 b1 b2 b3 b4 b5:Int):(Op.equalIn (d+2) 24 (.agg #[.int .i64 a0, .int .i64 a1, .int .i64 a2, .int .i64 a3, .int .i64 a4, .int .i64 a5]) (.agg #[.int .i64 b0, .int .i64 b1, .int .i64 b2, .int .i64 b3, .int .i64 b4, .int .i64 b5])).run Tryz.prog w=
  .ok (decide (a0=b0∧a1=b1∧a2=b2∧a3=b3∧a4=b4∧a5=b5)) w:=by
 rw [show d+2=(d+1)+1 from rfl]
 have hp:∀(cs:Array Value) (k:Nat) (v:Value),cs[k]? =some v→(part 3 cs k).run Tryz.prog w= .ok v w:=fun cs k v h=>Df Ai w h
 have he:∀a b:Int,(Op.equalIn (d+1) 3 (.int .i64 a) (.int .i64 b)).run Tryz.prog w= .ok (decide (a=b)) w:=fun a b=>Fi d 3 Tryz.underlying3 a b
 have ha0:=hp (#[.int .i64 a0, .int .i64 a1, .int .i64 a2, .int .i64 a3, .int .i64 a4, .int .i64 a5]) ((0)*1) (.int .i64 a0) rfl
 have hb0:=hp (#[.int .i64 b0, .int .i64 b1, .int .i64 b2, .int .i64 b3, .int .i64 b4, .int .i64 b5]) ((0)*1) (.int .i64 b0) rfl
 have ha1:=hp (#[.int .i64 a0, .int .i64 a1, .int .i64 a2, .int .i64 a3, .int .i64 a4, .int .i64 a5]) ((0+1)*1) (.int .i64 a1) rfl
 have hb1:=hp (#[.int .i64 b0, .int .i64 b1, .int .i64 b2, .int .i64 b3, .int .i64 b4, .int .i64 b5]) ((0+1)*1) (.int .i64 b1) rfl
 have ha2:=hp (#[.int .i64 a0, .int .i64 a1, .int .i64 a2, .int .i64 a3, .int .i64 a4, .int .i64 a5]) ((0+1+1)*1) (.int .i64 a2) rfl
 have hb2:=hp (#[.int .i64 b0, .int .i64 b1, .int .i64 b2, .int .i64 b3, .int .i64 b4, .int .i64 b5]) ((0+1+1)*1) (.int .i64 b2) rfl
 have ha3:=hp (#[.int .i64 a0, .int .i64 a1, .int .i64 a2, .int .i64 a3, .int .i64 a4, .int .i64 a5]) ((0+1+1+1)*1) (.int .i64 a3) rfl
 have hb3:=hp (#[.int .i64 b0, .int .i64 b1, .int .i64 b2, .int .i64 b3, .int .i64 b4, .int .i64 b5]) ((0+1+1+1)*1) (.int .i64 b3) rfl
 have ha4:=hp (#[.int .i64 a0, .int .i64 a1, .int .i64 a2, .int .i64 a3, .int .i64 a4, .int .i64 a5]) ((0+1+1+1+1)*1) (.int .i64 a4) rfl
 have hb4:=hp (#[.int .i64 b0, .int .i64 b1, .int .i64 b2, .int .i64 b3, .int .i64 b4, .int .i64 b5]) ((0+1+1+1+1)*1) (.int .i64 b4) rfl
 have ha5:=hp (#[.int .i64 a0, .int .i64 a1, .int .i64 a2, .int .i64 a3, .int .i64 a4, .int .i64 a5]) ((0+1+1+1+1+1)*1) (.int .i64 a5) rfl
 have hb5:=hp (#[.int .i64 b0, .int .i64 b1, .int .i64 b2, .int .i64 b3, .int .i64 b4, .int .i64 b5]) ((0+1+1+1+1+1)*1) (.int .i64 b5) rfl
 clear hp
 generalize hd:d+1=d1 at*
 generalize hA:(#[.int .i64 a0, .int .i64 a1, .int .i64 a2, .int .i64 a3, .int .i64 a4, .int .i64 a5]:Array Value)=A at*
 generalize hB:(#[.int .i64 b0, .int .i64 b1, .int .i64 b2, .int .i64 b3, .int .i64 b4, .int .i64 b5]:Array Value)=B at*
 unfold Op.equalIn
 simp only [Sem.run_bind,run_underlying Tryz.underlying24,Result.andThen_ok,sizeB.run D8]
 simp only [Std.Legacy.Range.forIn_eq_forIn_range',Std.Legacy.Range.size,List.range',List.forIn_cons,List.forIn_nil]
 by_cases e0:a0=b0
 rotate_left
 ·simp_all
 by_cases e1:a1=b1
 rotate_left
 ·simp_all
 by_cases e2:a2=b2
 rotate_left
 ·simp_all
 by_cases e3:a3=b3
 rotate_left
 ·simp_all
 by_cases e4:a4=b4
 rotate_left
 ·simp_all
 by_cases e5:a5=b5
 rotate_left
 ·simp_all
 ·simp_all
theorem Al0 {t':TypeId} {o:Oper} {e:Operand→S} {h:Xh} {x y:Operand} {a0:Int} {a1:Int} {a2:Int} {a3:Int} {a4:Int} {a5:Int} {b0:Int} {b1:Int} {b2:Int} {b3:Int} {b4:Int} {b5:Int} (ho:o.op= .binOp .eql 24 x y t') (hx:e x= .d (.agg [.v (.int .i64 a0), .v (.int .i64 a1), .v (.int .i64 a2), .v (.int .i64 a3), .v (.int .i64 a4), .v (.int .i64 a5)])) (hy:e y= .d (.agg [.v (.int .i64 b0), .v (.int .i64 b1), .v (.int .i64 b2), .v (.int .i64 b3), .v (.int .i64 b4), .v (.int .i64 b5)])):Bi Tryz.prog o e h (.d (.v (.bool (decide (a0=b0∧a1=b1∧a2=b2∧a3=b3∧a4=b4∧a5=b5))))):=by
 refine G9 ho hx hy rfl rfl (by kernel_rfl) fun w=> ?_
 refine (run_eql_struct w 24 #[.int .i64 a0, .int .i64 a1, .int .i64 a2, .int .i64 a3, .int .i64 a4, .int .i64 a5] #[.int .i64 b0, .int .i64 b1, .int .i64 b2, .int .i64 b3, .int .i64 b4, .int .i64 b5]).trans ?_
 have hq:=Afl 9998 w a0 a1 a2 a3 a4 a5 b0 b1 b2 b3 b4 b5
 simp only [Nat.reduceAdd] at hq
 rw [hq]
 simp only [Result.andThen_ok]
theorem Alv {t':TypeId} {o:Oper} {e:Operand→S} {h:Xh} {x y:Operand} {a0:Int} {a1:Int} {a2:Int} {a3:Int} {a4:Int} {a5:Int} {b0:Int} {b1:Int} {b2:Int} {b3:Int} {b4:Int} {b5:Int} (ho:o.op= .binOp .neq 24 x y t') (hx:e x= .d (.agg [.v (.int .i64 a0), .v (.int .i64 a1), .v (.int .i64 a2), .v (.int .i64 a3), .v (.int .i64 a4), .v (.int .i64 a5)])) (hy:e y= .d (.agg [.v (.int .i64 b0), .v (.int .i64 b1), .v (.int .i64 b2), .v (.int .i64 b3), .v (.int .i64 b4), .v (.int .i64 b5)])):Bi Tryz.prog o e h (.d (.v (.bool (decide (¬(a0=b0∧a1=b1∧a2=b2∧a3=b3∧a4=b4∧a5=b5)))))):=by
 refine G9 ho hx hy rfl rfl (by kernel_rfl) fun w=> ?_
 refine (run_neq_struct w 24 #[.int .i64 a0, .int .i64 a1, .int .i64 a2, .int .i64 a3, .int .i64 a4, .int .i64 a5] #[.int .i64 b0, .int .i64 b1, .int .i64 b2, .int .i64 b3, .int .i64 b4, .int .i64 b5]).trans ?_
 have hq:=Afl 9998 w a0 a1 a2 a3 a4 a5 b0 b1 b2 b3 b4 b5
 simp only [Nat.reduceAdd] at hq
 rw [hq]
 simp only [Result.andThen_ok,decide_not]
end Go.Proofs.YtaafemnkamfgnaaGreat
namespace Go.Proofs.YtaafemnkamfgnaaGreat
open Go.RowKit
theorem Arq {m:Me} {k:Nat} {g:Int} (h:m.gs[k]? =some g): [dI m.g0,dI m.g1,dI m.g2,dI m.g3,dI m.g4,dI m.g5][k]? =some (dI g):=by
 have:(m.gs.map dI)[k]? =some (dI g):=by rw [List.getElem?_map,h];rfl
 exact this
def Me.flat (m:Me):Prop:=m.g0=0∧m.g1=0∧m.g2=0∧m.g3=0∧m.g4=0∧m.g5=0
instance (m:Me):Decidable m.flat:=by unfold Me.flat;exact inferInstance
def gGo (k:Nat) (s n:Int):List Int→Option (Int × Int)
 | []=>some (s,n)
 |g::r=>if g<0∨64<g∨(0<g∧(k:Int)≠n) then none else if 0<g then gGo (k+1) (s+g) (n+1) r else gGo (k+1) s n r
def gOk (c:Int) (o:Option (Int × Int)):Prop:=match o with|some p=>p.1=c∧2≤p.2|none=>False
instance (c:Int) (o:Option (Int × Int)):Decidable (gOk c o):=by unfold gOk;cases o<;>exact inferInstance
def Me.grouped (m:Me):Prop:=m.flat∨gOk m.count (gGo 0 0 0 m.gs)
instance (m:Me):Decidable m.grouped:=by unfold Me.grouped;exact inferInstance
theorem Tc {m:Me} {k:Nat} {g s n:Int} (h:m.gs[k]? =some g) (hb:g<0∨64<g∨(0<g∧(k:Int)≠n)):gGo k s n (m.gs.drop k)=none:=by rw [Bz h,gGo,if_pos hb]
theorem Apt {m:Me} {k:Nat} {g s n:Int} (h:m.gs[k]? =some g) (hb:¬(g<0∨64<g∨(0<g∧(k:Int)≠n))) (hg:0<g):gGo k s n (m.gs.drop k)=gGo (k+1) (s+g) (n+1) (m.gs.drop (k+1)):=by rw [Bz h,gGo,if_neg hb,if_pos hg]
theorem Ars {m:Me} {k:Nat} {g s n:Int} (h:m.gs[k]? =some g) (hb:¬(g<0∨64<g∨(0<g∧(k:Int)≠n))) (hg:¬0<g):gGo k s n (m.gs.drop k)=gGo (k+1) s n (m.gs.drop (k+1)):=by rw [Bz h,gGo,if_neg hb,if_neg hg]
theorem Apr {m:Me} (h:m.grouped):true=decide m.grouped:=by rw [decide_eq_true h]
theorem Zm {m:Me} (h1:¬m.flat) (h:gGo 0 0 0 m.gs=none):false=decide m.grouped:=by rw [decide_eq_false];exact fun k=>k.elim h1 (by rw [h];exact fun k=>k)
theorem Ajv {m:Me} (h1:¬m.flat) {s n:Int} (h:gGo 0 0 0 m.gs=some (s,n)):m.grouped↔s=m.count∧2≤n:=by
 unfold Me.grouped
 rw [h]
 exact ⟨fun k=>k.elim (fun k=>absurd k h1) fun k=>k,fun k=> .inr k⟩
theorem Ag8 (m:Me):XC Tryz.prog 92 [.agg (Me.c m)] (fun r=>r=dB (decide m.grouped)):=by
 refine Ap Adf Tryz.func92 R R lb<|zr<|XL.step R (At 1 (l:= [.d (dI m.count), .d (dI m.unit), .d (dI m.g0), .d (dI m.g1), .d (dI m.g2), .d (dI m.g3), .d (dI m.g4), .d (dI m.g5)]) R R (by kernel_rfl))<|za R R<|zn<|zs<|zr<|zp (Aa R R O6)<|?_
 refine zp (Ae (s':= .d (.agg [dI m.g0,dI m.g1,dI m.g2,dI m.g3,dI m.g4,dI m.g5])) (Ac (Ad R R Ach R lb)) (by kernel_rfl))<|zp (Ae (s':= .d (.agg [dI 0,dI 0,dI 0,dI 0,dI 0,dI 0])) (Ac (Ox R Tryz.underlying24 D8 Aef R)) (by kernel_rfl))<|zp (Al0 R R R)<|zn<|?_
 refine zd R (fun c10=> ?_) (fun c10=> ?_)
 exact zr<|za R R<|zn<|zt<|z1 R R (rB (Apr (.inl c10)))
 refine zi<|zr<|za R R<|za R R<|zn<|zs<|zr<|zp (Aa R R O6)<|zp (Ae (s':= .d (.agg [dI m.g0,dI m.g1,dI m.g2,dI m.g3,dI m.g4,dI m.g5])) (Ac (Ad R R Ach R lb)) (by kernel_rfl))<|zm R R<|zn<|Ah<|?_
 refine A4 (α:=Nat × Int × Int) (fun p=>p.1≤6∧gGo p.1 p.2.1 p.2.2 (m.gs.drop p.1)=gGo 0 0 0 m.gs∧0≤p.2.1∧p.2.1≤64*p.1∧0≤p.2.2∧p.2.2≤p.1) (fun p=>mkF [(1, .ptr 1 0 0),(3, .d (dI p.2.1)),(4, .d (dI p.2.2)),(12, .d (.agg [dI m.g0,dI m.g1,dI m.g2,dI m.g3,dI m.g4,dI m.g5])),(13, .d (dI p.1))]) (fun p=>mkH [(1, .box ((Me.c m).map S.d))]) (fun p=>6 - p.1) ((0,0,0)) (⟨Nat.zero_le _,R,by simp,by simp,by simp,by simp⟩) ?_ ?_ ?_
 exact fz ⟨sr,sr,sr,sr,sr,trivial⟩
 exact gz ⟨R,trivial⟩
 intro p hk0
 obtain ⟨hk,hgo,hs0,hs1,hn0,hn1⟩:=hk0
 refine zr<|zp (Au R R R)<|zn<|zs<|?_
 refine zd R (fun c14=> ?_) (fun c14=> ?_)
 obtain ⟨g,hg⟩:∃g,m.gs[p.1]? =some g:=Az (by show p.1<6;omega)
 refine zi<|zs<|Ah<|zr<|zm R R<|zp (Wg (k:=p.1) R R R R Tryz.underlying24 Ai D8 (by omega) (Arq hg))<|za R R<|za R R<|zn<|Ah<|zr<|zm R R<|zp (Au R R R)<|zm R R<|?_
 refine XL.dec 20 R (fun g20=> ?_) (fun g20=> ?_)
 exact zk 2 R<|zq R R R<|zm R R<|zk 7 R<|zq R R R<|za R R<|zn<|A0 (by kernel_rfl) R<|zr<|za R R<|zn<|zt<|z1 R R (rB (Zm c10 (by rw [←hgo];exact Tc hg (by omega))))
 refine zm R R<|zp (Bb R R R)<|zq R R R<|zm R R<|?_
 refine XL.dec 24 R (fun g24=> ?_) (fun g24=> ?_)
 exact zk 7 R<|zq R R R<|za R R<|zn<|A0 (by kernel_rfl) R<|zr<|za R R<|zn<|zt<|z1 R R (rB (Zm c10 (by rw [←hgo];exact Tc hg (by omega))))
 refine zm R R<|zp (Bb R R R)<|zm R R<|?_
 refine XL.dec 27 R (fun g27=> ?_) (fun g27=> ?_)
 refine zm R R<|zm R R<|zp (A5 R R R)<|zq R R R<|zq R R R<|za R R<|zn<|?_
 refine zd R (fun c17=> ?_) (fun c17=> ?_)
 exact zr<|za R R<|zn<|zt<|z1 R R (rB (Zm c10 (by rw [←hgo];exact Tc hg (by omega))))
 refine zr<|zm R R<|zp (Bb R R R)<|za R R<|zn<|?_
 refine zd R (fun c33=> ?_) (fun c33=> ?_)
 refine Ag (by kernel_rfl)<|zm R R<|zm R R<|zp (Al R R R (by omega) (by omega))<|zm R R<|zp (Al R R R (by omega) (by omega))<|za R R<|za R R<|zn<|Ag (by kernel_rfl)<|zp (Al R R R (by omega) (by omega))<|zm R R<|zn<|?_
 exact An ((p.1+1,p.2.1+g,p.2.2+1)) (⟨by simp only;omega,by rw [←Apt hg (by omega) c33];exact hgo,by simp only;omega,by simp only;omega,by simp only;omega,by simp only;omega⟩) (by simp only;omega) (fz ⟨sr,sr,sr,sr,sr,trivial⟩) (gz ⟨rfl,trivial⟩)
 refine zi<|Ag (by kernel_rfl)<|zp (Al R R R (by omega) (by omega))<|zm R R<|zn<|?_
 exfalso;omega
 refine zk 3 R<|zq R R R<|zq R R R<|za R R<|zn<|A3 (by kernel_rfl) R<|zr<|zm R R<|zp (Bb R R R)<|za R R<|zn<|?_
 refine zd R (fun c33=> ?_) (fun c33=> ?_)
 refine Ag (by kernel_rfl)<|zm R R<|zm R R<|zp (Al R R R (by omega) (by omega))<|zm R R<|zp (Al R R R (by omega) (by omega))<|za R R<|za R R<|zn<|Ag (by kernel_rfl)<|zp (Al R R R (by omega) (by omega))<|zm R R<|zn<|?_
 exfalso;omega
 refine zi<|Ag (by kernel_rfl)<|zp (Al R R R (by omega) (by omega))<|zm R R<|zn<|?_
 exact An ((p.1+1,p.2.1,p.2.2)) (⟨by simp only;omega,by rw [←Ars hg (by omega) c33];exact hgo,by simp only;omega,by simp only;omega,by simp only;omega,by simp only;omega⟩) (by simp only;omega) (fz ⟨sr,sr,sr,sr,sr,trivial⟩) (gz ⟨rfl,trivial⟩)
 have hke:p.1=6:=by omega
 have hend:gGo 0 0 0 m.gs=some (p.2.1,p.2.2):=by rw [←hgo,hke];rfl
 refine Av<|zr<|zm R R<|zp (Aa R R Im)<|zp (Ab R R Ai R R)<|zp (A8 R R R)<|zm R R<|?_
 refine XL.dec 46 R (fun g46=> ?_) (fun g46=> ?_)
 exact zm R R<|zp (F7 R R R)<|zq R R R<|za R R<|zn<|zt<|z1 R R (rB (by rw [decide_eq_decide,Ajv c10 hend];exact ⟨fun h=>⟨g46,h⟩,fun h=>h.2⟩))
 exact zk 2 R<|zq R R R<|za R R<|zn<|zt<|z1 R R (rB (by rw [eq_comm,decide_eq_false_iff_not,Ajv c10 hend];exact fun h=>g46 h.1))
def Me.pow (m:Me):Prop:=((m.unit.toNat &&& (m.unit - 1).toNat:Nat):Int)=0
instance (m:Me):Decidable m.pow:=by unfold Me.pow;exact inferInstance
def Me.err (m:Me):Int:=if m.count<1∨64<m.count then 2 else if m.unit<1∨64<m.unit∨¬m.pow then 17 else if ¬m.grouped then 19 else 0
theorem Arj {m:Me} (h:m.count<1∨64<m.count):2=m.err:=by rw [Me.err,if_pos h]
theorem Ama {m:Me} (h:¬(m.count<1∨64<m.count)) (h2:m.unit<1∨64<m.unit∨¬m.pow):17=m.err:=by rw [Me.err,if_neg h,if_pos h2]
theorem Atx {m:Me} (h:¬(m.count<1∨64<m.count)) (h2:¬(m.unit<1∨64<m.unit∨¬m.pow)) (h3:¬m.grouped):19=m.err:=by rw [Me.err,if_neg h,if_neg h2,if_pos h3]
theorem Atw {m:Me} (h:¬(m.count<1∨64<m.count)) (h2:¬(m.unit<1∨64<m.unit∨¬m.pow)) (h3:m.grouped):0=m.err:=by rw [Me.err,if_neg h,if_neg h2,if_neg (fun k=>k h3)]
theorem Ae3 {a b c:Prop} (h1:¬a) (h2:¬b) (h3:¬c):¬(a∨b∨c):=fun k=>k.elim h1 fun k=>k.elim h2 h3
theorem Ob {a b:Prop} (h1:¬a) (h2:¬b):¬(a∨b):=fun k=>k.elim h1 h2
theorem Nn (m:Me):XC Tryz.prog 53 [.agg (Me.c m)] (fun r=>r=dI m.err):=by
 refine Ap Ad0 Tryz.func53 R R lb<|zr<|XL.step R (At 1 (l:= [.d (dI m.count), .d (dI m.unit), .d (dI m.g0), .d (dI m.g1), .d (dI m.g2), .d (dI m.g3), .d (dI m.g4), .d (dI m.g5)]) R R (by kernel_rfl))<|za R R<|zn<|zs<|Ah<|zr<|zp (Aa R R Im)<|zp (Ab R R Ai R R)<|zp (Au R R R)<|zm R R<|?_
 refine XL.dec 7 R (fun g7=> ?_) (fun g7=> ?_)
 exact zk 3 R<|zq R R R<|za R R<|zn<|A0 (by kernel_rfl) R<|zr<|za R R<|zn<|zt<|z1 R R (rI (Arj (.inl g7)))
 refine zp (Aa R R Im)<|zp (Ab R R Ai R R)<|zp (Bb R R R)<|zq R R R<|za R R<|zn<|?_
 refine zd R (fun c3=> ?_) (fun c3=> ?_)
 exact zr<|za R R<|zn<|zt<|z1 R R (rI (Arj (.inr c3)))
 refine zr<|zp (Aa R R Kt)<|zp (Ab R R Ai R R)<|zp (Au R R R)<|zm R R<|?_
 refine XL.dec 16 R (fun g16=> ?_) (fun g16=> ?_)
 exact zk 3 R<|zq R R R<|zm R R<|zk 7 R<|zq R R R<|za R R<|zn<|A0 (by kernel_rfl) R<|zr<|za R R<|zn<|zt<|z1 R R (rI (Ama (Ob g7 c3) (.inl g16)))
 refine zp (Aa R R Kt)<|zp (Ab R R Ai R R)<|zp (Bb R R R)<|zq R R R<|zm R R<|?_
 refine XL.dec 21 R (fun g21=> ?_) (fun g21=> ?_)
 exact zk 7 R<|zq R R R<|za R R<|zn<|A0 (by kernel_rfl) R<|zr<|za R R<|zn<|zt<|z1 R R (rI (Ama (Ob g7 c3) (.inr (.inl g21))))
 refine zp (Aa R R Kt)<|zp (Ab R R Ai R R)<|zp (Aa R R Kt)<|zp (Ab R R Ai R R)<|zp (Dg R R R (by omega) (by omega))<|zp (Anr R R R (by omega) (by omega) (by omega) (by omega))<|zp (A5 R R R)<|zq R R R<|za R R<|zn<|?_
 refine zd R (fun c12=> ?_) (fun c12=> ?_)
 exact zr<|za R R<|zn<|zt<|z1 R R (rI (Ama (Ob g7 c3) (.inr (.inr c12))))
 refine zr<|zp (Ae (s':= .d (.agg (Me.c m))) (Ac (Ad R R Bn R lb)) (by kernel_rfl))<|XL.call1 R R (Ag8 _) R<|zp (Fz R R)<|za R R<|zn<|?_
 refine zd R (fun c30=> ?_) (fun c30=> ?_)
 exact zr<|za R R<|zn<|zt<|z1 R R (rI (Atx (Ob g7 c3) (Ae3 g16 g21 c12) c30))
 exact zi<|zr<|za R R<|zn<|zt<|z1 R R (rI (Atw (Ob g7 c3) (Ae3 g16 g21 c12) (Decidable.not_not.1 c30)))
structure Mok (m:Me):Prop where
 count:1≤m.count∧m.count≤64
 unit:1≤m.unit∧m.unit≤64
 pow:m.pow
 grp:m.grouped
theorem J9 {m:Me} (h:¬m.err≠0):Mok m:=by
 have h0:m.err=0:=by omega
 unfold Me.err at h0
 split at h0
 ·omega
 ·split at h0
  ·omega
  ·rename_i h2
   split at h0
   ·omega
   ·rename_i h3
    exact ⟨by omega,⟨by omega,by omega⟩,Decidable.not_not.1 fun k=>h2 (.inr (.inr k)),Decidable.not_not.1 h3⟩
def Me.u (m:Me):Int:=1935360 / m.unit
def Me.len (m:Me):Int:=m.count*m.u
theorem Mok.u {m:Me} (h:Mok m):1≤m.u∧m.u≤1935360:=by
 have:=h.unit
 unfold Me.u
 exact ⟨(Int.le_ediv_iff_mul_le (by omega)).2 (by omega),Int.ediv_le_self _ (by omega)⟩
theorem Mok.len {m:Me} (h:Mok m):1≤m.len∧m.len≤123863040:=by
 have h1:=h.u
 have h2:=h.count
 unfold Me.len
 have h3:1*1≤m.count*m.u:=Int.mul_le_mul h2.1 h1.1 (by omega) (by omega)
 have h4:m.count*m.u≤64*1935360:=Int.mul_le_mul h2.2 h1.2 (by omega) (by omega)
 omega
theorem Ia (m:Me) (h:Mok m):XC Tryz.prog 93 [.agg (Me.c m)] (fun r=>r=dI m.u):=by
 have hu:=h.unit
 exact Ap Ade Tryz.func93 R R lb<|zr<|XL.step R (At 1 (l:= [.d (dI m.count), .d (dI m.unit), .d (dI m.g0), .d (dI m.g1), .d (dI m.g2), .d (dI m.g3), .d (dI m.g4), .d (dI m.g5)]) R R (by kernel_rfl))<|za R R<|znr<|zp (Aa R R Kt)<|zp (Ab R R Ai R R)<|zp (Jd R R R (by omega) (by omega) (by omega))<|za R R<|zn<|zt<|z1 R R (rI R)
theorem Ls (m:Me) (h:Mok m):XC Tryz.prog 54 [.agg (Me.c m)] (fun r=>r=dI m.len):=by
 have hu:=h.u
 have hc:=h.count
 have hl:=h.len
 have hl2:m.count*m.u=m.len:=rfl
 refine Ap Adz Tryz.func54 R R lb<|zr<|XL.step R (At 1 (l:= [.d (dI m.count), .d (dI m.unit), .d (dI m.g0), .d (dI m.g1), .d (dI m.g2), .d (dI m.g3), .d (dI m.g4), .d (dI m.g5)]) R R (by kernel_rfl))<|za R R<|zn<|zs<|Bo [] (by kernel_rfl) (by kernel_rfl) (by kernel_rfl) (by decide)<|yp (Aa R R Im)<|yp (Ab R R Ai R R)<|?_
 refine yp (Ae (s':= .d (.agg (Me.c m))) (Ac (Ad R R Bn R lb)) (by kernel_rfl))<|ChK.cons R (CStep.call R (Ia _ (by assumption)) R)<|yp (Lr R R R (by omega) (by omega))<|ya R R<|?_
 refine ChK.nil ⟨by kernel_rfl, ?_⟩
 exact zt<|z1 R R (rI R)
end Go.Proofs.YtaafemnkamfgnaaGreat
namespace Go.Proofs.YtaafemnkamfgnaaGreat
open Go.RowKit
def I7:List Int→Int
 | []=>0
 |x::r=>r.foldl min x
def I8:List Int→Int
 | []=>0
 |x::r=>r.foldl max x
theorem Ai7 {l:List Int} (h:l≠ []) (x:Int):I7 (l++ [x])=min (I7 l) x:=by
 cases l with
 |nil=>exact absurd rfl h
 |cons a r=>simp only [I7,List.cons_append,List.foldl_append,List.foldl_cons,List.foldl_nil]
theorem Aja {l:List Int} (h:l≠ []) (x:Int):I8 (l++ [x])=max (I8 l) x:=by
 cases l with
 |nil=>exact absurd rfl h
 |cons a r=>simp only [I8,List.cons_append,List.foldl_append,List.foldl_cons,List.foldl_nil]
theorem Aem {l:List Int} {k:Nat} (h:1≤k) (h2:0<l.length):l.take k≠ []:=fun e=>by
 have:=congrArg List.length e
 rw [List.length_take,List.length_nil] at this
 omega
theorem Ai6 {l:List Int} {k:Nat} {x:Int} (h:l[k]? =some x) (hk:1≤k):I7 (l.take (k+1))=min (I7 (l.take k)) x:=by
 rw [Bp h,Ai7 (Aem hk (by have:=(List.getElem?_eq_some_iff.1 h).1;omega))]
theorem Ai9 {l:List Int} {k:Nat} {x:Int} (h:l[k]? =some x) (hk:1≤k):I8 (l.take (k+1))=max (I8 (l.take k)) x:=by
 rw [Bp h,Aja (Aem hk (by have:=(List.getElem?_eq_some_iff.1 h).1;omega))]
theorem Y7 {l:List Int} {x:Int} (h:l[0]? =some x):I7 (l.take 1)=x∧I8 (l.take 1)=x:=by
 cases l with
 |nil=>cases h
 |cons a r=>cases h;exact ⟨rfl,rfl⟩
theorem Aox (l:List Int) (h:0<l.length):XC Tryz.prog 181 [.sl 1 (B2 l)] (fun r=>r=dI (I7 l)):=by
 refine Ap Aa3 Tryz.func181 R R lb<|zr<|za R R<|zn<|zs<|zr<|zm R R<|XL.len R R R Tryz.underlying45 fun hl6=>zp (Au R R R)<|zn<|?_
 refine zd R (fun c7=> ?_) (fun c7=> ?_)
 exfalso;omega
 refine zi<|zs<|?_
 obtain ⟨x,hx⟩:∃x,l[0]? =some x:=Az h
 refine Ag (by kernel_rfl)<|zm R R<|zp (Aj (k:=0) R R R Cc (hx))<|zp (Am R R Ai)<|za R R<|zn<|zs<|zr<|za R R<|zn<|Ah<|?_
 refine A4 (α:=Nat) (fun k=>1≤k∧k≤l.length) (fun k=>mkF [(0, .d (.sl 1 (B2 l))),(2, .d (dI 0)),(3, .d (dI (I7 (l.take k)))),(4, .d (dI k))]) (fun k=>mkH []) (fun k=>l.length - k) (1) (⟨Nat.le_refl _,h⟩) ?_ ?_ ?_
 exact fz ⟨sr,sr, .same (sI (Y7 hx).1.symm),sr,trivial⟩
 exact HSub.nil
 intro k hk0
 refine zs<|zr<|zm R R<|zm R R<|XL.len R R R Tryz.underlying45 fun hl14=>zp (Au R R R)<|zn<|?_
 refine zd R (fun c15=> ?_) (fun c15=> ?_)
 obtain ⟨y,hy⟩:∃y,l[k]? =some y:=Az (by omega)
 refine zi<|zs<|Ah<|Ag (by kernel_rfl)<|zm R R<|zm R R<|zm R R<|zp (Aj R R R Cc (hy))<|zp (Am R R Ai)<|zp (Ft R R R)<|za R R<|zn<|Ag (by kernel_rfl)<|zm R R<|?_
 refine zp (Al R R R (by omega) (by omega))<|za R R<|zn<|?_
 exact An (k+1) (by omega) (by omega) (fz ⟨sr,sr, .same (sI (by rw [Ai6 hy (by omega)])),sr,trivial⟩) (HSub.nil)
 have ht:l.take k=l:=List.take_of_length_le (by omega)
 exact Av<|zr<|zm R R<|za R R<|zn<|zt<|z1 R R (rI (by rw [ht]))
theorem Aoy (l:List Int) (h:0<l.length):XC Tryz.prog 182 [.sl 1 (B2 l)] (fun r=>r=dI (I8 l)):=by
 refine Ap Aa2 Tryz.func182 R R lb<|zr<|za R R<|zn<|zs<|zr<|zm R R<|XL.len R R R Tryz.underlying45 fun hl6=>zp (Au R R R)<|zn<|?_
 refine zd R (fun c7=> ?_) (fun c7=> ?_)
 exfalso;omega
 refine zi<|zs<|?_
 obtain ⟨x,hx⟩:∃x,l[0]? =some x:=Az h
 refine Ag (by kernel_rfl)<|zm R R<|zp (Aj (k:=0) R R R Cc (hx))<|zp (Am R R Ai)<|za R R<|zn<|zs<|zr<|za R R<|zn<|Ah<|?_
 refine A4 (α:=Nat) (fun k=>1≤k∧k≤l.length) (fun k=>mkF [(0, .d (.sl 1 (B2 l))),(2, .d (dI 0)),(3, .d (dI (I8 (l.take k)))),(4, .d (dI k))]) (fun k=>mkH []) (fun k=>l.length - k) (1) (⟨Nat.le_refl _,h⟩) ?_ ?_ ?_
 exact fz ⟨sr,sr, .same (sI (Y7 hx).2.symm),sr,trivial⟩
 exact HSub.nil
 intro k hk0
 refine zs<|zr<|zm R R<|zm R R<|XL.len R R R Tryz.underlying45 fun hl14=>zp (Au R R R)<|zn<|?_
 refine zd R (fun c15=> ?_) (fun c15=> ?_)
 obtain ⟨y,hy⟩:∃y,l[k]? =some y:=Az (by omega)
 refine zi<|zs<|Ah<|Ag (by kernel_rfl)<|zm R R<|zm R R<|zm R R<|zp (Aj R R R Cc (hy))<|zp (Am R R Ai)<|zp (Rb R R R)<|za R R<|zn<|Ag (by kernel_rfl)<|zm R R<|?_
 refine zp (Al R R R (by omega) (by omega))<|za R R<|zn<|?_
 exact An (k+1) (by omega) (by omega) (fz ⟨sr,sr, .same (sI (by rw [Ai9 hy (by omega)])),sr,trivial⟩) (HSub.nil)
 have ht:l.take k=l:=List.take_of_length_le (by omega)
 exact Av<|zr<|zm R R<|za R R<|zn<|zt<|z1 R R (rI (by rw [ht]))
def Iw (v:Int) (k:Nat):List Int→Int
 | []=> -1
 |x::r=>if v=x then k else Iw v (k+1) r
theorem Ajs {v x:Int} {l:List Int} {k:Nat} (h:l[k]? =some x) (hv:v=x):Iw v k (l.drop k)=k:=by rw [Bz h,Iw,if_pos hv]
theorem Ag6 {v x:Int} {l:List Int} {k:Nat} (h:l[k]? =some x) (hv:¬v=x):Iw v k (l.drop k)=Iw v (k+1) (l.drop (k+1)):=by rw [Bz h,Iw,if_neg hv]
theorem Ajr (v:Int) (l:List Int):∀k,0≤Iw v k l↔v∈l:=by
 induction l with
 |nil=>intro k;simp [Iw]
 |cons x r ih=>
  intro k
  rw [Iw]
  split
  ·rename_i h;simp [h]
  ·rename_i h;rw [ih,List.mem_cons];exact ⟨.inr,fun k=>k.elim (fun e=>absurd e h) fun e=>e⟩
theorem Aii (l:List Int) (v:Int):XC Tryz.prog 203 [.sl 1 (B2 l), .v (.int .i64 v)] (fun r=>r=dI (Iw v 0 l)):=by
 refine Ap Aaj Tryz.func203 R R lb<|zr<|za R R<|zn<|zs<|zr<|zm R R<|XL.len R R R Tryz.underlying45 fun hl7=>zm R R<|zn<|Ah<|?_
 refine A4 (α:=Nat) (fun k=>k≤l.length∧Iw v k (l.drop k)=Iw v 0 l) (fun k=>mkF [(0, .d (.sl 1 (B2 l))),(1, .d (dI v)),(7, .d (dI l.length)),(8, .d (dI k))]) (fun k=>mkH []) (fun k=>l.length - k) (0) (⟨Nat.zero_le _,by rw [List.drop_zero]⟩) ?_ ?_ ?_
 exact fz ⟨sr,sr,sr,sr,trivial⟩
 exact HSub.nil
 intro k hk0
 obtain ⟨hk,hgo⟩:=hk0
 refine zr<|zp (Au R R R)<|zn<|zs<|?_
 refine zd R (fun c9=> ?_) (fun c9=> ?_)
 have hk0a:k<l.length:=by omega
 obtain ⟨x0,hx0⟩:=Az hk0a
 refine zi<|zs<|Ah<|zr<|zm R R<|za R R<|znr<|zm R R<|zm R R<|zm R R<|zp (Aj R R R Cc hx0)<|zp (Am R R Ai)<|zp (A8 R R R)<|zn<|?_
 refine zd R (fun c16=> ?_) (fun c16=> ?_)
 exact zr<|zm R R<|za R R<|zn<|zt<|z1 R R (rI (by rw [←hgo,Ajs hx0 c16]))
 refine zi<|Ag (by kernel_rfl)<|zp (Al R R R (by omega) (by omega))<|zm R R<|zn<|?_
 exact An (k+1) (⟨by omega,by rw [←Ag6 hx0 c16];exact hgo⟩) (by omega) (fz ⟨sr,sr,sr,sr,trivial⟩) (HSub.nil)
 have hk0b:k=l.length:=by omega
 have hz:Iw v 0 l= -1:=by rw [←hgo,hk0b,List.drop_length];rfl
 exact Av<|zr<|za R R<|zn<|zt<|z1 R R (rI hz.symm)
theorem Ml (l:List Int) (v:Int):XC Tryz.prog 183 [.sl 1 (B2 l), .v (.int .i64 v)] (fun r=>r=dB (decide (v∈l))):=by
 exact Ap Aa1 Tryz.func183 R R lb<|zr<|za R R<|znr<|zm R R<|zm R R<|XL.call1 R R (Aii _ _) R<|zp (F7 R R R)<|za R R<|zn<|zt<|z1 R R (rB (by rw [decide_eq_decide];exact Ajr v l 0))
end Go.Proofs.YtaafemnkamfgnaaGreat
namespace Go.Proofs.YtaafemnkamfgnaaGreat
open Go.RowKit
theorem N3 (l:List Hd) (h:l.length≤1000):XS Tryz.prog 140 [.sl 5 (l.map Hd.c)] (.own 5) [(5, .row 200 5 ((l).map Hd.c))]:=by
 refine D2 Qz Tryz.func140 R R lb (by kernel_rfl) (by kernel_rfl)<|zr<|za R R<|zn<|zs<|zr<|zm R R<|?_
 refine XL.eqnil R R R Tryz.underlying55 (fun hn4=> ?_) ?_
 refine zn<|A0 (by kernel_rfl) R<|zr<|za R R<|zn<|Dp 5 2 200 5 R<|zt<|?_
 exact ⟨Cr R (RVS.tmp R R),HSub.cons (by rw [hn4];rfl) (HSub.nil)⟩
 refine zn<|A3 (by kernel_rfl) R<|zi<|zr<|XL.step R (Bl 5 R Tryz.underlying55 Yb R6 R R (by omega) (by omega))<|zm R R<|XL.step R (A7 R Aka (.own R) (Src.sl (by omega)) (by unfold maxLen;simp;omega) (by simp;omega))<|zp (Ar R (by conv=>lhs;whnf))<|?_
 refine zn<|zt<|?_
 exact ⟨Cr R (RVS.tmp R R),HSub.cons (R) (HSub.nil)⟩
theorem Ac7 (l:List Gr) (h:l.length≤1000):XS Tryz.prog 141 [.sl 5 (l.map Gr.c)] (.own 5) [(5, .row 203 5 ((l).map Gr.c))]:=by
 refine D2 Qy Tryz.func141 R R lb (by kernel_rfl) (by kernel_rfl)<|zr<|za R R<|zn<|zs<|zr<|zm R R<|?_
 refine XL.eqnil R R R Tryz.underlying56 (fun hn4=> ?_) ?_
 refine zn<|A0 (by kernel_rfl) R<|zr<|za R R<|zn<|Dp 5 2 203 5 R<|zt<|?_
 exact ⟨Cr R (RVS.tmp R R),HSub.cons (by rw [hn4];rfl) (HSub.nil)⟩
 refine zn<|A3 (by kernel_rfl) R<|zi<|zr<|XL.step R (Bl 5 R Tryz.underlying56 Ya R5 R R (by omega) (by omega))<|zm R R<|XL.step R (A7 R Aj9 (.own R) (Src.sl (by omega)) (by unfold maxLen;simp;omega) (by simp;omega))<|zp (Ar R (by conv=>lhs;whnf))<|?_
 refine zn<|zt<|?_
 exact ⟨Cr R (RVS.tmp R R),HSub.cons (R) (HSub.nil)⟩
theorem Ac4 (l:List Sy) (h:l.length≤1000):XS Tryz.prog 142 [.sl 2 (l.map Sy.c)] (.own 5) [(5, .row 171 2 ((l).map Sy.c))]:=by
 refine D2 Qx Tryz.func142 R R lb (by kernel_rfl) (by kernel_rfl)<|zr<|za R R<|zn<|zs<|zr<|zm R R<|?_
 refine XL.eqnil R R R Tryz.underlying57 (fun hn4=> ?_) ?_
 refine zn<|A0 (by kernel_rfl) R<|zr<|za R R<|zn<|Dp 5 2 171 2 R<|zt<|?_
 exact ⟨Cr R (RVS.tmp R R),HSub.cons (by rw [hn4];rfl) (HSub.nil)⟩
 refine zn<|A3 (by kernel_rfl) R<|zi<|zr<|XL.step R (Bl 5 R Tryz.underlying57 Yc Oj R R (by omega) (by omega))<|zm R R<|XL.step R (A7 R Aj8 (.own R) (Src.sl (by omega)) (by unfold maxLen;simp;omega) (by simp;omega))<|zp (Ar R (by conv=>lhs;whnf))<|?_
 refine zn<|zt<|?_
 exact ⟨Cr R (RVS.tmp R R),HSub.cons (R) (HSub.nil)⟩
theorem Z9 (l:List Int) (h:l.length≤1000):XS Tryz.prog 200 [.sl 1 (l.map iv)] (.own 5) [(5, .row 3 1 ((l).map iv))]:=by
 refine D2 Aam Tryz.func200 R R lb (by kernel_rfl) (by kernel_rfl)<|zr<|za R R<|zn<|zs<|zr<|zm R R<|?_
 refine XL.eqnil R R R Tryz.underlying45 (fun hn4=> ?_) ?_
 refine zn<|A0 (by kernel_rfl) R<|zr<|za R R<|zn<|Dp 5 2 3 1 R<|zt<|?_
 exact ⟨Cr R (RVS.tmp R R),HSub.cons (by rw [hn4];rfl) (HSub.nil)⟩
 refine zn<|A3 (by kernel_rfl) R<|zi<|zr<|XL.step R (Bl 5 R Tryz.underlying45 D8 Fo R R (by omega) (by omega))<|zm R R<|XL.step R (A7 R Io (.own R) (Src.sl (by omega)) (by unfold maxLen;simp;omega) (by simp;omega))<|zp (Ar R (by conv=>lhs;whnf))<|?_
 refine zn<|zt<|?_
 exact ⟨Cr R (RVS.tmp R R),HSub.cons (R) (HSub.nil)⟩
def Hc {α:Type} (f:α→α) (l:List α) (k:Nat):List α:=(l.take k).map f++l.drop k
theorem O2 {α:Type} (f:α→α) (l:List α):l=Hc f l 0:=by simp [Hc]
theorem Qb {α:Type} {f:α→α} {l:List α} {k:Nat} (h:l.length≤k):Hc f l k=l.map f:=by rw [Hc,List.take_of_length_le h,List.drop_eq_nil_of_le h,List.append_nil]
theorem No {α:Type} (f:α→α) (l:List α) (k:Nat):(Hc f l k).length=l.length:=by rw [Hc,List.length_append,List.length_map,List.length_take,List.length_drop];omega
theorem Qa {α:Type} {f:α→α} {l:List α} {k:Nat} {x:α} (h:l[k]? =some x):(Hc f l k)[k]? =some x:=by
 have hk:=(List.getElem?_eq_some_iff.1 h).1
 rw [Hc,List.getElem?_append_right (by rw [List.length_map,List.length_take];omega),List.length_map,List.length_take,Nat.min_eq_left (by omega),Nat.sub_self,List.getElem?_drop]
 exact h
theorem P9 {α:Type} {f:α→α} {l:List α} {k:Nat} {x:α} (h:l[k]? =some x):Hc f l (k+1)=(Hc f l k).set k (f x):=by
 have hk:=(List.getElem?_eq_some_iff.1 h).1
 have hl:((l.take k).map f).length=k:=by rw [List.length_map,List.length_take];omega
 rw [Hc,Hc,Bp h,List.map_append,List.set_append_right _ _ (by omega),hl,Nat.sub_self,Bz h,List.set_cons_zero,List.append_assoc]
 rfl
def Hd.tie (h:Hd):Hd:=⟨h.p,true,h.sh⟩
def Hd.plain (h:Hd):Hd:=⟨h.p,h.tied,0⟩
theorem Pr (l:List Hd) (h:l.length≤1000):XC Tryz.prog 136 [.sl 5 (l.map Hd.c)] (fun r=>r= .sl 5 ((l.map Hd.tie).map Hd.c)):=by
 refine Ap Abz Tryz.func136 R R lb<|zr<|za R R<|znr<|zm R R<|XL.callS R R ((N3 _ (by omega)).lab 7001) R<|zp (Ar R (by conv=>lhs;whnf))<|?_
 refine zn<|zs<|zr<|zp (Ao R (by conv=>lhs;whnf))<|?_
 refine zp (B4 R R R Tryz.underlying55)<|zm R R<|zn<|Ah<|?_
 refine A4 (α:=Nat) (fun k=>k≤l.length) (fun k=>mkF [(0, .own 7001),(2, .d (.v (.slice none 0 0))),(6, .own 7001),(7, .d (dI l.length)),(8, .d (dI k))]) (fun k=>mkH [(7001, .row 200 5 ((Hc Hd.tie l k).map Hd.c))]) (fun k=>l.length - k) (0) (Nat.zero_le _) ?_ ?_ ?_
 exact fz ⟨sr,sr,sr,sr,sr,trivial⟩
 exact gz ⟨by rw [←O2];rfl,trivial⟩
 intro k hk0
 refine zr<|zp (Au R R R)<|zn<|zs<|?_
 refine zd R (fun c9=> ?_) (fun c9=> ?_)
 have hkl:k<l.length:=by omega
 obtain ⟨x,hx⟩:=Az hkl
 have hml:=No Hd.tie l k
 have hg:=Qa (f:=Hd.tie) hx
 refine zi<|zs<|Ah<|zr<|zm R R<|za R R<|zng<|zp (Ao R (by conv=>lhs;whnf))<|?_
 refine zm R R<|zp (J4 R R R R Rl (by omega))<|zp (Aa R R Ajy)<|XL.step R (E9 R R R (Dc hg) R R Atk R lb)<|zn<|Ag (by kernel_rfl)<|zp (Al R R R (by omega) (by omega))<|zm R R<|zn<|?_
 exact An (k+1) (by omega) (by omega) (fz ⟨sr,sr,sr,sr,sr,trivial⟩) (gz ⟨P2 (a:=Hd.tie x) R (P9 hx),trivial⟩)
 have he:=Qb (f:=Hd.tie) (l:=l) (k:=k) (by omega)
 refine Av<|zr<|zp (Ao R (by conv=>lhs;whnf))<|?_
 refine zp (Ar R (by conv=>lhs;whnf))<|?_
 exact zn<|zt<|B8 (i:=7001) R<|z1 R R (rSl he)
theorem Ph (l:List Hd) (h:l.length≤1000):XC Tryz.prog 135 [.sl 5 (l.map Hd.c)] (fun r=>r= .sl 5 ((l.map Hd.plain).map Hd.c)):=by
 refine Ap Ab0 Tryz.func135 R R lb<|zr<|za R R<|znr<|zm R R<|XL.callS R R ((N3 _ (by omega)).lab 7001) R<|zp (Ar R (by conv=>lhs;whnf))<|?_
 refine zn<|zs<|zr<|zp (Ao R (by conv=>lhs;whnf))<|?_
 refine zp (B4 R R R Tryz.underlying55)<|zm R R<|zn<|Ah<|?_
 refine A4 (α:=Nat) (fun k=>k≤l.length) (fun k=>mkF [(0, .own 7001),(2, .d (.v (.slice none 0 0))),(6, .own 7001),(7, .d (dI l.length)),(8, .d (dI k))]) (fun k=>mkH [(7001, .row 200 5 ((Hc Hd.plain l k).map Hd.c))]) (fun k=>l.length - k) (0) (Nat.zero_le _) ?_ ?_ ?_
 exact fz ⟨sr,sr,sr,sr,sr,trivial⟩
 exact gz ⟨by rw [←O2];rfl,trivial⟩
 intro k hk0
 refine zr<|zp (Au R R R)<|zn<|zs<|?_
 refine zd R (fun c9=> ?_) (fun c9=> ?_)
 have hkl:k<l.length:=by omega
 obtain ⟨x,hx⟩:=Az hkl
 have hml:=No Hd.plain l k
 have hg:=Qa (f:=Hd.plain) hx
 refine zi<|zs<|Ah<|zr<|zm R R<|za R R<|zng<|zp (Ao R (by conv=>lhs;whnf))<|?_
 refine zm R R<|zp (J4 R R R R Rl (by omega))<|zp (Aa R R W6)<|XL.step R (E9 R R R (Dc hg) R R D8 R lb)<|zn<|Ag (by kernel_rfl)<|zp (Al R R R (by omega) (by omega))<|zm R R<|zn<|?_
 exact An (k+1) (by omega) (by omega) (fz ⟨sr,sr,sr,sr,sr,trivial⟩) (gz ⟨P2 (a:=Hd.plain x) R (P9 hx),trivial⟩)
 have he:=Qb (f:=Hd.plain) (l:=l) (k:=k) (by omega)
 refine Av<|zr<|zp (Ao R (by conv=>lhs;whnf))<|?_
 refine zp (Ar R (by conv=>lhs;whnf))<|?_
 exact zn<|zt<|B8 (i:=7001) R<|z1 R R (rSl he)
end Go.Proofs.YtaafemnkamfgnaaGreat
namespace Go.Proofs.YtaafemnkamfgnaaGreat
open Go.RowKit
def Ev.fit (e:Ev):Prop:=e.heads.length≤1000∧e.graces.length≤1000∧e.lyr.length≤1000
theorem Qo (e:Ev) (h:e.fit):XC Tryz.prog 111 [.agg (Ev.c e)] (fun r=>r= .agg (Ev.c e)):=by
 obtain ⟨h1,h2,h3⟩:=h
 refine Ap Q1 Tryz.func111 R R lb<|zr<|XL.step R (At 1 (l:= [.d (dI e.site), .d (dI e.num), .d (dI e.kind), .d (dI e.v.log), .d (dI e.v.dots), .d (.sl 5 (e.heads.map Hd.c)), .d (.sl 5 (e.graces.map Gr.c)), .d (dI e.art), .d (dI e.orn), .d (dI e.dyn), .d (.sl 2 (e.lyr.map Sy.c)), .d (dI e.stem), .d (dI e.beam)]) R R (by kernel_rfl))<|?_
 refine XL.step R (Ax 2 (l:= [.d (dI 0), .d (dI 0), .d (dI 0), .d (dI 0), .d (dI 0), .d (.v (.slice none 0 0)), .d (.v (.slice none 0 0)), .d (dI 0), .d (dI 0), .d (dI 0), .d (.v (.slice none 0 0)), .d (dI 0), .d (dI 0)]) R Cb (by kernel_rfl))<|zn<|zs<|Cp 10 [7001,7002,7003] (by kernel_rfl) (by kernel_rfl) (by kernel_rfl) (by kernel_rfl) (by decide)<|yp (Aa R R C1)<|?_
 refine yp (Ab R R G6 R R)<|ChK.cons R (CStep.callS R ((N3 _ (by omega)).lab 7001) R (Gf (by kernel_rfl)))<|yp (Aa R R F2)<|yp (Ab R R Nk R R)<|ChK.cons R (CStep.callS R ((Ac7 _ (by omega)).lab 7002) R (Gf (by kernel_rfl)))<|yp (Aa R R Eh)<|yp (Ab R R Jc R R)<|?_
 refine ChK.cons R (CStep.callS R ((Ac4 _ (by omega)).lab 7003) R (Gf (by kernel_rfl)))<|yp (Aa R R C1)<|?_
 refine ChK.nil ⟨by kernel_rfl, ?_⟩
 refine XL.step R (Af (l':= [.d (dI e.site), .d (dI e.num), .d (dI e.kind), .d (dI e.v.log), .d (dI e.v.dots), .own 7001, .d (.sl 5 (e.graces.map Gr.c)), .d (dI e.art), .d (dI e.orn), .d (dI e.dyn), .d (.sl 2 (e.lyr.map Sy.c)), .d (dI e.stem), .d (dI e.beam)]) R R R R Nd R lb (by kernel_rfl))<|zp (Aa R R F2)<|?_
 refine XL.step R (Af (l':= [.d (dI e.site), .d (dI e.num), .d (dI e.kind), .d (dI e.v.log), .d (dI e.v.dots), .own 7001, .own 7002, .d (dI e.art), .d (dI e.orn), .d (dI e.dyn), .d (.sl 2 (e.lyr.map Sy.c)), .d (dI e.stem), .d (dI e.beam)]) R R R R Agb R lb (by kernel_rfl))<|zp (Aa R R Eh)<|?_
 refine XL.step R (Af (l':= [.d (dI e.site), .d (dI e.num), .d (dI e.kind), .d (dI e.v.log), .d (dI e.v.dots), .own 7001, .own 7002, .d (dI e.art), .d (dI e.orn), .d (dI e.dyn), .own 7003, .d (dI e.stem), .d (dI e.beam)]) R R R R Aga R lb (by kernel_rfl))<|znr<|zp (Ac (Ad R R B0 R lb))<|?_
 refine XL.step R (Af (l':= [.d (dI e.site), .d (dI e.num), .d (dI e.kind), .d (dI e.v.log), .d (dI e.v.dots), .own 7001, .own 7002, .d (dI e.art), .d (dI e.orn), .d (dI e.dyn), .own 7003, .d (dI e.stem), .d (dI e.beam)]) R R R R C4 R lb (by kernel_rfl))<|zn<|zt<|B8 (i:=7001) R<|B8 (i:=7002) R<|B8 (i:=7003) R<|?_
 exact Kn R (RV.cells R R R B0 lb R) (R)
def Ev.eqv (a b:Ev):Prop:=(a.site=b.site∧a.num=b.num)∧a.same b
instance (a b:Ev):Decidable (a.eqv b):=by unfold Ev.eqv;exact inferInstance
structure Vo.fit (v:Vo):Prop where
 evs:v.evs.length≤1000
 tups:v.tups.length≤1000
 ev:∀e∈v.evs,e.fit
theorem K2 (v:Vo) (h:v.fit):XC Tryz.prog 82 [.agg (Vo.c v)] (fun r=>r= .agg (Vo.c v)):=by
 have h1:=h.evs
 have h2:=h.tups
 refine Ap R0 Tryz.func82 R R lb<|zr<|XL.step R (At 1 (l:= [.d (.sl 13 (v.evs.map Ev.c)), .d (.sl 4 (v.tups.map Tp.c))]) R R (by kernel_rfl))<|XL.step R (Ax 2 (l:= [.d (.v (.slice none 0 0)), .d (.v (.slice none 0 0))]) R Bh (by kernel_rfl))<|znr<|XL.step R (Ax 3 (l:= [.d (.v (.slice none 0 0)), .d (.v (.slice none 0 0))]) R Bh (by kernel_rfl))<|zn<|zs<|zr<|?_
 refine zp (Aa R R Bv)<|zp (Ab R R C9 R R)<|XL.len R R R Tryz.underlying79 fun hl8=>zm R R<|zn<|Ah<|Eu 900 3 0 59 13 (l':= [.own 900, .d (.v (.slice none 0 0))]) R R (by decide) (by kernel_rfl)<|?_
 refine A4 (α:=Nat) (fun k=>k≤v.evs.length) (fun k=>mkF [(1, .ptr 1 0 0),(2, .ptr 2 0 0),(3, .ptr 3 0 0),(7, .d (.sl 13 (v.evs.map Ev.c))),(8, .d (dI v.evs.length)),(9, .d (dI k))]) (fun k=>mkH [(1, .box ((Vo.c v).map S.d)),(2, .box [.d (.v (.slice none 0 0)), .d (.v (.slice none 0 0))]),(3, .box [.own 900, .d (.v (.slice none 0 0))]),(900, .row 59 13 ((v.evs.take k).map Ev.c))]) (fun k=>v.evs.length - k) (0) (Nat.zero_le _) ?_ ?_ ?_
 exact fz ⟨sr,sr,sr,sr,sr,sr,trivial⟩
 exact gz ⟨R,R,R,R,trivial⟩
 intro k hk0
 refine zr<|zp (Au R R R)<|zn<|zs<|?_
 refine zd R (fun c10=> ?_) (fun c10=> ?_)
 have hk0a:k<v.evs.length:=by omega
 obtain ⟨x0,hx0⟩:=Az hk0a
 have hf:=h.ev x0 (List.mem_of_getElem? hx0)
 have htl:(v.evs.take k).length=k:=by rw [List.length_take];omega
 refine zi<|zs<|Ah<|zr<|zp (Aj R R R Hv hx0)<|zp (Ae (s':= .d (.agg (Ev.c x0))) (Bf R R B0 lb) (by kernel_rfl))<|XL.step R (Ax 5 (l:= [.d (dI 0), .d (dI 0), .d (dI 0), .d (dI 0), .d (dI 0), .d (.v (.slice none 0 0)), .d (.v (.slice none 0 0)), .d (dI 0), .d (dI 0), .d (dI 0), .d (.v (.slice none 0 0)), .d (dI 0), .d (dI 0)]) R Cb (by kernel_rfl))<|?_
 refine XL.step R (Af (l':= [.d (dI x0.site), .d (dI x0.num), .d (dI x0.kind), .d (dI x0.v.log), .d (dI x0.v.dots), .d (.sl 5 (x0.heads.map Hd.c)), .d (.sl 5 (x0.graces.map Gr.c)), .d (dI x0.art), .d (dI x0.orn), .d (dI x0.dyn), .d (.sl 2 (x0.lyr.map Sy.c)), .d (dI x0.stem), .d (dI x0.beam)]) R R R R C4 R lb (by kernel_rfl))<|zn<|?_
 refine Cp 5 [] (by kernel_rfl) (by kernel_rfl) (by kernel_rfl) (by kernel_rfl) (by decide)<|yp (Aa R R Bv)<|yp (Ab R R C9 R R)<|yp (Ae (s':= .d (.agg (Ev.c x0))) (Ac (Ad R R B0 R lb)) (by kernel_rfl))<|ChK.cons R (CStep.call R (Qo _ (by assumption)) R)<|ChK.cons R (CStep.slice R Tryz.underlying79 C4 Cb R R (by omega) (by omega))<|?_
 refine ChK.nil ⟨by kernel_rfl, ?_⟩
 refine XL.step R (A7 R Gh (.own R) (Src.sl (by omega)) (by unfold maxLen;simp;omega) (by simp;omega))<|zp (Aa R R Bv)<|XL.step R (Af (l':= [.own 900, .d (.v (.slice none 0 0))]) R R R R Q7 R lb (by kernel_rfl))<|zn<|Ag (by kernel_rfl)<|zp (Al R R R (by omega) (by omega))<|zm R R<|zn<|?_
 exact An (k+1) (by omega) (by omega) (fz ⟨sr,sr,sr,sr,sr,sr,trivial⟩) (gz ⟨R,R,R,I6 R (Bp hx0),trivial⟩)
 have hk0b:k=v.evs.length:=by omega
 have ht:v.evs.take k=v.evs:=by rw [hk0b,List.take_length]
 refine Av<|zr<|zp (Aa R R B5)<|zp (Ab R R B6 R R)<|zp (Aa R R B5)<|zp (Ab R R B6 R R)<|XL.step R (A7 R Fq (.nil 25 _ _) (Src.sl (by omega)) (by unfold maxLen;simp;omega) (by simp;omega))<|zp (Aa R R B5)<|XL.step R (Af (l':= [.own 900, .own 25]) R R R R F5 R lb (by kernel_rfl))<|znr<|?_
 refine zp (Ac (Ad R R Aw R lb))<|XL.step R (Af (l':= [.own 900, .own 25]) R R R R Bq R lb (by kernel_rfl))<|zn<|zt<|B8 (i:=900) R<|B8 (i:=25) R<|?_
 exact Kn R (RV.cells R R R Aw lb R) (by rw [ht];rfl)
end Go.Proofs.YtaafemnkamfgnaaGreat
namespace Go.Proofs.YtaafemnkamfgnaaGreat
open Go.RowKit
def Ev.further (x:Ev):Ev:=⟨0,0,x.kind,⟨0,0⟩,x.heads.map Hd.plain, [],0,0,0, [],x.stem,0⟩
def Ev.put (y:Ev) (v:Val) (t:Bool):Ev:=⟨y.site,y.num,y.kind,v,if t then y.heads.map Hd.tie else y.heads,y.graces,y.art,y.orn,y.dyn,y.lyr,y.stem,y.beam⟩
def Fa (x:Ev) (n:Nat) (fu:Bool) (i:Nat) (v:Val):Ev:=(if 0<(i:Int)∨fu=true then x.further else x).put v (decide ((i:Int)+1<(n:Int)))
def Bu (x:Ev) (vs:List Val) (fu:Bool):List Ev:=vs.mapIdx (Fa x vs.length fu)
def J8 (x:Ev) (vs:List Val) (fu:Bool) (k:Nat):List Ev:=(vs.take k).mapIdx (Fa x vs.length fu)
theorem Hj {x:Ev} {vs:List Val} {fu:Bool} {k:Nat} {v:Val} (h:vs[k]? =some v) {y:Ev} (hy:Fa x vs.length fu k v=y):J8 x vs fu (k+1)=J8 x vs fu k++ [y]:=by
 have hk:=(List.getElem?_eq_some_iff.1 h).1
 rw [J8,Bp h,List.mapIdx_append, ←hy]
 simp [J8,List.length_take,Nat.min_eq_left (Nat.le_of_lt hk)]
theorem Ai3 {x:Ev} {n i:Nat} {fu:Bool} {v:Val} (h:0<(i:Int)∨fu=true) (h2:(i:Int)+1<(n:Int)):Fa x n fu i v=x.further.put v true:=by rw [Fa,if_pos h,decide_eq_true h2]
theorem Ai2 {x:Ev} {n i:Nat} {fu:Bool} {v:Val} (h:0<(i:Int)∨fu=true) (h2:¬(i:Int)+1<(n:Int)):Fa x n fu i v=x.further.put v false:=by rw [Fa,if_pos h,decide_eq_false h2]
theorem Arf {x:Ev} {n i:Nat} {fu:Bool} {v:Val} (h:¬0<(i:Int)) (h':fu=false) (h2:(i:Int)+1<(n:Int)):Fa x n fu i v=x.put v true:=by rw [Fa,if_neg (by rw [h'];simp;omega),decide_eq_true h2]
theorem Are {x:Ev} {n i:Nat} {fu:Bool} {v:Val} (h:¬0<(i:Int)) (h':fu=false) (h2:¬(i:Int)+1<(n:Int)):Fa x n fu i v=x.put v false:=by rw [Fa,if_neg (by rw [h'];simp;omega),decide_eq_false h2]
theorem Mq (x:Ev) (vs:List Val) (fu:Bool) (h:x.fit) (hv:vs.length≤3000):XS Tryz.prog 105 [.agg (Ev.c x), .sl 2 (vs.map Val.c), .v (.bool fu)] (.own 900) [(900, .row 59 13 ((Bu x vs fu).map Ev.c))]:=by
 have hf:=h
 have hf1:=h.1
 refine D2 Ab9 Tryz.func105 R R lb (by kernel_rfl) (by kernel_rfl)<|zr<|XL.step R (At 3 (l:= [.d (dI x.site), .d (dI x.num), .d (dI x.kind), .d (dI x.v.log), .d (dI x.v.dots), .d (.sl 5 (x.heads.map Hd.c)), .d (.sl 5 (x.graces.map Gr.c)), .d (dI x.art), .d (dI x.orn), .d (dI x.dyn), .d (.sl 2 (x.lyr.map Sy.c)), .d (dI x.stem), .d (dI x.beam)]) R R (by kernel_rfl))<|za R R<|znr<|?_
 refine za R R<|zn<|zs<|zr<|zm R R<|XL.len R R R Tryz.underlying159 fun hl12=>zm R R<|zn<|Ah<|Dp 900 7 59 13 R<|?_
 refine A4 (α:=Nat) (fun k=>k≤vs.length) (fun k=>mkF [(1, .d (.sl 2 (vs.map Val.c))),(2, .d (dB fu)),(3, .ptr 3 0 0),(6, .d (.v (.slice none 0 0))),(7, .own 900),(11, .d (.sl 2 (vs.map Val.c))),(12, .d (dI vs.length)),(13, .d (dI k))]) (fun k=>mkH [(3, .box ((Ev.c x).map S.d)),(900, .row 59 13 ((J8 x vs fu k).map Ev.c))]) (fun k=>vs.length - k) (0) (Nat.zero_le _) ?_ ?_ ?_
 exact fz ⟨sr,sr,sr,sr,sr,sr,sr,sr,trivial⟩
 exact gz ⟨R,R,trivial⟩
 intro k hk0
 refine zr<|zp (Au R R R)<|zn<|zs<|?_
 refine zd R (fun c14=> ?_) (fun c14=> ?_)
 have hk0a:k<vs.length:=by omega
 obtain ⟨x0,hx0⟩:=Az hk0a
 have hnl:(J8 x vs fu k).length=k:=by rw [J8,List.length_mapIdx,List.length_take];omega
 have hpl:(x.heads.map Hd.plain).length≤1000:=by rw [List.length_map];exact hf1
 refine zi<|zs<|Ah<|zr<|zm R R<|zp (Aj R R R Ar2 hx0)<|zp (Ae (s':= .d (.agg (Val.c x0))) (Bf R R Eg lb) (by kernel_rfl))<|XL.step R (Ax 9 (l:= [.d (dI 0), .d (dI 0)]) R Fg (by kernel_rfl))<|za R R<|XL.step R (Af (l':= [.d (dI x0.log), .d (dI x0.dots)]) R R R R G4 R lb (by kernel_rfl))<|znr<|?_
 refine zp (Ae (s':= .d (.agg (Ev.c x))) (Ac (Ad R R B0 R lb)) (by kernel_rfl))<|XL.call1 R R (Qo _ (by assumption)) R<|XL.step R (Ax 10 (l:= [.d (dI 0), .d (dI 0), .d (dI 0), .d (dI 0), .d (dI 0), .d (.v (.slice none 0 0)), .d (.v (.slice none 0 0)), .d (dI 0), .d (dI 0), .d (dI 0), .d (.v (.slice none 0 0)), .d (dI 0), .d (dI 0)]) R Cb (by kernel_rfl))<|?_
 refine XL.step R (Af (l':= [.d (dI x.site), .d (dI x.num), .d (dI x.kind), .d (dI x.v.log), .d (dI x.v.dots), .d (.sl 5 (x.heads.map Hd.c)), .d (.sl 5 (x.graces.map Gr.c)), .d (dI x.art), .d (dI x.orn), .d (dI x.dyn), .d (.sl 2 (x.lyr.map Sy.c)), .d (dI x.stem), .d (dI x.beam)]) R R R R C4 R lb (by kernel_rfl))<|zn<|zs<|zr<|zm R R<|zp (Bb R R R)<|zm R R<|?_
 refine XL.dec 22 R (fun g22=> ?_) (fun g22=> ?_)
 refine XL.skip R<|zq R R R<|zn<|A0 (by kernel_rfl) R<|Cp 7 [] (by kernel_rfl) (by kernel_rfl) (by kernel_rfl) (by kernel_rfl) (by decide)<|yp (Aa R R Dk)<|yp (Ab R R Ai R R)<|yp (Aa R R Ii)<|yp (Ab R R Ai R R)<|yp (Aa R R C1)<|yp (Ab R R G6 R R)<|ChK.cons R (CStep.call R (Ph _ (by omega)) R)<|?_
 refine ChK.nil ⟨by kernel_rfl, ?_⟩
 refine zp (Ae (s':= .d (.agg [dI 0,dI 0,dI x.kind,dI 0,dI 0, .sl 5 ((x.heads.map Hd.plain).map Hd.c), .v (.slice none 0 0),dI 0,dI 0,dI 0, .v (.slice none 0 0),dI x.stem,dI 0])) (Ac (Ba R Pt Cb R)) (by kernel_rfl))<|?_
 refine XL.step R (Af (l':= [.d (dI 0), .d (dI 0), .d (dI x.kind), .d (dI 0), .d (dI 0), .d (.sl 5 ((x.heads.map Hd.plain).map Hd.c)), .d (.v (.slice none 0 0)), .d (dI 0), .d (dI 0), .d (dI 0), .d (.v (.slice none 0 0)), .d (dI x.stem), .d (dI 0)]) R R R R C4 R lb (by kernel_rfl))<|znr<|zp (Ae (s':= .d (.agg (Val.c x0))) (Ac (Ad R R Eg R lb)) (by kernel_rfl))<|?_
 refine zp (Aa R R He)<|XL.step R (Af (l':= [.d (dI 0), .d (dI 0), .d (dI x.kind), .d (dI x0.log), .d (dI x0.dots), .d (.sl 5 ((x.heads.map Hd.plain).map Hd.c)), .d (.v (.slice none 0 0)), .d (dI 0), .d (dI 0), .d (dI 0), .d (.v (.slice none 0 0)), .d (dI x.stem), .d (dI 0)]) R R R R G4 R lb (by kernel_rfl))<|zn<|zs<|zr<|zm R R<|zp (Al R R R (by omega) (by omega))<|zm R R<|?_
 refine XL.len R R R Tryz.underlying159 fun hl38=>zp (Au R R R)<|zn<|?_
 refine zd R (fun c39=> ?_) (fun c39=> ?_)
 refine Ag (by kernel_rfl)<|zp (Aa R R C1)<|zp (Ab R R G6 R R)<|XL.call1 R R (Pr _ (by omega)) R<|zp (Aa R R C1)<|?_
 refine XL.step R (Af (l':= [.d (dI 0), .d (dI 0), .d (dI x.kind), .d (dI x0.log), .d (dI x0.dots), .d (.sl 5 (((x.heads.map Hd.plain).map Hd.tie).map Hd.c)), .d (.v (.slice none 0 0)), .d (dI 0), .d (dI 0), .d (dI 0), .d (.v (.slice none 0 0)), .d (dI x.stem), .d (dI 0)]) R R R R Nd R lb (by kernel_rfl))<|zng<|zp (Ao R (by conv=>lhs;whnf))<|?_
 refine zp (Ae (s':= .d (.agg [dI 0,dI 0,dI x.kind,dI x0.log,dI x0.dots, .sl 5 (((x.heads.map Hd.plain).map Hd.tie).map Hd.c), .v (.slice none 0 0),dI 0,dI 0,dI 0, .v (.slice none 0 0),dI x.stem,dI 0])) (Ac (Ad R R B0 R lb)) (by kernel_rfl))<|XL.step R (Bl 46 R Tryz.underlying79 C4 Cb R R (by omega) (by omega))<|?_
 refine XL.row1 (i:=46) R (.cons (.same R) (.cons (.same R) (.cons (.same R) (.cons (.same R) (.cons (.same R) (.cons (.same R) (.cons (.nil 5) (.cons (.same R) (.cons (.same R) (.cons (.same R) (.cons (.nil 2) (.cons (.same R) (.cons (.same R) (.nil))))))))))))))<|XL.step R (A7 R Gh (.own R) (Src.own R) (by unfold maxLen;simp;omega) (by simp;omega))<|?_
 refine zp (Ar R (by conv=>lhs;whnf))<|?_
 refine zn<|Ag (by kernel_rfl)<|zp (Al R R R (by omega) (by omega))<|zm R R<|zn<|?_
 exact An (k+1) (by omega) (by omega) (fz ⟨sr,sr,sr,sr,sr,sr,sr,sr,trivial⟩) (gz ⟨R,I6 R (Hj hx0 (Ai3 (.inl g22) c39)),trivial⟩)
 refine zi<|Ag (by kernel_rfl)<|zp (Ao R (by conv=>lhs;whnf))<|?_
 refine zp (Ae (s':= .d (.agg [dI 0,dI 0,dI x.kind,dI x0.log,dI x0.dots, .sl 5 ((x.heads.map Hd.plain).map Hd.c), .v (.slice none 0 0),dI 0,dI 0,dI 0, .v (.slice none 0 0),dI x.stem,dI 0])) (Ac (Ad R R B0 R lb)) (by kernel_rfl))<|XL.step R (Bl 46 R Tryz.underlying79 C4 Cb R R (by omega) (by omega))<|?_
 refine XL.row1 (i:=46) R (.cons (.same R) (.cons (.same R) (.cons (.same R) (.cons (.same R) (.cons (.same R) (.cons (.same R) (.cons (.nil 5) (.cons (.same R) (.cons (.same R) (.cons (.same R) (.cons (.nil 2) (.cons (.same R) (.cons (.same R) (.nil))))))))))))))<|XL.step R (A7 R Gh (.own R) (Src.own R) (by unfold maxLen;simp;omega) (by simp;omega))<|?_
 refine zp (Ar R (by conv=>lhs;whnf))<|?_
 refine zn<|Ag (by kernel_rfl)<|zp (Al R R R (by omega) (by omega))<|zm R R<|zn<|?_
 exact An (k+1) (by omega) (by omega) (fz ⟨sr,sr,sr,sr,sr,sr,sr,sr,trivial⟩) (gz ⟨R,I6 R (Hj hx0 (Ai2 (.inl g22) c39)),trivial⟩)
 refine zm R R<|zq R R R<|zn<|?_
 refine E2 (by kernel_rfl) R (fun c24=> ?_) (fun c24=> ?_)
 refine Cp 7 [] (by kernel_rfl) (by kernel_rfl) (by kernel_rfl) (by kernel_rfl) (by decide)<|yp (Aa R R Dk)<|yp (Ab R R Ai R R)<|yp (Aa R R Ii)<|yp (Ab R R Ai R R)<|yp (Aa R R C1)<|yp (Ab R R G6 R R)<|ChK.cons R (CStep.call R (Ph _ (by omega)) R)<|?_
 refine ChK.nil ⟨by kernel_rfl, ?_⟩
 refine zp (Ae (s':= .d (.agg [dI 0,dI 0,dI x.kind,dI 0,dI 0, .sl 5 ((x.heads.map Hd.plain).map Hd.c), .v (.slice none 0 0),dI 0,dI 0,dI 0, .v (.slice none 0 0),dI x.stem,dI 0])) (Ac (Ba R Pt Cb R)) (by kernel_rfl))<|?_
 refine XL.step R (Af (l':= [.d (dI 0), .d (dI 0), .d (dI x.kind), .d (dI 0), .d (dI 0), .d (.sl 5 ((x.heads.map Hd.plain).map Hd.c)), .d (.v (.slice none 0 0)), .d (dI 0), .d (dI 0), .d (dI 0), .d (.v (.slice none 0 0)), .d (dI x.stem), .d (dI 0)]) R R R R C4 R lb (by kernel_rfl))<|znr<|zp (Ae (s':= .d (.agg (Val.c x0))) (Ac (Ad R R Eg R lb)) (by kernel_rfl))<|?_
 refine zp (Aa R R He)<|XL.step R (Af (l':= [.d (dI 0), .d (dI 0), .d (dI x.kind), .d (dI x0.log), .d (dI x0.dots), .d (.sl 5 ((x.heads.map Hd.plain).map Hd.c)), .d (.v (.slice none 0 0)), .d (dI 0), .d (dI 0), .d (dI 0), .d (.v (.slice none 0 0)), .d (dI x.stem), .d (dI 0)]) R R R R G4 R lb (by kernel_rfl))<|zn<|zs<|zr<|zm R R<|zp (Al R R R (by omega) (by omega))<|zm R R<|?_
 refine XL.len R R R Tryz.underlying159 fun hl38=>zp (Au R R R)<|zn<|?_
 refine zd R (fun c39=> ?_) (fun c39=> ?_)
 refine Ag (by kernel_rfl)<|zp (Aa R R C1)<|zp (Ab R R G6 R R)<|XL.call1 R R (Pr _ (by omega)) R<|zp (Aa R R C1)<|?_
 refine XL.step R (Af (l':= [.d (dI 0), .d (dI 0), .d (dI x.kind), .d (dI x0.log), .d (dI x0.dots), .d (.sl 5 (((x.heads.map Hd.plain).map Hd.tie).map Hd.c)), .d (.v (.slice none 0 0)), .d (dI 0), .d (dI 0), .d (dI 0), .d (.v (.slice none 0 0)), .d (dI x.stem), .d (dI 0)]) R R R R Nd R lb (by kernel_rfl))<|zng<|zp (Ao R (by conv=>lhs;whnf))<|?_
 refine zp (Ae (s':= .d (.agg [dI 0,dI 0,dI x.kind,dI x0.log,dI x0.dots, .sl 5 (((x.heads.map Hd.plain).map Hd.tie).map Hd.c), .v (.slice none 0 0),dI 0,dI 0,dI 0, .v (.slice none 0 0),dI x.stem,dI 0])) (Ac (Ad R R B0 R lb)) (by kernel_rfl))<|XL.step R (Bl 46 R Tryz.underlying79 C4 Cb R R (by omega) (by omega))<|?_
 refine XL.row1 (i:=46) R (.cons (.same R) (.cons (.same R) (.cons (.same R) (.cons (.same R) (.cons (.same R) (.cons (.same R) (.cons (.nil 5) (.cons (.same R) (.cons (.same R) (.cons (.same R) (.cons (.nil 2) (.cons (.same R) (.cons (.same R) (.nil))))))))))))))<|XL.step R (A7 R Gh (.own R) (Src.own R) (by unfold maxLen;simp;omega) (by simp;omega))<|?_
 refine zp (Ar R (by conv=>lhs;whnf))<|?_
 refine zn<|Ag (by kernel_rfl)<|zp (Al R R R (by omega) (by omega))<|zm R R<|zn<|?_
 exact An (k+1) (by omega) (by omega) (fz ⟨sr,sr,sr,sr,sr,sr,sr,sr,trivial⟩) (gz ⟨R,I6 R (Hj hx0 (Ai3 (.inr c24) c39)),trivial⟩)
 refine zi<|Ag (by kernel_rfl)<|zp (Ao R (by conv=>lhs;whnf))<|?_
 refine zp (Ae (s':= .d (.agg [dI 0,dI 0,dI x.kind,dI x0.log,dI x0.dots, .sl 5 ((x.heads.map Hd.plain).map Hd.c), .v (.slice none 0 0),dI 0,dI 0,dI 0, .v (.slice none 0 0),dI x.stem,dI 0])) (Ac (Ad R R B0 R lb)) (by kernel_rfl))<|XL.step R (Bl 46 R Tryz.underlying79 C4 Cb R R (by omega) (by omega))<|?_
 refine XL.row1 (i:=46) R (.cons (.same R) (.cons (.same R) (.cons (.same R) (.cons (.same R) (.cons (.same R) (.cons (.same R) (.cons (.nil 5) (.cons (.same R) (.cons (.same R) (.cons (.same R) (.cons (.nil 2) (.cons (.same R) (.cons (.same R) (.nil))))))))))))))<|XL.step R (A7 R Gh (.own R) (Src.own R) (by unfold maxLen;simp;omega) (by simp;omega))<|?_
 refine zp (Ar R (by conv=>lhs;whnf))<|?_
 refine zn<|Ag (by kernel_rfl)<|zp (Al R R R (by omega) (by omega))<|zm R R<|zn<|?_
 exact An (k+1) (by omega) (by omega) (fz ⟨sr,sr,sr,sr,sr,sr,sr,sr,trivial⟩) (gz ⟨R,I6 R (Hj hx0 (Ai2 (.inr c24) c39)),trivial⟩)
 refine zi<|zr<|zp (Ae (s':= .d (.agg (Val.c x0))) (Ac (Ad R R Eg R lb)) (by kernel_rfl))<|zp (Aa R R He)<|?_
 refine XL.step R (Af (l':= [.d (dI x.site), .d (dI x.num), .d (dI x.kind), .d (dI x0.log), .d (dI x0.dots), .d (.sl 5 (x.heads.map Hd.c)), .d (.sl 5 (x.graces.map Gr.c)), .d (dI x.art), .d (dI x.orn), .d (dI x.dyn), .d (.sl 2 (x.lyr.map Sy.c)), .d (dI x.stem), .d (dI x.beam)]) R R R R G4 R lb (by kernel_rfl))<|zn<|zs<|zr<|zm R R<|zp (Al R R R (by omega) (by omega))<|zm R R<|?_
 refine XL.len R R R Tryz.underlying159 fun hl38=>zp (Au R R R)<|zn<|?_
 refine zd R (fun c39=> ?_) (fun c39=> ?_)
 refine Ag (by kernel_rfl)<|zp (Aa R R C1)<|zp (Ab R R G6 R R)<|XL.call1 R R (Pr _ (by omega)) R<|zp (Aa R R C1)<|?_
 refine XL.step R (Af (l':= [.d (dI x.site), .d (dI x.num), .d (dI x.kind), .d (dI x0.log), .d (dI x0.dots), .d (.sl 5 ((x.heads.map Hd.tie).map Hd.c)), .d (.sl 5 (x.graces.map Gr.c)), .d (dI x.art), .d (dI x.orn), .d (dI x.dyn), .d (.sl 2 (x.lyr.map Sy.c)), .d (dI x.stem), .d (dI x.beam)]) R R R R Nd R lb (by kernel_rfl))<|zng<|zp (Ao R (by conv=>lhs;whnf))<|?_
 refine zp (Ae (s':= .d (.agg [dI x.site,dI x.num,dI x.kind,dI x0.log,dI x0.dots, .sl 5 ((x.heads.map Hd.tie).map Hd.c), .sl 5 (x.graces.map Gr.c),dI x.art,dI x.orn,dI x.dyn, .sl 2 (x.lyr.map Sy.c),dI x.stem,dI x.beam])) (Ac (Ad R R B0 R lb)) (by kernel_rfl))<|XL.step R (Bl 46 R Tryz.underlying79 C4 Cb R R (by omega) (by omega))<|?_
 refine XL.step R (A7 R Gh (.own R) (Src.own R) (by unfold maxLen;simp;omega) (by simp;omega))<|zp (Ar R (by conv=>lhs;whnf))<|?_
 refine zn<|Ag (by kernel_rfl)<|zp (Al R R R (by omega) (by omega))<|zm R R<|zn<|?_
 exact An (k+1) (by omega) (by omega) (fz ⟨sr,sr,sr,sr,sr,sr,sr,sr,trivial⟩) (gz ⟨R,I6 R (Hj hx0 (Arf g22 c24 c39)),trivial⟩)
 refine zi<|Ag (by kernel_rfl)<|zp (Ao R (by conv=>lhs;whnf))<|?_
 refine zp (Ae (s':= .d (.agg [dI x.site,dI x.num,dI x.kind,dI x0.log,dI x0.dots, .sl 5 (x.heads.map Hd.c), .sl 5 (x.graces.map Gr.c),dI x.art,dI x.orn,dI x.dyn, .sl 2 (x.lyr.map Sy.c),dI x.stem,dI x.beam])) (Ac (Ad R R B0 R lb)) (by kernel_rfl))<|XL.step R (Bl 46 R Tryz.underlying79 C4 Cb R R (by omega) (by omega))<|?_
 refine XL.step R (A7 R Gh (.own R) (Src.own R) (by unfold maxLen;simp;omega) (by simp;omega))<|zp (Ar R (by conv=>lhs;whnf))<|?_
 refine zn<|Ag (by kernel_rfl)<|zp (Al R R R (by omega) (by omega))<|zm R R<|zn<|?_
 exact An (k+1) (by omega) (by omega) (fz ⟨sr,sr,sr,sr,sr,sr,sr,sr,trivial⟩) (gz ⟨R,I6 R (Hj hx0 (Are g22 c24 c39)),trivial⟩)
 have hk0b:k=vs.length:=by omega
 have ht:J8 x vs fu k=Bu x vs fu:=by rw [J8,hk0b,List.take_length];rfl
 refine Av<|zr<|zp (Ao R (by conv=>lhs;whnf))<|?_
 refine zp (Ar R (by conv=>lhs;whnf))<|?_
 refine zn<|zt<|?_
 exact ⟨Cr R (RVS.tmp R R),HSub.cons (by rw [ht];rfl) (HSub.nil)⟩
end Go.Proofs.YtaafemnkamfgnaaGreat
namespace Go.Proofs.YtaafemnkamfgnaaGreat
open Go.RowKit
def Ev.silent (e:Ev):Prop:=(e.kind=2∨e.kind=4)∧e.dyn=0∧e.art=0
instance (e:Ev):Decidable e.silent:=by unfold Ev.silent;exact inferInstance
def Ev.bare (y:Ev) (stem:Int):Ev:=⟨y.site,y.num,1,y.v,y.heads.map Hd.plain, [],0,0,0, [],stem,0⟩
def X5 (a b:List Hd):Prop:=∀(j:Nat) (x y:Hd),a[j]? =some x→b[j]? =some y→x.tied=true∧x.p=y.p
def Ev.conts (x y:Ev) (stem:Int):Prop:=x.kind=1∧x.heads.length=y.heads.length∧X5 x.heads y.heads∧y.eqv (y.bare stem)
open Classical in
noncomputable def Ev.contB (x y:Ev) (stem:Int):Bool:=decide (x.conts y stem)
def Pl.bad (p:Pl):Prop:=p.off<0∨15482880<p.off∨p.len<1∨15482880<p.len
instance (p:Pl):Decidable p.bad:=by unfold Pl.bad;exact inferInstance
def Pl.chk (p:Pl) (v:Vo):Int:=if p.m.err≠0 then p.m.err else if p.bad then 2 else ckE v p.len
theorem Atq {p:Pl} {v:Vo} (h:p.m.err≠0):p.m.err=p.chk v:=by rw [Pl.chk,if_pos h]
theorem Agr {p:Pl} {v:Vo} (h:¬p.m.err≠0) (h2:p.bad):2=p.chk v:=by rw [Pl.chk,if_neg h,if_pos h2]
theorem Atp {p:Pl} {v:Vo} (h:¬p.m.err≠0) (h2:¬p.bad):ckE v p.len=p.chk v:=by rw [Pl.chk,if_neg h,if_neg h2]
theorem Agq (p:Pl) (v:Vo) (hE:Evs v.evs):XC Tryz.prog 128 [.agg (Pl.c p), .agg (Vo.c v)] (fun r=>r=dI (p.chk v)):=by
 refine Ap Ab6 Tryz.func128 R R lb<|zr<|XL.step R (At 2 (l:= [.d (dI p.m.count), .d (dI p.m.unit), .d (dI p.m.g0), .d (dI p.m.g1), .d (dI p.m.g2), .d (dI p.m.g3), .d (dI p.m.g4), .d (dI p.m.g5), .d (dI p.off), .d (dI p.len)]) R R (by kernel_rfl))<|XL.step R (At 3 (l:= [.d (.sl 13 (v.evs.map Ev.c)), .d (.sl 4 (v.tups.map Tp.c))]) R R (by kernel_rfl))<|za R R<|zn<|zs<|zr<|?_
 refine zp (Aa R R Mz)<|zp (Ae (s':= .d (.agg (Me.c p.m))) (Ac (Ad R R Bn R lb)) (by kernel_rfl))<|XL.call1 R R (Nn _) R<|za R R<|znr<|zm R R<|zp (A5 R R R)<|zn<|?_
 refine zd R (fun c10=> ?_) (fun c10=> ?_)
 exact zr<|zm R R<|za R R<|zn<|zt<|z1 R R (rI (Atq c10))
 refine zi<|zs<|zr<|zp (Aa R R Gs)<|zp (Ab R R Ai R R)<|zp (Au R R R)<|zm R R<|?_
 refine XL.dec 15 R (fun g15=> ?_) (fun g15=> ?_)
 exact zk 3 R<|zq R R R<|zm R R<|zk 3 R<|zq R R R<|zm R R<|zk 3 R<|zq R R R<|zn<|A0 (by kernel_rfl) R<|zr<|za R R<|zn<|zt<|z1 R R (rI (Agr c10 (by unfold Pl.bad;omega)))
 refine zp (Aa R R Gs)<|zp (Ab R R Ai R R)<|zp (Bb R R R)<|zq R R R<|zm R R<|?_
 refine XL.dec 20 R (fun g20=> ?_) (fun g20=> ?_)
 exact zk 3 R<|zq R R R<|zm R R<|zk 3 R<|zq R R R<|zn<|A0 (by kernel_rfl) R<|zr<|za R R<|zn<|zt<|z1 R R (rI (Agr c10 (by unfold Pl.bad;omega)))
 refine zp (Aa R R Cv)<|zp (Ab R R Ai R R)<|zp (Au R R R)<|zq R R R<|zm R R<|?_
 refine XL.dec 25 R (fun g25=> ?_) (fun g25=> ?_)
 exact zk 3 R<|zq R R R<|zn<|A0 (by kernel_rfl) R<|zr<|za R R<|zn<|zt<|z1 R R (rI (Agr c10 (by unfold Pl.bad;omega)))
 refine zp (Aa R R Cv)<|zp (Ab R R Ai R R)<|zp (Bb R R R)<|zq R R R<|zn<|?_
 refine zd R (fun c29=> ?_) (fun c29=> ?_)
 exact zr<|za R R<|zn<|zt<|z1 R R (rI (Agr c10 (by unfold Pl.bad;omega)))
 exact zi<|zr<|zp (Ae (s':= .d (.agg (Vo.c v))) (Ac (Ad R R Aw R lb)) (by kernel_rfl))<|zp (Aa R R Cv)<|zp (Ab R R Ai R R)<|XL.call1 R R (M7 _ _ (by assumption)) R<|za R R<|zn<|zt<|z1 R R (rI (Atp c10 (by unfold Pl.bad;omega)))
end Go.Proofs.YtaafemnkamfgnaaGreat
namespace Go.Proofs.YtaafemnkamfgnaaGreat
open Go.RowKit
theorem Ap3 (t:Tp) (a b:Int):XC Tryz.prog 103 [.agg (Tp.c t), .pt [dI a], .pt [dI b]] (fun r=>r=dB (decide (a≤t.first∧t.first<b))):=by
 refine Ap Acb Tryz.func103 R R lb<|zr<|XL.step R (At 3 (l:= [.d (dI t.first), .d (dI t.count), .d (dI t.actual), .d (dI t.normal)]) R R (by kernel_rfl))<|za R R<|znr<|zp (Aa R R Br)<|zp (Ab R R Ai R R)<|zp (Am R R Ai)<|zp (F7 R R R)<|zm R R<|?_
 refine XL.dec 9 R (fun g9=> ?_) (fun g9=> ?_)
 exact zp (Aa R R Br)<|zp (Ab R R Ai R R)<|zp (Am R R Ai)<|zp (Au R R R)<|zq R R R<|za R R<|zn<|zt<|z1 R R (rB (by rw [decide_eq_decide];omega))
 exact zk 4 R<|zq R R R<|za R R<|zn<|zt<|z1 R R (rB (by rw [eq_comm,decide_eq_false_iff_not];omega))
theorem Ao2 (t:Tp) (a:Int):XC Tryz.prog 175 [.agg (Tp.c t), .pt [dI a]] (fun r=>r=dB (decide (t.first<a))):=by
 exact Ap Aa8 Tryz.func175 R R lb<|zr<|XL.step R (At 2 (l:= [.d (dI t.first), .d (dI t.count), .d (dI t.actual), .d (dI t.normal)]) R R (by kernel_rfl))<|za R R<|znr<|zp (Aa R R Br)<|zp (Ab R R Ai R R)<|zp (Am R R Ai)<|zp (Au R R R)<|za R R<|zn<|zt<|z1 R R (R)
theorem Ao1 (t:Tp) (a b:Int) (h0:0≤a∧a≤100000) (h1:0≤b∧b≤100000):XC Tryz.prog 176 [.agg (Tp.c t), .pt [dI a], .pt [dI b]] (fun r=>r=dB (decide (a+b≤t.first))):=by
 exact Ap Aa7 Tryz.func176 R R lb<|zr<|XL.step R (At 3 (l:= [.d (dI t.first), .d (dI t.count), .d (dI t.actual), .d (dI t.normal)]) R R (by kernel_rfl))<|za R R<|znr<|zp (Aa R R Br)<|zp (Ab R R Ai R R)<|zp (Am R R Ai)<|zp (Am R R Ai)<|zp (Al R R R (by omega) (by omega))<|zp (F7 R R R)<|za R R<|zn<|zt<|z1 R R (R)
theorem Ao0 (t:Tp):XC Tryz.prog 177 [.agg (Tp.c t)] (fun r=>r=dB true):=by
 exact Ap Aa6 Tryz.func177 R R lb<|zr<|XL.step R (At 1 (l:= [.d (dI t.first), .d (dI t.count), .d (dI t.actual), .d (dI t.normal)]) R R (by kernel_rfl))<|za R R<|znr<|za R R<|zn<|zt<|z1 R R (R)
end Go.Proofs.YtaafemnkamfgnaaGreat
