/- Part 6 of what the statements need: lemmas and walks. -/
import Derived.Test.YtaafemnkamfgnaaGreatVc5
set_option linter.unusedVariables false
set_option linter.unusedSimpArgs false
set_option linter.unusedSectionVars false
set_option maxRecDepth 20000
set_option maxHeartbeats 8000000
namespace Go.Proofs.YtaafemnkamfgnaaGreat
open Go.RowKit
theorem Xe (t:Tp) (l:List Tp) (n:Int):hits (t::l) n=hits l n+(if t.has n then 1 else 0):=by
 unfold hits
 rw [List.filter_cons]
 by_cases h:t.has n<;>simp [h]
theorem Am3 (l:List Tp) (n:Int):hits l n≤l.length:=List.length_filter_le _ _
theorem Am2 (t:Tp) (s:List Tp) (n:Int) (hn:t.first≤n):hits (Cy t s) n=hits s n:=by
 induction s with
 |nil=>rfl
 |cons o r ih=>
  unfold Cy
  split
  ·rename_i h
   rw [ih,Xe,if_neg (fun k=>by unfold Tp.has at k;unfold Tp.e at h;omega)]
   rfl
  ·rfl
theorem Ag3 {q t:Tp} (h:¬0<Km q t):q.first≤t.first:=by
 unfold Km at h
 split at h
 ·split at h<;>omega
 ·omega
theorem Agj (n:Int) (l:List Tp):∀(p:Option Tp) (s L:List Tp),E3 n p s l=0→s.length≤3→(∀e,hits L e≤3)→(∀e,(∀q,p=some q→q.first≤e)→hits L e=hits s e)→∀e,hits (L++l) e≤3:=by
 induction l with
 |nil=>intro p s L _ _ h1 _ e;rw [List.append_nil];exact h1 e
 |cons t l ih=>
  intro p s L hz hs h1 h2 e
  rw [E3] at hz
  split at hz
  ·omega
  ·split at hz
   ·omega
   ·rename_i hin hna
    split at hz
    ·omega
    ·rename_i hov
     have hp:∀q,p=some q→q.first≤t.first:=fun q hq=>by subst hq;exact Ag3 hna
     have h3:(t::Cy t s).length≤3:=by
      have h4:=Al3 t s
      have h5:¬(Cy t s).length=3:=fun k=>hov (.inl k)
      rw [List.length_cons]
      omega
     have heq:∀e,t.first≤e→hits (L++ [t]) e=hits (t::Cy t s) e:=fun e he=>by
      rw [Iw,Xe,Am2 t s e he,h2 e (fun q hq=>Int.le_trans (hp q hq) he)]
     have:=ih (some t) (t::Cy t s) (L++ [t]) hz h3 (fun e=> ?_) (fun e he=>heq e (he t rfl)) e
     ·rw [List.append_assoc] at this;exact this
     ·by_cases he:t.first≤e
      ·rw [heq e he];exact Nat.le_trans (Am3 _ _) h3
      ·rw [Iw,if_neg (fun k=>he k.1)];exact h1 e
theorem Alk (n:Int) (l:List Tp):∀(p:Option Tp) (s:List Tp),E3 n p s l=0→∀t∈l,t.inR n:=by
 induction l with
 |nil=>intro p s _ t ht;cases ht
 |cons t l ih=>
  intro p s hz x hx
  rw [E3] at hz
  split at hz
  ·omega
  ·rename_i hin
   split at hz
   ·omega
   ·split at hz
    ·omega
    ·rcases List.mem_cons.1 hx with e|e
     ·rw [e];exact Decidable.not_not.1 hin
     ·exact ih _ _ hz x e
structure Tups (l:List Tp) (n:Int):Prop where
 bd:0≤n∧n≤128
 len:l.length≤16
 inR:∀t∈l,t.inR n
 ok:∀t∈l,t.ok
 hits:∀e,hits l e≤3
theorem Vi {l:List Tp} {n:Int} (h:¬Eh l n≠0):Tups l n:=by
 have h0:Eh l n=0:=by omega
 unfold Eh at h0
 split at h0
 ·omega
 ·split at h0
  ·omega
  ·have hi:=Alk n l _ _ h0
   refine ⟨by omega,by omega,hi,fun t ht=>(hi t ht).ok (by omega),fun e=> ?_⟩
   have:=Agj n l none [] [] h0 (by decide) (fun e=>Nat.zero_le _) (fun e _=>rfl) e
   rwa [List.nil_append] at this
def C9 (l:List Tp):Nat→List Int→List Int
 |_, []=> []
 |i,w::r=>Ej l i w::C9 l (i+1) r
def Jg (l:List Tp):Nat→List Int→Int
 |_, []=>0
 |i,w::r=>if Ea l i w≠0 then Ea l i w else Jg l (i+1) r
def Dd (l:List Tp) (ws:List Int):Int:=if Eh l ws.length≠0 then Eh l ws.length else Jg l 0 ws
def Ho (l:List Tp) (ws:List Int):List Int:=if Dd l ws=0 then C9 l 0 ws else []
theorem Ahb (l:List Tp) (a:List Int) (w:Int):∀i,C9 l i (a++ [w])=C9 l i a++ [Ej l ((i+a.length:Nat):Int) w]:=by
 induction a with
 |nil=>intro i;rfl
 |cons x a ih=>
  intro i
  rw [List.cons_append,C9,ih (i+1),C9,List.cons_append,List.length_cons,show i+1+a.length=i+(a.length+1) by omega]
theorem Adc {l:List Tp} {ws:List Int} {k:Nat} {w:Int} (h:ws[k]? =some w):C9 l 0 (ws.take (k+1))=C9 l 0 (ws.take k)++ [Ej l (k:Int) w]:=by
 have hk:=(List.getElem?_eq_some_iff.1 h).1
 rw [By h,Ahb,List.length_take,Nat.zero_add,Nat.min_eq_left (by omega)]
theorem I7 (l:List Tp) (ws:List Int):∀i,(C9 l i ws).length=ws.length:=by
 induction ws with
 |nil=>intro i;rfl
 |cons w r ih=>intro i;rw [C9,List.length_cons,ih,List.length_cons]
theorem Aiw {l:List Tp} {ws:List Int} {k:Nat} {w:Int} (h:ws[k]? =some w) (hx:¬Ea l k w≠0):Jg l k (ws.drop k)=Jg l (k+1) (ws.drop (k+1)):=by rw [B7 h,Jg,if_neg hx]
theorem Y2 {l:List Tp} {ws:List Int} {k:Nat} {w:Int} (h:ws[k]? =some w) (hx:Ea l k w≠0):Jg l k (ws.drop k)=Ea l k w:=by rw [B7 h,Jg,if_pos hx]
theorem Aij {l:List Tp} {ws:List Int} (h:Eh l ws.length≠0): []=Ho l ws∧Eh l ws.length=Dd l ws:=by
 have e:Dd l ws=Eh l ws.length:=by rw [Dd,if_pos h]
 exact ⟨by rw [Ho,e,if_neg h],e.symm⟩
theorem Aii {l:List Tp} {ws:List Int} (h:¬Eh l ws.length≠0) {e:Int} (he:e=Jg l 0 ws) (hn:e≠0): []=Ho l ws∧e=Dd l ws:=by
 have e2:Dd l ws=e:=by rw [Dd,if_neg h,he]
 exact ⟨by rw [Ho,e2,if_neg hn],e2.symm⟩
theorem Aih {l:List Tp} {ws:List Int} (h:¬Eh l ws.length≠0) (he:Jg l 0 ws=0):C9 l 0 ws=Ho l ws∧0=Dd l ws:=by
 have e2:Dd l ws=0:=by rw [Dd,if_neg h,he]
 exact ⟨by rw [Ho,e2,if_pos rfl],e2.symm⟩
theorem Ss (l:List Tp) (ws:List Int):XC Tryz.prog 169 [.sl 4 (l.map Tp.c), .sl 1 (Co ws)] (fun r=>r= .tup [.sl 1 (Co (Ho l ws)),dI (Dd l ws)]):=by
 refine Al Abn Tryz.func169 R R lb<|zr<|za R R<|za R R<|zn<|zs<|zr<|zm R R<|zm R R<|XL.len R R R Tryz.underlying45 fun hl14=>XL.call1 R R (Wf _ _) R<|za R R<|znr<|zm R R<|?_
 refine zp (A5 R R R)<|zn<|?_
 refine zd R (fun c17=> ?_) (fun c17=> ?_)
 refine zr<|zm R R<|za R R<|za R R<|zn<|zt<|?_
 exact Az R (RV.nil (sz:=1) R R) (RV.tmp R R) (r2 (rSl (Aij c17).1) (rI (Aij c17).2))
 refine zi<|zs<|?_
 have hT:=Vi c17
 have hbd:=hT.bd
 refine Ag (by kernel_rfl)<|zm R R<|XL.len R R R Tryz.underlying45 fun hl20=>XL.step R (Ow 21 (m:=0) (z:=(.int .i64 0)) (zs:= [dI 0]) (sz:=1) (bytes:=8) R R R Tryz.underlying45 (by kernel_rfl) (by kernel_rfl) (by kernel_rfl) (by decide) (by decide) (by omega) (by unfold maxLen;omega) (by omega))<|zp (Ar R (by conv=>lhs;whnf))<|?_
 refine zn<|zs<|zr<|zm R R<|XL.len R R R Tryz.underlying45 fun hl23=>zm R R<|zn<|Ah<|?_
 refine A0 (α:=Nat) (fun k=>k≤ws.length∧Jg l k (ws.drop k)=Jg l 0 ws) (fun k=>mkF [(0, .d (.sl 4 (l.map Tp.c))),(7, .own 21),(22, .d (.sl 1 (Co ws))),(23, .d (dI ws.length)),(24, .d (dI k))]) (fun k=>mkH [(21, .row 3 1 ((C9 l 0 (ws.take k)).map iv))]) (fun k=>ws.length - k) (0) (⟨Nat.zero_le _,by rw [List.drop_zero]⟩) ?_ ?_ ?_
 exact fz ⟨sr,sr,sr,sr,sr,trivial⟩
 exact gz ⟨R,trivial⟩
 intro k hk0
 obtain ⟨hk,hgo⟩:=hk0
 refine zr<|zp (Au R R R)<|zn<|zs<|?_
 refine zd R (fun c25=> ?_) (fun c25=> ?_)
 have hk0a:k<ws.length:=by omega
 obtain ⟨x0,hx0⟩:=Av hk0a
 have hok:=hT.ok
 have hh:=hT.hits k
 have hll:(C9 l 0 (ws.take k)).length=k:=by rw [I7,List.length_take];omega
 refine zi<|zs<|Ah<|zr<|zm R R<|zp (At R R R Dy hx0)<|zp (Bj R R Ai)<|za R R<|za R R<|znr<|zm R R<|zm R R<|zm R R<|XL.call1 R R (Y0 _ _ _ (by assumption) (by assumption) (by omega) (by omega)) R<|?_
 refine zm R R<|zp (Ax R R R)<|zp (Ax R R R)<|za R R<|za R R<|zn<|zs<|zr<|zm R R<|zp (A5 R R R)<|zn<|?_
 refine zd R (fun c37=> ?_) (fun c37=> ?_)
 refine zr<|zm R R<|za R R<|za R R<|zn<|zt<|?_
 exact Az R (RV.nil (sz:=1) R R) (RV.tmp R R) (r2 (rSl (Aii c17 (by rw [←hgo,Y2 hx0 c37]) c37).1) (rI (Aii c17 (by rw [←hgo,Y2 hx0 c37]) c37).2))
 refine zi<|Ag (by kernel_rfl)<|zp (Ak R (by conv=>lhs;whnf))<|?_
 refine zm R R<|XL.step R (Bo 41 R Tryz.underlying45 Fc H5 R R (by omega) (by omega))<|XL.step R (A3 R Q8 (.own R) (Src.own R) (by unfold maxLen;simp;omega) (by simp;omega))<|zp (Ar R (by conv=>lhs;whnf))<|?_
 refine zn<|Ag (by kernel_rfl)<|zp (An R R R (by omega) (by omega))<|zm R R<|zn<|?_
 exact Am (k+1) (⟨by omega,by rw [←Aiw hx0 c37];exact hgo⟩) (by omega) (fz ⟨sr,sr,sr,sr,sr,trivial⟩) (gz ⟨Hc rfl (Adc hx0),trivial⟩)
 have hk0b:k=ws.length:=by omega
 have hz:Jg l 0 ws=0:=by rw [←hgo,hk0b,List.drop_length];rfl
 have ht:ws.take k=ws:=by rw [hk0b,List.take_length]
 refine As<|zr<|zp (Ak R (by conv=>lhs;whnf))<|?_
 refine zp (Ar R (by conv=>lhs;whnf))<|?_
 refine za R R<|zn<|zt<|B9 (i:=21) R<|?_
 exact Az R (RV.tmp R R) (RV.tmp R R) (r2 (rSl (by rw [ht];exact (Aih c17 hz).1)) (rI (Aih c17 hz).2))
abbrev Ny (l:List Tp) (i:Nat):List Tp:=(l.take l.length).drop (i+1)
def Gh (l:List Tp):Nat→List Int→Int→Option Int
 |_, [],acc=>some acc
 |i,w::r,acc=>if Ea l i w≠0 then none else Gh l (i+1) r (acc+Ej l i w)
def Hr (t:Tp) (ws:List Int):List Int:=(ws.drop t.first.toNat).take t.count.toNat
def T2 (a s:Int):Option Int:=((List.range 10).find? fun j=>decide (s=a*(3870720 / 2 ^ j))).map fun j=>(j:Int) - 1
def Gg (l:List Tp) (t:Tp) (ws:List Int):Option Int:=(Gh l t.first.toNat (Hr t ws) 0).bind (T2 t.actual)
def Ui (l:List Tp) (i:Nat) (ws:List Int):Option Int:=(l[i]?).bind fun t=>Gg (Ny l i) t ws
theorem M4 {l:List Tp} {i:Nat} {t:Tp} (h:l[i]? =some t) (ws:List Int):Ui l i ws=Gg (Ny l i) t ws:=by rw [Ui,h];rfl
theorem Apr {t:Tp} {ws:List Int} {j:Nat} (hj:j<t.count.toNat):(Hr t ws)[j]? =ws[t.first.toNat+j]? :=by
 rw [Hr,List.getElem?_take,if_pos hj,List.getElem?_drop]
theorem Agh {l:List Tp} {i k:Nat} {seg:List Int} {w acc:Int} (h:seg[k]? =some w) (hx:¬Ea l i w≠0):Gh l i (seg.drop k) acc=Gh l (i+1) (seg.drop (k+1)) (acc+Ej l i w):=by rw [B7 h,Gh,if_neg hx]
theorem Agg {l:List Tp} {i k:Nat} {seg:List Int} {w acc:Int} (h:seg[k]? =some w) (hx:Ea l i w≠0):Gh l i (seg.drop k) acc=none:=by rw [B7 h,Gh,if_pos hx]
theorem Aic {l:List Tp} {i k:Nat} {seg:List Int} {acc:Int} (h:seg.length≤k):Gh l i (seg.drop k) acc=some acc:=by rw [List.drop_eq_nil_of_le h,Gh]
theorem Aqv {p:Nat→Bool} {m k:Nat} (hk:k<m) (hp:p k=true) (h:∀j,j<k→p j=false):(List.range m).find? p=some k:=by
 rw [List.find?_range_eq_some]
 exact ⟨hp,List.mem_range.2 hk,fun j hj=>by simp [h j hj]⟩
theorem Aqd {a s:Int} {k:Nat} (hk:k<10) (hp:s=a*(3870720 / 2 ^ k)) (h:∀j,j<k→¬s=a*(3870720 / 2 ^ j)):T2 a s=some ((k:Int) - 1):=by
 rw [T2,Aqv hk (decide_eq_true hp) (fun j hj=>decide_eq_false (h j hj))];rfl
theorem Ajt {a s:Int} (h:∀j,j<10→¬s=a*(3870720 / 2 ^ j)):T2 a s=none:=by
 rw [T2,List.find?_eq_none.2 (fun j hj=>by simp [h j (List.mem_range.1 hj)])];rfl
theorem Uj {l:List Tp} {t:Tp} {ws:List Int} {s:Int} (h:Gh l t.first.toNat (Hr t ws) 0=some s):Gg l t ws=T2 t.actual s:=by rw [Gg,h];rfl
theorem Agf {l:List Tp} {t:Tp} {ws:List Int} (h:Gh l t.first.toNat (Hr t ws) 0=none):Gg l t ws=none:=by rw [Gg,h];rfl
theorem Zd {o:Option Int} (h:o=none):D.tup [dI 0,dB false]= .tup [dI (o.getD 0),dB o.isSome]:=by rw [h];rfl
theorem Amf {o:Option Int} {x:Int} (h:o=some x):D.tup [dI x,dB true]= .tup [dI (o.getD 0),dB o.isSome]:=by rw [h];rfl
theorem Aru (k:Nat):0≤(3870720:Int) / 2 ^ k∧(3870720:Int) / 2 ^ k≤3870720:=by
 have h:(0:Int)<2 ^ k:=Int.pow_pos (by omega)
 exact ⟨Int.ediv_nonneg (by omega) (by omega),Int.ediv_le_self _ (by omega)⟩
theorem Ao9 (l:List Tp) (i:Nat) (t:Tp) (ws:List Int) (ht:l[i]? =some t) (hT:Tups l ws.length):XC Tryz.prog 192 [.sl 4 (l.map Tp.c), .v (.int .i64 i), .sl 1 (Co ws)] (fun r=>r= .tup [dI ((Gg (Ny l i) t ws).getD 0),dB (Gg (Ny l i) t ws).isSome]):=by
 have hin:=hT.inR t (List.mem_of_getElem? ht)
 have hok:=hT.ok t (List.mem_of_getElem? ht)
 have hbd:=hT.bd
 have hlen:=hT.len
 have hil:=(List.getElem?_eq_some_iff.1 ht).1
 have hin2:=hin
 simp only [Tp.inR] at hin2
 have hte:t.e=t.first+t.count:=rfl
 obtain ⟨f,hf⟩:∃f:Nat,t.first=f:=⟨t.first.toNat,by omega⟩
 have hf2:t.first.toNat=f:=by omega
 have hsl:(Hr t ws).length=t.count.toNat:=by rw [Hr,List.length_take,List.length_drop];omega
 have hoks:∀x∈(l.take l.length).drop (i+1),x.ok:=Ap1 (Aff hT.ok _) _
 have hhs:∀e,hits ((l.take l.length).drop (i+1)) e≤3:=fun e=>Nat.le_trans (Aj9 _ _ e) (Nat.le_trans (Q1 _ _ e) (hT.hits e))
 refine Al Aa2 Tryz.func192 R R lb<|zr<|za R R<|za R R<|znr<|zm R R<|zm R R<|zp (At R R R Ex (ht))<|zp (Ae (s':= .d (.agg (Tp.c t))) (A6 R R Cg lb) (by kernel_rfl))<|XL.step R (Ap 8 (l:= [.d (dI 0), .d (dI 0), .d (dI 0), .d (dI 0)]) R D7 (by kernel_rfl))<|?_
 refine XL.step R (Af (l':= [.d (dI t.first), .d (dI t.count), .d (dI t.actual), .d (dI t.normal)]) R R R R Fh R lb (by kernel_rfl))<|znr<|za R R<|zn<|zs<|zr<|zp (Aa R R B2)<|zp (Ab R R Ai R R)<|za R R<|zn<|Ah<|?_
 refine A0 (α:=Nat × Int) (fun p=>p.1≤t.count.toNat∧Gh ((l.take l.length).drop (i+1)) (f+p.1) ((Hr t ws).drop p.1) p.2=Gh ((l.take l.length).drop (i+1)) f (Hr t ws) 0∧0≤p.2∧p.2≤(p.1:Int)*253671505920) (fun p=>mkF [(0, .d (.sl 4 (l.map Tp.c))),(1, .d (dI i)),(2, .d (.sl 1 (Co ws))),(8, .ptr 8 0 0),(9, .d (dI p.2)),(10, .d (dI ((f+p.1:Nat):Int)))]) (fun p=>mkH [(8, .box ((Tp.c t).map S.d))]) (fun p=>t.count.toNat - p.1) ((0,0)) (⟨Nat.zero_le _,by rw [List.drop_zero];rfl,Int.le_refl _,by simp⟩) ?_ ?_ ?_
 exact fz ⟨sr,sr,sr,sr,sr, .same (sI (by rw [hf];rfl)),trivial⟩
 exact gz ⟨R,trivial⟩
 intro p hk0
 obtain ⟨hk,hgo,hs0,hs1⟩:=hk0
 refine zs<|zr<|zm R R<|zp (Ae (s':= .d (.agg (Tp.c t))) (Ac (Ad R R Cg R lb)) (by kernel_rfl))<|XL.call1 R R (Ha _ (by assumption)) R<|zp (Au R R R)<|zn<|?_
 refine zd R (fun c23=> ?_) (fun c23=> ?_)
 have hkc:p.1<t.count.toNat:=by omega
 obtain ⟨w,hw⟩:∃w,ws[f+p.1]? =some w:=Av (by omega)
 have hsw:(Hr t ws)[p.1]? =some w:=by rw [Apr hkc,hf2];exact hw
 have hh:=hhs ((f+p.1:Nat):Int)
 have hsb:=Y1 (n:=((f+p.1:Nat):Int)) (w:=w) hoks hh
 refine zi<|zs<|Ah<|zs<|Cb [] (by kernel_rfl) (by kernel_rfl) (by kernel_rfl) (by decide)<|ym R R<|ym R R<|yp (An R R R (by omega) (by omega))<|yp (Jn R R Ex (Bd.ati (a:=i+1) R (by omega)) Bd.no (by omega) (by omega))<|ym R R<|ym R R<|ym R R<|yp (At R R R Dy (hw))<|yp (Bj R R Ai)<|?_
 refine ChK.cons R (CStep.call R (Y0 _ _ _ (by assumption) (by assumption) (by omega) (by omega)) R)<|ym R R<|yp (Ax R R R)<|yp (Ax R R R)<|ya R R<|ya R R<|?_
 refine ChK.nil ⟨by kernel_rfl, ?_⟩
 refine zs<|zr<|zm R R<|zp (A5 R R R)<|zn<|?_
 refine zd R (fun c40=> ?_) (fun c40=> ?_)
 refine zr<|za R R<|za R R<|zn<|zt<|?_
 exact Az R (RV.tmp R R) (RV.tmp R R) (Zd (Agf (by rw [hf2, ←hgo];exact Agg hsw c40)))
 refine zi<|Ag (by kernel_rfl)<|zm R R<|zm R R<|zp (An R R R (by omega) (by omega))<|za R R<|zn<|Ag (by kernel_rfl)<|zm R R<|zp (An R R R (by omega) (by omega))<|za R R<|zn<|?_
 exact Am ((p.1+1,p.2+Ej ((l.take l.length).drop (i+1)) ((f+p.1:Nat):Int) w)) (⟨by simp only;omega,(Agh hsw c40).symm.trans hgo,by simp only;omega,by simp only;omega⟩) (by simp only;omega) (fz ⟨sr,sr,sr,sr,sr,sr,trivial⟩) (gz ⟨rfl,trivial⟩)
 have hu:Gh ((l.take l.length).drop (i+1)) t.first.toNat (Hr t ws) 0=some p.2:=by rw [hf2, ←hgo];exact Aic (by omega)
 refine As<|zs<|zr<|za R R<|zn<|Ah<|?_
 refine A0 (α:=Nat) (fun k=>k≤10∧∀j,j<k→¬p.2=t.actual*(3870720 / 2 ^ j)) (fun k=>mkF [(8, .ptr 8 0 0),(9, .d (dI p.2)),(13, .d (dI ((k:Int) - 1)))]) (fun k=>mkH [(8, .box ((Tp.c t).map S.d))]) (fun k=>10 - k) (0) (⟨Nat.zero_le _,fun j hj=>absurd hj (Nat.not_lt_zero _)⟩) ?_ ?_ ?_
 exact fz ⟨sr,sr,sr,trivial⟩
 exact gz ⟨R,trivial⟩
 intro k hk2
 obtain ⟨hk,hno⟩:=hk2
 have hkk:((k:Int) - 1+1).toNat=k:=by omega
 have hsh:=Aru k
 refine zs<|zr<|zm R R<|zp (Jr R R R)<|zn<|?_
 refine zd R (fun c45=> ?_) (fun c45=> ?_)
 have hml1:0≤t.actual*(3870720 / 2 ^ k):=Int.mul_nonneg (by omega) hsh.1
 have hml2:t.actual*(3870720 / 2 ^ k)≤32*3870720:=Int.mul_le_mul (by omega) hsh.2 hsh.1 (by omega)
 refine zi<|zs<|Ah<|zs<|Cb [] (by kernel_rfl) (by kernel_rfl) (by kernel_rfl) (by decide)<|ym R R<|yp (Aa R R Oc)<|yp (Ab R R Ai R R)<|ym R R<|yp (An R R R (by omega) (by omega))<|yp (Aoh R R R (by omega) (by omega))<|yp (Mf R R R (by rw [hkk];omega) (by rw [hkk];omega))<|yp (Bf R R R)<|?_
 refine ChK.nil ⟨by kernel_rfl, ?_⟩
 refine zd R (fun c55=> ?_) (fun c55=> ?_)
 refine zr<|zm R R<|za R R<|za R R<|zn<|zt<|?_
 exact Az R (RV.tmp R R) (RV.tmp R R) (Amf (by rw [Uj hu];exact Aqd (by omega) (by rw [hkk] at c55;exact c55) hno))
 refine zi<|Ag (by kernel_rfl)<|zm R R<|zp (An R R R (by omega) (by omega))<|za R R<|zn<|?_
 exact Am (k+1) (⟨by omega,fun j hj=>by by_cases e:j=k;(· subst e;rw [hkk] at c55;exact c55);(· exact hno j (by omega))⟩) (by omega) (fz ⟨sr,sr, .same (sI (by omega)),trivial⟩) (gz ⟨rfl,trivial⟩)
 have hke:k=10:=by omega
 have hnone:T2 t.actual p.2=none:=Ajt (fun j hj=>hno j (by omega))
 refine As<|zr<|za R R<|za R R<|zn<|zt<|?_
 exact Az R (RV.tmp R R) (RV.tmp R R) (Zd (by rw [Uj hu];exact hnone))
theorem Nx {l:List Tp} {ws:List Int} (h:¬Dd l ws≠0):Tups l ws.length:=by
 unfold Dd at h
 split at h
 ·rename_i h2;exact absurd h2 h
 ·rename_i h2;exact Vi h2
def Mr (l:List Tp) (ws:List Int):Prop:=∀j,j<l.length→(Ui l j ws).isSome=true
instance (l:List Tp) (ws:List Int):Decidable (Mr l ws):=by unfold Mr;exact inferInstance
def Fg (l:List Tp) (ws:List Int):Int:=if Dd l ws≠0 then Dd l ws else if Mr l ws then 0 else 21
def Nw (l:List Tp) (ws:List Int) (k:Nat):List Int:=(List.range k).map fun j=>(Ui l j ws).getD 0
def M5 (l:List Tp) (ws:List Int):List Int:=if Fg l ws=0 then Nw l ws l.length else []
theorem Agi {l:List Tp} {ws:List Int} {k:Nat} {t:Tp} (h:l[k]? =some t):Nw l ws (k+1)=Nw l ws k++ [(Gg (Ny l k) t ws).getD 0]:=by
 rw [Nw,List.range_succ,List.map_append,List.map_singleton,M4 h];rfl
theorem Aid (l:List Tp) (ws:List Int) (k:Nat):(Nw l ws k).length=k:=by rw [Nw,List.length_map,List.length_range]
theorem Ark {l:List Tp} {ws:List Int} (h:Dd l ws≠0): []=M5 l ws∧Dd l ws=Fg l ws:=by
 have e:Fg l ws=Dd l ws:=by rw [Fg,if_pos h]
 exact ⟨by rw [M5,e,if_neg h],e.symm⟩
theorem Arj {l:List Tp} {ws:List Int} (h:¬Dd l ws≠0) {k:Nat} {t:Tp} (ht:l[k]? =some t) (hn:(!(Gg (Ny l k) t ws).isSome)=true): []=M5 l ws∧21=Fg l ws:=by
 have e:Fg l ws=21:=by
  rw [Fg,if_neg h,if_neg fun ha=> ?_]
  have:=ha k (List.getElem?_eq_some_iff.1 ht).1
  rw [M4 ht] at this
  rw [this] at hn
  cases hn
 exact ⟨by rw [M5,e,if_neg (by decide)],e.symm⟩
theorem Ari {l:List Tp} {ws:List Int} (h:¬Dd l ws≠0) (ha:Mr l ws):Nw l ws l.length=M5 l ws∧0=Fg l ws:=by
 have e:Fg l ws=0:=by rw [Fg,if_neg h,if_pos ha]
 exact ⟨by rw [M5,e,if_pos rfl],e.symm⟩
theorem Alj (l:List Tp) (ws:List Int):XC Tryz.prog 170 [.sl 4 (l.map Tp.c), .sl 1 (Co ws)] (fun r=>r= .tup [.sl 1 (Co (M5 l ws)),dI (Fg l ws)]):=by
 refine Al Abm Tryz.func170 R R lb<|zr<|za R R<|za R R<|zn<|zs<|zr<|zm R R<|zm R R<|XL.call1 R R (Ss _ _) R<|zm R R<|zp (Ax R R R)<|zp (Ax R R R)<|za R R<|?_
 refine za R R<|znr<|zm R R<|zp (A5 R R R)<|zn<|?_
 refine zd R (fun c19=> ?_) (fun c19=> ?_)
 refine zr<|zm R R<|za R R<|za R R<|zn<|zt<|?_
 exact Az R (RV.nil (sz:=1) R R) (RV.tmp R R) (r2 (rSl (Ark c19).1) (rI (Ark c19).2))
 refine zi<|zs<|?_
 have hT:=Nx c19
 have hbd:=hT.bd
 have hlen:=hT.len
 refine Ag (by kernel_rfl)<|zm R R<|XL.len R R R Tryz.underlying80 fun hl22=>XL.step R (Ow 23 (m:=0) (z:=(.int .i64 0)) (zs:= [dI 0]) (sz:=1) (bytes:=8) R R R Tryz.underlying45 (by kernel_rfl) (by kernel_rfl) (by kernel_rfl) (by decide) (by decide) (by omega) (by unfold maxLen;omega) (by omega))<|zp (Ar R (by conv=>lhs;whnf))<|?_
 refine zn<|zs<|zr<|zm R R<|XL.len R R R Tryz.underlying80 fun hl25=>zm R R<|zn<|Ah<|?_
 refine A0 (α:=Nat) (fun k=>k≤l.length∧∀j,j<k→(Ui l j ws).isSome=true) (fun k=>mkF [(0, .d (.sl 4 (l.map Tp.c))),(1, .d (.sl 1 (Co ws))),(8, .own 23),(25, .d (dI l.length)),(26, .d (dI k))]) (fun k=>mkH [(23, .row 3 1 ((Nw l ws k).map iv))]) (fun k=>l.length - k) (0) (⟨Nat.zero_le _,fun j hj=>absurd hj (Nat.not_lt_zero _)⟩) ?_ ?_ ?_
 exact fz ⟨sr,sr,sr,sr,sr,trivial⟩
 exact gz ⟨R,trivial⟩
 intro k hk0
 obtain ⟨hk,hall⟩:=hk0
 refine zr<|zp (Au R R R)<|zn<|zs<|?_
 refine zd R (fun c27=> ?_) (fun c27=> ?_)
 have hk0a:k<l.length:=by omega
 obtain ⟨x0,hx0⟩:=Av hk0a
 have hll:=Aid l ws k
 refine zi<|zs<|Ah<|zr<|zm R R<|za R R<|znr<|zm R R<|zm R R<|zm R R<|XL.call1 R R (Ao9 _ _ _ _ hx0 hT) R<|zm R R<|zp (Ax R R R)<|zp (Ax R R R)<|?_
 refine za R R<|za R R<|zn<|zs<|zr<|zm R R<|zp (Eo R R)<|zn<|?_
 refine Fk (by kernel_rfl) R (fun c37=> ?_) (fun c37=> ?_)
 refine zr<|za R R<|za R R<|zn<|zt<|?_
 exact Az R (RV.nil (sz:=1) R R) (RV.tmp R R) (r2 (rSl (Arj c19 hx0 c37).1) (rI (Arj c19 hx0 c37).2))
 refine zi<|Ag (by kernel_rfl)<|zp (Ak R (by conv=>lhs;whnf))<|?_
 refine zm R R<|XL.step R (Bo 40 R Tryz.underlying45 Fc H5 R R (by omega) (by omega))<|XL.step R (A3 R Q8 (.own R) (Src.own R) (by unfold maxLen;simp;omega) (by simp;omega))<|zp (Ar R (by conv=>lhs;whnf))<|?_
 refine zn<|Ag (by kernel_rfl)<|zp (An R R R (by omega) (by omega))<|zm R R<|zn<|?_
 exact Am (k+1) (⟨by omega,fun j hj=>by by_cases e:j=k;(· subst e;rw [M4 hx0];exact (by simpa using c37));(· exact hall j (by omega))⟩) (by omega) (fz ⟨sr,sr,sr,sr,sr,trivial⟩) (gz ⟨Hc rfl (Agi hx0),trivial⟩)
 have hk0b:k=l.length:=by omega
 have ha:Mr l ws:=fun j hj=>hall j (by omega)
 refine As<|zr<|zp (Ak R (by conv=>lhs;whnf))<|?_
 refine zp (Ar R (by conv=>lhs;whnf))<|?_
 refine za R R<|zn<|zt<|B9 (i:=23) R<|?_
 exact Az R (RV.tmp R R) (RV.tmp R R) (r2 (rSl (by rw [hk0b];exact (Ari c19 ha).1)) (rI (Ari c19 ha).2))
def H6 (l:List Tp) (n:Int):Int:=if Eh l 128≠0 then 0 else (hits l n:Int)
theorem Am1 {l:List Tp} {k:Nat} {t:Tp} {n:Int} (h:l[k]? =some t) (ht:t.has n):hits (l.take (k+1)) n=hits (l.take k) n+1:=by rw [By h,Iw,if_pos ht]
theorem Aql {l:List Tp} {k:Nat} {t:Tp} {n:Int} (h:l[k]? =some t) (ht:¬t.has n):hits (l.take (k+1)) n=hits (l.take k) n:=by rw [By h,Iw,if_neg ht];rfl
theorem An1 (l:List Tp) (n:Int) (h0:0≤n) (h1:n≤128):XC Tryz.prog 152 [.sl 4 (l.map Tp.c), .v (.int .i64 n)] (fun r=>r=dI (H6 l n)):=by
 refine Al Ab4 Tryz.func152 R R lb<|zr<|za R R<|zn<|zs<|zr<|zm R R<|XL.call1 R R (Wf _ _) R<|zp (A5 R R R)<|zn<|?_
 refine zd R (fun c10=> ?_) (fun c10=> ?_)
 exact zr<|za R R<|zn<|zt<|z1 R R (rI (by rw [H6,if_pos c10]))
 refine zi<|zs<|?_
 have hT:=Vi c10
 refine Ag (by kernel_rfl)<|za R R<|zn<|zs<|zr<|zm R R<|XL.len R R R Tryz.underlying80 fun hl12=>zm R R<|zn<|Ah<|?_
 refine A0 (α:=Nat) (fun k=>k≤l.length) (fun k=>mkF [(1, .d (dI n)),(4, .d (dI 0)),(5, .d (dI (hits (l.take k) n:Int))),(11, .d (.sl 4 (l.map Tp.c))),(12, .d (dI l.length)),(13, .d (dI k))]) (fun k=>mkH []) (fun k=>l.length - k) (0) (Nat.zero_le _) ?_ ?_ ?_
 exact fz ⟨sr,sr,sr,sr,sr,sr,trivial⟩
 exact HSub.nil
 intro k hk0
 refine zr<|zp (Au R R R)<|zn<|zs<|?_
 refine zd R (fun c14=> ?_) (fun c14=> ?_)
 have hk0a:k<l.length:=by omega
 obtain ⟨x0,hx0⟩:=Av hk0a
 have hok:=hT.ok x0 (List.mem_of_getElem? hx0)
 have hle:=Nat.le_trans (Q1 l k n) (hT.hits n)
 refine zi<|zs<|Ah<|zr<|zp (At R R R Ex hx0)<|zp (Ae (s':= .d (.agg (Tp.c x0))) (A6 R R Cg lb) (by kernel_rfl))<|XL.step R (Ap 7 (l:= [.d (dI 0), .d (dI 0), .d (dI 0), .d (dI 0)]) R D7 (by kernel_rfl))<|XL.step R (Af (l':= [.d (dI x0.first), .d (dI x0.count), .d (dI x0.actual), .d (dI x0.normal)]) R R R R Fh R lb (by kernel_rfl))<|znr<|?_
 refine zp (Ae (s':= .d (.agg (Tp.c x0))) (Ac (Ad R R Cg R lb)) (by kernel_rfl))<|zm R R<|XL.call1 R R (S1 _ _ (by assumption) (by omega) (by omega)) R<|zn<|?_
 refine zd R (fun c19=> ?_) (fun c19=> ?_)
 refine Ag (by kernel_rfl)<|zm R R<|zp (An R R R (by omega) (by omega))<|za R R<|zn<|Ag (by kernel_rfl)<|zp (An R R R (by omega) (by omega))<|zm R R<|zn<|?_
 exact Am (k+1) (by omega) (by omega) (fz ⟨sr,sr, .same (sI (by rw [Am1 hx0 c19];rfl)),sr,sr,sr,trivial⟩) (HSub.nil)
 refine zi<|Ag (by kernel_rfl)<|zp (An R R R (by omega) (by omega))<|zm R R<|zn<|?_
 exact Am (k+1) (by omega) (by omega) (fz ⟨sr,sr, .same (sI (by rw [Aql hx0 c19])),sr,sr,sr,trivial⟩) (HSub.nil)
 have hk0b:k=l.length:=by omega
 have ht:l.take k=l:=by rw [hk0b,List.take_length]
 exact As<|zr<|zm R R<|za R R<|zn<|zt<|z1 R R (rI (by rw [H6,if_neg c10,ht]))
end Go.Proofs.YtaafemnkamfgnaaGreat
namespace Go.Proofs.YtaafemnkamfgnaaGreat
open Go.RowKit
def tot (l:List Int):Int:=l.foldl (· + ·) 0
theorem O7 (l:List Int) (x:Int):tot (l++ [x])=tot l+x:=by unfold tot;rw [List.foldl_append];rfl
theorem Tc {l:List Int} {k:Nat} {x:Int} (h:l[k]? =some x):tot (l.take (k+1))=tot (l.take k)+x:=by rw [By h,O7]
structure Nums (l:List Int):Prop where
 len:l.length≤128
 bd:∀x∈l,0≤x∧x≤253671505920
theorem Apd {l:List Int}:(∀x∈l,0≤x∧x≤253671505920)→0≤tot l∧tot l≤(l.length:Int)*253671505920:=by
 refine Tf (p:=fun l=>(∀x∈l,0≤x∧x≤253671505920)→0≤tot l∧tot l≤(l.length:Int)*253671505920) (fun _=>by simp [tot]) (fun l x ih h=> ?_) l
 have h1:=ih fun y hy=>h y (List.mem_append_left _ hy)
 have h2:=h x (List.mem_append_right _ (List.mem_singleton.2 rfl))
 rw [O7,List.length_append,List.length_singleton,Int.natCast_add,Int.add_mul]
 omega
theorem Nums.tot {l:List Int} (h:Nums l):0≤Go.Proofs.YtaafemnkamfgnaaGreat.tot l∧Go.Proofs.YtaafemnkamfgnaaGreat.tot l≤32469952757760:=by
 have:=Apd h.bd
 have:=h.len
 omega
theorem Nums.take {l:List Int} (h:Nums l) (k:Nat):Nums (l.take k):=⟨Nat.le_trans (List.length_take_le' _ _) h.len,fun x hx=>h.bd x (List.mem_of_mem_take hx)⟩
def Evs (l:List Ev):Prop:=∀e∈l,e.art≤9223372036854775807
def wrS (l:List Ev):List Int:=l.map Ev.len
theorem All (l:List Int) (h:Nums l):XC Tryz.prog 116 [.sl 1 (Co l)] (fun r=>r=dI (tot l)):=by
 refine Al Aci Tryz.func116 R R lb<|zr<|za R R<|znr<|za R R<|zn<|zs<|zr<|zm R R<|XL.len R R R Tryz.underlying45 fun hl7=>zm R R<|zn<|Ah<|?_
 refine A0 (α:=Nat) (fun k=>k≤l.length) (fun k=>mkF [(2, .d (dI 0)),(3, .d (dI (tot (l.take k)))),(6, .d (.sl 1 (Co l))),(7, .d (dI l.length)),(8, .d (dI k))]) (fun k=>mkH []) (fun k=>l.length - k) (0) (Nat.zero_le _) ?_ ?_ ?_
 exact fz ⟨sr,sr,sr,sr,sr,trivial⟩
 exact HSub.nil
 intro k hk0
 refine zr<|zp (Au R R R)<|zn<|zs<|?_
 refine zd R (fun c9=> ?_) (fun c9=> ?_)
 have hk0a:k<l.length:=by omega
 obtain ⟨x0,hx0⟩:=Av hk0a
 have h1:=(h.take k).tot
 have h2:=h.bd x0 (List.mem_of_getElem? hx0)
 refine zi<|zs<|Ah<|zr<|zp (At R R R Dy hx0)<|zp (Bj R R Ai)<|za R R<|zng<|zm R R<|zm R R<|zp (An R R R (by omega) (by omega))<|za R R<|zn<|Ag (by kernel_rfl)<|?_
 refine zp (An R R R (by omega) (by omega))<|zm R R<|zn<|?_
 exact Am (k+1) (by omega) (by omega) (fz ⟨sr, .same (sI (by rw [Tc hx0])),sr,sr,sr,trivial⟩) (HSub.nil)
 have hk0b:k=l.length:=by omega
 have ht:l.take k=l:=by rw [hk0b,List.take_length]
 exact As<|zr<|zm R R<|za R R<|zn<|zt<|z1 R R (rI (by rw [ht]))
def Kp (l:List Int) (k:Nat):List Int:=(List.range l.length).map fun j=>if j<k then tot (l.take j) else 0
def Bg (l:List Int):List Int:=(List.range l.length).map fun j=>tot (l.take j)
theorem Ze (l:List Int) (k:Nat):(Kp l k).length=l.length:=by rw [Kp,List.length_map,List.length_range]
theorem Amh (l:List Int):List.replicate l.length (0:Int)=Kp l 1:=by
 rw [Kp]
 refine List.ext_getElem? fun j=> ?_
 rw [List.getElem?_replicate,List.getElem?_map]
 by_cases h:j<l.length
 ·rw [if_pos h,List.getElem?_range h,Option.map_some]
  congr 1
  split
  ·have:j=0:=by omega
   subst this;rfl
  ·rfl
 ·rw [if_neg h,List.getElem?_eq_none (by rw [List.length_range];omega)];rfl
theorem Zf {l:List Int} {j k:Nat} (h:j<k) (hj:j<l.length):(Kp l k)[j]? =some (tot (l.take j)):=by
 rw [Kp,List.getElem?_map,List.getElem?_range hj,Option.map_some,if_pos h]
theorem Amg {l:List Int} {k:Nat} (hk:k<l.length):(Kp l k).set k (tot (l.take k))=Kp l (k+1):=by
 refine List.ext_getElem? fun j=> ?_
 rw [List.getElem?_set]
 split
 ·rename_i h
  subst h
  rw [if_pos (by rw [Ze];exact hk),Zf (by omega) hk]
 ·rename_i h
  rw [Kp,Kp,List.getElem?_map,List.getElem?_map]
  by_cases hj:j<l.length
  ·rw [List.getElem?_range hj,Option.map_some,Option.map_some]
   congr 1
   by_cases e:j<k
   ·rw [if_pos e,if_pos (by omega)]
   ·rw [if_neg e,if_neg (by omega)]
  ·rw [List.getElem?_eq_none (by rw [List.length_range];omega)];rfl
theorem Ami {l:List Int} {k:Nat} (hk:l.length≤k):Kp l k=Bg l:=by
 rw [Kp,Bg]
 refine List.map_congr_left fun j hj=> ?_
 rw [if_pos (by have:=List.mem_range.1 hj;omega)]
theorem Wu (l:List Int) (h:Nums l):XC Tryz.prog 96 [.sl 1 (Co l)] (fun r=>r= .sl 1 (Co (Bg l))):=by
 have hll:=h.len
 refine Al Adn Tryz.func96 R R lb<|zr<|za R R<|znr<|zm R R<|XL.len R R R Tryz.underlying45 fun hl6=>XL.step R (Ow 7 (z:=(.int .i64 0)) (zs:= [dI 0]) (sz:=1) (bytes:=8) R R R Tryz.underlying45 (by kernel_rfl) (by kernel_rfl) (by kernel_rfl) (by decide) (by decide) (by omega) (by unfold maxLen;omega) (by omega))<|zp (Ar R (by conv=>lhs;whnf))<|?_
 refine zn<|zs<|zr<|za R R<|zn<|Ah<|?_
 refine A0 (α:=Nat) (fun k=>1≤k∧k≤l.length+1) (fun k=>mkF [(0, .d (.sl 1 (Co l))),(2, .d (.v (.slice none 0 0))),(3, .own 7),(4, .d (dI k))]) (fun k=>mkH [(7, .row 3 1 ((Kp l k).map iv))]) (fun k=>l.length+1 - k) (1) (⟨Nat.le_refl _,by omega⟩) ?_ ?_ ?_
 exact fz ⟨sr,sr,sr,sr,trivial⟩
 exact gz ⟨by rw [←Amh,List.map_replicate];rfl,trivial⟩
 intro k hk0
 refine zs<|zr<|zm R R<|zm R R<|XL.len R R R Tryz.underlying45 fun hl10=>zp (Au R R R)<|zn<|?_
 refine zd R (fun c11=> ?_) (fun c11=> ?_)
 have hkl:k<l.length:=by omega
 have h1:=(h.take (k - 1)).tot
 obtain ⟨x,hx⟩:∃x,l[k - 1]? =some x:=Av (by omega)
 have h2:=h.bd x (List.mem_of_getElem? hx)
 have ho:=Zf (l:=l) (k:=k) (j:=k - 1) (by omega) (by omega)
 have hol:=Ze l k
 obtain ⟨z,hz⟩:∃z,(Kp l k)[k]? =some z:=Av (by omega)
 have htk:tot (l.take k)=tot (l.take (k - 1))+x:=by have:=Tc hx;rwa [Nat.sub_add_cancel (by omega)] at this
 refine zi<|zs<|Ah<|Cq 13 [] (by kernel_rfl) (by kernel_rfl) (by kernel_rfl) (by kernel_rfl) (by decide)<|yp (Ak R (by conv=>lhs;whnf))<|?_
 refine ym R R<|yp (Ak R (by conv=>lhs;whnf))<|?_
 refine ym R R<|yp (Ec R R R (by omega) (by omega))<|yp (Ca R R R ((by omega:(k:Int) - 1=((k - 1:Nat):Int))) R Dy (by omega))<|yp (Gu R R Ai R (Ct (ho)) R)<|ym R R<|ym R R<|yp (Ec R R R (by omega) (by omega))<|yp (Mg R R R ((by omega:(k:Int) - 1=((k - 1:Nat):Int))) Dy (hx))<|yp (Bj R R Ai)<|yp (An R R R (by omega) (by omega))<|?_
 refine ChK.nil ⟨by kernel_rfl, ?_⟩
 refine zp (Kl R R R R Dy (by omega))<|XL.step R (D2 R R R (Ct hz) R R Fc R lb)<|zn<|Ag (by kernel_rfl)<|zm R R<|zp (An R R R (by omega) (by omega))<|za R R<|zn<|?_
 exact Am (k+1) (by omega) (by omega) (fz ⟨sr,sr,sr,sr,trivial⟩) (gz ⟨Qm (a:=tot (l.take k)) (by rw [htk];rfl) (Amg hkl).symm,trivial⟩)
 have he:=Ami (l:=l) (k:=k) (by omega)
 refine As<|zr<|zp (Ak R (by conv=>lhs;whnf))<|?_
 refine zp (Ar R (by conv=>lhs;whnf))<|?_
 exact zn<|zt<|B9 (i:=7) R<|z1 R R (rSl he)
end Go.Proofs.YtaafemnkamfgnaaGreat
namespace Go.Proofs.YtaafemnkamfgnaaGreat
open Go.RowKit
def Jb (f:Nat→Int) (n k:Nat):List Int:=(List.range n).map fun j=>if j<k then f j else 0
theorem Xm (f:Nat→Int) (n k:Nat):(Jb f n k).length=n:=by rw [Jb,List.length_map,List.length_range]
theorem Ahn (f:Nat→Int) (n:Nat):List.replicate n (0:Int)=Jb f n 0:=by
 rw [Jb]
 refine List.ext_getElem? fun j=> ?_
 rw [List.getElem?_replicate,List.getElem?_map]
 by_cases h:j<n
 ·rw [if_pos h,List.getElem?_range h,Option.map_some,if_neg (by omega)]
 ·rw [if_neg h,List.getElem?_eq_none (by rw [List.length_range];omega)];rfl
theorem Aki {f:Nat→Int} {n k:Nat} (hk:k<n):Jb f n (k+1)=(Jb f n k).set k (f k):=by
 refine List.ext_getElem? fun j=> ?_
 rw [List.getElem?_set]
 split
 ·rename_i h
  subst h
  rw [if_pos (by rw [Xm];exact hk),Jb,List.getElem?_map,List.getElem?_range hk,Option.map_some,if_pos (by omega)]
 ·rename_i h
  rw [Jb,Jb,List.getElem?_map,List.getElem?_map]
  by_cases hj:j<n
  ·rw [List.getElem?_range hj,Option.map_some,Option.map_some]
   congr 1
   by_cases e:j<k
   ·rw [if_pos e,if_pos (by omega)]
   ·rw [if_neg e,if_neg (by omega)]
  ·rw [List.getElem?_eq_none (by rw [List.length_range];omega)];rfl
theorem Akj {f:Nat→Int} {n k:Nat} (hk:n≤k):Jb f n k=(List.range n).map f:=by
 rw [Jb]
 refine List.map_congr_left fun j hj=> ?_
 rw [if_pos (by have:=List.mem_range.1 hj;omega)]
def Mk (l:List Ev) (j:Nat):Int:=((l[j]?).map Ev.len).getD 0
theorem Amu {l:List Ev} {k:Nat} {e:Ev} (h:l[k]? =some e):Mk l k=e.len:=by rw [Mk,h];rfl
theorem Ajv (l:List Ev):(List.range l.length).map (Mk l)=wrS l:=by
 refine List.ext_getElem? fun j=> ?_
 rw [List.getElem?_map,wrS,List.getElem?_map]
 by_cases hj:j<l.length
 ·rw [List.getElem?_range hj,Option.map_some,Mk,List.getElem?_eq_getElem hj];rfl
 ·rw [List.getElem?_eq_none (by rw [List.length_range];omega),List.getElem?_eq_none (by omega)];rfl
theorem Ac1 (l:List Ev) (hE:Evs l) (hlen:l.length≤128):XC Tryz.prog 168 [.sl 13 (l.map Ev.c)] (fun r=>r= .sl 1 (Co (wrS l))):=by
 refine Al Abo Tryz.func168 R R lb<|zr<|za R R<|znr<|zm R R<|XL.len R R R Tryz.underlying79 fun hl7=>XL.step R (Ow 8 (z:=(.int .i64 0)) (zs:= [dI 0]) (sz:=1) (bytes:=8) R R R Tryz.underlying45 (by kernel_rfl) (by kernel_rfl) (by kernel_rfl) (by decide) (by decide) (by omega) (by unfold maxLen;omega) (by omega))<|zp (Ar R (by conv=>lhs;whnf))<|?_
 refine zn<|zs<|zr<|zm R R<|XL.len R R R Tryz.underlying79 fun hl10=>zm R R<|zn<|Ah<|?_
 refine A0 (α:=Nat) (fun k=>k≤l.length) (fun k=>mkF [(2, .d (.v (.slice none 0 0))),(3, .own 8),(9, .d (.sl 13 (l.map Ev.c))),(10, .d (dI l.length)),(11, .d (dI k))]) (fun k=>mkH [(8, .row 3 1 ((Jb (Mk l) l.length k).map iv))]) (fun k=>l.length - k) (0) (Nat.zero_le _) ?_ ?_ ?_
 exact fz ⟨sr,sr,sr,sr,sr,trivial⟩
 exact gz ⟨by rw [←Ahn,List.map_replicate];rfl,trivial⟩
 intro k hk0
 refine zr<|zp (Au R R R)<|zn<|zs<|?_
 refine zd R (fun c12=> ?_) (fun c12=> ?_)
 have hk0a:k<l.length:=by omega
 obtain ⟨x0,hx0⟩:=Av hk0a
 have he:=hE x0 (List.mem_of_getElem? hx0)
 have hfl:=Xm (Mk l) l.length k
 obtain ⟨z,hz⟩:∃z,(Jb (Mk l) l.length k)[k]? =some z:=Av (by omega)
 refine zi<|zs<|Ah<|zr<|zm R R<|zp (At R R R Gx hx0)<|zp (Ae (s':= .d (.agg (Ev.c x0))) (A6 R R Bu lb) (by kernel_rfl))<|XL.step R (Ap 5 (l:= [.d (dI 0), .d (dI 0), .d (dI 0), .d (dI 0), .d (dI 0), .d (.v (.slice none 0 0)), .d (.v (.slice none 0 0)), .d (dI 0), .d (dI 0), .d (dI 0), .d (.v (.slice none 0 0)), .d (dI 0), .d (dI 0)]) R Ck (by kernel_rfl))<|?_
 refine za R R<|XL.step R (Af (l':= [.d (dI x0.site), .d (dI x0.num), .d (dI x0.kind), .d (dI x0.v.log), .d (dI x0.v.dots), .d (.sl 5 (x0.heads.map Hd.c)), .d (.sl 5 (x0.graces.map Gr.c)), .d (dI x0.art), .d (dI x0.orn), .d (dI x0.dyn), .d (.sl 2 (x0.lyr.map Sy.c)), .d (dI x0.stem), .d (dI x0.beam)]) R R R R C7 R lb (by kernel_rfl))<|zng<|zp (Ak R (by conv=>lhs;whnf))<|?_
 refine zm R R<|zp (Ae (s':= .d (.agg (Ev.c x0))) (Ac (Ad R R Bu R lb)) (by kernel_rfl))<|XL.call1 R R (Af9 _ (by assumption)) R<|zm R R<|zp (Ax R R R)<|zp (Ax R R R)<|zp (Kl R R R R Dy (by omega))<|XL.step R (D2 R R R (Ct hz) R R Fc R lb)<|zn<|Ag (by kernel_rfl)<|zp (An R R R (by omega) (by omega))<|zm R R<|zn<|?_
 exact Am (k+1) (by omega) (by omega) (fz ⟨sr,sr,sr,sr,sr,trivial⟩) (gz ⟨Qm (a:=Mk l k) (by rw [Amu hx0];rfl) (Aki hk0a),trivial⟩)
 have hk0b:k=l.length:=by omega
 have he:=Akj (f:=Mk l) (n:=l.length) (k:=k) (by omega)
 refine As<|zr<|zp (Ak R (by conv=>lhs;whnf))<|?_
 refine zp (Ar R (by conv=>lhs;whnf))<|?_
 exact zn<|zt<|B9 (i:=8) R<|z1 R R (rSl (by rw [he,Ajv]))
def Vo.whole (v:Vo):Prop:=match v.evs with| []=>False|e::_=>e.kind=3
instance (v:Vo):Decidable v.whole:=by unfold Vo.whole;cases v.evs<;>exact inferInstance
theorem K2 {v:Vo} {e:Ev} (h:v.evs[0]? =some e):v.whole↔e.kind=3:=by
 unfold Vo.whole
 cases hv:v.evs with
 |nil=>rw [hv] at h;cases h
 |cons x l=>rw [hv] at h;cases h;exact Iff.rfl
theorem Ali {v:Vo} (h:¬0<(v.evs.length:Int)):¬v.whole:=by
 unfold Vo.whole
 cases hv:v.evs with
 |nil=>exact fun h=>h
 |cons x l=>rw [hv] at h;simp at h
def Vo.absent (v:Vo):Prop:=v.evs.length=0∧v.tups.length=0
instance (v:Vo):Decidable v.absent:=by unfold Vo.absent;exact inferInstance
theorem Alh (v:Vo):XC Tryz.prog 143 [.agg (Vo.c v)] (fun r=>r=dB (decide v.whole)):=by
 refine Al Ab7 Tryz.func143 R R lb<|zr<|XL.step R (Ao 1 (l:= [.d (.sl 13 (v.evs.map Ev.c)), .d (.sl 4 (v.tups.map Tp.c))]) R R (by kernel_rfl))<|za R R<|znr<|zp (Aa R R Bk)<|zp (Ab R R Cv R R)<|XL.len R R R Tryz.underlying79 fun hl5=>zp (Be R R R)<|zm R R<|?_
 refine XL.dec 7 R (fun g7=> ?_) (fun g7=> ?_)
 obtain ⟨e,he⟩:∃e,v.evs[0]? =some e:=Av (by omega)
 exact zp (Aa R R Bk)<|zp (Ab R R Cv R R)<|zp (At (k:=0) R R R Gx (he))<|zp (G1 R R Dk)<|zp (Bj R R Ai)<|zp (Bf R R R)<|zq R R R<|za R R<|zn<|zt<|z1 R R (rB (by rw [decide_eq_decide];exact (K2 he).symm))
 exact zk 6 R<|zq R R R<|za R R<|zn<|zt<|z1 R R (rB (by rw [eq_comm,decide_eq_false_iff_not];exact Ali g7))
theorem Age (v:Vo):XC Tryz.prog 129 [.agg (Vo.c v)] (fun r=>r=dB (decide v.absent)):=by
 refine Al Acg Tryz.func129 R R lb<|zr<|XL.step R (Ao 1 (l:= [.d (.sl 13 (v.evs.map Ev.c)), .d (.sl 4 (v.tups.map Tp.c))]) R R (by kernel_rfl))<|za R R<|znr<|zp (Aa R R Bk)<|zp (Ab R R Cv R R)<|XL.len R R R Tryz.underlying79 fun hl5=>zp (Bf R R R)<|zm R R<|?_
 refine XL.dec 7 R (fun g7=> ?_) (fun g7=> ?_)
 exact zp (Aa R R Bq)<|zp (Ab R R B0 R R)<|XL.len R R R Tryz.underlying80 fun hl10=>zp (Bf R R R)<|zq R R R<|za R R<|zn<|zt<|z1 R R (rB (by rw [decide_eq_decide];unfold Vo.absent;omega))
 exact zk 4 R<|zq R R R<|za R R<|zn<|zt<|z1 R R (rB (by rw [eq_comm,decide_eq_false_iff_not];unfold Vo.absent;omega))
def G5 (n:Nat):Nat→List Ev→Int
 |_, []=>0
 |k,e::r=>if e.err≠0 then e.err else if e.kind=3∧(0<k∨1<n) then 11 else G5 n (k+1) r
def Fv (v:Vo):Int:=
 if G5 v.evs.length 0 v.evs≠0 then G5 v.evs.length 0 v.evs else if Dd v.tups (wrS v.evs)≠0 then Dd v.tups (wrS v.evs) else if Fg v.tups (wrS v.evs)≠0 then 21 else 0
def G4 (v:Vo):List Int:=if Fv v=0 then Ho v.tups (wrS v.evs) else []
theorem Zw {n k:Nat} {l:List Ev} {e:Ev} (h:l[k]? =some e) (he:e.err≠0):G5 n k (l.drop k)=e.err:=by rw [B7 h,G5,if_pos he]
theorem Oa {n k:Nat} {l:List Ev} {e:Ev} (h:l[k]? =some e) (he:¬e.err≠0) (hk:e.kind=3∧(0<k∨1<n)):G5 n k (l.drop k)=11:=by rw [B7 h,G5,if_neg he,if_pos hk]
theorem Xc {n k:Nat} {l:List Ev} {e:Ev} (h:l[k]? =some e) (he:¬e.err≠0) (hk:¬(e.kind=3∧(0<k∨1<n))):G5 n k (l.drop k)=G5 n (k+1) (l.drop (k+1)):=by rw [B7 h,G5,if_neg he,if_neg hk]
theorem R0 {v:Vo} {e:Int} (he:e=G5 v.evs.length 0 v.evs) (hn:e≠0): []=G4 v∧e=Fv v:=by
 have e2:Fv v=e:=by rw [Fv, ←he,if_pos hn]
 exact ⟨by rw [G4,e2,if_neg hn],e2.symm⟩
theorem Aon {v:Vo} (h:G5 v.evs.length 0 v.evs=0) (hn:Dd v.tups (wrS v.evs)≠0): []=G4 v∧Dd v.tups (wrS v.evs)=Fv v:=by
 have e2:Fv v=Dd v.tups (wrS v.evs):=by rw [Fv,if_neg (by omega),if_pos hn]
 exact ⟨by rw [G4,e2,if_neg hn],e2.symm⟩
theorem Aom {v:Vo} (h:G5 v.evs.length 0 v.evs=0) (h2:¬Dd v.tups (wrS v.evs)≠0) (hn:Fg v.tups (wrS v.evs)≠0): []=G4 v∧21=Fv v:=by
 have e2:Fv v=21:=by rw [Fv,if_neg (by omega),if_neg h2,if_pos hn]
 exact ⟨by rw [G4,e2,if_neg (by decide)],e2.symm⟩
theorem Aol {v:Vo} (h:G5 v.evs.length 0 v.evs=0) (h2:¬Dd v.tups (wrS v.evs)≠0) (h3:¬Fg v.tups (wrS v.evs)≠0):Ho v.tups (wrS v.evs)=G4 v∧0=Fv v:=by
 have e2:Fv v=0:=by rw [Fv,if_neg (by omega),if_neg h2,if_neg h3]
 exact ⟨by rw [G4,e2,if_pos rfl],e2.symm⟩
theorem Zv (v:Vo) (hE:Evs v.evs) (hlen:v.evs.length≤128):XC Tryz.prog 145 [.agg (Vo.c v)] (fun r=>r= .tup [.sl 1 (Co (G4 v)),dI (Fv v)]):=by
 refine Al Ab5 Tryz.func145 R R lb<|zr<|XL.step R (Ao 1 (l:= [.d (.sl 13 (v.evs.map Ev.c)), .d (.sl 4 (v.tups.map Tp.c))]) R R (by kernel_rfl))<|za R R<|za R R<|zn<|zs<|zr<|zp (Aa R R Bk)<|zp (Ab R R Cv R R)<|XL.len R R R Tryz.underlying79 fun hl14=>zm R R<|zn<|Ah<|?_
 refine A0 (α:=Nat) (fun k=>k≤v.evs.length∧G5 v.evs.length k (v.evs.drop k)=G5 v.evs.length 0 v.evs) (fun k=>mkF [(1, .ptr 1 0 0),(13, .d (.sl 13 (v.evs.map Ev.c))),(14, .d (dI v.evs.length)),(15, .d (dI k))]) (fun k=>mkH [(1, .box ((Vo.c v).map S.d))]) (fun k=>v.evs.length - k) (0) (⟨Nat.zero_le _,by rw [List.drop_zero]⟩) ?_ ?_ ?_
 exact fz ⟨sr,sr,sr,sr,trivial⟩
 exact gz ⟨R,trivial⟩
 intro k hk0
 obtain ⟨hk,hgo⟩:=hk0
 refine zr<|zp (Au R R R)<|zn<|zs<|?_
 refine zd R (fun c16=> ?_) (fun c16=> ?_)
 have hk0a:k<v.evs.length:=by omega
 obtain ⟨x0,hx0⟩:=Av hk0a
 have he:=hE x0 (List.mem_of_getElem? hx0)
 refine zi<|zs<|Ah<|zr<|zm R R<|zp (At R R R Gx hx0)<|zp (Ae (s':= .d (.agg (Ev.c x0))) (A6 R R Bu lb) (by kernel_rfl))<|XL.step R (Ap 5 (l:= [.d (dI 0), .d (dI 0), .d (dI 0), .d (dI 0), .d (dI 0), .d (.v (.slice none 0 0)), .d (.v (.slice none 0 0)), .d (dI 0), .d (dI 0), .d (dI 0), .d (.v (.slice none 0 0)), .d (dI 0), .d (dI 0)]) R Ck (by kernel_rfl))<|?_
 refine za R R<|XL.step R (Af (l':= [.d (dI x0.site), .d (dI x0.num), .d (dI x0.kind), .d (dI x0.v.log), .d (dI x0.v.dots), .d (.sl 5 (x0.heads.map Hd.c)), .d (.sl 5 (x0.graces.map Gr.c)), .d (dI x0.art), .d (dI x0.orn), .d (dI x0.dyn), .d (.sl 2 (x0.lyr.map Sy.c)), .d (dI x0.stem), .d (dI x0.beam)]) R R R R C7 R lb (by kernel_rfl))<|zn<|zs<|zr<|?_
 refine zp (Ae (s':= .d (.agg (Ev.c x0))) (Ac (Ad R R Bu R lb)) (by kernel_rfl))<|XL.call1 R R (Ra _ (by assumption)) R<|za R R<|znr<|zm R R<|zp (A5 R R R)<|zn<|?_
 refine zd R (fun c23=> ?_) (fun c23=> ?_)
 refine zr<|zm R R<|za R R<|za R R<|zn<|zt<|?_
 exact Az R (RV.nil (sz:=1) R R) (RV.tmp R R) (r2 (rSl (R0 (by rw [←hgo,Zw hx0 c23]) c23).1) (rI (R0 (by rw [←hgo,Zw hx0 c23]) c23).2))
 refine zi<|zr<|zp (Aa R R Dk)<|zp (Ab R R Ai R R)<|zp (Bf R R R)<|zm R R<|?_
 refine XL.dec 28 R (fun g28=> ?_) (fun g28=> ?_)
 refine zm R R<|zp (Be R R R)<|zm R R<|?_
 refine XL.dec 31 R (fun g31=> ?_) (fun g31=> ?_)
 refine zk 4 R<|zq R R R<|zq R R R<|zn<|Aw (by kernel_rfl) R<|zr<|za R R<|za R R<|zn<|zt<|?_
 exact Az R (RV.nil (sz:=1) R R) (RV.tmp R R) (r2 (rSl (R0 (e:=11) (by rw [←hgo,Oa hx0 c23 (by omega)]) (by decide)).1) (rI (R0 (by rw [←hgo,Oa hx0 c23 (by omega)]) (by decide)).2))
 refine zp (Aa R R Bk)<|zp (Ab R R Cv R R)<|XL.len R R R Tryz.underlying79 fun hl34=>zp (Be R R R)<|zq R R R<|zq R R R<|zn<|?_
 refine zd R (fun c37=> ?_) (fun c37=> ?_)
 refine zr<|za R R<|za R R<|zn<|zt<|?_
 exact Az R (RV.nil (sz:=1) R R) (RV.tmp R R) (r2 (rSl (R0 (e:=11) (by rw [←hgo,Oa hx0 c23 (by omega)]) (by decide)).1) (rI (R0 (by rw [←hgo,Oa hx0 c23 (by omega)]) (by decide)).2))
 refine zi<|Ag (by kernel_rfl)<|zp (An R R R (by omega) (by omega))<|zm R R<|zn<|?_
 exact Am (k+1) (⟨by omega,by rw [←Xc hx0 c23 (by omega)];exact hgo⟩) (by omega) (fz ⟨sr,sr,sr,sr,trivial⟩) (gz ⟨rfl,trivial⟩)
 refine zk 8 R<|zq R R R<|zn<|A8 (by kernel_rfl) R<|zi<|Ag (by kernel_rfl)<|zp (An R R R (by omega) (by omega))<|zm R R<|zn<|?_
 exact Am (k+1) (⟨by omega,by rw [←Xc hx0 c23 (by omega)];exact hgo⟩) (by omega) (fz ⟨sr,sr,sr,sr,trivial⟩) (gz ⟨rfl,trivial⟩)
 have hk0b:k=v.evs.length:=by omega
 have hz:G5 v.evs.length 0 v.evs=0:=by rw [←hgo,hk0b,List.drop_length];rfl
 refine As<|zr<|zp (Aa R R Bk)<|zp (Ab R R Cv R R)<|XL.call1 R R (Ac1 _ (by assumption) (by omega)) R<|za R R<|znr<|zp (Aa R R Bq)<|zp (Ab R R B0 R R)<|zm R R<|XL.call1 R R (Ss _ _) R<|zm R R<|zp (Ax R R R)<|zp (Ax R R R)<|?_
 refine za R R<|za R R<|zn<|zs<|zr<|zm R R<|zp (A5 R R R)<|zn<|?_
 refine zd R (fun c50=> ?_) (fun c50=> ?_)
 refine zr<|zm R R<|za R R<|za R R<|zn<|zt<|?_
 exact Az R (RV.nil (sz:=1) R R) (RV.tmp R R) (r2 (rSl (Aon hz c50).1) (rI (Aon hz c50).2))
 refine zi<|zs<|zr<|zp (Aa R R Bq)<|zp (Ab R R B0 R R)<|zm R R<|XL.call1 R R (Alj _ _) R<|zm R R<|zp (Ax R R R)<|zp (Ax R R R)<|za R R<|za R R<|znr<|zm R R<|?_
 refine zp (A5 R R R)<|zn<|?_
 refine zd R (fun c60=> ?_) (fun c60=> ?_)
 refine zr<|za R R<|za R R<|zn<|zt<|?_
 exact Az R (RV.nil (sz:=1) R R) (RV.tmp R R) (r2 (rSl (Aom hz c50 c60).1) (rI (Aom hz c50 c60).2))
 refine zi<|zr<|zm R R<|za R R<|za R R<|zn<|zt<|?_
 exact Az R (RV.tmp R R) (RV.tmp R R) (r2 (rSl (Aol hz c50 c60).1) (rI (Aol hz c50 c60).2))
def Dw (v:Vo) (L:Int):Int:=
 if L<1∨15482880<L then 2 else if 128<v.evs.length then 9 else
 if v.whole∧v.evs.length=1 then (match v.evs with| []=>0|e::_=>if e.err≠0 then e.err else if 0<v.tups.length then 21 else 0) else Fv v
def E5 (v:Vo) (L:Int):List Int:=if Dw v L≠0 then [] else if v.whole∧v.evs.length=1 then [L] else G4 v
def ckE (v:Vo) (L:Int):Int:=if Dw v L=0∧0<(E5 v L).length∧tot (E5 v L)≠L then 20 else Dw v L
def ckL (v:Vo) (L:Int):List Int:=if ckE v L≠0 then [] else E5 v L
theorem X4 {v:Vo} {L:Int} (h:L<1∨15482880<L): []=E5 v L∧2=Dw v L:=by
 have e:Dw v L=2:=by rw [Dw,if_pos h]
 exact ⟨by rw [E5,e,if_pos (by decide)],e.symm⟩
theorem Aoj {v:Vo} {L:Int} (h:¬L<1) (h':¬15482880<L) (h2:128<(v.evs.length:Int)): []=E5 v L∧9=Dw v L:=by
 have e:Dw v L=9:=by rw [Dw,if_neg (by omega),if_pos (by omega)]
 exact ⟨by rw [E5,e,if_pos (by decide)],e.symm⟩
theorem Ahd {v:Vo} {L:Int} (h:¬L<1) (h':¬15482880<L) (h2:¬128<(v.evs.length:Int)) (hw:v.whole) (h1:(v.evs.length:Int)=1) {e:Ev} (he:v.evs[0]? =some e):
  Dw v L=(if e.err≠0 then e.err else if 0<v.tups.length then 21 else 0):=by
 rw [Dw,if_neg (by omega),if_neg (by omega),if_pos ⟨hw,by omega⟩]
 cases hv:v.evs with
 |nil=>rw [hv] at he;cases he
 |cons x l=>rw [hv] at he;cases he;rfl
theorem X3 {v:Vo} {L:Int} (h:¬L<1) (h':¬15482880<L) (h2:¬128<(v.evs.length:Int)) (hw:¬(v.whole∧(v.evs.length:Int)=1)):G4 v=E5 v L∧Fv v=Dw v L:=by
 have hw':¬(v.whole∧v.evs.length=1):=fun k=>hw ⟨k.1,by omega⟩
 have e:Dw v L=Fv v:=by rw [Dw,if_neg (by omega),if_neg (by omega),if_neg hw']
 refine ⟨?_,e.symm⟩
 rw [E5,e,if_neg hw']
 split
 ·rename_i hn;rw [G4,if_neg hn]
 ·rfl
theorem U3 {v:Vo} {L a:Int} (h:Dw v L=a) (ha:a≠0): []=E5 v L∧a=Dw v L:=⟨by rw [E5,h,if_pos ha],h.symm⟩
theorem Aju {v:Vo} {L:Int} (h:Dw v L=0) (hw:v.whole) (h1:(v.evs.length:Int)=1): [L]=E5 v L∧0=Dw v L:=⟨by rw [E5,h,if_neg (by decide),if_pos ⟨hw,by omega⟩],h.symm⟩
theorem Ahc (v:Vo) (L:Int) (hE:Evs v.evs):XC Tryz.prog 115 [.agg (Vo.c v), .v (.int .i64 L)] (fun r=>r= .tup [.sl 1 (Co (E5 v L)),dI (Dw v L)]):=by
 refine Al Acj Tryz.func115 R R lb<|zr<|XL.step R (Ao 2 (l:= [.d (.sl 13 (v.evs.map Ev.c)), .d (.sl 4 (v.tups.map Tp.c))]) R R (by kernel_rfl))<|za R R<|za R R<|zn<|zs<|Ah<|zr<|zm R R<|zp (Au R R R)<|zm R R<|?_
 refine XL.dec 10 R (fun g10=> ?_) (fun g10=> ?_)
 refine zk 2 R<|zq R R R<|za R R<|zn<|Aw (by kernel_rfl) R<|zr<|za R R<|za R R<|zn<|zt<|?_
 exact Az R (RV.nil (sz:=1) R R) (RV.tmp R R) (r2 (rSl (X4 (v:=v) (by omega)).1) (rI (X4 (v:=v) (by omega)).2))
 refine zm R R<|zp (Be R R R)<|zq R R R<|za R R<|zn<|?_
 refine zd R (fun c7=> ?_) (fun c7=> ?_)
 refine zr<|za R R<|za R R<|zn<|zt<|?_
 exact Az R (RV.nil (sz:=1) R R) (RV.tmp R R) (r2 (rSl (X4 (v:=v) (by omega)).1) (rI (X4 (v:=v) (by omega)).2))
 refine zr<|zp (Aa R R Bk)<|zp (Ab R R Cv R R)<|XL.len R R R Tryz.underlying79 fun hl17=>zp (Be R R R)<|za R R<|zn<|?_
 refine zd R (fun c14=> ?_) (fun c14=> ?_)
 refine zr<|za R R<|za R R<|zn<|zt<|?_
 exact Az R (RV.nil (sz:=1) R R) (RV.tmp R R) (r2 (rSl (Aoj g10 c7 c14).1) (rI (Aoj g10 c7 c14).2))
 refine zi<|zs<|zr<|zp (Ae (s':= .d (.agg (Vo.c v))) (Ac (Ad R R Aq R lb)) (by kernel_rfl))<|XL.call1 R R (Alh _) R<|zm R R<|?_
 refine XL.dec 21 R (fun g21=> ?_) (fun g21=> ?_)
 refine zp (Aa R R Bk)<|zp (Ab R R Cv R R)<|XL.len R R R Tryz.underlying79 fun hl24=>zp (Bf R R R)<|zq R R R<|zn<|?_
 refine zd R (fun c26=> ?_) (fun c26=> ?_)
 refine zs<|zs<|?_
 obtain ⟨e,hxe⟩:∃e,v.evs[0]? =some e:=Av (by omega)
 have he:=hE e (List.mem_of_getElem? hxe)
 have hle:=Ahd (L:=L) g10 c7 c14 g21 c26 hxe
 refine Ag (by kernel_rfl)<|zp (Aa R R Bk)<|zp (Ab R R Cv R R)<|zp (At (k:=0) R R R Gx (hxe))<|zp (Ae (s':= .d (.agg (Ev.c e))) (A6 R R Bu lb) (by kernel_rfl))<|XL.call1 R R (Ra _ (by assumption)) R<|za R R<|znr<|zm R R<|zp (A5 R R R)<|zn<|?_
 refine zd R (fun c33=> ?_) (fun c33=> ?_)
 refine zr<|zm R R<|za R R<|za R R<|zn<|zt<|?_
 exact Az R (RV.nil (sz:=1) R R) (RV.tmp R R) (r2 (rSl (U3 (by rw [hle,if_pos c33]) c33).1) (rI (U3 (by rw [hle,if_pos c33]) c33).2))
 refine zi<|zs<|zr<|zp (Aa R R Bq)<|zp (Ab R R B0 R R)<|XL.len R R R Tryz.underlying80 fun hl37=>zp (Be R R R)<|zn<|?_
 refine zd R (fun c38=> ?_) (fun c38=> ?_)
 refine zr<|za R R<|za R R<|zn<|zt<|?_
 exact Az R (RV.nil (sz:=1) R R) (RV.tmp R R) (r2 (rSl (U3 (a:=21) (by rw [hle,if_neg c33,if_pos (by omega)]) (by decide)).1) (rI (U3 (a:=21) (by rw [hle,if_neg c33,if_pos (by omega)]) (by decide)).2))
 refine zi<|zr<|zm R R<|XL.step R (Bo 40 R Tryz.underlying45 Fc H5 R R (by omega) (by omega))<|zp (Ar R (by conv=>lhs;whnf))<|?_
 refine za R R<|zn<|zt<|B9 (i:=40) R<|?_
 exact Az R (RV.tmp R R) (RV.tmp R R) (r2 (rSl (l:= [L]) (g:=iv) (Aju (by rw [hle,if_neg c33,if_neg (by omega)]) g21 c26).1) (rI (Aju (by rw [hle,if_neg c33,if_neg (by omega)]) g21 c26).2))
 refine zi<|zr<|zp (Ae (s':= .d (.agg (Vo.c v))) (Ac (Ad R R Aq R lb)) (by kernel_rfl))<|XL.call1 R R (Zv _ (by assumption) (by omega)) R<|zp (Ax R R R)<|zp (Ax R R R)<|za R R<|za R R<|zn<|zt<|?_
 exact Az R (RV.tmp R R) (RV.tmp R R) (r2 (rSl (X3 g10 c7 c14 (fun h=>c26 h.2)).1) (rI (X3 g10 c7 c14 (fun h=>c26 h.2)).2))
 refine zk 4 R<|zq R R R<|zn<|A8 (by kernel_rfl) R<|zi<|zr<|zp (Ae (s':= .d (.agg (Vo.c v))) (Ac (Ad R R Aq R lb)) (by kernel_rfl))<|XL.call1 R R (Zv _ (by assumption) (by omega)) R<|zp (Ax R R R)<|zp (Ax R R R)<|za R R<|za R R<|zn<|zt<|?_
 exact Az R (RV.tmp R R) (RV.tmp R R) (r2 (rSl (X3 g10 c7 c14 (fun h=>g21 h.1)).1) (rI (X3 g10 c7 c14 (fun h=>g21 h.1)).2))
end Go.Proofs.YtaafemnkamfgnaaGreat
namespace Go.Proofs.YtaafemnkamfgnaaGreat
open Go.RowKit
theorem Ap2 {l:List Tp} {n:Int} (hT:Tups l n) (ws:List Int):∀i x,x∈C9 l i ws→0≤x∧x≤253671505920:=by
 induction ws with
 |nil=>intro i x h;cases h
 |cons w r ih=>
  intro i x h
  rw [C9] at h
  rcases List.mem_cons.1 h with e|e
  ·rw [e];exact Y1 hT.ok (hT.hits i)
  ·exact ih _ _ e
theorem Ag4 (l:List Tp) (ws:List Int):Nums (Ho l ws):=by
 unfold Ho
 split
 ·rename_i h
  have hT:=Nx (show ¬Dd l ws≠0 by omega)
  have hb:=hT.bd
  exact ⟨by rw [I7];omega,Ap2 hT ws 0⟩
 ·exact ⟨by simp,fun x h=>by cases h⟩
theorem To:Nums []:=⟨by simp,fun x h=>by cases h⟩
theorem Aji (v:Vo):Nums (G4 v):=by
 unfold G4
 split
 ·exact Ag4 _ _
 ·exact To
theorem Wx (v:Vo) (L:Int):Nums (E5 v L):=by
 unfold E5
 split
 ·exact To
 ·rename_i h
  split
  ·refine ⟨by simp,fun x hx=> ?_⟩
   rw [List.mem_singleton.1 hx]
   unfold Dw at h
   split at h
   ·omega
   ·omega
  ·exact Aji v
theorem J0 (v:Vo) (L:Int):Nums (ckL v L):=by
 unfold ckL
 split
 ·exact To
 ·exact Wx v L
theorem Ati {v:Vo} {L:Int} (h0:Dw v L=0) (h1:0<((E5 v L).length:Int)) (h2:tot (E5 v L)≠L): []=ckL v L∧20=ckE v L:=by
 have e:ckE v L=20:=by rw [ckE,if_pos ⟨h0,by omega,h2⟩]
 exact ⟨by rw [ckL,e,if_pos (by decide)],e.symm⟩
theorem Ahw {v:Vo} {L:Int} (h0:Dw v L=0) (h:¬(0<((E5 v L).length:Int)∧tot (E5 v L)≠L)):E5 v L=ckL v L∧0=ckE v L:=by
 have e:ckE v L=0:=by rw [ckE,if_neg (fun k=>h ⟨by omega,k.2.2⟩),h0]
 exact ⟨by rw [ckL,e,if_neg (by decide)],e.symm⟩
theorem Ath {v:Vo} {L:Int} (h:Dw v L≠0): []=ckL v L∧Dw v L=ckE v L:=by
 have e:ckE v L=Dw v L:=by rw [ckE,if_neg (fun k=>h k.1)]
 exact ⟨by rw [ckL,e,if_pos h],e.symm⟩
theorem Mo (v:Vo) (L:Int) (hE:Evs v.evs):XC Tryz.prog 95 [.agg (Vo.c v), .v (.int .i64 L)] (fun r=>r= .tup [.sl 1 (Co (ckL v L)),dI (ckE v L)]):=by
 have hN:=Wx v L
 refine Al Ado Tryz.func95 R R lb<|zr<|XL.step R (Ao 2 (l:= [.d (.sl 13 (v.evs.map Ev.c)), .d (.sl 4 (v.tups.map Tp.c))]) R R (by kernel_rfl))<|za R R<|za R R<|znr<|zp (Ae (s':= .d (.agg (Vo.c v))) (Ac (Ad R R Aq R lb)) (by kernel_rfl))<|zm R R<|XL.call1 R R (Ahc _ _ (by assumption)) R<|zm R R<|zp (Ax R R R)<|zp (Ax R R R)<|za R R<|za R R<|?_
 refine zn<|zs<|zr<|zm R R<|zp (Bf R R R)<|zm R R<|?_
 refine XL.dec 16 R (fun g16=> ?_) (fun g16=> ?_)
 refine zm R R<|XL.len R R R Tryz.underlying45 fun hl18=>zp (Be R R R)<|zq R R R<|zm R R<|?_
 refine XL.dec 21 R (fun g21=> ?_) (fun g21=> ?_)
 refine zm R R<|XL.call1 R R (All _ (by assumption)) R<|zm R R<|zp (A5 R R R)<|zq R R R<|zn<|?_
 refine zd R (fun c26=> ?_) (fun c26=> ?_)
 refine Ag (by kernel_rfl)<|za R R<|zn<|zs<|zr<|zm R R<|zp (A5 R R R)<|zn<|?_
 refine zd R (fun c28=> ?_) (fun c28=> ?_)
 refine zr<|zm R R<|za R R<|za R R<|zn<|zt<|?_
 exact Az R (RV.nil (sz:=1) R R) (RV.tmp R R) (r2 (rSl (Ati g16 g21 c26).1) (rI (Ati g16 g21 c26).2))
 refine zi<|zr<|zm R R<|za R R<|za R R<|zn<|zt<|?_
 exact Az R (RV.tmp R R) (RV.tmp R R) (by exfalso;omega)
 refine zi<|zs<|zr<|zm R R<|zp (A5 R R R)<|zn<|?_
 refine zd R (fun c28=> ?_) (fun c28=> ?_)
 refine zr<|zm R R<|za R R<|za R R<|zn<|zt<|?_
 exact Az R (RV.nil (sz:=1) R R) (RV.tmp R R) (by exfalso;omega)
 refine zi<|zr<|zm R R<|za R R<|za R R<|zn<|zt<|?_
 exact Az R (RV.tmp R R) (RV.tmp R R) (r2 (rSl (Ahw g16 (fun h=>c26 h.2)).1) (rI (Ahw g16 (fun h=>c26 h.2)).2))
 refine zk 4 R<|zq R R R<|zn<|A8 (by kernel_rfl) R<|zi<|zs<|zr<|zm R R<|zp (A5 R R R)<|zn<|?_
 refine zd R (fun c28=> ?_) (fun c28=> ?_)
 refine zr<|zm R R<|za R R<|za R R<|zn<|zt<|?_
 exact Az R (RV.nil (sz:=1) R R) (RV.tmp R R) (by exfalso;omega)
 refine zi<|zr<|zm R R<|za R R<|za R R<|zn<|zt<|?_
 exact Az R (RV.tmp R R) (RV.tmp R R) (r2 (rSl (Ahw g16 (fun h=>g21 h.1)).1) (rI (Ahw g16 (fun h=>g21 h.1)).2))
 refine zk 3 R<|zq R R R<|zm R R<|zk 4 R<|zq R R R<|zn<|A8 (by kernel_rfl) R<|zi<|zs<|zr<|zm R R<|zp (A5 R R R)<|zn<|?_
 refine zd R (fun c28=> ?_) (fun c28=> ?_)
 refine zr<|zm R R<|za R R<|za R R<|zn<|zt<|?_
 exact Az R (RV.nil (sz:=1) R R) (RV.tmp R R) (r2 (rSl (Ath g16).1) (rI (Ath g16).2))
 refine zi<|zr<|zm R R<|za R R<|za R R<|zn<|zt<|?_
 exact Az R (RV.tmp R R) (RV.tmp R R) (by exfalso;omega)
theorem J4 (v:Vo) (L:Int) (hE:Evs v.evs):XC Tryz.prog 71 [.agg (Vo.c v), .v (.int .i64 L)] (fun r=>r=dI (ckE v L)):=by
 refine Al Ad1 Tryz.func71 R R lb<|zr<|XL.step R (Ao 2 (l:= [.d (.sl 13 (v.evs.map Ev.c)), .d (.sl 4 (v.tups.map Tp.c))]) R R (by kernel_rfl))<|za R R<|znr<|zp (Ae (s':= .d (.agg (Vo.c v))) (Ac (Ad R R Aq R lb)) (by kernel_rfl))<|zm R R<|XL.call1 R R (Mo _ _ (by assumption)) R<|zm R R<|zp (Ax R R R)<|zp (Ax R R R)<|za R R<|za R R<|znr<|?_
 exact zm R R<|za R R<|zn<|zt<|z1 R R (R)
theorem Asb {v:Vo} {L:Int} (h:ckE v L≠0): []=Bg (ckL v L):=by rw [ckL,if_pos h];rfl
theorem Xu (v:Vo) (L:Int) (hE:Evs v.evs):XC Tryz.prog 57 [.agg (Vo.c v), .v (.int .i64 L)] (fun r=>r= .tup [.sl 1 (Co (Bg (ckL v L))),dI (ckE v L)]):=by
 have hN:=J0 v L
 refine Al Aed Tryz.func57 R R lb<|zr<|XL.step R (Ao 2 (l:= [.d (.sl 13 (v.evs.map Ev.c)), .d (.sl 4 (v.tups.map Tp.c))]) R R (by kernel_rfl))<|za R R<|za R R<|znr<|zp (Ae (s':= .d (.agg (Vo.c v))) (Ac (Ad R R Aq R lb)) (by kernel_rfl))<|zm R R<|XL.call1 R R (Mo _ _ (by assumption)) R<|zm R R<|zp (Ax R R R)<|zp (Ax R R R)<|za R R<|za R R<|?_
 refine zn<|zs<|zr<|zm R R<|zp (A5 R R R)<|zn<|?_
 refine zd R (fun c15=> ?_) (fun c15=> ?_)
 refine zr<|zm R R<|za R R<|za R R<|zn<|zt<|?_
 exact Az R (RV.nil (sz:=1) R R) (RV.tmp R R) (r2 (rSl (Asb c15)) R)
 refine zi<|zr<|zm R R<|XL.call1 R R (Wu _ (by assumption)) R<|za R R<|za R R<|zn<|zt<|?_
 exact Az R (RV.tmp R R) (RV.tmp R R) (r2 R (rI (by omega)))
def atS (l:List Int) (t:Int):Nat→Int × Int
 |0=>(0,0)
 |k+1=>match l[k]? with
  |some x=>if tot (l.take k)≤t∧0<x then (k,tot (l.take k)) else atS l t k
  |none=>atS l t k
theorem Acu {l:List Int} {t x:Int} {k:Nat} (h:l[k]? =some x) (h1:tot (l.take k)≤t) (h2:0<x):atS l t (k+1)=((k:Int),tot (l.take k)):=by simp only [atS,h];rw [if_pos ⟨h1,h2⟩]
theorem O1 {l:List Int} {t x:Int} {k:Nat} (h:l[k]? =some x) (h1:¬(tot (l.take k)≤t∧0<x)):atS l t (k+1)=atS l t k:=by simp only [atS,h];rw [if_neg h1]
def atE (v:Vo) (L t:Int):Int:=if ckE v L≠0 then ckE v L else if (ckL v L).length=0 then 10 else if t<0∨L≤t then 2 else 0
def atV (v:Vo) (L t:Int):Int × Int:=if atE v L t≠0 then (0,0) else atS (ckL v L) t (ckL v L).length
theorem Ir {l:List Int} {k:Nat} {x:Int} (h:(Bg l)[k]? =some x):x=tot (l.take k):=by
 have hk:=(List.getElem?_eq_some_iff.1 h).1
 rw [Bg,List.length_map,List.length_range] at hk
 rw [Bg,List.getElem?_map,List.getElem?_range hk] at h
 cases h;rfl
theorem K5 (l:List Int):(Bg l).length=l.length:=by rw [Bg,List.length_map,List.length_range]
theorem Mb {v:Vo} {L t a:Int} (h:atE v L t=a) (ha:a≠0):0=(atV v L t).1∧0=(atV v L t).2∧a=atE v L t:=by
 have e:atV v L t=(0,0):=by rw [atV,h,if_pos ha]
 rw [e];exact ⟨rfl,rfl,h.symm⟩
theorem Ahz {v:Vo} {L t:Int} (h:ckE v L≠0):atE v L t=ckE v L:=by rw [atE,if_pos h]
theorem Ahy {v:Vo} {L t:Int} (h:¬ckE v L≠0) (h2:((ckL v L).length:Int)=0):atE v L t=10:=by rw [atE,if_neg h,if_pos (by omega)]
theorem V4 {v:Vo} {L t:Int} (h:¬ckE v L≠0) (h2:¬((ckL v L).length:Int)=0) (h3:t<0∨L≤t):atE v L t=2:=by rw [atE,if_neg h,if_neg (by omega),if_pos h3]
theorem An6 {v:Vo} {L t:Int} (h:¬ckE v L≠0) (h2:¬((ckL v L).length:Int)=0) (h3:¬(t<0∨L≤t)):atS (ckL v L) t (ckL v L).length=atV v L t∧0=atE v L t:=by
 have e:atE v L t=0:=by rw [atE,if_neg h,if_neg (by omega),if_neg h3]
 exact ⟨by rw [atV,e,if_neg (by decide)],e.symm⟩
theorem Aut (v:Vo) (L t:Int) (hE:Evs v.evs):XC Tryz.prog 61 [.agg (Vo.c v), .v (.int .i64 L), .v (.int .i64 t)] (fun r=>r= .tup [dI (atV v L t).1,dI (atV v L t).2,dI (atE v L t)]):=by
 have hN:=J0 v L
 have hol:=K5 (ckL v L)
 refine Al Aea Tryz.func61 R R lb<|zr<|XL.step R (Ao 3 (l:= [.d (.sl 13 (v.evs.map Ev.c)), .d (.sl 4 (v.tups.map Tp.c))]) R R (by kernel_rfl))<|za R R<|za R R<|za R R<|znr<|zp (Ae (s':= .d (.agg (Vo.c v))) (Ac (Ad R R Aq R lb)) (by kernel_rfl))<|zm R R<|XL.call1 R R (Mo _ _ (by assumption)) R<|zm R R<|zp (Ax R R R)<|zp (Ax R R R)<|za R R<|?_
 refine za R R<|zn<|zs<|Ah<|zr<|zm R R<|zp (A5 R R R)<|za R R<|zn<|?_
 refine zd R (fun c18=> ?_) (fun c18=> ?_)
 refine zr<|zm R R<|za R R<|za R R<|za R R<|zn<|zt<|?_
 exact Vn R (RV.tmp R R) (RV.tmp R R) (RV.tmp R R) (r3 (rI (Mb (t:=t) (Ahz c18) c18).1) (rI (Mb (t:=t) (Ahz c18) c18).2.1) (rI (Mb (t:=t) (Ahz c18) c18).2.2))
 refine zr<|zm R R<|XL.len R R R Tryz.underlying45 fun hl24=>zp (Bf R R R)<|za R R<|zn<|?_
 refine zd R (fun c22=> ?_) (fun c22=> ?_)
 refine zr<|za R R<|za R R<|za R R<|zn<|zt<|?_
 exact Vn R (RV.tmp R R) (RV.tmp R R) (RV.tmp R R) (r3 (rI (Mb (t:=t) (Ahy c18 c22) (by decide)).1) (rI (Mb (t:=t) (Ahy c18 c22) (by decide)).2.1) (rI (Mb (t:=t) (Ahy c18 c22) (by decide)).2.2))
 refine zr<|zm R R<|zp (Au R R R)<|zm R R<|?_
 refine XL.dec 29 R (fun g29=> ?_) (fun g29=> ?_)
 refine zk 3 R<|zq R R R<|za R R<|zn<|Aw (by kernel_rfl) R<|zr<|za R R<|za R R<|za R R<|zn<|zt<|?_
 exact Vn R (RV.tmp R R) (RV.tmp R R) (RV.tmp R R) (r3 (rI (Mb (V4 c18 c22 (by omega)) (by decide)).1) (rI (Mb (V4 c18 c22 (by omega)) (by decide)).2.1) (rI (Mb (V4 c18 c22 (by omega)) (by decide)).2.2))
 refine zm R R<|zm R R<|zp (E2 R R R)<|zq R R R<|za R R<|zn<|?_
 refine zd R (fun c26=> ?_) (fun c26=> ?_)
 refine zr<|za R R<|za R R<|za R R<|zn<|zt<|?_
 exact Vn R (RV.tmp R R) (RV.tmp R R) (RV.tmp R R) (r3 (rI (Mb (V4 c18 c22 (by omega)) (by decide)).1) (rI (Mb (V4 c18 c22 (by omega)) (by decide)).2.1) (rI (Mb (V4 c18 c22 (by omega)) (by decide)).2.2))
 refine zi<|zs<|zr<|zm R R<|XL.call1 R R (Wu _ (by assumption)) R<|XL.len R R R Tryz.underlying45 fun hl36=>zm R R<|zn<|Ah<|?_
 refine A0 (α:=Nat) (fun k=>k≤(Bg (ckL v L)).length) (fun k=>mkF [(2, .d (dI t)),(6, .d (dI (atS (ckL v L) t k).1)),(7, .d (dI (atS (ckL v L) t k).2)),(8, .d (dI (ckE v L))),(9, .d (.sl 1 (Co (ckL v L)))),(35, .d (.sl 1 (Co (Bg (ckL v L))))),(36, .d (dI (Bg (ckL v L)).length)),(37, .d (dI k))]) (fun k=>mkH []) (fun k=>(Bg (ckL v L)).length - k) (0) (Nat.zero_le _) ?_ ?_ ?_
 exact fz ⟨sr,sr,sr,sr,sr,sr,sr,sr,trivial⟩
 exact HSub.nil
 intro k hk1
 refine zr<|zp (Au R R R)<|zn<|zs<|?_
 refine zd R (fun c38=> ?_) (fun c38=> ?_)
 have hk1a:k<(Bg (ckL v L)).length:=by omega
 obtain ⟨x1,hx1⟩:=Av hk1a
 have hxe:=Ir hx1
 obtain ⟨y,hy⟩:∃y,(ckL v L)[k]? =some y:=Av (by omega)
 refine zi<|zs<|Ah<|zr<|zm R R<|zp (At R R R Dy hx1)<|zp (Bj R R Ai)<|za R R<|za R R<|znr<|zm R R<|zm R R<|zp (Jr R R R)<|zm R R<|?_
 refine XL.dec 45 R (fun g45=> ?_) (fun g45=> ?_)
 refine zm R R<|zm R R<|zp (At R R R Dy (hy))<|zp (Bj R R Ai)<|zp (Be R R R)<|zq R R R<|zn<|?_
 refine zd R (fun c51=> ?_) (fun c51=> ?_)
 refine Ag (by kernel_rfl)<|zm R R<|zm R R<|za R R<|za R R<|zn<|Ag (by kernel_rfl)<|zp (An R R R (by omega) (by omega))<|zm R R<|zn<|?_
 exact Am (k+1) (by omega) (by omega) (fz ⟨sr, .same (sI (by rw [Acu hy (by rw [←Ir hx1];exact g45) c51])), .same (sI (by rw [Acu hy (by rw [←Ir hx1];exact g45) c51];exact Ir hx1)),sr,sr,sr,sr,sr,trivial⟩) (HSub.nil)
 refine zi<|Ag (by kernel_rfl)<|zp (An R R R (by omega) (by omega))<|zm R R<|zn<|?_
 exact Am (k+1) (by omega) (by omega) (fz ⟨sr, .same (sI (by rw [O1 hy (fun h=>c51 h.2)])), .same (sI (by rw [O1 hy (fun h=>c51 h.2)])),sr,sr,sr,sr,sr,trivial⟩) (HSub.nil)
 refine zk 5 R<|zq R R R<|zn<|A8 (by kernel_rfl) R<|zi<|Ag (by kernel_rfl)<|zp (An R R R (by omega) (by omega))<|zm R R<|zn<|?_
 exact Am (k+1) (by omega) (by omega) (fz ⟨sr, .same (sI (by rw [O1 hy (fun h=>g45 (by rw [Ir hx1];exact h.1))])), .same (sI (by rw [O1 hy (fun h=>g45 (by rw [Ir hx1];exact h.1))])),sr,sr,sr,sr,sr,trivial⟩) (HSub.nil)
 have hk1b:k=(Bg (ckL v L)).length:=by omega
 have hke:k=(ckL v L).length:=by omega
 refine As<|zr<|zm R R<|zm R R<|za R R<|za R R<|za R R<|zn<|zt<|?_
 exact Vn R (RV.tmp R R) (RV.tmp R R) (RV.tmp R R) (r3 (rI (by rw [hke,(An6 c18 c22 (by omega)).1])) (rI (by rw [hke,(An6 c18 c22 (by omega)).1])) (rI (An6 c18 c22 (by omega)).2))
end Go.Proofs.YtaafemnkamfgnaaGreat
namespace Go.Proofs.YtaafemnkamfgnaaGreat
open Go.RowKit
set_option maxRecDepth 4000
set_option maxHeartbeats 4000000 in
theorem V1 (d:Nat) (w:World) (a0 a1 a2 a3 a4 a5 b0 b1 b2 b3 b4 b5:Int):(Op.equalIn (d+2) 24 (.agg #[.int .i64 a0, .int .i64 a1, .int .i64 a2, .int .i64 a3, .int .i64 a4, .int .i64 a5]) (.agg #[.int .i64 b0, .int .i64 b1, .int .i64 b2, .int .i64 b3, .int .i64 b4, .int .i64 b5])).run Tryz.prog w=
  .ok (decide (a0=b0∧a1=b1∧a2=b2∧a3=b3∧a4=b4∧a5=b5)) w:=by
 rw [show d+2=(d+1)+1 from rfl]
 have hp:∀(cs:Array Value) (k:Nat) (v:Value),cs[k]? =some v→(part 3 cs k).run Tryz.prog w= .ok v w:=fun cs k v h=>Bi Ai w h
 have he:∀a b:Int,(Op.equalIn (d+1) 3 (.int .i64 a) (.int .i64 b)).run Tryz.prog w= .ok (decide (a=b)) w:=fun a b=>Cp d 3 Tryz.underlying3 a b
 have ha0:=hp (#[.int .i64 a0, .int .i64 a1, .int .i64 a2, .int .i64 a3, .int .i64 a4, .int .i64 a5]) ((0)*1) (.int .i64 a0) rfl
 have hb0:=hp (#[.int .i64 b0, .int .i64 b1, .int .i64 b2, .int .i64 b3, .int .i64 b4, .int .i64 b5]) ((0)*1) (.int .i64 b0) rfl
 have ha1:=hp (#[.int .i64 a0, .int .i64 a1, .int .i64 a2, .int .i64 a3, .int .i64 a4, .int .i64 a5]) ((0+1)*1) (.int .i64 a1) rfl
 have hb1:=hp (#[.int .i64 b0, .int .i64 b1, .int .i64 b2, .int .i64 b3, .int .i64 b4, .int .i64 b5]) ((0+1)*1) (.int .i64 b1) rfl
 have ha2:=hp (#[.int .i64 a0, .int .i64 a1, .int .i64 a2, .int .i64 a3, .int .i64 a4, .int .i64 a5]) ((0+1+1)*1) (.int .i64 a2) rfl
 have hb2:=hp (#[.int .i64 b0, .int .i64 b1, .int .i64 b2, .int .i64 b3, .int .i64 b4, .int .i64 b5]) ((0+1+1)*1) (.int .i64 b2) rfl
 have ha3:=hp (#[.int .i64 a0, .int .i64 a1, .int .i64 a2, .int .i64 a3, .int .i64 a4, .int .i64 a5]) ((0+1+1+1)*1) (.int .i64 a3) rfl
 have hb3:=hp (#[.int .i64 b0, .int .i64 b1, .int .i64 b2, .int .i64 b3, .int .i64 b4, .int .i64 b5]) ((0+1+1+1)*1) (.int .i64 b3) rfl
 have ha4:=hp (#[.int .i64 a0, .int .i64 a1, .int .i64 a2, .int .i64 a3, .int .i64 a4, .int .i64 a5]) ((0+1+1+1+1)*1) (.int .i64 a4) rfl
 have hb4:=hp (#[.int .i64 b0, .int .i64 b1, .int .i64 b2, .int .i64 b3, .int .i64 b4, .int .i64 b5]) ((0+1+1+1+1)*1) (.int .i64 b4) rfl
 have ha5:=hp (#[.int .i64 a0, .int .i64 a1, .int .i64 a2, .int .i64 a3, .int .i64 a4, .int .i64 a5]) ((0+1+1+1+1+1)*1) (.int .i64 a5) rfl
 have hb5:=hp (#[.int .i64 b0, .int .i64 b1, .int .i64 b2, .int .i64 b3, .int .i64 b4, .int .i64 b5]) ((0+1+1+1+1+1)*1) (.int .i64 b5) rfl
 clear hp
 generalize hd:d+1=d1 at*
 generalize hA:(#[.int .i64 a0, .int .i64 a1, .int .i64 a2, .int .i64 a3, .int .i64 a4, .int .i64 a5]:Array Value)=A at*
 generalize hB:(#[.int .i64 b0, .int .i64 b1, .int .i64 b2, .int .i64 b3, .int .i64 b4, .int .i64 b5]:Array Value)=B at*
 unfold Op.equalIn
 simp only [Sem.run_bind,run_underlying Tryz.underlying24,Result.andThen_ok,sizeB.run Fc]
 simp only [Std.Legacy.Range.forIn_eq_forIn_range',Std.Legacy.Range.size,List.range',List.forIn_cons,List.forIn_nil]
 by_cases e0:a0=b0
 rotate_left
 ·simp_all
 by_cases e1:a1=b1
 rotate_left
 ·simp_all
 by_cases e2:a2=b2
 rotate_left
 ·simp_all
 by_cases e3:a3=b3
 rotate_left
 ·simp_all
 by_cases e4:a4=b4
 rotate_left
 ·simp_all
 by_cases e5:a5=b5
 rotate_left
 ·simp_all
 ·simp_all
theorem Amb {t':TypeId} {o:Oper} {e:Operand→S} {h:Xh} {x y:Operand} {a0:Int} {a1:Int} {a2:Int} {a3:Int} {a4:Int} {a5:Int} {b0:Int} {b1:Int} {b2:Int} {b3:Int} {b4:Int} {b5:Int} (ho:o.op= .binOp .eql 24 x y t') (hx:e x= .d (.agg [.v (.int .i64 a0), .v (.int .i64 a1), .v (.int .i64 a2), .v (.int .i64 a3), .v (.int .i64 a4), .v (.int .i64 a5)])) (hy:e y= .d (.agg [.v (.int .i64 b0), .v (.int .i64 b1), .v (.int .i64 b2), .v (.int .i64 b3), .v (.int .i64 b4), .v (.int .i64 b5)])):Bh Tryz.prog o e h (.d (.v (.bool (decide (a0=b0∧a1=b1∧a2=b2∧a3=b3∧a4=b4∧a5=b5))))):=by
 refine Fm ho hx hy rfl rfl (by kernel_rfl) fun w=> ?_
 refine (run_eql_struct w 24 #[.int .i64 a0, .int .i64 a1, .int .i64 a2, .int .i64 a3, .int .i64 a4, .int .i64 a5] #[.int .i64 b0, .int .i64 b1, .int .i64 b2, .int .i64 b3, .int .i64 b4, .int .i64 b5]).trans ?_
 have hq:=V1 9998 w a0 a1 a2 a3 a4 a5 b0 b1 b2 b3 b4 b5
 simp only [Nat.reduceAdd] at hq
 rw [hq]
 simp only [Result.andThen_ok]
theorem Al6 {t':TypeId} {o:Oper} {e:Operand→S} {h:Xh} {x y:Operand} {a0:Int} {a1:Int} {a2:Int} {a3:Int} {a4:Int} {a5:Int} {b0:Int} {b1:Int} {b2:Int} {b3:Int} {b4:Int} {b5:Int} (ho:o.op= .binOp .neq 24 x y t') (hx:e x= .d (.agg [.v (.int .i64 a0), .v (.int .i64 a1), .v (.int .i64 a2), .v (.int .i64 a3), .v (.int .i64 a4), .v (.int .i64 a5)])) (hy:e y= .d (.agg [.v (.int .i64 b0), .v (.int .i64 b1), .v (.int .i64 b2), .v (.int .i64 b3), .v (.int .i64 b4), .v (.int .i64 b5)])):Bh Tryz.prog o e h (.d (.v (.bool (decide (¬(a0=b0∧a1=b1∧a2=b2∧a3=b3∧a4=b4∧a5=b5)))))):=by
 refine Fm ho hx hy rfl rfl (by kernel_rfl) fun w=> ?_
 refine (run_neq_struct w 24 #[.int .i64 a0, .int .i64 a1, .int .i64 a2, .int .i64 a3, .int .i64 a4, .int .i64 a5] #[.int .i64 b0, .int .i64 b1, .int .i64 b2, .int .i64 b3, .int .i64 b4, .int .i64 b5]).trans ?_
 have hq:=V1 9998 w a0 a1 a2 a3 a4 a5 b0 b1 b2 b3 b4 b5
 simp only [Nat.reduceAdd] at hq
 rw [hq]
 simp only [Result.andThen_ok,decide_not]
end Go.Proofs.YtaafemnkamfgnaaGreat
namespace Go.Proofs.YtaafemnkamfgnaaGreat
open Go.RowKit
theorem Asw {m:Me} {k:Nat} {g:Int} (h:m.gs[k]? =some g): [dI m.g0,dI m.g1,dI m.g2,dI m.g3,dI m.g4,dI m.g5][k]? =some (dI g):=by
 have:(m.gs.map dI)[k]? =some (dI g):=by rw [List.getElem?_map,h];rfl
 exact this
def Me.flat (m:Me):Prop:=m.g0=0∧m.g1=0∧m.g2=0∧m.g3=0∧m.g4=0∧m.g5=0
instance (m:Me):Decidable m.flat:=by unfold Me.flat;exact inferInstance
def gGo (k:Nat) (s n:Int):List Int→Option (Int × Int)
 | []=>some (s,n)
 |g::r=>if g<0∨64<g∨(0<g∧(k:Int)≠n) then none else if 0<g then gGo (k+1) (s+g) (n+1) r else gGo (k+1) s n r
def gOk (c:Int) (o:Option (Int × Int)):Prop:=match o with|some p=>p.1=c∧2≤p.2|none=>False
instance (c:Int) (o:Option (Int × Int)):Decidable (gOk c o):=by unfold gOk;cases o<;>exact inferInstance
def Me.grouped (m:Me):Prop:=m.flat∨gOk m.count (gGo 0 0 0 m.gs)
instance (m:Me):Decidable m.grouped:=by unfold Me.grouped;exact inferInstance
theorem T3 {m:Me} {k:Nat} {g s n:Int} (h:m.gs[k]? =some g) (hb:g<0∨64<g∨(0<g∧(k:Int)≠n)):gGo k s n (m.gs.drop k)=none:=by rw [B7 h,gGo,if_pos hb]
theorem Aqp {m:Me} {k:Nat} {g s n:Int} (h:m.gs[k]? =some g) (hb:¬(g<0∨64<g∨(0<g∧(k:Int)≠n))) (hg:0<g):gGo k s n (m.gs.drop k)=gGo (k+1) (s+g) (n+1) (m.gs.drop (k+1)):=by rw [B7 h,gGo,if_neg hb,if_pos hg]
theorem Asy {m:Me} {k:Nat} {g s n:Int} (h:m.gs[k]? =some g) (hb:¬(g<0∨64<g∨(0<g∧(k:Int)≠n))) (hg:¬0<g):gGo k s n (m.gs.drop k)=gGo (k+1) s n (m.gs.drop (k+1)):=by rw [B7 h,gGo,if_neg hb,if_neg hg]
theorem Aqn {m:Me} (h:m.grouped):true=decide m.grouped:=by rw [decide_eq_true h]
theorem Zy {m:Me} (h1:¬m.flat) (h:gGo 0 0 0 m.gs=none):false=decide m.grouped:=by rw [decide_eq_false];exact fun k=>k.elim h1 (by rw [h];exact fun k=>k)
theorem Aka {m:Me} (h1:¬m.flat) {s n:Int} (h:gGo 0 0 0 m.gs=some (s,n)):m.grouped↔s=m.count∧2≤n:=by
 unfold Me.grouped
 rw [h]
 exact ⟨fun k=>k.elim (fun k=>absurd k h1) fun k=>k,fun k=> .inr k⟩
theorem Ahi (m:Me):XC Tryz.prog 92 [.agg (Me.c m)] (fun r=>r=dB (decide m.grouped)):=by
 refine Al Adr Tryz.func92 R R lb<|zr<|XL.step R (Ao 1 (l:= [.d (dI m.count), .d (dI m.unit), .d (dI m.g0), .d (dI m.g1), .d (dI m.g2), .d (dI m.g3), .d (dI m.g4), .d (dI m.g5)]) R R (by kernel_rfl))<|za R R<|zn<|zs<|zr<|zp (Aa R R Pu)<|?_
 refine zp (Ae (s':= .d (.agg [dI m.g0,dI m.g1,dI m.g2,dI m.g3,dI m.g4,dI m.g5])) (Ac (Ad R R Rm R lb)) (by kernel_rfl))<|zp (Ae (s':= .d (.agg [dI 0,dI 0,dI 0,dI 0,dI 0,dI 0])) (Ac (Pj R Tryz.underlying24 Fc Aev R)) (by kernel_rfl))<|zp (Amb R R R)<|zn<|?_
 refine zd R (fun c10=> ?_) (fun c10=> ?_)
 exact zr<|za R R<|zn<|zt<|z1 R R (rB (Aqn (.inl c10)))
 refine zi<|zr<|za R R<|za R R<|zn<|zs<|zr<|zp (Aa R R Pu)<|zp (Ae (s':= .d (.agg [dI m.g0,dI m.g1,dI m.g2,dI m.g3,dI m.g4,dI m.g5])) (Ac (Ad R R Rm R lb)) (by kernel_rfl))<|zm R R<|zn<|Ah<|?_
 refine A0 (α:=Nat × Int × Int) (fun p=>p.1≤6∧gGo p.1 p.2.1 p.2.2 (m.gs.drop p.1)=gGo 0 0 0 m.gs∧0≤p.2.1∧p.2.1≤64*p.1∧0≤p.2.2∧p.2.2≤p.1) (fun p=>mkF [(1, .ptr 1 0 0),(3, .d (dI p.2.1)),(4, .d (dI p.2.2)),(12, .d (.agg [dI m.g0,dI m.g1,dI m.g2,dI m.g3,dI m.g4,dI m.g5])),(13, .d (dI p.1))]) (fun p=>mkH [(1, .box ((Me.c m).map S.d))]) (fun p=>6 - p.1) ((0,0,0)) (⟨Nat.zero_le _,R,by simp,by simp,by simp,by simp⟩) ?_ ?_ ?_
 exact fz ⟨sr,sr,sr,sr,sr,trivial⟩
 exact gz ⟨R,trivial⟩
 intro p hk0
 obtain ⟨hk,hgo,hs0,hs1,hn0,hn1⟩:=hk0
 refine zr<|zp (Au R R R)<|zn<|zs<|?_
 refine zd R (fun c14=> ?_) (fun c14=> ?_)
 obtain ⟨g,hg⟩:∃g,m.gs[p.1]? =some g:=Av (by show p.1<6;omega)
 refine zi<|zs<|Ah<|zr<|zm R R<|zp (Wr (k:=p.1) R R R R Tryz.underlying24 Ai Fc (by omega) (Asw hg))<|za R R<|za R R<|zn<|Ah<|zr<|zm R R<|zp (Au R R R)<|zm R R<|?_
 refine XL.dec 20 R (fun g20=> ?_) (fun g20=> ?_)
 exact zk 2 R<|zq R R R<|zm R R<|zk 7 R<|zq R R R<|za R R<|zn<|Aw (by kernel_rfl) R<|zr<|za R R<|zn<|zt<|z1 R R (rB (Zy c10 (by rw [←hgo];exact T3 hg (by omega))))
 refine zm R R<|zp (Be R R R)<|zq R R R<|zm R R<|?_
 refine XL.dec 24 R (fun g24=> ?_) (fun g24=> ?_)
 exact zk 7 R<|zq R R R<|za R R<|zn<|Aw (by kernel_rfl) R<|zr<|za R R<|zn<|zt<|z1 R R (rB (Zy c10 (by rw [←hgo];exact T3 hg (by omega))))
 refine zm R R<|zp (Be R R R)<|zm R R<|?_
 refine XL.dec 27 R (fun g27=> ?_) (fun g27=> ?_)
 refine zm R R<|zm R R<|zp (A5 R R R)<|zq R R R<|zq R R R<|za R R<|zn<|?_
 refine zd R (fun c17=> ?_) (fun c17=> ?_)
 exact zr<|za R R<|zn<|zt<|z1 R R (rB (Zy c10 (by rw [←hgo];exact T3 hg (by omega))))
 refine zr<|zm R R<|zp (Be R R R)<|za R R<|zn<|?_
 refine zd R (fun c33=> ?_) (fun c33=> ?_)
 refine Ag (by kernel_rfl)<|zm R R<|zm R R<|zp (An R R R (by omega) (by omega))<|zm R R<|zp (An R R R (by omega) (by omega))<|za R R<|za R R<|zn<|Ag (by kernel_rfl)<|zp (An R R R (by omega) (by omega))<|zm R R<|zn<|?_
 exact Am ((p.1+1,p.2.1+g,p.2.2+1)) (⟨by simp only;omega,by rw [←Aqp hg (by omega) c33];exact hgo,by simp only;omega,by simp only;omega,by simp only;omega,by simp only;omega⟩) (by simp only;omega) (fz ⟨sr,sr,sr,sr,sr,trivial⟩) (gz ⟨rfl,trivial⟩)
 refine zi<|Ag (by kernel_rfl)<|zp (An R R R (by omega) (by omega))<|zm R R<|zn<|?_
 exfalso;omega
 refine zk 3 R<|zq R R R<|zq R R R<|za R R<|zn<|A8 (by kernel_rfl) R<|zr<|zm R R<|zp (Be R R R)<|za R R<|zn<|?_
 refine zd R (fun c33=> ?_) (fun c33=> ?_)
 refine Ag (by kernel_rfl)<|zm R R<|zm R R<|zp (An R R R (by omega) (by omega))<|zm R R<|zp (An R R R (by omega) (by omega))<|za R R<|za R R<|zn<|Ag (by kernel_rfl)<|zp (An R R R (by omega) (by omega))<|zm R R<|zn<|?_
 exfalso;omega
 refine zi<|Ag (by kernel_rfl)<|zp (An R R R (by omega) (by omega))<|zm R R<|zn<|?_
 exact Am ((p.1+1,p.2.1,p.2.2)) (⟨by simp only;omega,by rw [←Asy hg (by omega) c33];exact hgo,by simp only;omega,by simp only;omega,by simp only;omega,by simp only;omega⟩) (by simp only;omega) (fz ⟨sr,sr,sr,sr,sr,trivial⟩) (gz ⟨rfl,trivial⟩)
 have hke:p.1=6:=by omega
 have hend:gGo 0 0 0 m.gs=some (p.2.1,p.2.2):=by rw [←hgo,hke];rfl
 refine As<|zr<|zm R R<|zp (Aa R R I0)<|zp (Ab R R Ai R R)<|zp (Bf R R R)<|zm R R<|?_
 refine XL.dec 46 R (fun g46=> ?_) (fun g46=> ?_)
 exact zm R R<|zp (E2 R R R)<|zq R R R<|za R R<|zn<|zt<|z1 R R (rB (by rw [decide_eq_decide,Aka c10 hend];exact ⟨fun h=>⟨g46,h⟩,fun h=>h.2⟩))
 exact zk 2 R<|zq R R R<|za R R<|zn<|zt<|z1 R R (rB (by rw [eq_comm,decide_eq_false_iff_not,Aka c10 hend];exact fun h=>g46 h.1))
def Me.pow (m:Me):Prop:=((m.unit.toNat &&& (m.unit - 1).toNat:Nat):Int)=0
instance (m:Me):Decidable m.pow:=by unfold Me.pow;exact inferInstance
def Me.err (m:Me):Int:=if m.count<1∨64<m.count then 2 else if m.unit<1∨64<m.unit∨¬m.pow then 17 else if ¬m.grouped then 19 else 0
theorem Aso {m:Me} (h:m.count<1∨64<m.count):2=m.err:=by rw [Me.err,if_pos h]
theorem Aml {m:Me} (h:¬(m.count<1∨64<m.count)) (h2:m.unit<1∨64<m.unit∨¬m.pow):17=m.err:=by rw [Me.err,if_neg h,if_pos h2]
theorem Avb {m:Me} (h:¬(m.count<1∨64<m.count)) (h2:¬(m.unit<1∨64<m.unit∨¬m.pow)) (h3:¬m.grouped):19=m.err:=by rw [Me.err,if_neg h,if_neg h2,if_pos h3]
theorem Ava {m:Me} (h:¬(m.count<1∨64<m.count)) (h2:¬(m.unit<1∨64<m.unit∨¬m.pow)) (h3:m.grouped):0=m.err:=by rw [Me.err,if_neg h,if_neg h2,if_neg (fun k=>k h3)]
theorem Afg {a b c:Prop} (h1:¬a) (h2:¬b) (h3:¬c):¬(a∨b∨c):=fun k=>k.elim h1 fun k=>k.elim h2 h3
theorem Ox {a b:Prop} (h1:¬a) (h2:¬b):¬(a∨b):=fun k=>k.elim h1 h2
theorem N6 (m:Me):XC Tryz.prog 53 [.agg (Me.c m)] (fun r=>r=dI m.err):=by
 refine Al Aeg Tryz.func53 R R lb<|zr<|XL.step R (Ao 1 (l:= [.d (dI m.count), .d (dI m.unit), .d (dI m.g0), .d (dI m.g1), .d (dI m.g2), .d (dI m.g3), .d (dI m.g4), .d (dI m.g5)]) R R (by kernel_rfl))<|za R R<|zn<|zs<|Ah<|zr<|zp (Aa R R I0)<|zp (Ab R R Ai R R)<|zp (Au R R R)<|zm R R<|?_
 refine XL.dec 7 R (fun g7=> ?_) (fun g7=> ?_)
 exact zk 3 R<|zq R R R<|za R R<|zn<|Aw (by kernel_rfl) R<|zr<|za R R<|zn<|zt<|z1 R R (rI (Aso (.inl g7)))
 refine zp (Aa R R I0)<|zp (Ab R R Ai R R)<|zp (Be R R R)<|zq R R R<|za R R<|zn<|?_
 refine zd R (fun c3=> ?_) (fun c3=> ?_)
 exact zr<|za R R<|zn<|zt<|z1 R R (rI (Aso (.inr c3)))
 refine zr<|zp (Aa R R La)<|zp (Ab R R Ai R R)<|zp (Au R R R)<|zm R R<|?_
 refine XL.dec 16 R (fun g16=> ?_) (fun g16=> ?_)
 exact zk 3 R<|zq R R R<|zm R R<|zk 7 R<|zq R R R<|za R R<|zn<|Aw (by kernel_rfl) R<|zr<|za R R<|zn<|zt<|z1 R R (rI (Aml (Ox g7 c3) (.inl g16)))
 refine zp (Aa R R La)<|zp (Ab R R Ai R R)<|zp (Be R R R)<|zq R R R<|zm R R<|?_
 refine XL.dec 21 R (fun g21=> ?_) (fun g21=> ?_)
 exact zk 7 R<|zq R R R<|za R R<|zn<|Aw (by kernel_rfl) R<|zr<|za R R<|zn<|zt<|z1 R R (rI (Aml (Ox g7 c3) (.inr (.inl g21))))
 refine zp (Aa R R La)<|zp (Ab R R Ai R R)<|zp (Aa R R La)<|zp (Ab R R Ai R R)<|zp (Ec R R R (by omega) (by omega))<|zp (Aoi R R R (by omega) (by omega) (by omega) (by omega))<|zp (A5 R R R)<|zq R R R<|za R R<|zn<|?_
 refine zd R (fun c12=> ?_) (fun c12=> ?_)
 exact zr<|za R R<|zn<|zt<|z1 R R (rI (Aml (Ox g7 c3) (.inr (.inr c12))))
 refine zr<|zp (Ae (s':= .d (.agg (Me.c m))) (Ac (Ad R R Br R lb)) (by kernel_rfl))<|XL.call1 R R (Ahi _) R<|zp (Eq R R)<|za R R<|zn<|?_
 refine zd R (fun c30=> ?_) (fun c30=> ?_)
 exact zr<|za R R<|zn<|zt<|z1 R R (rI (Avb (Ox g7 c3) (Afg g16 g21 c12) c30))
 exact zi<|zr<|za R R<|zn<|zt<|z1 R R (rI (Ava (Ox g7 c3) (Afg g16 g21 c12) (Decidable.not_not.1 c30)))
structure Mok (m:Me):Prop where
 count:1≤m.count∧m.count≤64
 unit:1≤m.unit∧m.unit≤64
 pow:m.pow
 grp:m.grouped
theorem Kr {m:Me} (h:¬m.err≠0):Mok m:=by
 have h0:m.err=0:=by omega
 unfold Me.err at h0
 split at h0
 ·omega
 ·split at h0
  ·omega
  ·rename_i h2
   split at h0
   ·omega
   ·rename_i h3
    exact ⟨by omega,⟨by omega,by omega⟩,Decidable.not_not.1 fun k=>h2 (.inr (.inr k)),Decidable.not_not.1 h3⟩
def Me.u (m:Me):Int:=1935360 / m.unit
def Me.len (m:Me):Int:=m.count*m.u
theorem Mok.u {m:Me} (h:Mok m):1≤m.u∧m.u≤1935360:=by
 have:=h.unit
 unfold Me.u
 exact ⟨(Int.le_ediv_iff_mul_le (by omega)).2 (by omega),Int.ediv_le_self _ (by omega)⟩
theorem Mok.len {m:Me} (h:Mok m):1≤m.len∧m.len≤123863040:=by
 have h1:=h.u
 have h2:=h.count
 unfold Me.len
 have h3:1*1≤m.count*m.u:=Int.mul_le_mul h2.1 h1.1 (by omega) (by omega)
 have h4:m.count*m.u≤64*1935360:=Int.mul_le_mul h2.2 h1.2 (by omega) (by omega)
 omega
theorem Is (m:Me) (h:Mok m):XC Tryz.prog 93 [.agg (Me.c m)] (fun r=>r=dI m.u):=by
 have hu:=h.unit
 exact Al Adq Tryz.func93 R R lb<|zr<|XL.step R (Ao 1 (l:= [.d (dI m.count), .d (dI m.unit), .d (dI m.g0), .d (dI m.g1), .d (dI m.g2), .d (dI m.g3), .d (dI m.g4), .d (dI m.g5)]) R R (by kernel_rfl))<|za R R<|znr<|zp (Aa R R La)<|zp (Ab R R Ai R R)<|zp (Jq R R R (by omega) (by omega) (by omega))<|za R R<|zn<|zt<|z1 R R (rI R)
theorem Mi (m:Me) (h:Mok m):XC Tryz.prog 54 [.agg (Me.c m)] (fun r=>r=dI m.len):=by
 have hu:=h.u
 have hc:=h.count
 have hl:=h.len
 have hl2:m.count*m.u=m.len:=rfl
 refine Al Aef Tryz.func54 R R lb<|zr<|XL.step R (Ao 1 (l:= [.d (dI m.count), .d (dI m.unit), .d (dI m.g0), .d (dI m.g1), .d (dI m.g2), .d (dI m.g3), .d (dI m.g4), .d (dI m.g5)]) R R (by kernel_rfl))<|za R R<|zn<|zs<|Cb [] (by kernel_rfl) (by kernel_rfl) (by kernel_rfl) (by decide)<|yp (Aa R R I0)<|yp (Ab R R Ai R R)<|?_
 refine yp (Ae (s':= .d (.agg (Me.c m))) (Ac (Ad R R Br R lb)) (by kernel_rfl))<|ChK.cons R (CStep.call R (Is _ (by assumption)) R)<|yp (Mf R R R (by omega) (by omega))<|ya R R<|?_
 refine ChK.nil ⟨by kernel_rfl, ?_⟩
 exact zt<|z1 R R (rI R)
end Go.Proofs.YtaafemnkamfgnaaGreat
namespace Go.Proofs.YtaafemnkamfgnaaGreat
open Go.RowKit
def Jj:List Int→Int
 | []=>0
 |x::r=>r.foldl min x
def Jk:List Int→Int
 | []=>0
 |x::r=>r.foldl max x
theorem Ajp {l:List Int} (h:l≠ []) (x:Int):Jj (l++ [x])=min (Jj l) x:=by
 cases l with
 |nil=>exact absurd rfl h
 |cons a r=>simp only [Jj,List.cons_append,List.foldl_append,List.foldl_cons,List.foldl_nil]
theorem Ajr {l:List Int} (h:l≠ []) (x:Int):Jk (l++ [x])=max (Jk l) x:=by
 cases l with
 |nil=>exact absurd rfl h
 |cons a r=>simp only [Jk,List.cons_append,List.foldl_append,List.foldl_cons,List.foldl_nil]
theorem Ae1 {l:List Int} {k:Nat} (h:1≤k) (h2:0<l.length):l.take k≠ []:=fun e=>by
 have:=congrArg List.length e
 rw [List.length_take,List.length_nil] at this
 omega
theorem Ajo {l:List Int} {k:Nat} {x:Int} (h:l[k]? =some x) (hk:1≤k):Jj (l.take (k+1))=min (Jj (l.take k)) x:=by
 rw [By h,Ajp (Ae1 hk (by have:=(List.getElem?_eq_some_iff.1 h).1;omega))]
theorem Ajq {l:List Int} {k:Nat} {x:Int} (h:l[k]? =some x) (hk:1≤k):Jk (l.take (k+1))=max (Jk (l.take k)) x:=by
 rw [By h,Ajr (Ae1 hk (by have:=(List.getElem?_eq_some_iff.1 h).1;omega))]
theorem Zj {l:List Int} {x:Int} (h:l[0]? =some x):Jj (l.take 1)=x∧Jk (l.take 1)=x:=by
 cases l with
 |nil=>cases h
 |cons a r=>cases h;exact ⟨rfl,rfl⟩
theorem Aps (l:List Int) (h:0<l.length):XC Tryz.prog 181 [.sl 1 (Co l)] (fun r=>r=dI (Jj l)):=by
 refine Al Abd Tryz.func181 R R lb<|zr<|za R R<|zn<|zs<|zr<|zm R R<|XL.len R R R Tryz.underlying45 fun hl6=>zp (Au R R R)<|zn<|?_
 refine zd R (fun c7=> ?_) (fun c7=> ?_)
 exfalso;omega
 refine zi<|zs<|?_
 obtain ⟨x,hx⟩:∃x,l[0]? =some x:=Av h
 refine Ag (by kernel_rfl)<|zm R R<|zp (At (k:=0) R R R Dy (hx))<|zp (Bj R R Ai)<|za R R<|zn<|zs<|zr<|za R R<|zn<|Ah<|?_
 refine A0 (α:=Nat) (fun k=>1≤k∧k≤l.length) (fun k=>mkF [(0, .d (.sl 1 (Co l))),(2, .d (dI 0)),(3, .d (dI (Jj (l.take k)))),(4, .d (dI k))]) (fun k=>mkH []) (fun k=>l.length - k) (1) (⟨Nat.le_refl _,h⟩) ?_ ?_ ?_
 exact fz ⟨sr,sr, .same (sI (Zj hx).1.symm),sr,trivial⟩
 exact HSub.nil
 intro k hk0
 refine zs<|zr<|zm R R<|zm R R<|XL.len R R R Tryz.underlying45 fun hl14=>zp (Au R R R)<|zn<|?_
 refine zd R (fun c15=> ?_) (fun c15=> ?_)
 obtain ⟨y,hy⟩:∃y,l[k]? =some y:=Av (by omega)
 refine zi<|zs<|Ah<|Ag (by kernel_rfl)<|zm R R<|zm R R<|zm R R<|zp (At R R R Dy (hy))<|zp (Bj R R Ai)<|zp (Fq R R R)<|za R R<|zn<|Ag (by kernel_rfl)<|zm R R<|?_
 refine zp (An R R R (by omega) (by omega))<|za R R<|zn<|?_
 exact Am (k+1) (by omega) (by omega) (fz ⟨sr,sr, .same (sI (by rw [Ajo hy (by omega)])),sr,trivial⟩) (HSub.nil)
 have ht:l.take k=l:=List.take_of_length_le (by omega)
 exact As<|zr<|zm R R<|za R R<|zn<|zt<|z1 R R (rI (by rw [ht]))
theorem Apt (l:List Int) (h:0<l.length):XC Tryz.prog 182 [.sl 1 (Co l)] (fun r=>r=dI (Jk l)):=by
 refine Al Abc Tryz.func182 R R lb<|zr<|za R R<|zn<|zs<|zr<|zm R R<|XL.len R R R Tryz.underlying45 fun hl6=>zp (Au R R R)<|zn<|?_
 refine zd R (fun c7=> ?_) (fun c7=> ?_)
 exfalso;omega
 refine zi<|zs<|?_
 obtain ⟨x,hx⟩:∃x,l[0]? =some x:=Av h
 refine Ag (by kernel_rfl)<|zm R R<|zp (At (k:=0) R R R Dy (hx))<|zp (Bj R R Ai)<|za R R<|zn<|zs<|zr<|za R R<|zn<|Ah<|?_
 refine A0 (α:=Nat) (fun k=>1≤k∧k≤l.length) (fun k=>mkF [(0, .d (.sl 1 (Co l))),(2, .d (dI 0)),(3, .d (dI (Jk (l.take k)))),(4, .d (dI k))]) (fun k=>mkH []) (fun k=>l.length - k) (1) (⟨Nat.le_refl _,h⟩) ?_ ?_ ?_
 exact fz ⟨sr,sr, .same (sI (Zj hx).2.symm),sr,trivial⟩
 exact HSub.nil
 intro k hk0
 refine zs<|zr<|zm R R<|zm R R<|XL.len R R R Tryz.underlying45 fun hl14=>zp (Au R R R)<|zn<|?_
 refine zd R (fun c15=> ?_) (fun c15=> ?_)
 obtain ⟨y,hy⟩:∃y,l[k]? =some y:=Av (by omega)
 refine zi<|zs<|Ah<|Ag (by kernel_rfl)<|zm R R<|zm R R<|zm R R<|zp (At R R R Dy (hy))<|zp (Bj R R Ai)<|zp (Rs R R R)<|za R R<|zn<|Ag (by kernel_rfl)<|zm R R<|?_
 refine zp (An R R R (by omega) (by omega))<|za R R<|zn<|?_
 exact Am (k+1) (by omega) (by omega) (fz ⟨sr,sr, .same (sI (by rw [Ajq hy (by omega)])),sr,trivial⟩) (HSub.nil)
 have ht:l.take k=l:=List.take_of_length_le (by omega)
 exact As<|zr<|zm R R<|za R R<|zn<|zt<|z1 R R (rI (by rw [ht]))
def I8 (v:Int) (k:Nat):List Int→Int
 | []=> -1
 |x::r=>if v=x then k else I8 v (k+1) r
theorem Aj7 {v x:Int} {l:List Int} {k:Nat} (h:l[k]? =some x) (hv:v=x):I8 v k (l.drop k)=k:=by rw [B7 h,I8,if_pos hv]
theorem Ahg {v x:Int} {l:List Int} {k:Nat} (h:l[k]? =some x) (hv:¬v=x):I8 v k (l.drop k)=I8 v (k+1) (l.drop (k+1)):=by rw [B7 h,I8,if_neg hv]
theorem Aj6 (v:Int) (l:List Int):∀k,0≤I8 v k l↔v∈l:=by
 induction l with
 |nil=>intro k;simp [I8]
 |cons x r ih=>
  intro k
  rw [I8]
  split
  ·rename_i h;simp [h]
  ·rename_i h;rw [ih,List.mem_cons];exact ⟨.inr,fun k=>k.elim (fun e=>absurd e h) fun e=>e⟩
theorem Aix (l:List Int) (v:Int):XC Tryz.prog 203 [.sl 1 (Co l), .v (.int .i64 v)] (fun r=>r=dI (I8 v 0 l)):=by
 refine Al Aat Tryz.func203 R R lb<|zr<|za R R<|zn<|zs<|zr<|zm R R<|XL.len R R R Tryz.underlying45 fun hl7=>zm R R<|zn<|Ah<|?_
 refine A0 (α:=Nat) (fun k=>k≤l.length∧I8 v k (l.drop k)=I8 v 0 l) (fun k=>mkF [(0, .d (.sl 1 (Co l))),(1, .d (dI v)),(7, .d (dI l.length)),(8, .d (dI k))]) (fun k=>mkH []) (fun k=>l.length - k) (0) (⟨Nat.zero_le _,by rw [List.drop_zero]⟩) ?_ ?_ ?_
 exact fz ⟨sr,sr,sr,sr,trivial⟩
 exact HSub.nil
 intro k hk0
 obtain ⟨hk,hgo⟩:=hk0
 refine zr<|zp (Au R R R)<|zn<|zs<|?_
 refine zd R (fun c9=> ?_) (fun c9=> ?_)
 have hk0a:k<l.length:=by omega
 obtain ⟨x0,hx0⟩:=Av hk0a
 refine zi<|zs<|Ah<|zr<|zm R R<|za R R<|znr<|zm R R<|zm R R<|zm R R<|zp (At R R R Dy hx0)<|zp (Bj R R Ai)<|zp (Bf R R R)<|zn<|?_
 refine zd R (fun c16=> ?_) (fun c16=> ?_)
 exact zr<|zm R R<|za R R<|zn<|zt<|z1 R R (rI (by rw [←hgo,Aj7 hx0 c16]))
 refine zi<|Ag (by kernel_rfl)<|zp (An R R R (by omega) (by omega))<|zm R R<|zn<|?_
 exact Am (k+1) (⟨by omega,by rw [←Ahg hx0 c16];exact hgo⟩) (by omega) (fz ⟨sr,sr,sr,sr,trivial⟩) (HSub.nil)
 have hk0b:k=l.length:=by omega
 have hz:I8 v 0 l= -1:=by rw [←hgo,hk0b,List.drop_length];rfl
 exact As<|zr<|za R R<|zn<|zt<|z1 R R (rI hz.symm)
theorem Na (l:List Int) (v:Int):XC Tryz.prog 183 [.sl 1 (Co l), .v (.int .i64 v)] (fun r=>r=dB (decide (v∈l))):=by
 exact Al Abb Tryz.func183 R R lb<|zr<|za R R<|znr<|zm R R<|zm R R<|XL.call1 R R (Aix _ _) R<|zp (E2 R R R)<|za R R<|zn<|zt<|z1 R R (rB (by rw [decide_eq_decide];exact Aj6 v l 0))
end Go.Proofs.YtaafemnkamfgnaaGreat
namespace Go.Proofs.YtaafemnkamfgnaaGreat
open Go.RowKit
theorem Oo (l:List Hd) (h:l.length≤1000):XS Tryz.prog 140 [.sl 5 (l.map Hd.c)] (.own 5) [(5, .row 200 5 ((l).map Hd.c))]:=by
 refine Ef Rh Tryz.func140 R R lb (by kernel_rfl) (by kernel_rfl)<|zr<|za R R<|zn<|zs<|zr<|zm R R<|?_
 refine XL.eqnil R R R Tryz.underlying55 (fun hn4=> ?_) ?_
 refine zn<|Aw (by kernel_rfl) R<|zr<|za R R<|zn<|D6 5 2 200 5 R<|zt<|?_
 exact ⟨C1 R (RVS.tmp R R),HSub.cons (by rw [hn4];rfl) (HSub.nil)⟩
 refine zn<|A8 (by kernel_rfl) R<|zi<|zr<|XL.step R (Bo 5 R Tryz.underlying55 Yj Tb R R (by omega) (by omega))<|zm R R<|XL.step R (A3 R Aks (.own R) (Src.sl (by omega)) (by unfold maxLen;simp;omega) (by simp;omega))<|zp (Ar R (by conv=>lhs;whnf))<|?_
 refine zn<|zt<|?_
 exact ⟨C1 R (RVS.tmp R R),HSub.cons (R) (HSub.nil)⟩
theorem Adi (l:List Gr) (h:l.length≤1000):XS Tryz.prog 141 [.sl 5 (l.map Gr.c)] (.own 5) [(5, .row 203 5 ((l).map Gr.c))]:=by
 refine Ef Rg Tryz.func141 R R lb (by kernel_rfl) (by kernel_rfl)<|zr<|za R R<|zn<|zs<|zr<|zm R R<|?_
 refine XL.eqnil R R R Tryz.underlying56 (fun hn4=> ?_) ?_
 refine zn<|Aw (by kernel_rfl) R<|zr<|za R R<|zn<|D6 5 2 203 5 R<|zt<|?_
 exact ⟨C1 R (RVS.tmp R R),HSub.cons (by rw [hn4];rfl) (HSub.nil)⟩
 refine zn<|A8 (by kernel_rfl) R<|zi<|zr<|XL.step R (Bo 5 R Tryz.underlying56 Yi Ta R R (by omega) (by omega))<|zm R R<|XL.step R (A3 R Akr (.own R) (Src.sl (by omega)) (by unfold maxLen;simp;omega) (by simp;omega))<|zp (Ar R (by conv=>lhs;whnf))<|?_
 refine zn<|zt<|?_
 exact ⟨C1 R (RVS.tmp R R),HSub.cons (R) (HSub.nil)⟩
theorem Adf (l:List Sy) (h:l.length≤1000):XS Tryz.prog 142 [.sl 2 (l.map Sy.c)] (.own 5) [(5, .row 171 2 ((l).map Sy.c))]:=by
 refine Ef Rf Tryz.func142 R R lb (by kernel_rfl) (by kernel_rfl)<|zr<|za R R<|zn<|zs<|zr<|zm R R<|?_
 refine XL.eqnil R R R Tryz.underlying57 (fun hn4=> ?_) ?_
 refine zn<|Aw (by kernel_rfl) R<|zr<|za R R<|zn<|D6 5 2 171 2 R<|zt<|?_
 exact ⟨C1 R (RVS.tmp R R),HSub.cons (by rw [hn4];rfl) (HSub.nil)⟩
 refine zn<|A8 (by kernel_rfl) R<|zi<|zr<|XL.step R (Bo 5 R Tryz.underlying57 Yk O5 R R (by omega) (by omega))<|zm R R<|XL.step R (A3 R Akq (.own R) (Src.sl (by omega)) (by unfold maxLen;simp;omega) (by simp;omega))<|zp (Ar R (by conv=>lhs;whnf))<|?_
 refine zn<|zt<|?_
 exact ⟨C1 R (RVS.tmp R R),HSub.cons (R) (HSub.nil)⟩
theorem Aaj (l:List Int) (h:l.length≤1000):XS Tryz.prog 200 [.sl 1 (l.map iv)] (.own 5) [(5, .row 3 1 ((l).map iv))]:=by
 refine Ef Aaw Tryz.func200 R R lb (by kernel_rfl) (by kernel_rfl)<|zr<|za R R<|zn<|zs<|zr<|zm R R<|?_
 refine XL.eqnil R R R Tryz.underlying45 (fun hn4=> ?_) ?_
 refine zn<|Aw (by kernel_rfl) R<|zr<|za R R<|zn<|D6 5 2 3 1 R<|zt<|?_
 exact ⟨C1 R (RVS.tmp R R),HSub.cons (by rw [hn4];rfl) (HSub.nil)⟩
 refine zn<|A8 (by kernel_rfl) R<|zi<|zr<|XL.step R (Bo 5 R Tryz.underlying45 Fc H5 R R (by omega) (by omega))<|zm R R<|XL.step R (A3 R Q8 (.own R) (Src.sl (by omega)) (by unfold maxLen;simp;omega) (by simp;omega))<|zp (Ar R (by conv=>lhs;whnf))<|?_
 refine zn<|zt<|?_
 exact ⟨C1 R (RVS.tmp R R),HSub.cons (R) (HSub.nil)⟩
def Hz {α:Type} (f:α→α) (l:List α) (k:Nat):List α:=(l.take k).map f++l.drop k
theorem Pr {α:Type} (f:α→α) (l:List α):l=Hz f l 0:=by simp [Hz]
theorem Qx {α:Type} {f:α→α} {l:List α} {k:Nat} (h:l.length≤k):Hz f l k=l.map f:=by rw [Hz,List.take_of_length_le h,List.drop_eq_nil_of_le h,List.append_nil]
theorem N7 {α:Type} (f:α→α) (l:List α) (k:Nat):(Hz f l k).length=l.length:=by rw [Hz,List.length_append,List.length_map,List.length_take,List.length_drop];omega
theorem Qw {α:Type} {f:α→α} {l:List α} {k:Nat} {x:α} (h:l[k]? =some x):(Hz f l k)[k]? =some x:=by
 have hk:=(List.getElem?_eq_some_iff.1 h).1
 rw [Hz,List.getElem?_append_right (by rw [List.length_map,List.length_take];omega),List.length_map,List.length_take,Nat.min_eq_left (by omega),Nat.sub_self,List.getElem?_drop]
 exact h
theorem Qv {α:Type} {f:α→α} {l:List α} {k:Nat} {x:α} (h:l[k]? =some x):Hz f l (k+1)=(Hz f l k).set k (f x):=by
 have hk:=(List.getElem?_eq_some_iff.1 h).1
 have hl:((l.take k).map f).length=k:=by rw [List.length_map,List.length_take];omega
 rw [Hz,Hz,By h,List.map_append,List.set_append_right _ _ (by omega),hl,Nat.sub_self,B7 h,List.set_cons_zero,List.append_assoc]
 rfl
def Hd.tie (h:Hd):Hd:=⟨h.p,true,h.sh⟩
def Hd.plain (h:Hd):Hd:=⟨h.p,h.tied,0⟩
theorem Qc (l:List Hd) (h:l.length≤1000):XC Tryz.prog 136 [.sl 5 (l.map Hd.c)] (fun r=>r= .sl 5 ((l.map Hd.tie).map Hd.c)):=by
 refine Al Aca Tryz.func136 R R lb<|zr<|za R R<|znr<|zm R R<|XL.callS R R ((Oo _ (by omega)).lab 7001) R<|zp (Ar R (by conv=>lhs;whnf))<|?_
 refine zn<|zs<|zr<|zp (Ak R (by conv=>lhs;whnf))<|?_
 refine zp (Bc R R R Tryz.underlying55)<|zm R R<|zn<|Ah<|?_
 refine A0 (α:=Nat) (fun k=>k≤l.length) (fun k=>mkF [(0, .own 7001),(2, .d (.v (.slice none 0 0))),(6, .own 7001),(7, .d (dI l.length)),(8, .d (dI k))]) (fun k=>mkH [(7001, .row 200 5 ((Hz Hd.tie l k).map Hd.c))]) (fun k=>l.length - k) (0) (Nat.zero_le _) ?_ ?_ ?_
 exact fz ⟨sr,sr,sr,sr,sr,trivial⟩
 exact gz ⟨by rw [←Pr];rfl,trivial⟩
 intro k hk0
 refine zr<|zp (Au R R R)<|zn<|zs<|?_
 refine zd R (fun c9=> ?_) (fun c9=> ?_)
 have hkl:k<l.length:=by omega
 obtain ⟨x,hx⟩:=Av hkl
 have hml:=N7 Hd.tie l k
 have hg:=Qw (f:=Hd.tie) hx
 refine zi<|zs<|Ah<|zr<|zm R R<|za R R<|zng<|zp (Ak R (by conv=>lhs;whnf))<|?_
 refine zm R R<|zp (Kl R R R R R1 (by omega))<|zp (Aa R R Ake)<|XL.step R (D2 R R R (Ct hg) R R Aux R lb)<|zn<|Ag (by kernel_rfl)<|zp (An R R R (by omega) (by omega))<|zm R R<|zn<|?_
 exact Am (k+1) (by omega) (by omega) (fz ⟨sr,sr,sr,sr,sr,trivial⟩) (gz ⟨Qm (a:=Hd.tie x) R (Qv hx),trivial⟩)
 have he:=Qx (f:=Hd.tie) (l:=l) (k:=k) (by omega)
 refine As<|zr<|zp (Ak R (by conv=>lhs;whnf))<|?_
 refine zp (Ar R (by conv=>lhs;whnf))<|?_
 exact zn<|zt<|B9 (i:=7001) R<|z1 R R (rSl he)
theorem P5 (l:List Hd) (h:l.length≤1000):XC Tryz.prog 135 [.sl 5 (l.map Hd.c)] (fun r=>r= .sl 5 ((l.map Hd.plain).map Hd.c)):=by
 refine Al Acb Tryz.func135 R R lb<|zr<|za R R<|znr<|zm R R<|XL.callS R R ((Oo _ (by omega)).lab 7001) R<|zp (Ar R (by conv=>lhs;whnf))<|?_
 refine zn<|zs<|zr<|zp (Ak R (by conv=>lhs;whnf))<|?_
 refine zp (Bc R R R Tryz.underlying55)<|zm R R<|zn<|Ah<|?_
 refine A0 (α:=Nat) (fun k=>k≤l.length) (fun k=>mkF [(0, .own 7001),(2, .d (.v (.slice none 0 0))),(6, .own 7001),(7, .d (dI l.length)),(8, .d (dI k))]) (fun k=>mkH [(7001, .row 200 5 ((Hz Hd.plain l k).map Hd.c))]) (fun k=>l.length - k) (0) (Nat.zero_le _) ?_ ?_ ?_
 exact fz ⟨sr,sr,sr,sr,sr,trivial⟩
 exact gz ⟨by rw [←Pr];rfl,trivial⟩
 intro k hk0
 refine zr<|zp (Au R R R)<|zn<|zs<|?_
 refine zd R (fun c9=> ?_) (fun c9=> ?_)
 have hkl:k<l.length:=by omega
 obtain ⟨x,hx⟩:=Av hkl
 have hml:=N7 Hd.plain l k
 have hg:=Qw (f:=Hd.plain) hx
 refine zi<|zs<|Ah<|zr<|zm R R<|za R R<|zng<|zp (Ak R (by conv=>lhs;whnf))<|?_
 refine zm R R<|zp (Kl R R R R R1 (by omega))<|zp (Aa R R Xi)<|XL.step R (D2 R R R (Ct hg) R R Fc R lb)<|zn<|Ag (by kernel_rfl)<|zp (An R R R (by omega) (by omega))<|zm R R<|zn<|?_
 exact Am (k+1) (by omega) (by omega) (fz ⟨sr,sr,sr,sr,sr,trivial⟩) (gz ⟨Qm (a:=Hd.plain x) R (Qv hx),trivial⟩)
 have he:=Qx (f:=Hd.plain) (l:=l) (k:=k) (by omega)
 refine As<|zr<|zp (Ak R (by conv=>lhs;whnf))<|?_
 refine zp (Ar R (by conv=>lhs;whnf))<|?_
 exact zn<|zt<|B9 (i:=7001) R<|z1 R R (rSl he)
end Go.Proofs.YtaafemnkamfgnaaGreat
namespace Go.Proofs.YtaafemnkamfgnaaGreat
open Go.RowKit
def Ev.fit (e:Ev):Prop:=e.heads.length≤1000∧e.graces.length≤1000∧e.lyr.length≤1000
theorem Q9 (e:Ev) (h:e.fit):XC Tryz.prog 111 [.agg (Ev.c e)] (fun r=>r= .agg (Ev.c e)):=by
 obtain ⟨h1,h2,h3⟩:=h
 refine Al Rj Tryz.func111 R R lb<|zr<|XL.step R (Ao 1 (l:= [.d (dI e.site), .d (dI e.num), .d (dI e.kind), .d (dI e.v.log), .d (dI e.v.dots), .d (.sl 5 (e.heads.map Hd.c)), .d (.sl 5 (e.graces.map Gr.c)), .d (dI e.art), .d (dI e.orn), .d (dI e.dyn), .d (.sl 2 (e.lyr.map Sy.c)), .d (dI e.stem), .d (dI e.beam)]) R R (by kernel_rfl))<|?_
 refine XL.step R (Ap 2 (l:= [.d (dI 0), .d (dI 0), .d (dI 0), .d (dI 0), .d (dI 0), .d (.v (.slice none 0 0)), .d (.v (.slice none 0 0)), .d (dI 0), .d (dI 0), .d (dI 0), .d (.v (.slice none 0 0)), .d (dI 0), .d (dI 0)]) R Ck (by kernel_rfl))<|zn<|zs<|Cq 10 [7001,7002,7003] (by kernel_rfl) (by kernel_rfl) (by kernel_rfl) (by kernel_rfl) (by decide)<|yp (Aa R R Db)<|?_
 refine yp (Ab R R Hs R R)<|ChK.cons R (CStep.callS R ((Oo _ (by omega)).lab 7001) R (Gv (by kernel_rfl)))<|yp (Aa R R Gd)<|yp (Ab R R N4 R R)<|ChK.cons R (CStep.callS R ((Adi _ (by omega)).lab 7002) R (Gv (by kernel_rfl)))<|yp (Aa R R Ey)<|yp (Ab R R Jp R R)<|?_
 refine ChK.cons R (CStep.callS R ((Adf _ (by omega)).lab 7003) R (Gv (by kernel_rfl)))<|yp (Aa R R Db)<|?_
 refine ChK.nil ⟨by kernel_rfl, ?_⟩
 refine XL.step R (Af (l':= [.d (dI e.site), .d (dI e.num), .d (dI e.kind), .d (dI e.v.log), .d (dI e.v.dots), .own 7001, .d (.sl 5 (e.graces.map Gr.c)), .d (dI e.art), .d (dI e.orn), .d (dI e.dyn), .d (.sl 2 (e.lyr.map Sy.c)), .d (dI e.stem), .d (dI e.beam)]) R R R R Nz R lb (by kernel_rfl))<|zp (Aa R R Gd)<|?_
 refine XL.step R (Af (l':= [.d (dI e.site), .d (dI e.num), .d (dI e.kind), .d (dI e.v.log), .d (dI e.v.dots), .own 7001, .own 7002, .d (dI e.art), .d (dI e.orn), .d (dI e.dyn), .d (.sl 2 (e.lyr.map Sy.c)), .d (dI e.stem), .d (dI e.beam)]) R R R R Agn R lb (by kernel_rfl))<|zp (Aa R R Ey)<|?_
 refine XL.step R (Af (l':= [.d (dI e.site), .d (dI e.num), .d (dI e.kind), .d (dI e.v.log), .d (dI e.v.dots), .own 7001, .own 7002, .d (dI e.art), .d (dI e.orn), .d (dI e.dyn), .own 7003, .d (dI e.stem), .d (dI e.beam)]) R R R R Agm R lb (by kernel_rfl))<|znr<|zp (Ac (Ad R R Bu R lb))<|?_
 refine XL.step R (Af (l':= [.d (dI e.site), .d (dI e.num), .d (dI e.kind), .d (dI e.v.log), .d (dI e.v.dots), .own 7001, .own 7002, .d (dI e.art), .d (dI e.orn), .d (dI e.dyn), .own 7003, .d (dI e.stem), .d (dI e.beam)]) R R R R C7 R lb (by kernel_rfl))<|zn<|zt<|B9 (i:=7001) R<|B9 (i:=7002) R<|B9 (i:=7003) R<|?_
 exact Ji R (RV.cells R R R Bu lb R) (R)
def Ev.eqv (a b:Ev):Prop:=(a.site=b.site∧a.num=b.num)∧a.same b
instance (a b:Ev):Decidable (a.eqv b):=by unfold Ev.eqv;exact inferInstance
theorem Akv (a b:Ev):XC Tryz.prog 109 [.agg (Ev.c a), .agg (Ev.c b)] (fun r=>r=dB (decide (a.eqv b))):=by
 refine Al Acl Tryz.func109 R R lb<|zr<|XL.step R (Ao 2 (l:= [.d (dI a.site), .d (dI a.num), .d (dI a.kind), .d (dI a.v.log), .d (dI a.v.dots), .d (.sl 5 (a.heads.map Hd.c)), .d (.sl 5 (a.graces.map Gr.c)), .d (dI a.art), .d (dI a.orn), .d (dI a.dyn), .d (.sl 2 (a.lyr.map Sy.c)), .d (dI a.stem), .d (dI a.beam)]) R R (by kernel_rfl))<|?_
 refine XL.step R (Ao 3 (l:= [.d (dI b.site), .d (dI b.num), .d (dI b.kind), .d (dI b.v.log), .d (dI b.v.dots), .d (.sl 5 (b.heads.map Hd.c)), .d (.sl 5 (b.graces.map Gr.c)), .d (dI b.art), .d (dI b.orn), .d (dI b.dyn), .d (.sl 2 (b.lyr.map Sy.c)), .d (dI b.stem), .d (dI b.beam)]) R R (by kernel_rfl))<|za R R<|znr<|zp (Aa R R No)<|?_
 refine zp (Ae (s':= .d (.agg [dI a.site,dI a.num])) (Ac (Ad R R Nu R lb)) (by kernel_rfl))<|zp (Aa R R No)<|zp (Ae (s':= .d (.agg [dI b.site,dI b.num])) (Ac (Ad R R Nu R lb)) (by kernel_rfl))<|zp (Amc R R R)<|zm R R<|?_
 refine XL.dec 10 R (fun g10=> ?_) (fun g10=> ?_)
 exact zp (Ae (s':= .d (.agg (Ev.c a))) (Ac (Ad R R Bu R lb)) (by kernel_rfl))<|zp (Ae (s':= .d (.agg (Ev.c b))) (Ac (Ad R R Bu R lb)) (by kernel_rfl))<|XL.call1 R R (Afa _ _) R<|zq R R R<|za R R<|zn<|zt<|z1 R R (rB (by rw [decide_eq_decide];exact ⟨fun h=>⟨g10,h⟩,fun h=>h.2⟩))
 exact zk 3 R<|zq R R R<|za R R<|zn<|zt<|z1 R R (rB (by rw [eq_comm,decide_eq_false_iff_not];exact fun h=>g10 h.1))
structure Vo.fit (v:Vo):Prop where
 evs:v.evs.length≤1000
 tups:v.tups.length≤1000
 ev:∀e∈v.evs,e.fit
theorem Ii (v:Vo) (h:v.fit):XC Tryz.prog 82 [.agg (Vo.c v)] (fun r=>r= .agg (Vo.c v)):=by
 have h1:=h.evs
 have h2:=h.tups
 refine Al S2 Tryz.func82 R R lb<|zr<|XL.step R (Ao 1 (l:= [.d (.sl 13 (v.evs.map Ev.c)), .d (.sl 4 (v.tups.map Tp.c))]) R R (by kernel_rfl))<|XL.step R (Ap 2 (l:= [.d (.v (.slice none 0 0)), .d (.v (.slice none 0 0))]) R Ba (by kernel_rfl))<|znr<|XL.step R (Ap 3 (l:= [.d (.v (.slice none 0 0)), .d (.v (.slice none 0 0))]) R Ba (by kernel_rfl))<|zn<|zs<|zr<|?_
 refine zp (Aa R R Bk)<|zp (Ab R R Cv R R)<|XL.len R R R Tryz.underlying79 fun hl8=>zm R R<|zn<|Ah<|Ew 900 3 0 59 13 (l':= [.own 900, .d (.v (.slice none 0 0))]) R R (by decide) (by kernel_rfl)<|?_
 refine A0 (α:=Nat) (fun k=>k≤v.evs.length) (fun k=>mkF [(1, .ptr 1 0 0),(2, .ptr 2 0 0),(3, .ptr 3 0 0),(7, .d (.sl 13 (v.evs.map Ev.c))),(8, .d (dI v.evs.length)),(9, .d (dI k))]) (fun k=>mkH [(1, .box ((Vo.c v).map S.d)),(2, .box [.d (.v (.slice none 0 0)), .d (.v (.slice none 0 0))]),(3, .box [.own 900, .d (.v (.slice none 0 0))]),(900, .row 59 13 ((v.evs.take k).map Ev.c))]) (fun k=>v.evs.length - k) (0) (Nat.zero_le _) ?_ ?_ ?_
 exact fz ⟨sr,sr,sr,sr,sr,sr,trivial⟩
 exact gz ⟨R,R,R,R,trivial⟩
 intro k hk0
 refine zr<|zp (Au R R R)<|zn<|zs<|?_
 refine zd R (fun c10=> ?_) (fun c10=> ?_)
 have hk0a:k<v.evs.length:=by omega
 obtain ⟨x0,hx0⟩:=Av hk0a
 have hf:=h.ev x0 (List.mem_of_getElem? hx0)
 have htl:(v.evs.take k).length=k:=by rw [List.length_take];omega
 refine zi<|zs<|Ah<|zr<|zp (At R R R Gx hx0)<|zp (Ae (s':= .d (.agg (Ev.c x0))) (A6 R R Bu lb) (by kernel_rfl))<|XL.step R (Ap 5 (l:= [.d (dI 0), .d (dI 0), .d (dI 0), .d (dI 0), .d (dI 0), .d (.v (.slice none 0 0)), .d (.v (.slice none 0 0)), .d (dI 0), .d (dI 0), .d (dI 0), .d (.v (.slice none 0 0)), .d (dI 0), .d (dI 0)]) R Ck (by kernel_rfl))<|?_
 refine XL.step R (Af (l':= [.d (dI x0.site), .d (dI x0.num), .d (dI x0.kind), .d (dI x0.v.log), .d (dI x0.v.dots), .d (.sl 5 (x0.heads.map Hd.c)), .d (.sl 5 (x0.graces.map Gr.c)), .d (dI x0.art), .d (dI x0.orn), .d (dI x0.dyn), .d (.sl 2 (x0.lyr.map Sy.c)), .d (dI x0.stem), .d (dI x0.beam)]) R R R R C7 R lb (by kernel_rfl))<|zn<|?_
 refine Cq 5 [] (by kernel_rfl) (by kernel_rfl) (by kernel_rfl) (by kernel_rfl) (by decide)<|yp (Aa R R Bk)<|yp (Ab R R Cv R R)<|yp (Ae (s':= .d (.agg (Ev.c x0))) (Ac (Ad R R Bu R lb)) (by kernel_rfl))<|ChK.cons R (CStep.call R (Q9 _ (by assumption)) R)<|ChK.cons R (CStep.slice R Tryz.underlying79 C7 Ck R R (by omega) (by omega))<|?_
 refine ChK.nil ⟨by kernel_rfl, ?_⟩
 refine XL.step R (A3 R Gf (.own R) (Src.sl (by omega)) (by unfold maxLen;simp;omega) (by simp;omega))<|zp (Aa R R Bk)<|XL.step R (Af (l':= [.own 900, .d (.v (.slice none 0 0))]) R R R R O8 R lb (by kernel_rfl))<|zn<|Ag (by kernel_rfl)<|zp (An R R R (by omega) (by omega))<|zm R R<|zn<|?_
 exact Am (k+1) (by omega) (by omega) (fz ⟨sr,sr,sr,sr,sr,sr,trivial⟩) (gz ⟨R,R,R,Hc R (By hx0),trivial⟩)
 have hk0b:k=v.evs.length:=by omega
 have ht:v.evs.take k=v.evs:=by rw [hk0b,List.take_length]
 refine As<|zr<|zp (Aa R R Bq)<|zp (Ab R R B0 R R)<|zp (Aa R R Bq)<|zp (Ab R R B0 R R)<|XL.step R (A3 R Fi (.nil 25 _ _) (Src.sl (by omega)) (by unfold maxLen;simp;omega) (by simp;omega))<|zp (Aa R R Bq)<|XL.step R (Af (l':= [.own 900, .own 25]) R R R R Fz R lb (by kernel_rfl))<|znr<|?_
 refine zp (Ac (Ad R R Aq R lb))<|XL.step R (Af (l':= [.own 900, .own 25]) R R R R Bm R lb (by kernel_rfl))<|zn<|zt<|B9 (i:=900) R<|B9 (i:=25) R<|?_
 exact Ji R (RV.cells R R R Aq lb R) (by rw [ht];rfl)
end Go.Proofs.YtaafemnkamfgnaaGreat
namespace Go.Proofs.YtaafemnkamfgnaaGreat
open Go.RowKit
def Ev.further (x:Ev):Ev:=⟨0,0,x.kind,⟨0,0⟩,x.heads.map Hd.plain, [],0,0,0, [],x.stem,0⟩
def Ev.put (y:Ev) (v:Val) (t:Bool):Ev:=⟨y.site,y.num,y.kind,v,if t then y.heads.map Hd.tie else y.heads,y.graces,y.art,y.orn,y.dyn,y.lyr,y.stem,y.beam⟩
def Fu (x:Ev) (n:Nat) (fu:Bool) (i:Nat) (v:Val):Ev:=(if 0<(i:Int)∨fu=true then x.further else x).put v (decide ((i:Int)+1<(n:Int)))
def B3 (x:Ev) (vs:List Val) (fu:Bool):List Ev:=vs.mapIdx (Fu x vs.length fu)
def Kq (x:Ev) (vs:List Val) (fu:Bool) (k:Nat):List Ev:=(vs.take k).mapIdx (Fu x vs.length fu)
theorem H8 {x:Ev} {vs:List Val} {fu:Bool} {k:Nat} {v:Val} (h:vs[k]? =some v) {y:Ev} (hy:Fu x vs.length fu k v=y):Kq x vs fu (k+1)=Kq x vs fu k++ [y]:=by
 have hk:=(List.getElem?_eq_some_iff.1 h).1
 rw [Kq,By h,List.mapIdx_append, ←hy]
 simp [Kq,List.length_take,Nat.min_eq_left (Nat.le_of_lt hk)]
theorem Ajk {x:Ev} {n i:Nat} {fu:Bool} {v:Val} (h:0<(i:Int)∨fu=true) (h2:(i:Int)+1<(n:Int)):Fu x n fu i v=x.further.put v true:=by rw [Fu,if_pos h,decide_eq_true h2]
theorem Ajj {x:Ev} {n i:Nat} {fu:Bool} {v:Val} (h:0<(i:Int)∨fu=true) (h2:¬(i:Int)+1<(n:Int)):Fu x n fu i v=x.further.put v false:=by rw [Fu,if_pos h,decide_eq_false h2]
theorem Ask {x:Ev} {n i:Nat} {fu:Bool} {v:Val} (h:¬0<(i:Int)) (h':fu=false) (h2:(i:Int)+1<(n:Int)):Fu x n fu i v=x.put v true:=by rw [Fu,if_neg (by rw [h'];simp;omega),decide_eq_true h2]
theorem Asj {x:Ev} {n i:Nat} {fu:Bool} {v:Val} (h:¬0<(i:Int)) (h':fu=false) (h2:¬(i:Int)+1<(n:Int)):Fu x n fu i v=x.put v false:=by rw [Fu,if_neg (by rw [h'];simp;omega),decide_eq_false h2]
theorem Nh (x:Ev) (vs:List Val) (fu:Bool) (h:x.fit) (hv:vs.length≤3000):XS Tryz.prog 105 [.agg (Ev.c x), .sl 2 (vs.map Val.c), .v (.bool fu)] (.own 900) [(900, .row 59 13 ((B3 x vs fu).map Ev.c))]:=by
 have hf:=h
 have hf1:=h.1
 refine Ef Acn Tryz.func105 R R lb (by kernel_rfl) (by kernel_rfl)<|zr<|XL.step R (Ao 3 (l:= [.d (dI x.site), .d (dI x.num), .d (dI x.kind), .d (dI x.v.log), .d (dI x.v.dots), .d (.sl 5 (x.heads.map Hd.c)), .d (.sl 5 (x.graces.map Gr.c)), .d (dI x.art), .d (dI x.orn), .d (dI x.dyn), .d (.sl 2 (x.lyr.map Sy.c)), .d (dI x.stem), .d (dI x.beam)]) R R (by kernel_rfl))<|za R R<|znr<|?_
 refine za R R<|zn<|zs<|zr<|zm R R<|XL.len R R R Tryz.underlying159 fun hl12=>zm R R<|zn<|Ah<|D6 900 7 59 13 R<|?_
 refine A0 (α:=Nat) (fun k=>k≤vs.length) (fun k=>mkF [(1, .d (.sl 2 (vs.map Val.c))),(2, .d (dB fu)),(3, .ptr 3 0 0),(6, .d (.v (.slice none 0 0))),(7, .own 900),(11, .d (.sl 2 (vs.map Val.c))),(12, .d (dI vs.length)),(13, .d (dI k))]) (fun k=>mkH [(3, .box ((Ev.c x).map S.d)),(900, .row 59 13 ((Kq x vs fu k).map Ev.c))]) (fun k=>vs.length - k) (0) (Nat.zero_le _) ?_ ?_ ?_
 exact fz ⟨sr,sr,sr,sr,sr,sr,sr,sr,trivial⟩
 exact gz ⟨R,R,trivial⟩
 intro k hk0
 refine zr<|zp (Au R R R)<|zn<|zs<|?_
 refine zd R (fun c14=> ?_) (fun c14=> ?_)
 have hk0a:k<vs.length:=by omega
 obtain ⟨x0,hx0⟩:=Av hk0a
 have hnl:(Kq x vs fu k).length=k:=by rw [Kq,List.length_mapIdx,List.length_take];omega
 have hpl:(x.heads.map Hd.plain).length≤1000:=by rw [List.length_map];exact hf1
 refine zi<|zs<|Ah<|zr<|zm R R<|zp (At R R R As8 hx0)<|zp (Ae (s':= .d (.agg (Val.c x0))) (A6 R R Eu lb) (by kernel_rfl))<|XL.step R (Ap 9 (l:= [.d (dI 0), .d (dI 0)]) R Fy (by kernel_rfl))<|za R R<|XL.step R (Af (l':= [.d (dI x0.log), .d (dI x0.dots)]) R R R R Hq R lb (by kernel_rfl))<|znr<|?_
 refine zp (Ae (s':= .d (.agg (Ev.c x))) (Ac (Ad R R Bu R lb)) (by kernel_rfl))<|XL.call1 R R (Q9 _ (by assumption)) R<|XL.step R (Ap 10 (l:= [.d (dI 0), .d (dI 0), .d (dI 0), .d (dI 0), .d (dI 0), .d (.v (.slice none 0 0)), .d (.v (.slice none 0 0)), .d (dI 0), .d (dI 0), .d (dI 0), .d (.v (.slice none 0 0)), .d (dI 0), .d (dI 0)]) R Ck (by kernel_rfl))<|?_
 refine XL.step R (Af (l':= [.d (dI x.site), .d (dI x.num), .d (dI x.kind), .d (dI x.v.log), .d (dI x.v.dots), .d (.sl 5 (x.heads.map Hd.c)), .d (.sl 5 (x.graces.map Gr.c)), .d (dI x.art), .d (dI x.orn), .d (dI x.dyn), .d (.sl 2 (x.lyr.map Sy.c)), .d (dI x.stem), .d (dI x.beam)]) R R R R C7 R lb (by kernel_rfl))<|zn<|zs<|zr<|zm R R<|zp (Be R R R)<|zm R R<|?_
 refine XL.dec 22 R (fun g22=> ?_) (fun g22=> ?_)
 refine XL.skip R<|zq R R R<|zn<|Aw (by kernel_rfl) R<|Cq 7 [] (by kernel_rfl) (by kernel_rfl) (by kernel_rfl) (by kernel_rfl) (by decide)<|yp (Aa R R Dk)<|yp (Ab R R Ai R R)<|yp (Aa R R Iy)<|yp (Ab R R Ai R R)<|yp (Aa R R Db)<|yp (Ab R R Hs R R)<|ChK.cons R (CStep.call R (P5 _ (by omega)) R)<|?_
 refine ChK.nil ⟨by kernel_rfl, ?_⟩
 refine zp (Ae (s':= .d (.agg [dI 0,dI 0,dI x.kind,dI 0,dI 0, .sl 5 ((x.heads.map Hd.plain).map Hd.c), .v (.slice none 0 0),dI 0,dI 0,dI 0, .v (.slice none 0 0),dI x.stem,dI 0])) (Ac (Ay R Qf Ck R)) (by kernel_rfl))<|?_
 refine XL.step R (Af (l':= [.d (dI 0), .d (dI 0), .d (dI x.kind), .d (dI 0), .d (dI 0), .d (.sl 5 ((x.heads.map Hd.plain).map Hd.c)), .d (.v (.slice none 0 0)), .d (dI 0), .d (dI 0), .d (dI 0), .d (.v (.slice none 0 0)), .d (dI x.stem), .d (dI 0)]) R R R R C7 R lb (by kernel_rfl))<|znr<|zp (Ae (s':= .d (.agg (Val.c x0))) (Ac (Ad R R Eu R lb)) (by kernel_rfl))<|?_
 refine zp (Aa R R H1)<|XL.step R (Af (l':= [.d (dI 0), .d (dI 0), .d (dI x.kind), .d (dI x0.log), .d (dI x0.dots), .d (.sl 5 ((x.heads.map Hd.plain).map Hd.c)), .d (.v (.slice none 0 0)), .d (dI 0), .d (dI 0), .d (dI 0), .d (.v (.slice none 0 0)), .d (dI x.stem), .d (dI 0)]) R R R R Hq R lb (by kernel_rfl))<|zn<|zs<|zr<|zm R R<|zp (An R R R (by omega) (by omega))<|zm R R<|?_
 refine XL.len R R R Tryz.underlying159 fun hl38=>zp (Au R R R)<|zn<|?_
 refine zd R (fun c39=> ?_) (fun c39=> ?_)
 refine Ag (by kernel_rfl)<|zp (Aa R R Db)<|zp (Ab R R Hs R R)<|XL.call1 R R (Qc _ (by omega)) R<|zp (Aa R R Db)<|?_
 refine XL.step R (Af (l':= [.d (dI 0), .d (dI 0), .d (dI x.kind), .d (dI x0.log), .d (dI x0.dots), .d (.sl 5 (((x.heads.map Hd.plain).map Hd.tie).map Hd.c)), .d (.v (.slice none 0 0)), .d (dI 0), .d (dI 0), .d (dI 0), .d (.v (.slice none 0 0)), .d (dI x.stem), .d (dI 0)]) R R R R Nz R lb (by kernel_rfl))<|zng<|zp (Ak R (by conv=>lhs;whnf))<|?_
 refine zp (Ae (s':= .d (.agg [dI 0,dI 0,dI x.kind,dI x0.log,dI x0.dots, .sl 5 (((x.heads.map Hd.plain).map Hd.tie).map Hd.c), .v (.slice none 0 0),dI 0,dI 0,dI 0, .v (.slice none 0 0),dI x.stem,dI 0])) (Ac (Ad R R Bu R lb)) (by kernel_rfl))<|XL.step R (Bo 46 R Tryz.underlying79 C7 Ck R R (by omega) (by omega))<|?_
 refine XL.row1 (i:=46) R (.cons (.same R) (.cons (.same R) (.cons (.same R) (.cons (.same R) (.cons (.same R) (.cons (.same R) (.cons (.nil 5) (.cons (.same R) (.cons (.same R) (.cons (.same R) (.cons (.nil 2) (.cons (.same R) (.cons (.same R) (.nil))))))))))))))<|XL.step R (A3 R Gf (.own R) (Src.own R) (by unfold maxLen;simp;omega) (by simp;omega))<|?_
 refine zp (Ar R (by conv=>lhs;whnf))<|?_
 refine zn<|Ag (by kernel_rfl)<|zp (An R R R (by omega) (by omega))<|zm R R<|zn<|?_
 exact Am (k+1) (by omega) (by omega) (fz ⟨sr,sr,sr,sr,sr,sr,sr,sr,trivial⟩) (gz ⟨R,Hc R (H8 hx0 (Ajk (.inl g22) c39)),trivial⟩)
 refine zi<|Ag (by kernel_rfl)<|zp (Ak R (by conv=>lhs;whnf))<|?_
 refine zp (Ae (s':= .d (.agg [dI 0,dI 0,dI x.kind,dI x0.log,dI x0.dots, .sl 5 ((x.heads.map Hd.plain).map Hd.c), .v (.slice none 0 0),dI 0,dI 0,dI 0, .v (.slice none 0 0),dI x.stem,dI 0])) (Ac (Ad R R Bu R lb)) (by kernel_rfl))<|XL.step R (Bo 46 R Tryz.underlying79 C7 Ck R R (by omega) (by omega))<|?_
 refine XL.row1 (i:=46) R (.cons (.same R) (.cons (.same R) (.cons (.same R) (.cons (.same R) (.cons (.same R) (.cons (.same R) (.cons (.nil 5) (.cons (.same R) (.cons (.same R) (.cons (.same R) (.cons (.nil 2) (.cons (.same R) (.cons (.same R) (.nil))))))))))))))<|XL.step R (A3 R Gf (.own R) (Src.own R) (by unfold maxLen;simp;omega) (by simp;omega))<|?_
 refine zp (Ar R (by conv=>lhs;whnf))<|?_
 refine zn<|Ag (by kernel_rfl)<|zp (An R R R (by omega) (by omega))<|zm R R<|zn<|?_
 exact Am (k+1) (by omega) (by omega) (fz ⟨sr,sr,sr,sr,sr,sr,sr,sr,trivial⟩) (gz ⟨R,Hc R (H8 hx0 (Ajj (.inl g22) c39)),trivial⟩)
 refine zm R R<|zq R R R<|zn<|?_
 refine Fk (by kernel_rfl) R (fun c24=> ?_) (fun c24=> ?_)
 refine Cq 7 [] (by kernel_rfl) (by kernel_rfl) (by kernel_rfl) (by kernel_rfl) (by decide)<|yp (Aa R R Dk)<|yp (Ab R R Ai R R)<|yp (Aa R R Iy)<|yp (Ab R R Ai R R)<|yp (Aa R R Db)<|yp (Ab R R Hs R R)<|ChK.cons R (CStep.call R (P5 _ (by omega)) R)<|?_
 refine ChK.nil ⟨by kernel_rfl, ?_⟩
 refine zp (Ae (s':= .d (.agg [dI 0,dI 0,dI x.kind,dI 0,dI 0, .sl 5 ((x.heads.map Hd.plain).map Hd.c), .v (.slice none 0 0),dI 0,dI 0,dI 0, .v (.slice none 0 0),dI x.stem,dI 0])) (Ac (Ay R Qf Ck R)) (by kernel_rfl))<|?_
 refine XL.step R (Af (l':= [.d (dI 0), .d (dI 0), .d (dI x.kind), .d (dI 0), .d (dI 0), .d (.sl 5 ((x.heads.map Hd.plain).map Hd.c)), .d (.v (.slice none 0 0)), .d (dI 0), .d (dI 0), .d (dI 0), .d (.v (.slice none 0 0)), .d (dI x.stem), .d (dI 0)]) R R R R C7 R lb (by kernel_rfl))<|znr<|zp (Ae (s':= .d (.agg (Val.c x0))) (Ac (Ad R R Eu R lb)) (by kernel_rfl))<|?_
 refine zp (Aa R R H1)<|XL.step R (Af (l':= [.d (dI 0), .d (dI 0), .d (dI x.kind), .d (dI x0.log), .d (dI x0.dots), .d (.sl 5 ((x.heads.map Hd.plain).map Hd.c)), .d (.v (.slice none 0 0)), .d (dI 0), .d (dI 0), .d (dI 0), .d (.v (.slice none 0 0)), .d (dI x.stem), .d (dI 0)]) R R R R Hq R lb (by kernel_rfl))<|zn<|zs<|zr<|zm R R<|zp (An R R R (by omega) (by omega))<|zm R R<|?_
 refine XL.len R R R Tryz.underlying159 fun hl38=>zp (Au R R R)<|zn<|?_
 refine zd R (fun c39=> ?_) (fun c39=> ?_)
 refine Ag (by kernel_rfl)<|zp (Aa R R Db)<|zp (Ab R R Hs R R)<|XL.call1 R R (Qc _ (by omega)) R<|zp (Aa R R Db)<|?_
 refine XL.step R (Af (l':= [.d (dI 0), .d (dI 0), .d (dI x.kind), .d (dI x0.log), .d (dI x0.dots), .d (.sl 5 (((x.heads.map Hd.plain).map Hd.tie).map Hd.c)), .d (.v (.slice none 0 0)), .d (dI 0), .d (dI 0), .d (dI 0), .d (.v (.slice none 0 0)), .d (dI x.stem), .d (dI 0)]) R R R R Nz R lb (by kernel_rfl))<|zng<|zp (Ak R (by conv=>lhs;whnf))<|?_
 refine zp (Ae (s':= .d (.agg [dI 0,dI 0,dI x.kind,dI x0.log,dI x0.dots, .sl 5 (((x.heads.map Hd.plain).map Hd.tie).map Hd.c), .v (.slice none 0 0),dI 0,dI 0,dI 0, .v (.slice none 0 0),dI x.stem,dI 0])) (Ac (Ad R R Bu R lb)) (by kernel_rfl))<|XL.step R (Bo 46 R Tryz.underlying79 C7 Ck R R (by omega) (by omega))<|?_
 refine XL.row1 (i:=46) R (.cons (.same R) (.cons (.same R) (.cons (.same R) (.cons (.same R) (.cons (.same R) (.cons (.same R) (.cons (.nil 5) (.cons (.same R) (.cons (.same R) (.cons (.same R) (.cons (.nil 2) (.cons (.same R) (.cons (.same R) (.nil))))))))))))))<|XL.step R (A3 R Gf (.own R) (Src.own R) (by unfold maxLen;simp;omega) (by simp;omega))<|?_
 refine zp (Ar R (by conv=>lhs;whnf))<|?_
 refine zn<|Ag (by kernel_rfl)<|zp (An R R R (by omega) (by omega))<|zm R R<|zn<|?_
 exact Am (k+1) (by omega) (by omega) (fz ⟨sr,sr,sr,sr,sr,sr,sr,sr,trivial⟩) (gz ⟨R,Hc R (H8 hx0 (Ajk (.inr c24) c39)),trivial⟩)
 refine zi<|Ag (by kernel_rfl)<|zp (Ak R (by conv=>lhs;whnf))<|?_
 refine zp (Ae (s':= .d (.agg [dI 0,dI 0,dI x.kind,dI x0.log,dI x0.dots, .sl 5 ((x.heads.map Hd.plain).map Hd.c), .v (.slice none 0 0),dI 0,dI 0,dI 0, .v (.slice none 0 0),dI x.stem,dI 0])) (Ac (Ad R R Bu R lb)) (by kernel_rfl))<|XL.step R (Bo 46 R Tryz.underlying79 C7 Ck R R (by omega) (by omega))<|?_
 refine XL.row1 (i:=46) R (.cons (.same R) (.cons (.same R) (.cons (.same R) (.cons (.same R) (.cons (.same R) (.cons (.same R) (.cons (.nil 5) (.cons (.same R) (.cons (.same R) (.cons (.same R) (.cons (.nil 2) (.cons (.same R) (.cons (.same R) (.nil))))))))))))))<|XL.step R (A3 R Gf (.own R) (Src.own R) (by unfold maxLen;simp;omega) (by simp;omega))<|?_
 refine zp (Ar R (by conv=>lhs;whnf))<|?_
 refine zn<|Ag (by kernel_rfl)<|zp (An R R R (by omega) (by omega))<|zm R R<|zn<|?_
 exact Am (k+1) (by omega) (by omega) (fz ⟨sr,sr,sr,sr,sr,sr,sr,sr,trivial⟩) (gz ⟨R,Hc R (H8 hx0 (Ajj (.inr c24) c39)),trivial⟩)
 refine zi<|zr<|zp (Ae (s':= .d (.agg (Val.c x0))) (Ac (Ad R R Eu R lb)) (by kernel_rfl))<|zp (Aa R R H1)<|?_
 refine XL.step R (Af (l':= [.d (dI x.site), .d (dI x.num), .d (dI x.kind), .d (dI x0.log), .d (dI x0.dots), .d (.sl 5 (x.heads.map Hd.c)), .d (.sl 5 (x.graces.map Gr.c)), .d (dI x.art), .d (dI x.orn), .d (dI x.dyn), .d (.sl 2 (x.lyr.map Sy.c)), .d (dI x.stem), .d (dI x.beam)]) R R R R Hq R lb (by kernel_rfl))<|zn<|zs<|zr<|zm R R<|zp (An R R R (by omega) (by omega))<|zm R R<|?_
 refine XL.len R R R Tryz.underlying159 fun hl38=>zp (Au R R R)<|zn<|?_
 refine zd R (fun c39=> ?_) (fun c39=> ?_)
 refine Ag (by kernel_rfl)<|zp (Aa R R Db)<|zp (Ab R R Hs R R)<|XL.call1 R R (Qc _ (by omega)) R<|zp (Aa R R Db)<|?_
 refine XL.step R (Af (l':= [.d (dI x.site), .d (dI x.num), .d (dI x.kind), .d (dI x0.log), .d (dI x0.dots), .d (.sl 5 ((x.heads.map Hd.tie).map Hd.c)), .d (.sl 5 (x.graces.map Gr.c)), .d (dI x.art), .d (dI x.orn), .d (dI x.dyn), .d (.sl 2 (x.lyr.map Sy.c)), .d (dI x.stem), .d (dI x.beam)]) R R R R Nz R lb (by kernel_rfl))<|zng<|zp (Ak R (by conv=>lhs;whnf))<|?_
 refine zp (Ae (s':= .d (.agg [dI x.site,dI x.num,dI x.kind,dI x0.log,dI x0.dots, .sl 5 ((x.heads.map Hd.tie).map Hd.c), .sl 5 (x.graces.map Gr.c),dI x.art,dI x.orn,dI x.dyn, .sl 2 (x.lyr.map Sy.c),dI x.stem,dI x.beam])) (Ac (Ad R R Bu R lb)) (by kernel_rfl))<|XL.step R (Bo 46 R Tryz.underlying79 C7 Ck R R (by omega) (by omega))<|?_
 refine XL.step R (A3 R Gf (.own R) (Src.own R) (by unfold maxLen;simp;omega) (by simp;omega))<|zp (Ar R (by conv=>lhs;whnf))<|?_
 refine zn<|Ag (by kernel_rfl)<|zp (An R R R (by omega) (by omega))<|zm R R<|zn<|?_
 exact Am (k+1) (by omega) (by omega) (fz ⟨sr,sr,sr,sr,sr,sr,sr,sr,trivial⟩) (gz ⟨R,Hc R (H8 hx0 (Ask g22 c24 c39)),trivial⟩)
 refine zi<|Ag (by kernel_rfl)<|zp (Ak R (by conv=>lhs;whnf))<|?_
 refine zp (Ae (s':= .d (.agg [dI x.site,dI x.num,dI x.kind,dI x0.log,dI x0.dots, .sl 5 (x.heads.map Hd.c), .sl 5 (x.graces.map Gr.c),dI x.art,dI x.orn,dI x.dyn, .sl 2 (x.lyr.map Sy.c),dI x.stem,dI x.beam])) (Ac (Ad R R Bu R lb)) (by kernel_rfl))<|XL.step R (Bo 46 R Tryz.underlying79 C7 Ck R R (by omega) (by omega))<|?_
 refine XL.step R (A3 R Gf (.own R) (Src.own R) (by unfold maxLen;simp;omega) (by simp;omega))<|zp (Ar R (by conv=>lhs;whnf))<|?_
 refine zn<|Ag (by kernel_rfl)<|zp (An R R R (by omega) (by omega))<|zm R R<|zn<|?_
 exact Am (k+1) (by omega) (by omega) (fz ⟨sr,sr,sr,sr,sr,sr,sr,sr,trivial⟩) (gz ⟨R,Hc R (H8 hx0 (Asj g22 c24 c39)),trivial⟩)
 have hk0b:k=vs.length:=by omega
 have ht:Kq x vs fu k=B3 x vs fu:=by rw [Kq,hk0b,List.take_length];rfl
 refine As<|zr<|zp (Ak R (by conv=>lhs;whnf))<|?_
 refine zp (Ar R (by conv=>lhs;whnf))<|?_
 refine zn<|zt<|?_
 exact ⟨C1 R (RVS.tmp R R),HSub.cons (by rw [ht];rfl) (HSub.nil)⟩
end Go.Proofs.YtaafemnkamfgnaaGreat
namespace Go.Proofs.YtaafemnkamfgnaaGreat
open Go.RowKit
def Ev.silent (e:Ev):Prop:=(e.kind=2∨e.kind=4)∧e.dyn=0∧e.art=0
instance (e:Ev):Decidable e.silent:=by unfold Ev.silent;exact inferInstance
def Ev.bare (y:Ev) (stem:Int):Ev:=⟨y.site,y.num,1,y.v,y.heads.map Hd.plain, [],0,0,0, [],stem,0⟩
def Yd (a b:List Hd):Prop:=∀(j:Nat) (x y:Hd),a[j]? =some x→b[j]? =some y→x.tied=true∧x.p=y.p
def Ev.conts (x y:Ev) (stem:Int):Prop:=x.kind=1∧x.heads.length=y.heads.length∧Yd x.heads y.heads∧y.eqv (y.bare stem)
open Classical in
noncomputable def Ev.contB (x y:Ev) (stem:Int):Bool:=decide (x.conts y stem)
def Pl.bad (p:Pl):Prop:=p.off<0∨15482880<p.off∨p.len<1∨15482880<p.len
instance (p:Pl):Decidable p.bad:=by unfold Pl.bad;exact inferInstance
def Pl.chk (p:Pl) (v:Vo):Int:=if p.m.err≠0 then p.m.err else if p.bad then 2 else ckE v p.len
theorem Au4 {p:Pl} {v:Vo} (h:p.m.err≠0):p.m.err=p.chk v:=by rw [Pl.chk,if_pos h]
theorem Ag1 {p:Pl} {v:Vo} (h:¬p.m.err≠0) (h2:p.bad):2=p.chk v:=by rw [Pl.chk,if_neg h,if_pos h2]
theorem Au3 {p:Pl} {v:Vo} (h:¬p.m.err≠0) (h2:¬p.bad):ckE v p.len=p.chk v:=by rw [Pl.chk,if_neg h,if_neg h2]
theorem Ag0 (p:Pl) (v:Vo) (hE:Evs v.evs):XC Tryz.prog 128 [.agg (Pl.c p), .agg (Vo.c v)] (fun r=>r=dI (p.chk v)):=by
 refine Al Ach Tryz.func128 R R lb<|zr<|XL.step R (Ao 2 (l:= [.d (dI p.m.count), .d (dI p.m.unit), .d (dI p.m.g0), .d (dI p.m.g1), .d (dI p.m.g2), .d (dI p.m.g3), .d (dI p.m.g4), .d (dI p.m.g5), .d (dI p.off), .d (dI p.len)]) R R (by kernel_rfl))<|XL.step R (Ao 3 (l:= [.d (.sl 13 (v.evs.map Ev.c)), .d (.sl 4 (v.tups.map Tp.c))]) R R (by kernel_rfl))<|za R R<|zn<|zs<|zr<|?_
 refine zp (Aa R R Nq)<|zp (Ae (s':= .d (.agg (Me.c p.m))) (Ac (Ad R R Br R lb)) (by kernel_rfl))<|XL.call1 R R (N6 _) R<|za R R<|znr<|zm R R<|zp (A5 R R R)<|zn<|?_
 refine zd R (fun c10=> ?_) (fun c10=> ?_)
 exact zr<|zm R R<|za R R<|zn<|zt<|z1 R R (rI (Au4 c10))
 refine zi<|zs<|zr<|zp (Aa R R G8)<|zp (Ab R R Ai R R)<|zp (Au R R R)<|zm R R<|?_
 refine XL.dec 15 R (fun g15=> ?_) (fun g15=> ?_)
 exact zk 3 R<|zq R R R<|zm R R<|zk 3 R<|zq R R R<|zm R R<|zk 3 R<|zq R R R<|zn<|Aw (by kernel_rfl) R<|zr<|za R R<|zn<|zt<|z1 R R (rI (Ag1 c10 (by unfold Pl.bad;omega)))
 refine zp (Aa R R G8)<|zp (Ab R R Ai R R)<|zp (Be R R R)<|zq R R R<|zm R R<|?_
 refine XL.dec 20 R (fun g20=> ?_) (fun g20=> ?_)
 exact zk 3 R<|zq R R R<|zm R R<|zk 3 R<|zq R R R<|zn<|Aw (by kernel_rfl) R<|zr<|za R R<|zn<|zt<|z1 R R (rI (Ag1 c10 (by unfold Pl.bad;omega)))
 refine zp (Aa R R C4)<|zp (Ab R R Ai R R)<|zp (Au R R R)<|zq R R R<|zm R R<|?_
 refine XL.dec 25 R (fun g25=> ?_) (fun g25=> ?_)
 exact zk 3 R<|zq R R R<|zn<|Aw (by kernel_rfl) R<|zr<|za R R<|zn<|zt<|z1 R R (rI (Ag1 c10 (by unfold Pl.bad;omega)))
 refine zp (Aa R R C4)<|zp (Ab R R Ai R R)<|zp (Be R R R)<|zq R R R<|zn<|?_
 refine zd R (fun c29=> ?_) (fun c29=> ?_)
 exact zr<|za R R<|zn<|zt<|z1 R R (rI (Ag1 c10 (by unfold Pl.bad;omega)))
 exact zi<|zr<|zp (Ae (s':= .d (.agg (Vo.c v))) (Ac (Ad R R Aq R lb)) (by kernel_rfl))<|zp (Aa R R C4)<|zp (Ab R R Ai R R)<|XL.call1 R R (J4 _ _ (by assumption)) R<|za R R<|zn<|zt<|z1 R R (rI (Au3 c10 (by unfold Pl.bad;omega)))
end Go.Proofs.YtaafemnkamfgnaaGreat
namespace Go.Proofs.YtaafemnkamfgnaaGreat
open Go.RowKit
theorem Aq2 (t:Tp) (a b:Int):XC Tryz.prog 103 [.agg (Tp.c t), .pt [dI a], .pt [dI b]] (fun r=>r=dB (decide (a≤t.first∧t.first<b))):=by
 refine Al Acp Tryz.func103 R R lb<|zr<|XL.step R (Ao 3 (l:= [.d (dI t.first), .d (dI t.count), .d (dI t.actual), .d (dI t.normal)]) R R (by kernel_rfl))<|za R R<|znr<|zp (Aa R R B2)<|zp (Ab R R Ai R R)<|zp (Bj R R Ai)<|zp (E2 R R R)<|zm R R<|?_
 refine XL.dec 9 R (fun g9=> ?_) (fun g9=> ?_)
 exact zp (Aa R R B2)<|zp (Ab R R Ai R R)<|zp (Bj R R Ai)<|zp (Au R R R)<|zq R R R<|za R R<|zn<|zt<|z1 R R (rB (by rw [decide_eq_decide];omega))
 exact zk 4 R<|zq R R R<|za R R<|zn<|zt<|z1 R R (rB (by rw [eq_comm,decide_eq_false_iff_not];omega))
theorem Apx (t:Tp) (a:Int):XC Tryz.prog 175 [.agg (Tp.c t), .pt [dI a]] (fun r=>r=dB (decide (t.first<a))):=by
 exact Al Abi Tryz.func175 R R lb<|zr<|XL.step R (Ao 2 (l:= [.d (dI t.first), .d (dI t.count), .d (dI t.actual), .d (dI t.normal)]) R R (by kernel_rfl))<|za R R<|znr<|zp (Aa R R B2)<|zp (Ab R R Ai R R)<|zp (Bj R R Ai)<|zp (Au R R R)<|za R R<|zn<|zt<|z1 R R (R)
theorem Apw (t:Tp) (a b:Int) (h0:0≤a∧a≤100000) (h1:0≤b∧b≤100000):XC Tryz.prog 176 [.agg (Tp.c t), .pt [dI a], .pt [dI b]] (fun r=>r=dB (decide (a+b≤t.first))):=by
 exact Al Abh Tryz.func176 R R lb<|zr<|XL.step R (Ao 3 (l:= [.d (dI t.first), .d (dI t.count), .d (dI t.actual), .d (dI t.normal)]) R R (by kernel_rfl))<|za R R<|znr<|zp (Aa R R B2)<|zp (Ab R R Ai R R)<|zp (Bj R R Ai)<|zp (Bj R R Ai)<|zp (An R R R (by omega) (by omega))<|zp (E2 R R R)<|za R R<|zn<|zt<|z1 R R (R)
theorem Apv (t:Tp):XC Tryz.prog 177 [.agg (Tp.c t)] (fun r=>r=dB true):=by
 exact Al Abg Tryz.func177 R R lb<|zr<|XL.step R (Ao 1 (l:= [.d (dI t.first), .d (dI t.count), .d (dI t.actual), .d (dI t.normal)]) R R (by kernel_rfl))<|za R R<|znr<|za R R<|zn<|zt<|z1 R R (R)
end Go.Proofs.YtaafemnkamfgnaaGreat
