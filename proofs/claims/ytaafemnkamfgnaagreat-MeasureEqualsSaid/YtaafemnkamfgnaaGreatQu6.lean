/- Part 6 of what the statements need: lemmas and walks. -/
import Derived.Test.YtaafemnkamfgnaaGreatQu5
set_option linter.unusedVariables false
set_option linter.unusedSimpArgs false
set_option linter.unusedSectionVars false
set_option maxRecDepth 20000
set_option maxHeartbeats 8000000
namespace Go.Proofs.YtaafemnkamfgnaaGreat
open Go.RowKit
theorem Xb (t:Tp) (l:List Tp) (n:Int):hits (t::l) n=hits l n+(if t.has n then 1 else 0):=by
 unfold hits
 rw [List.filter_cons]
 by_cases h:t.has n<;>simp [h]
theorem Am9 (l:List Tp) (n:Int):hits l n≤l.length:=List.length_filter_le _ _
theorem Am8 (t:Tp) (s:List Tp) (n:Int) (hn:t.first≤n):hits (Cp t s) n=hits s n:=by
 induction s with
 |nil=>rfl
 |cons o r ih=>
  unfold Cp
  split
  ·rename_i h
   rw [ih,Xb,if_neg (fun k=>by unfold Tp.has at k;unfold Tp.e at h;omega)]
   rfl
  ·rfl
theorem Ahc {q t:Tp} (h:¬0<Kd q t):q.first≤t.first:=by
 unfold Kd at h
 split at h
 ·split at h<;>omega
 ·omega
theorem Agt (n:Int) (l:List Tp):∀(p:Option Tp) (s L:List Tp),Ex n p s l=0→s.length≤3→(∀e,hits L e≤3)→(∀e,(∀q,p=some q→q.first≤e)→hits L e=hits s e)→∀e,hits (L++l) e≤3:=by
 induction l with
 |nil=>intro p s L _ _ h1 _ e;rw [List.append_nil];exact h1 e
 |cons t l ih=>
  intro p s L hz hs h1 h2 e
  rw [Ex] at hz
  split at hz
  ·omega
  ·split at hz
   ·omega
   ·rename_i hin hna
    split at hz
    ·omega
    ·rename_i hov
     have hp:∀q,p=some q→q.first≤t.first:=fun q hq=>by subst hq;exact Ahc hna
     have h3:(t::Cp t s).length≤3:=by
      have h4:=Al9 t s
      have h5:¬(Cp t s).length=3:=fun k=>hov (.inl k)
      rw [List.length_cons]
      omega
     have heq:∀e,t.first≤e→hits (L++ [t]) e=hits (t::Cp t s) e:=fun e he=>by
      rw [Ir,Xb,Am8 t s e he,h2 e (fun q hq=>Int.le_trans (hp q hq) he)]
     have:=ih (some t) (t::Cp t s) (L++ [t]) hz h3 (fun e=> ?_) (fun e he=>heq e (he t rfl)) e
     ·rw [List.append_assoc] at this;exact this
     ·by_cases he:t.first≤e
      ·rw [heq e he];exact Nat.le_trans (Am9 _ _) h3
      ·rw [Ir,if_neg (fun k=>he k.1)];exact h1 e
theorem Als (n:Int) (l:List Tp):∀(p:Option Tp) (s:List Tp),Ex n p s l=0→∀t∈l,t.inR n:=by
 induction l with
 |nil=>intro p s _ t ht;cases ht
 |cons t l ih=>
  intro p s hz x hx
  rw [Ex] at hz
  split at hz
  ·omega
  ·rename_i hin
   split at hz
   ·omega
   ·split at hz
    ·omega
    ·rcases List.mem_cons.1 hx with e|e
     ·rw [e];exact Decidable.not_not.1 hin
     ·exact ih _ _ hz x e
structure Tups (l:List Tp) (n:Int):Prop where
 bd:0≤n∧n≤128
 len:l.length≤16
 inR:∀t∈l,t.inR n
 ok:∀t∈l,t.ok
 hits:∀e,hits l e≤3
theorem Vf {l:List Tp} {n:Int} (h:¬D6 l n≠0):Tups l n:=by
 have h0:D6 l n=0:=by omega
 unfold D6 at h0
 split at h0
 ·omega
 ·split at h0
  ·omega
  ·have hi:=Als n l _ _ h0
   refine ⟨by omega,by omega,hi,fun t ht=>(hi t ht).ok (by omega),fun e=> ?_⟩
   have:=Agt n l none [] [] h0 (by decide) (fun e=>Nat.zero_le _) (fun e _=>rfl) e
   rwa [List.nil_append] at this
def C1 (l:List Tp):Nat→List Int→List Int
 |_, []=> []
 |i,w::r=>D9 l i w::C1 l (i+1) r
def Ja (l:List Tp):Nat→List Int→Int
 |_, []=>0
 |i,w::r=>if D1 l i w≠0 then D1 l i w else Ja l (i+1) r
def C9 (l:List Tp) (ws:List Int):Int:=if D6 l ws.length≠0 then D6 l ws.length else Ja l 0 ws
def Ho (l:List Tp) (ws:List Int):List Int:=if C9 l ws=0 then C1 l 0 ws else []
theorem Ahm (l:List Tp) (a:List Int) (w:Int):∀i,C1 l i (a++ [w])=C1 l i a++ [D9 l ((i+a.length:Nat):Int) w]:=by
 induction a with
 |nil=>intro i;rfl
 |cons x a ih=>
  intro i
  rw [List.cons_append,C1,ih (i+1),C1,List.cons_append,List.length_cons,show i+1+a.length=i+(a.length+1) by omega]
theorem Adl {l:List Tp} {ws:List Int} {k:Nat} {w:Int} (h:ws[k]? =some w):C1 l 0 (ws.take (k+1))=C1 l 0 (ws.take k)++ [D9 l (k:Int) w]:=by
 have hk:=(List.getElem?_eq_some_iff.1 h).1
 rw [B3 h,Ahm,List.length_take,Nat.zero_add,Nat.min_eq_left (by omega)]
theorem I2 (l:List Tp) (ws:List Int):∀i,(C1 l i ws).length=ws.length:=by
 induction ws with
 |nil=>intro i;rfl
 |cons w r ih=>intro i;rw [C1,List.length_cons,ih,List.length_cons]
theorem Ai6 {l:List Tp} {ws:List Int} {k:Nat} {w:Int} (h:ws[k]? =some w) (hx:¬D1 l k w≠0):Ja l k (ws.drop k)=Ja l (k+1) (ws.drop (k+1)):=by rw [B5 h,Ja,if_neg hx]
theorem Y3 {l:List Tp} {ws:List Int} {k:Nat} {w:Int} (h:ws[k]? =some w) (hx:D1 l k w≠0):Ja l k (ws.drop k)=D1 l k w:=by rw [B5 h,Ja,if_pos hx]
theorem Aiv {l:List Tp} {ws:List Int} (h:D6 l ws.length≠0): []=Ho l ws∧D6 l ws.length=C9 l ws:=by
 have e:C9 l ws=D6 l ws.length:=by rw [C9,if_pos h]
 exact ⟨by rw [Ho,e,if_neg h],e.symm⟩
theorem Aiu {l:List Tp} {ws:List Int} (h:¬D6 l ws.length≠0) {e:Int} (he:e=Ja l 0 ws) (hn:e≠0): []=Ho l ws∧e=C9 l ws:=by
 have e2:C9 l ws=e:=by rw [C9,if_neg h,he]
 exact ⟨by rw [Ho,e2,if_neg hn],e2.symm⟩
theorem Ait {l:List Tp} {ws:List Int} (h:¬D6 l ws.length≠0) (he:Ja l 0 ws=0):C1 l 0 ws=Ho l ws∧0=C9 l ws:=by
 have e2:C9 l ws=0:=by rw [C9,if_neg h,he]
 exact ⟨by rw [Ho,e2,if_pos rfl],e2.symm⟩
theorem Sr (l:List Tp) (ws:List Int):XC Tryz.prog 169 [.sl 4 (l.map Tp.c), .sl 1 (Cg ws)] (fun r=>r= .tup [.sl 1 (Cg (Ho l ws)),dI (C9 l ws)]):=by
 refine An Abu Tryz.func169 R R lb<|zr<|za R R<|za R R<|zn<|zs<|zr<|zm R R<|zm R R<|XL.len R R R Tryz.underlying45 fun hl14=>XL.call1 R R (Wb _ _) R<|za R R<|znr<|zm R R<|?_
 refine zp (A1 R R R)<|zn<|?_
 refine zd R (fun c17=> ?_) (fun c17=> ?_)
 refine zr<|zm R R<|za R R<|za R R<|zn<|zt<|?_
 exact A6 R (RV.nil (sz:=1) R R) (RV.tmp R R) (r2 (rSl (Aiv c17).1) (rI (Aiv c17).2))
 refine zi<|zs<|?_
 have hT:=Vf c17
 have hbd:=hT.bd
 refine Ag (by kernel_rfl)<|zm R R<|XL.len R R R Tryz.underlying45 fun hl20=>XL.step R (Ow 21 (m:=0) (z:=(.int .i64 0)) (zs:= [dI 0]) (sz:=1) (bytes:=8) R R R Tryz.underlying45 (by kernel_rfl) (by kernel_rfl) (by kernel_rfl) (by decide) (by decide) (by omega) (by unfold maxLen;omega) (by omega))<|zp (Aw R (by conv=>lhs;whnf))<|?_
 refine zn<|zs<|zr<|zm R R<|XL.len R R R Tryz.underlying45 fun hl23=>zm R R<|zn<|Ah<|?_
 refine Az (α:=Nat) (fun k=>k≤ws.length∧Ja l k (ws.drop k)=Ja l 0 ws) (fun k=>mkF [(0, .d (.sl 4 (l.map Tp.c))),(7, .own 21),(22, .d (.sl 1 (Cg ws))),(23, .d (dI ws.length)),(24, .d (dI k))]) (fun k=>mkH [(21, .row 3 1 ((C1 l 0 (ws.take k)).map iv))]) (fun k=>ws.length - k) (0) (⟨Nat.zero_le _,by rw [List.drop_zero]⟩) ?_ ?_ ?_
 exact fz ⟨sr,sr,sr,sr,sr,trivial⟩
 exact gz ⟨R,trivial⟩
 intro k hk0
 obtain ⟨hk,hgo⟩:=hk0
 refine zr<|zp (Au R R R)<|zn<|zs<|?_
 refine zd R (fun c25=> ?_) (fun c25=> ?_)
 have hk0a:k<ws.length:=by omega
 obtain ⟨x0,hx0⟩:=Ar hk0a
 have hok:=hT.ok
 have hh:=hT.hits k
 have hll:(C1 l 0 (ws.take k)).length=k:=by rw [I2,List.length_take];omega
 refine zi<|zs<|Ah<|zr<|zm R R<|zp (Ao R R R Dt hx0)<|zp (Bg R R Ai)<|za R R<|za R R<|znr<|zm R R<|zm R R<|zm R R<|XL.call1 R R (Y1 _ _ _ (by assumption) (by assumption) (by omega) (by omega)) R<|?_
 refine zm R R<|zp (A0 R R R)<|zp (A0 R R R)<|za R R<|za R R<|zn<|zs<|zr<|zm R R<|zp (A1 R R R)<|zn<|?_
 refine zd R (fun c37=> ?_) (fun c37=> ?_)
 refine zr<|zm R R<|za R R<|za R R<|zn<|zt<|?_
 exact A6 R (RV.nil (sz:=1) R R) (RV.tmp R R) (r2 (rSl (Aiu c17 (by rw [←hgo,Y3 hx0 c37]) c37).1) (rI (Aiu c17 (by rw [←hgo,Y3 hx0 c37]) c37).2))
 refine zi<|Ag (by kernel_rfl)<|zp (As R (by conv=>lhs;whnf))<|?_
 refine zm R R<|XL.step R (Br 41 R Tryz.underlying45 Ey H0 R R (by omega) (by omega))<|XL.step R (A5 R Q4 (.own R) (Src.own R) (by unfold maxLen;simp;omega) (by simp;omega))<|zp (Aw R (by conv=>lhs;whnf))<|?_
 refine zn<|Ag (by kernel_rfl)<|zp (Al R R R (by omega) (by omega))<|zm R R<|zn<|?_
 exact Am (k+1) (⟨by omega,by rw [←Ai6 hx0 c37];exact hgo⟩) (by omega) (fz ⟨sr,sr,sr,sr,sr,trivial⟩) (gz ⟨Jn rfl (Adl hx0),trivial⟩)
 have hk0b:k=ws.length:=by omega
 have hz:Ja l 0 ws=0:=by rw [←hgo,hk0b,List.drop_length];rfl
 have ht:ws.take k=ws:=by rw [hk0b,List.take_length]
 refine At<|zr<|zp (As R (by conv=>lhs;whnf))<|?_
 refine zp (Aw R (by conv=>lhs;whnf))<|?_
 refine za R R<|zn<|zt<|Cd (i:=21) R<|?_
 exact A6 R (RV.tmp R R) (RV.tmp R R) (r2 (rSl (by rw [ht];exact (Ait c17 hz).1)) (rI (Ait c17 hz).2))
abbrev Nt (l:List Tp) (i:Nat):List Tp:=(l.take l.length).drop (i+1)
def Gd (l:List Tp):Nat→List Int→Int→Option Int
 |_, [],acc=>some acc
 |i,w::r,acc=>if D1 l i w≠0 then none else Gd l (i+1) r (acc+D9 l i w)
def Hr (t:Tp) (ws:List Int):List Int:=(ws.drop t.first.toNat).take t.count.toNat
def Tx (a s:Int):Option Int:=((List.range 10).find? fun j=>decide (s=a*(3870720 / 2 ^ j))).map fun j=>(j:Int) - 1
def Gc (l:List Tp) (t:Tp) (ws:List Int):Option Int:=(Gd l t.first.toNat (Hr t ws) 0).bind (Tx t.actual)
def Uk (l:List Tp) (i:Nat) (ws:List Int):Option Int:=(l[i]?).bind fun t=>Gc (Nt l i) t ws
theorem Mt {l:List Tp} {i:Nat} {t:Tp} (h:l[i]? =some t) (ws:List Int):Uk l i ws=Gc (Nt l i) t ws:=by rw [Uk,h];rfl
theorem Apn {t:Tp} {ws:List Int} {j:Nat} (hj:j<t.count.toNat):(Hr t ws)[j]? =ws[t.first.toNat+j]? :=by
 rw [Hr,List.getElem?_take,if_pos hj,List.getElem?_drop]
theorem Agr {l:List Tp} {i k:Nat} {seg:List Int} {w acc:Int} (h:seg[k]? =some w) (hx:¬D1 l i w≠0):Gd l i (seg.drop k) acc=Gd l (i+1) (seg.drop (k+1)) (acc+D9 l i w):=by rw [B5 h,Gd,if_neg hx]
theorem Agq {l:List Tp} {i k:Nat} {seg:List Int} {w acc:Int} (h:seg[k]? =some w) (hx:D1 l i w≠0):Gd l i (seg.drop k) acc=none:=by rw [B5 h,Gd,if_pos hx]
theorem Aio {l:List Tp} {i k:Nat} {seg:List Int} {acc:Int} (h:seg.length≤k):Gd l i (seg.drop k) acc=some acc:=by rw [List.drop_eq_nil_of_le h,Gd]
theorem Aqo {p:Nat→Bool} {m k:Nat} (hk:k<m) (hp:p k=true) (h:∀j,j<k→p j=false):(List.range m).find? p=some k:=by
 rw [List.find?_range_eq_some]
 exact ⟨hp,List.mem_range.2 hk,fun j hj=>by simp [h j hj]⟩
theorem Ap6 {a s:Int} {k:Nat} (hk:k<10) (hp:s=a*(3870720 / 2 ^ k)) (h:∀j,j<k→¬s=a*(3870720 / 2 ^ j)):Tx a s=some ((k:Int) - 1):=by
 rw [Tx,Aqo hk (decide_eq_true hp) (fun j hj=>decide_eq_false (h j hj))];rfl
theorem Aj2 {a s:Int} (h:∀j,j<10→¬s=a*(3870720 / 2 ^ j)):Tx a s=none:=by
 rw [Tx,List.find?_eq_none.2 (fun j hj=>by simp [h j (List.mem_range.1 hj)])];rfl
theorem Ul {l:List Tp} {t:Tp} {ws:List Int} {s:Int} (h:Gd l t.first.toNat (Hr t ws) 0=some s):Gc l t ws=Tx t.actual s:=by rw [Gc,h];rfl
theorem Agp {l:List Tp} {t:Tp} {ws:List Int} (h:Gd l t.first.toNat (Hr t ws) 0=none):Gc l t ws=none:=by rw [Gc,h];rfl
theorem Zg {o:Option Int} (h:o=none):D.tup [dI 0,dB false]= .tup [dI (o.getD 0),dB o.isSome]:=by rw [h];rfl
theorem Amm {o:Option Int} {x:Int} (h:o=some x):D.tup [dI x,dB true]= .tup [dI (o.getD 0),dB o.isSome]:=by rw [h];rfl
theorem Arl (k:Nat):0≤(3870720:Int) / 2 ^ k∧(3870720:Int) / 2 ^ k≤3870720:=by
 have h:(0:Int)<2 ^ k:=Int.pow_pos (by omega)
 exact ⟨Int.ediv_nonneg (by omega) (by omega),Int.ediv_le_self _ (by omega)⟩
theorem Ao6 (l:List Tp) (i:Nat) (t:Tp) (ws:List Int) (ht:l[i]? =some t) (hT:Tups l ws.length):XC Tryz.prog 192 [.sl 4 (l.map Tp.c), .v (.int .i64 i), .sl 1 (Cg ws)] (fun r=>r= .tup [dI ((Gc (Nt l i) t ws).getD 0),dB (Gc (Nt l i) t ws).isSome]):=by
 have hin:=hT.inR t (List.mem_of_getElem? ht)
 have hok:=hT.ok t (List.mem_of_getElem? ht)
 have hbd:=hT.bd
 have hlen:=hT.len
 have hil:=(List.getElem?_eq_some_iff.1 ht).1
 have hin2:=hin
 simp only [Tp.inR] at hin2
 have hte:t.e=t.first+t.count:=rfl
 obtain ⟨f,hf⟩:∃f:Nat,t.first=f:=⟨t.first.toNat,by omega⟩
 have hf2:t.first.toNat=f:=by omega
 have hsl:(Hr t ws).length=t.count.toNat:=by rw [Hr,List.length_take,List.length_drop];omega
 have hoks:∀x∈(l.take l.length).drop (i+1),x.ok:=Apy (Afr hT.ok _) _
 have hhs:∀e,hits ((l.take l.length).drop (i+1)) e≤3:=fun e=>Nat.le_trans (Aki _ _ e) (Nat.le_trans (Qw _ _ e) (hT.hits e))
 refine An Aa9 Tryz.func192 R R lb<|zr<|za R R<|za R R<|znr<|zm R R<|zm R R<|zp (Ao R R R E3 (ht))<|zp (Ae (s':= .d (.agg (Tp.c t))) (Ay R R B9 lb) (by kernel_rfl))<|XL.step R (Aq 8 (l:= [.d (dI 0), .d (dI 0), .d (dI 0), .d (dI 0)]) R Dy (by kernel_rfl))<|?_
 refine XL.step R (Af (l':= [.d (dI t.first), .d (dI t.count), .d (dI t.actual), .d (dI t.normal)]) R R R R Fc R lb (by kernel_rfl))<|znr<|za R R<|zn<|zs<|zr<|zp (Aa R R Bw)<|zp (Ab R R Ai R R)<|za R R<|zn<|Ah<|?_
 refine Az (α:=Nat × Int) (fun p=>p.1≤t.count.toNat∧Gd ((l.take l.length).drop (i+1)) (f+p.1) ((Hr t ws).drop p.1) p.2=Gd ((l.take l.length).drop (i+1)) f (Hr t ws) 0∧0≤p.2∧p.2≤(p.1:Int)*253671505920) (fun p=>mkF [(0, .d (.sl 4 (l.map Tp.c))),(1, .d (dI i)),(2, .d (.sl 1 (Cg ws))),(8, .ptr 8 0 0),(9, .d (dI p.2)),(10, .d (dI ((f+p.1:Nat):Int)))]) (fun p=>mkH [(8, .box ((Tp.c t).map S.d))]) (fun p=>t.count.toNat - p.1) ((0,0)) (⟨Nat.zero_le _,by rw [List.drop_zero];rfl,Int.le_refl _,by simp⟩) ?_ ?_ ?_
 exact fz ⟨sr,sr,sr,sr,sr, .same (sI (by rw [hf];rfl)),trivial⟩
 exact gz ⟨R,trivial⟩
 intro p hk0
 obtain ⟨hk,hgo,hs0,hs1⟩:=hk0
 refine zs<|zr<|zm R R<|zp (Ae (s':= .d (.agg (Tp.c t))) (Ac (Ad R R B9 R lb)) (by kernel_rfl))<|XL.call1 R R (Ha _ (by assumption)) R<|zp (Au R R R)<|zn<|?_
 refine zd R (fun c23=> ?_) (fun c23=> ?_)
 have hkc:p.1<t.count.toNat:=by omega
 obtain ⟨w,hw⟩:∃w,ws[f+p.1]? =some w:=Ar (by omega)
 have hsw:(Hr t ws)[p.1]? =some w:=by rw [Apn hkc,hf2];exact hw
 have hh:=hhs ((f+p.1:Nat):Int)
 have hsb:=Y2 (n:=((f+p.1:Nat):Int)) (w:=w) hoks hh
 refine zi<|zs<|Ah<|zs<|Bv [] (by kernel_rfl) (by kernel_rfl) (by kernel_rfl) (by decide)<|ym R R<|ym R R<|yp (Al R R R (by omega) (by omega))<|yp (Je R R E3 (Bd.ati (a:=i+1) R (by omega)) Bd.no (by omega) (by omega))<|ym R R<|ym R R<|ym R R<|yp (Ao R R R Dt (hw))<|yp (Bg R R Ai)<|?_
 refine ChK.cons R (CStep.call R (Y1 _ _ _ (by assumption) (by assumption) (by omega) (by omega)) R)<|ym R R<|yp (A0 R R R)<|yp (A0 R R R)<|ya R R<|ya R R<|?_
 refine ChK.nil ⟨by kernel_rfl, ?_⟩
 refine zs<|zr<|zm R R<|zp (A1 R R R)<|zn<|?_
 refine zd R (fun c40=> ?_) (fun c40=> ?_)
 refine zr<|za R R<|za R R<|zn<|zt<|?_
 exact A6 R (RV.tmp R R) (RV.tmp R R) (Zg (Agp (by rw [hf2, ←hgo];exact Agq hsw c40)))
 refine zi<|Ag (by kernel_rfl)<|zm R R<|zm R R<|zp (Al R R R (by omega) (by omega))<|za R R<|zn<|Ag (by kernel_rfl)<|zm R R<|zp (Al R R R (by omega) (by omega))<|za R R<|zn<|?_
 exact Am ((p.1+1,p.2+D9 ((l.take l.length).drop (i+1)) ((f+p.1:Nat):Int) w)) (⟨by simp only;omega,(Agr hsw c40).symm.trans hgo,by simp only;omega,by simp only;omega⟩) (by simp only;omega) (fz ⟨sr,sr,sr,sr,sr,sr,trivial⟩) (gz ⟨rfl,trivial⟩)
 have hu:Gd ((l.take l.length).drop (i+1)) t.first.toNat (Hr t ws) 0=some p.2:=by rw [hf2, ←hgo];exact Aio (by omega)
 refine At<|zs<|zr<|za R R<|zn<|Ah<|?_
 refine Az (α:=Nat) (fun k=>k≤10∧∀j,j<k→¬p.2=t.actual*(3870720 / 2 ^ j)) (fun k=>mkF [(8, .ptr 8 0 0),(9, .d (dI p.2)),(13, .d (dI ((k:Int) - 1)))]) (fun k=>mkH [(8, .box ((Tp.c t).map S.d))]) (fun k=>10 - k) (0) (⟨Nat.zero_le _,fun j hj=>absurd hj (Nat.not_lt_zero _)⟩) ?_ ?_ ?_
 exact fz ⟨sr,sr,sr,trivial⟩
 exact gz ⟨R,trivial⟩
 intro k hk2
 obtain ⟨hk,hno⟩:=hk2
 have hkk:((k:Int) - 1+1).toNat=k:=by omega
 have hsh:=Arl k
 refine zs<|zr<|zm R R<|zp (N1 R R R)<|zn<|?_
 refine zd R (fun c45=> ?_) (fun c45=> ?_)
 have hml1:0≤t.actual*(3870720 / 2 ^ k):=Int.mul_nonneg (by omega) hsh.1
 have hml2:t.actual*(3870720 / 2 ^ k)≤32*3870720:=Int.mul_le_mul (by omega) hsh.2 hsh.1 (by omega)
 refine zi<|zs<|Ah<|zs<|Bv [] (by kernel_rfl) (by kernel_rfl) (by kernel_rfl) (by decide)<|ym R R<|yp (Aa R R N9)<|yp (Ab R R Ai R R)<|ym R R<|yp (Al R R R (by omega) (by omega))<|yp (Aoe R R R (by omega) (by omega))<|yp (L9 R R R (by rw [hkk];omega) (by rw [hkk];omega))<|yp (Bi R R R)<|?_
 refine ChK.nil ⟨by kernel_rfl, ?_⟩
 refine zd R (fun c55=> ?_) (fun c55=> ?_)
 refine zr<|zm R R<|za R R<|za R R<|zn<|zt<|?_
 exact A6 R (RV.tmp R R) (RV.tmp R R) (Amm (by rw [Ul hu];exact Ap6 (by omega) (by rw [hkk] at c55;exact c55) hno))
 refine zi<|Ag (by kernel_rfl)<|zm R R<|zp (Al R R R (by omega) (by omega))<|za R R<|zn<|?_
 exact Am (k+1) (⟨by omega,fun j hj=>by by_cases e:j=k;(· subst e;rw [hkk] at c55;exact c55);(· exact hno j (by omega))⟩) (by omega) (fz ⟨sr,sr, .same (sI (by omega)),trivial⟩) (gz ⟨rfl,trivial⟩)
 have hke:k=10:=by omega
 have hnone:Tx t.actual p.2=none:=Aj2 (fun j hj=>hno j (by omega))
 refine At<|zr<|za R R<|za R R<|zn<|zt<|?_
 exact A6 R (RV.tmp R R) (RV.tmp R R) (Zg (by rw [Ul hu];exact hnone))
theorem Ns {l:List Tp} {ws:List Int} (h:¬C9 l ws≠0):Tups l ws.length:=by
 unfold C9 at h
 split at h
 ·rename_i h2;exact absurd h2 h
 ·rename_i h2;exact Vf h2
def Ml (l:List Tp) (ws:List Int):Prop:=∀j,j<l.length→(Uk l j ws).isSome=true
instance (l:List Tp) (ws:List Int):Decidable (Ml l ws):=by unfold Ml;exact inferInstance
def Fb (l:List Tp) (ws:List Int):Int:=if C9 l ws≠0 then C9 l ws else if Ml l ws then 0 else 21
def Nr (l:List Tp) (ws:List Int) (k:Nat):List Int:=(List.range k).map fun j=>(Uk l j ws).getD 0
def Mu (l:List Tp) (ws:List Int):List Int:=if Fb l ws=0 then Nr l ws l.length else []
theorem Ags {l:List Tp} {ws:List Int} {k:Nat} {t:Tp} (h:l[k]? =some t):Nr l ws (k+1)=Nr l ws k++ [(Gc (Nt l k) t ws).getD 0]:=by
 rw [Nr,List.range_succ,List.map_append,List.map_singleton,Mt h];rfl
theorem Aip (l:List Tp) (ws:List Int) (k:Nat):(Nr l ws k).length=k:=by rw [Nr,List.length_map,List.length_range]
theorem Arc {l:List Tp} {ws:List Int} (h:C9 l ws≠0): []=Mu l ws∧C9 l ws=Fb l ws:=by
 have e:Fb l ws=C9 l ws:=by rw [Fb,if_pos h]
 exact ⟨by rw [Mu,e,if_neg h],e.symm⟩
theorem Arb {l:List Tp} {ws:List Int} (h:¬C9 l ws≠0) {k:Nat} {t:Tp} (ht:l[k]? =some t) (hn:(!(Gc (Nt l k) t ws).isSome)=true): []=Mu l ws∧21=Fb l ws:=by
 have e:Fb l ws=21:=by
  rw [Fb,if_neg h,if_neg fun ha=> ?_]
  have:=ha k (List.getElem?_eq_some_iff.1 ht).1
  rw [Mt ht] at this
  rw [this] at hn
  cases hn
 exact ⟨by rw [Mu,e,if_neg (by decide)],e.symm⟩
theorem Ara {l:List Tp} {ws:List Int} (h:¬C9 l ws≠0) (ha:Ml l ws):Nr l ws l.length=Mu l ws∧0=Fb l ws:=by
 have e:Fb l ws=0:=by rw [Fb,if_neg h,if_pos ha]
 exact ⟨by rw [Mu,e,if_pos rfl],e.symm⟩
theorem Alr (l:List Tp) (ws:List Int):XC Tryz.prog 170 [.sl 4 (l.map Tp.c), .sl 1 (Cg ws)] (fun r=>r= .tup [.sl 1 (Cg (Mu l ws)),dI (Fb l ws)]):=by
 refine An Abt Tryz.func170 R R lb<|zr<|za R R<|za R R<|zn<|zs<|zr<|zm R R<|zm R R<|XL.call1 R R (Sr _ _) R<|zm R R<|zp (A0 R R R)<|zp (A0 R R R)<|za R R<|?_
 refine za R R<|znr<|zm R R<|zp (A1 R R R)<|zn<|?_
 refine zd R (fun c19=> ?_) (fun c19=> ?_)
 refine zr<|zm R R<|za R R<|za R R<|zn<|zt<|?_
 exact A6 R (RV.nil (sz:=1) R R) (RV.tmp R R) (r2 (rSl (Arc c19).1) (rI (Arc c19).2))
 refine zi<|zs<|?_
 have hT:=Ns c19
 have hbd:=hT.bd
 have hlen:=hT.len
 refine Ag (by kernel_rfl)<|zm R R<|XL.len R R R Tryz.underlying80 fun hl22=>XL.step R (Ow 23 (m:=0) (z:=(.int .i64 0)) (zs:= [dI 0]) (sz:=1) (bytes:=8) R R R Tryz.underlying45 (by kernel_rfl) (by kernel_rfl) (by kernel_rfl) (by decide) (by decide) (by omega) (by unfold maxLen;omega) (by omega))<|zp (Aw R (by conv=>lhs;whnf))<|?_
 refine zn<|zs<|zr<|zm R R<|XL.len R R R Tryz.underlying80 fun hl25=>zm R R<|zn<|Ah<|?_
 refine Az (α:=Nat) (fun k=>k≤l.length∧∀j,j<k→(Uk l j ws).isSome=true) (fun k=>mkF [(0, .d (.sl 4 (l.map Tp.c))),(1, .d (.sl 1 (Cg ws))),(8, .own 23),(25, .d (dI l.length)),(26, .d (dI k))]) (fun k=>mkH [(23, .row 3 1 ((Nr l ws k).map iv))]) (fun k=>l.length - k) (0) (⟨Nat.zero_le _,fun j hj=>absurd hj (Nat.not_lt_zero _)⟩) ?_ ?_ ?_
 exact fz ⟨sr,sr,sr,sr,sr,trivial⟩
 exact gz ⟨R,trivial⟩
 intro k hk0
 obtain ⟨hk,hall⟩:=hk0
 refine zr<|zp (Au R R R)<|zn<|zs<|?_
 refine zd R (fun c27=> ?_) (fun c27=> ?_)
 have hk0a:k<l.length:=by omega
 obtain ⟨x0,hx0⟩:=Ar hk0a
 have hll:=Aip l ws k
 refine zi<|zs<|Ah<|zr<|zm R R<|za R R<|znr<|zm R R<|zm R R<|zm R R<|XL.call1 R R (Ao6 _ _ _ _ hx0 hT) R<|zm R R<|zp (A0 R R R)<|zp (A0 R R R)<|?_
 refine za R R<|za R R<|zn<|zs<|zr<|zm R R<|zp (D2 R R)<|zn<|?_
 refine Ff (by kernel_rfl) R (fun c37=> ?_) (fun c37=> ?_)
 refine zr<|za R R<|za R R<|zn<|zt<|?_
 exact A6 R (RV.nil (sz:=1) R R) (RV.tmp R R) (r2 (rSl (Arb c19 hx0 c37).1) (rI (Arb c19 hx0 c37).2))
 refine zi<|Ag (by kernel_rfl)<|zp (As R (by conv=>lhs;whnf))<|?_
 refine zm R R<|XL.step R (Br 40 R Tryz.underlying45 Ey H0 R R (by omega) (by omega))<|XL.step R (A5 R Q4 (.own R) (Src.own R) (by unfold maxLen;simp;omega) (by simp;omega))<|zp (Aw R (by conv=>lhs;whnf))<|?_
 refine zn<|Ag (by kernel_rfl)<|zp (Al R R R (by omega) (by omega))<|zm R R<|zn<|?_
 exact Am (k+1) (⟨by omega,fun j hj=>by by_cases e:j=k;(· subst e;rw [Mt hx0];exact (by simpa using c37));(· exact hall j (by omega))⟩) (by omega) (fz ⟨sr,sr,sr,sr,sr,trivial⟩) (gz ⟨Jn rfl (Ags hx0),trivial⟩)
 have hk0b:k=l.length:=by omega
 have ha:Ml l ws:=fun j hj=>hall j (by omega)
 refine At<|zr<|zp (As R (by conv=>lhs;whnf))<|?_
 refine zp (Aw R (by conv=>lhs;whnf))<|?_
 refine za R R<|zn<|zt<|Cd (i:=23) R<|?_
 exact A6 R (RV.tmp R R) (RV.tmp R R) (r2 (rSl (by rw [hk0b];exact (Ara c19 ha).1)) (rI (Ara c19 ha).2))
def H4 (l:List Tp) (n:Int):Int:=if D6 l 128≠0 then 0 else (hits l n:Int)
theorem Am7 {l:List Tp} {k:Nat} {t:Tp} {n:Int} (h:l[k]? =some t) (ht:t.has n):hits (l.take (k+1)) n=hits (l.take k) n+1:=by rw [B3 h,Ir,if_pos ht]
theorem Aqe {l:List Tp} {k:Nat} {t:Tp} {n:Int} (h:l[k]? =some t) (ht:¬t.has n):hits (l.take (k+1)) n=hits (l.take k) n:=by rw [B3 h,Ir,if_neg ht];rfl
theorem Anw (l:List Tp) (n:Int) (h0:0≤n) (h1:n≤128):XC Tryz.prog 152 [.sl 4 (l.map Tp.c), .v (.int .i64 n)] (fun r=>r=dI (H4 l n)):=by
 refine An Acb Tryz.func152 R R lb<|zr<|za R R<|zn<|zs<|zr<|zm R R<|XL.call1 R R (Wb _ _) R<|zp (A1 R R R)<|zn<|?_
 refine zd R (fun c10=> ?_) (fun c10=> ?_)
 exact zr<|za R R<|zn<|zt<|z1 R R (rI (by rw [H4,if_pos c10]))
 refine zi<|zs<|?_
 have hT:=Vf c10
 refine Ag (by kernel_rfl)<|za R R<|zn<|zs<|zr<|zm R R<|XL.len R R R Tryz.underlying80 fun hl12=>zm R R<|zn<|Ah<|?_
 refine Az (α:=Nat) (fun k=>k≤l.length) (fun k=>mkF [(1, .d (dI n)),(4, .d (dI 0)),(5, .d (dI (hits (l.take k) n:Int))),(11, .d (.sl 4 (l.map Tp.c))),(12, .d (dI l.length)),(13, .d (dI k))]) (fun k=>mkH []) (fun k=>l.length - k) (0) (Nat.zero_le _) ?_ ?_ ?_
 exact fz ⟨sr,sr,sr,sr,sr,sr,trivial⟩
 exact HSub.nil
 intro k hk0
 refine zr<|zp (Au R R R)<|zn<|zs<|?_
 refine zd R (fun c14=> ?_) (fun c14=> ?_)
 have hk0a:k<l.length:=by omega
 obtain ⟨x0,hx0⟩:=Ar hk0a
 have hok:=hT.ok x0 (List.mem_of_getElem? hx0)
 have hle:=Nat.le_trans (Qw l k n) (hT.hits n)
 refine zi<|zs<|Ah<|zr<|zp (Ao R R R E3 hx0)<|zp (Ae (s':= .d (.agg (Tp.c x0))) (Ay R R B9 lb) (by kernel_rfl))<|XL.step R (Aq 7 (l:= [.d (dI 0), .d (dI 0), .d (dI 0), .d (dI 0)]) R Dy (by kernel_rfl))<|XL.step R (Af (l':= [.d (dI x0.first), .d (dI x0.count), .d (dI x0.actual), .d (dI x0.normal)]) R R R R Fc R lb (by kernel_rfl))<|znr<|?_
 refine zp (Ae (s':= .d (.agg (Tp.c x0))) (Ac (Ad R R B9 R lb)) (by kernel_rfl))<|zm R R<|XL.call1 R R (Sz _ _ (by assumption) (by omega) (by omega)) R<|zn<|?_
 refine zd R (fun c19=> ?_) (fun c19=> ?_)
 refine Ag (by kernel_rfl)<|zm R R<|zp (Al R R R (by omega) (by omega))<|za R R<|zn<|Ag (by kernel_rfl)<|zp (Al R R R (by omega) (by omega))<|zm R R<|zn<|?_
 exact Am (k+1) (by omega) (by omega) (fz ⟨sr,sr, .same (sI (by rw [Am7 hx0 c19];rfl)),sr,sr,sr,trivial⟩) (HSub.nil)
 refine zi<|Ag (by kernel_rfl)<|zp (Al R R R (by omega) (by omega))<|zm R R<|zn<|?_
 exact Am (k+1) (by omega) (by omega) (fz ⟨sr,sr, .same (sI (by rw [Aqe hx0 c19])),sr,sr,sr,trivial⟩) (HSub.nil)
 have hk0b:k=l.length:=by omega
 have ht:l.take k=l:=by rw [hk0b,List.take_length]
 exact At<|zr<|zm R R<|za R R<|zn<|zt<|z1 R R (rI (by rw [H4,if_neg c10,ht]))
end Go.Proofs.YtaafemnkamfgnaaGreat
namespace Go.Proofs.YtaafemnkamfgnaaGreat
open Go.RowKit
def tot (l:List Int):Int:=l.foldl (· + ·) 0
theorem O9 (l:List Int) (x:Int):tot (l++ [x])=tot l+x:=by unfold tot;rw [List.foldl_append];rfl
theorem S8 {l:List Int} {k:Nat} {x:Int} (h:l[k]? =some x):tot (l.take (k+1))=tot (l.take k)+x:=by rw [B3 h,O9]
structure Nums (l:List Int):Prop where
 len:l.length≤128
 bd:∀x∈l,0≤x∧x≤253671505920
theorem Apa {l:List Int}:(∀x∈l,0≤x∧x≤253671505920)→0≤tot l∧tot l≤(l.length:Int)*253671505920:=by
 refine Ta (p:=fun l=>(∀x∈l,0≤x∧x≤253671505920)→0≤tot l∧tot l≤(l.length:Int)*253671505920) (fun _=>by simp [tot]) (fun l x ih h=> ?_) l
 have h1:=ih fun y hy=>h y (List.mem_append_left _ hy)
 have h2:=h x (List.mem_append_right _ (List.mem_singleton.2 rfl))
 rw [O9,List.length_append,List.length_singleton,Int.natCast_add,Int.add_mul]
 omega
theorem Nums.tot {l:List Int} (h:Nums l):0≤Go.Proofs.YtaafemnkamfgnaaGreat.tot l∧Go.Proofs.YtaafemnkamfgnaaGreat.tot l≤32469952757760:=by
 have:=Apa h.bd
 have:=h.len
 omega
theorem Nums.take {l:List Int} (h:Nums l) (k:Nat):Nums (l.take k):=⟨Nat.le_trans (List.length_take_le' _ _) h.len,fun x hx=>h.bd x (List.mem_of_mem_take hx)⟩
def Evs (l:List Ev):Prop:=∀e∈l,e.art≤9223372036854775807
def wrS (l:List Ev):List Int:=l.map Ev.len
theorem Alt (l:List Int) (h:Nums l):XC Tryz.prog 116 [.sl 1 (Cg l)] (fun r=>r=dI (tot l)):=by
 refine An Acp Tryz.func116 R R lb<|zr<|za R R<|znr<|za R R<|zn<|zs<|zr<|zm R R<|XL.len R R R Tryz.underlying45 fun hl7=>zm R R<|zn<|Ah<|?_
 refine Az (α:=Nat) (fun k=>k≤l.length) (fun k=>mkF [(2, .d (dI 0)),(3, .d (dI (tot (l.take k)))),(6, .d (.sl 1 (Cg l))),(7, .d (dI l.length)),(8, .d (dI k))]) (fun k=>mkH []) (fun k=>l.length - k) (0) (Nat.zero_le _) ?_ ?_ ?_
 exact fz ⟨sr,sr,sr,sr,sr,trivial⟩
 exact HSub.nil
 intro k hk0
 refine zr<|zp (Au R R R)<|zn<|zs<|?_
 refine zd R (fun c9=> ?_) (fun c9=> ?_)
 have hk0a:k<l.length:=by omega
 obtain ⟨x0,hx0⟩:=Ar hk0a
 have h1:=(h.take k).tot
 have h2:=h.bd x0 (List.mem_of_getElem? hx0)
 refine zi<|zs<|Ah<|zr<|zp (Ao R R R Dt hx0)<|zp (Bg R R Ai)<|za R R<|zng<|zm R R<|zm R R<|zp (Al R R R (by omega) (by omega))<|za R R<|zn<|Ag (by kernel_rfl)<|?_
 refine zp (Al R R R (by omega) (by omega))<|zm R R<|zn<|?_
 exact Am (k+1) (by omega) (by omega) (fz ⟨sr, .same (sI (by rw [S8 hx0])),sr,sr,sr,trivial⟩) (HSub.nil)
 have hk0b:k=l.length:=by omega
 have ht:l.take k=l:=by rw [hk0b,List.take_length]
 exact At<|zr<|zm R R<|za R R<|zn<|zt<|z1 R R (rI (by rw [ht]))
def Kg (l:List Int) (k:Nat):List Int:=(List.range l.length).map fun j=>if j<k then tot (l.take j) else 0
def Ba (l:List Int):List Int:=(List.range l.length).map fun j=>tot (l.take j)
theorem Zi (l:List Int) (k:Nat):(Kg l k).length=l.length:=by rw [Kg,List.length_map,List.length_range]
theorem Amo (l:List Int):List.replicate l.length (0:Int)=Kg l 1:=by
 rw [Kg]
 refine List.ext_getElem? fun j=> ?_
 rw [List.getElem?_replicate,List.getElem?_map]
 by_cases h:j<l.length
 ·rw [if_pos h,List.getElem?_range h,Option.map_some]
  congr 1
  split
  ·have:j=0:=by omega
   subst this;rfl
  ·rfl
 ·rw [if_neg h,List.getElem?_eq_none (by rw [List.length_range];omega)];rfl
theorem Zj {l:List Int} {j k:Nat} (h:j<k) (hj:j<l.length):(Kg l k)[j]? =some (tot (l.take j)):=by
 rw [Kg,List.getElem?_map,List.getElem?_range hj,Option.map_some,if_pos h]
theorem Amn {l:List Int} {k:Nat} (hk:k<l.length):(Kg l k).set k (tot (l.take k))=Kg l (k+1):=by
 refine List.ext_getElem? fun j=> ?_
 rw [List.getElem?_set]
 split
 ·rename_i h
  subst h
  rw [if_pos (by rw [Zi];exact hk),Zj (by omega) hk]
 ·rename_i h
  rw [Kg,Kg,List.getElem?_map,List.getElem?_map]
  by_cases hj:j<l.length
  ·rw [List.getElem?_range hj,Option.map_some,Option.map_some]
   congr 1
   by_cases e:j<k
   ·rw [if_pos e,if_pos (by omega)]
   ·rw [if_neg e,if_neg (by omega)]
  ·rw [List.getElem?_eq_none (by rw [List.length_range];omega)];rfl
theorem Amp {l:List Int} {k:Nat} (hk:l.length≤k):Kg l k=Ba l:=by
 rw [Kg,Ba]
 refine List.map_congr_left fun j hj=> ?_
 rw [if_pos (by have:=List.mem_range.1 hj;omega)]
theorem Wr (l:List Int) (h:Nums l):XC Tryz.prog 96 [.sl 1 (Cg l)] (fun r=>r= .sl 1 (Cg (Ba l))):=by
 have hll:=h.len
 refine An Adv Tryz.func96 R R lb<|zr<|za R R<|znr<|zm R R<|XL.len R R R Tryz.underlying45 fun hl6=>XL.step R (Ow 7 (z:=(.int .i64 0)) (zs:= [dI 0]) (sz:=1) (bytes:=8) R R R Tryz.underlying45 (by kernel_rfl) (by kernel_rfl) (by kernel_rfl) (by decide) (by decide) (by omega) (by unfold maxLen;omega) (by omega))<|zp (Aw R (by conv=>lhs;whnf))<|?_
 refine zn<|zs<|zr<|za R R<|zn<|Ah<|?_
 refine Az (α:=Nat) (fun k=>1≤k∧k≤l.length+1) (fun k=>mkF [(0, .d (.sl 1 (Cg l))),(2, .d (.v (.slice none 0 0))),(3, .own 7),(4, .d (dI k))]) (fun k=>mkH [(7, .row 3 1 ((Kg l k).map iv))]) (fun k=>l.length+1 - k) (1) (⟨Nat.le_refl _,by omega⟩) ?_ ?_ ?_
 exact fz ⟨sr,sr,sr,sr,trivial⟩
 exact gz ⟨by rw [←Amo,List.map_replicate];rfl,trivial⟩
 intro k hk0
 refine zs<|zr<|zm R R<|zm R R<|XL.len R R R Tryz.underlying45 fun hl10=>zp (Au R R R)<|zn<|?_
 refine zd R (fun c11=> ?_) (fun c11=> ?_)
 have hkl:k<l.length:=by omega
 have h1:=(h.take (k - 1)).tot
 obtain ⟨x,hx⟩:∃x,l[k - 1]? =some x:=Ar (by omega)
 have h2:=h.bd x (List.mem_of_getElem? hx)
 have ho:=Zj (l:=l) (k:=k) (j:=k - 1) (by omega) (by omega)
 have hol:=Zi l k
 obtain ⟨z,hz⟩:∃z,(Kg l k)[k]? =some z:=Ar (by omega)
 have htk:tot (l.take k)=tot (l.take (k - 1))+x:=by have:=S8 hx;rwa [Nat.sub_add_cancel (by omega)] at this
 refine zi<|zs<|Ah<|Cq 13 [] (by kernel_rfl) (by kernel_rfl) (by kernel_rfl) (by kernel_rfl) (by decide)<|yp (As R (by conv=>lhs;whnf))<|?_
 refine ym R R<|yp (As R (by conv=>lhs;whnf))<|?_
 refine ym R R<|yp (Fk R R R (by omega) (by omega))<|yp (Ck R R R ((by omega:(k:Int) - 1=((k - 1:Nat):Int))) R Dt (by omega))<|yp (I1 R R Ai R (C2 (ho)) R)<|ym R R<|ym R R<|yp (Fk R R R (by omega) (by omega))<|yp (Ma R R R ((by omega:(k:Int) - 1=((k - 1:Nat):Int))) Dt (hx))<|yp (Bg R R Ai)<|yp (Al R R R (by omega) (by omega))<|?_
 refine ChK.nil ⟨by kernel_rfl, ?_⟩
 refine zp (Kc R R R R Dt (by omega))<|XL.step R (D8 R R R (C2 hz) R R Ey R lb)<|zn<|Ag (by kernel_rfl)<|zm R R<|zp (Al R R R (by omega) (by omega))<|za R R<|zn<|?_
 exact Am (k+1) (by omega) (by omega) (fz ⟨sr,sr,sr,sr,trivial⟩) (gz ⟨Od (a:=tot (l.take k)) (by rw [htk];rfl) (Amn hkl).symm,trivial⟩)
 have he:=Amp (l:=l) (k:=k) (by omega)
 refine At<|zr<|zp (As R (by conv=>lhs;whnf))<|?_
 refine zp (Aw R (by conv=>lhs;whnf))<|?_
 exact zn<|zt<|Cd (i:=7) R<|z1 R R (rSl he)
end Go.Proofs.YtaafemnkamfgnaaGreat
namespace Go.Proofs.YtaafemnkamfgnaaGreat
open Go.RowKit
def I6 (f:Nat→Int) (n k:Nat):List Int:=(List.range n).map fun j=>if j<k then f j else 0
theorem Xj (f:Nat→Int) (n k:Nat):(I6 f n k).length=n:=by rw [I6,List.length_map,List.length_range]
theorem Ahy (f:Nat→Int) (n:Nat):List.replicate n (0:Int)=I6 f n 0:=by
 rw [I6]
 refine List.ext_getElem? fun j=> ?_
 rw [List.getElem?_replicate,List.getElem?_map]
 by_cases h:j<n
 ·rw [if_pos h,List.getElem?_range h,Option.map_some,if_neg (by omega)]
 ·rw [if_neg h,List.getElem?_eq_none (by rw [List.length_range];omega)];rfl
theorem Akq {f:Nat→Int} {n k:Nat} (hk:k<n):I6 f n (k+1)=(I6 f n k).set k (f k):=by
 refine List.ext_getElem? fun j=> ?_
 rw [List.getElem?_set]
 split
 ·rename_i h
  subst h
  rw [if_pos (by rw [Xj];exact hk),I6,List.getElem?_map,List.getElem?_range hk,Option.map_some,if_pos (by omega)]
 ·rename_i h
  rw [I6,I6,List.getElem?_map,List.getElem?_map]
  by_cases hj:j<n
  ·rw [List.getElem?_range hj,Option.map_some,Option.map_some]
   congr 1
   by_cases e:j<k
   ·rw [if_pos e,if_pos (by omega)]
   ·rw [if_neg e,if_neg (by omega)]
  ·rw [List.getElem?_eq_none (by rw [List.length_range];omega)];rfl
theorem Akr {f:Nat→Int} {n k:Nat} (hk:n≤k):I6 f n k=(List.range n).map f:=by
 rw [I6]
 refine List.map_congr_left fun j hj=> ?_
 rw [if_pos (by have:=List.mem_range.1 hj;omega)]
def Md (l:List Ev) (j:Nat):Int:=((l[j]?).map Ev.len).getD 0
theorem Am0 {l:List Ev} {k:Nat} {e:Ev} (h:l[k]? =some e):Md l k=e.len:=by rw [Md,h];rfl
theorem Aj4 (l:List Ev):(List.range l.length).map (Md l)=wrS l:=by
 refine List.ext_getElem? fun j=> ?_
 rw [List.getElem?_map,wrS,List.getElem?_map]
 by_cases hj:j<l.length
 ·rw [List.getElem?_range hj,Option.map_some,Md,List.getElem?_eq_getElem hj];rfl
 ·rw [List.getElem?_eq_none (by rw [List.length_range];omega),List.getElem?_eq_none (by omega)];rfl
theorem Ac9 (l:List Ev) (hE:Evs l) (hlen:l.length≤128):XC Tryz.prog 168 [.sl 13 (l.map Ev.c)] (fun r=>r= .sl 1 (Cg (wrS l))):=by
 refine An Abv Tryz.func168 R R lb<|zr<|za R R<|znr<|zm R R<|XL.len R R R Tryz.underlying79 fun hl7=>XL.step R (Ow 8 (z:=(.int .i64 0)) (zs:= [dI 0]) (sz:=1) (bytes:=8) R R R Tryz.underlying45 (by kernel_rfl) (by kernel_rfl) (by kernel_rfl) (by decide) (by decide) (by omega) (by unfold maxLen;omega) (by omega))<|zp (Aw R (by conv=>lhs;whnf))<|?_
 refine zn<|zs<|zr<|zm R R<|XL.len R R R Tryz.underlying79 fun hl10=>zm R R<|zn<|Ah<|?_
 refine Az (α:=Nat) (fun k=>k≤l.length) (fun k=>mkF [(2, .d (.v (.slice none 0 0))),(3, .own 8),(9, .d (.sl 13 (l.map Ev.c))),(10, .d (dI l.length)),(11, .d (dI k))]) (fun k=>mkH [(8, .row 3 1 ((I6 (Md l) l.length k).map iv))]) (fun k=>l.length - k) (0) (Nat.zero_le _) ?_ ?_ ?_
 exact fz ⟨sr,sr,sr,sr,sr,trivial⟩
 exact gz ⟨by rw [←Ahy,List.map_replicate];rfl,trivial⟩
 intro k hk0
 refine zr<|zp (Au R R R)<|zn<|zs<|?_
 refine zd R (fun c12=> ?_) (fun c12=> ?_)
 have hk0a:k<l.length:=by omega
 obtain ⟨x0,hx0⟩:=Ar hk0a
 have he:=hE x0 (List.mem_of_getElem? hx0)
 have hfl:=Xj (Md l) l.length k
 obtain ⟨z,hz⟩:∃z,(I6 (Md l) l.length k)[k]? =some z:=Ar (by omega)
 refine zi<|zs<|Ah<|zr<|zm R R<|zp (Ao R R R F5 hx0)<|zp (Ae (s':= .d (.agg (Ev.c x0))) (Ay R R Bq lb) (by kernel_rfl))<|XL.step R (Aq 5 (l:= [.d (dI 0), .d (dI 0), .d (dI 0), .d (dI 0), .d (dI 0), .d (.v (.slice none 0 0)), .d (.v (.slice none 0 0)), .d (dI 0), .d (dI 0), .d (dI 0), .d (.v (.slice none 0 0)), .d (dI 0), .d (dI 0)]) R Cc (by kernel_rfl))<|?_
 refine za R R<|XL.step R (Af (l':= [.d (dI x0.site), .d (dI x0.num), .d (dI x0.kind), .d (dI x0.v.log), .d (dI x0.v.dots), .d (.sl 5 (x0.heads.map Hd.c)), .d (.sl 5 (x0.graces.map Gr.c)), .d (dI x0.art), .d (dI x0.orn), .d (dI x0.dyn), .d (.sl 2 (x0.lyr.map Sy.c)), .d (dI x0.stem), .d (dI x0.beam)]) R R R R C4 R lb (by kernel_rfl))<|zng<|zp (As R (by conv=>lhs;whnf))<|?_
 refine zm R R<|zp (Ae (s':= .d (.agg (Ev.c x0))) (Ac (Ad R R Bq R lb)) (by kernel_rfl))<|XL.call1 R R (Agk _ (by assumption)) R<|zm R R<|zp (A0 R R R)<|zp (A0 R R R)<|zp (Kc R R R R Dt (by omega))<|XL.step R (D8 R R R (C2 hz) R R Ey R lb)<|zn<|Ag (by kernel_rfl)<|zp (Al R R R (by omega) (by omega))<|zm R R<|zn<|?_
 exact Am (k+1) (by omega) (by omega) (fz ⟨sr,sr,sr,sr,sr,trivial⟩) (gz ⟨Od (a:=Md l k) (by rw [Am0 hx0];rfl) (Akq hk0a),trivial⟩)
 have hk0b:k=l.length:=by omega
 have he:=Akr (f:=Md l) (n:=l.length) (k:=k) (by omega)
 refine At<|zr<|zp (As R (by conv=>lhs;whnf))<|?_
 refine zp (Aw R (by conv=>lhs;whnf))<|?_
 exact zn<|zt<|Cd (i:=8) R<|z1 R R (rSl (by rw [he,Aj4]))
def Vo.whole (v:Vo):Prop:=match v.evs with| []=>False|e::_=>e.kind=3
instance (v:Vo):Decidable v.whole:=by unfold Vo.whole;cases v.evs<;>exact inferInstance
theorem Kw {v:Vo} {e:Ev} (h:v.evs[0]? =some e):v.whole↔e.kind=3:=by
 unfold Vo.whole
 cases hv:v.evs with
 |nil=>rw [hv] at h;cases h
 |cons x l=>rw [hv] at h;cases h;exact Iff.rfl
theorem Alq {v:Vo} (h:¬0<(v.evs.length:Int)):¬v.whole:=by
 unfold Vo.whole
 cases hv:v.evs with
 |nil=>exact fun h=>h
 |cons x l=>rw [hv] at h;simp at h
def Vo.absent (v:Vo):Prop:=v.evs.length=0∧v.tups.length=0
instance (v:Vo):Decidable v.absent:=by unfold Vo.absent;exact inferInstance
theorem Alp (v:Vo):XC Tryz.prog 143 [.agg (Vo.c v)] (fun r=>r=dB (decide v.whole)):=by
 refine An Ace Tryz.func143 R R lb<|zr<|XL.step R (Ap 1 (l:= [.d (.sl 13 (v.evs.map Ev.c)), .d (.sl 4 (v.tups.map Tp.c))]) R R (by kernel_rfl))<|za R R<|znr<|zp (Aa R R Bo)<|zp (Ab R R Cz R R)<|XL.len R R R Tryz.underlying79 fun hl5=>zp (Bb R R R)<|zm R R<|?_
 refine XL.dec 7 R (fun g7=> ?_) (fun g7=> ?_)
 obtain ⟨e,he⟩:∃e,v.evs[0]? =some e:=Ar (by omega)
 exact zp (Aa R R Bo)<|zp (Ab R R Cz R R)<|zp (Ao (k:=0) R R R F5 (he))<|zp (Gz R R Dj)<|zp (Bg R R Ai)<|zp (Bi R R R)<|zq R R R<|za R R<|zn<|zt<|z1 R R (rB (by rw [decide_eq_decide];exact (Kw he).symm))
 exact zk 6 R<|zq R R R<|za R R<|zn<|zt<|z1 R R (rB (by rw [eq_comm,decide_eq_false_iff_not];exact Alq g7))
theorem Ago (v:Vo):XC Tryz.prog 129 [.agg (Vo.c v)] (fun r=>r=dB (decide v.absent)):=by
 refine An Acn Tryz.func129 R R lb<|zr<|XL.step R (Ap 1 (l:= [.d (.sl 13 (v.evs.map Ev.c)), .d (.sl 4 (v.tups.map Tp.c))]) R R (by kernel_rfl))<|za R R<|znr<|zp (Aa R R Bo)<|zp (Ab R R Cz R R)<|XL.len R R R Tryz.underlying79 fun hl5=>zp (Bi R R R)<|zm R R<|?_
 refine XL.dec 7 R (fun g7=> ?_) (fun g7=> ?_)
 exact zp (Aa R R B6)<|zp (Ab R R B7 R R)<|XL.len R R R Tryz.underlying80 fun hl10=>zp (Bi R R R)<|zq R R R<|za R R<|zn<|zt<|z1 R R (rB (by rw [decide_eq_decide];unfold Vo.absent;omega))
 exact zk 4 R<|zq R R R<|za R R<|zn<|zt<|z1 R R (rB (by rw [eq_comm,decide_eq_false_iff_not];unfold Vo.absent;omega))
def G3 (n:Nat):Nat→List Ev→Int
 |_, []=>0
 |k,e::r=>if e.err≠0 then e.err else if e.kind=3∧(0<k∨1<n) then 11 else G3 n (k+1) r
def Fp (v:Vo):Int:=
 if G3 v.evs.length 0 v.evs≠0 then G3 v.evs.length 0 v.evs else if C9 v.tups (wrS v.evs)≠0 then C9 v.tups (wrS v.evs) else if Fb v.tups (wrS v.evs)≠0 then 21 else 0
def G2 (v:Vo):List Int:=if Fp v=0 then Ho v.tups (wrS v.evs) else []
theorem Z2 {n k:Nat} {l:List Ev} {e:Ev} (h:l[k]? =some e) (he:e.err≠0):G3 n k (l.drop k)=e.err:=by rw [B5 h,G3,if_pos he]
theorem N7 {n k:Nat} {l:List Ev} {e:Ev} (h:l[k]? =some e) (he:¬e.err≠0) (hk:e.kind=3∧(0<k∨1<n)):G3 n k (l.drop k)=11:=by rw [B5 h,G3,if_neg he,if_pos hk]
theorem W9 {n k:Nat} {l:List Ev} {e:Ev} (h:l[k]? =some e) (he:¬e.err≠0) (hk:¬(e.kind=3∧(0<k∨1<n))):G3 n k (l.drop k)=G3 n (k+1) (l.drop (k+1)):=by rw [B5 h,G3,if_neg he,if_neg hk]
theorem Rz {v:Vo} {e:Int} (he:e=G3 v.evs.length 0 v.evs) (hn:e≠0): []=G2 v∧e=Fp v:=by
 have e2:Fp v=e:=by rw [Fp, ←he,if_pos hn]
 exact ⟨by rw [G2,e2,if_neg hn],e2.symm⟩
theorem Aol {v:Vo} (h:G3 v.evs.length 0 v.evs=0) (hn:C9 v.tups (wrS v.evs)≠0): []=G2 v∧C9 v.tups (wrS v.evs)=Fp v:=by
 have e2:Fp v=C9 v.tups (wrS v.evs):=by rw [Fp,if_neg (by omega),if_pos hn]
 exact ⟨by rw [G2,e2,if_neg hn],e2.symm⟩
theorem Aok {v:Vo} (h:G3 v.evs.length 0 v.evs=0) (h2:¬C9 v.tups (wrS v.evs)≠0) (hn:Fb v.tups (wrS v.evs)≠0): []=G2 v∧21=Fp v:=by
 have e2:Fp v=21:=by rw [Fp,if_neg (by omega),if_neg h2,if_pos hn]
 exact ⟨by rw [G2,e2,if_neg (by decide)],e2.symm⟩
theorem Aoj {v:Vo} (h:G3 v.evs.length 0 v.evs=0) (h2:¬C9 v.tups (wrS v.evs)≠0) (h3:¬Fb v.tups (wrS v.evs)≠0):Ho v.tups (wrS v.evs)=G2 v∧0=Fp v:=by
 have e2:Fp v=0:=by rw [Fp,if_neg (by omega),if_neg h2,if_neg h3]
 exact ⟨by rw [G2,e2,if_pos rfl],e2.symm⟩
theorem Z1 (v:Vo) (hE:Evs v.evs) (hlen:v.evs.length≤128):XC Tryz.prog 145 [.agg (Vo.c v)] (fun r=>r= .tup [.sl 1 (Cg (G2 v)),dI (Fp v)]):=by
 refine An Acc Tryz.func145 R R lb<|zr<|XL.step R (Ap 1 (l:= [.d (.sl 13 (v.evs.map Ev.c)), .d (.sl 4 (v.tups.map Tp.c))]) R R (by kernel_rfl))<|za R R<|za R R<|zn<|zs<|zr<|zp (Aa R R Bo)<|zp (Ab R R Cz R R)<|XL.len R R R Tryz.underlying79 fun hl14=>zm R R<|zn<|Ah<|?_
 refine Az (α:=Nat) (fun k=>k≤v.evs.length∧G3 v.evs.length k (v.evs.drop k)=G3 v.evs.length 0 v.evs) (fun k=>mkF [(1, .ptr 1 0 0),(13, .d (.sl 13 (v.evs.map Ev.c))),(14, .d (dI v.evs.length)),(15, .d (dI k))]) (fun k=>mkH [(1, .box ((Vo.c v).map S.d))]) (fun k=>v.evs.length - k) (0) (⟨Nat.zero_le _,by rw [List.drop_zero]⟩) ?_ ?_ ?_
 exact fz ⟨sr,sr,sr,sr,trivial⟩
 exact gz ⟨R,trivial⟩
 intro k hk0
 obtain ⟨hk,hgo⟩:=hk0
 refine zr<|zp (Au R R R)<|zn<|zs<|?_
 refine zd R (fun c16=> ?_) (fun c16=> ?_)
 have hk0a:k<v.evs.length:=by omega
 obtain ⟨x0,hx0⟩:=Ar hk0a
 have he:=hE x0 (List.mem_of_getElem? hx0)
 refine zi<|zs<|Ah<|zr<|zm R R<|zp (Ao R R R F5 hx0)<|zp (Ae (s':= .d (.agg (Ev.c x0))) (Ay R R Bq lb) (by kernel_rfl))<|XL.step R (Aq 5 (l:= [.d (dI 0), .d (dI 0), .d (dI 0), .d (dI 0), .d (dI 0), .d (.v (.slice none 0 0)), .d (.v (.slice none 0 0)), .d (dI 0), .d (dI 0), .d (dI 0), .d (.v (.slice none 0 0)), .d (dI 0), .d (dI 0)]) R Cc (by kernel_rfl))<|?_
 refine za R R<|XL.step R (Af (l':= [.d (dI x0.site), .d (dI x0.num), .d (dI x0.kind), .d (dI x0.v.log), .d (dI x0.v.dots), .d (.sl 5 (x0.heads.map Hd.c)), .d (.sl 5 (x0.graces.map Gr.c)), .d (dI x0.art), .d (dI x0.orn), .d (dI x0.dyn), .d (.sl 2 (x0.lyr.map Sy.c)), .d (dI x0.stem), .d (dI x0.beam)]) R R R R C4 R lb (by kernel_rfl))<|zn<|zs<|zr<|?_
 refine zp (Ae (s':= .d (.agg (Ev.c x0))) (Ac (Ad R R Bq R lb)) (by kernel_rfl))<|XL.call1 R R (Q6 _ (by assumption)) R<|za R R<|znr<|zm R R<|zp (A1 R R R)<|zn<|?_
 refine zd R (fun c23=> ?_) (fun c23=> ?_)
 refine zr<|zm R R<|za R R<|za R R<|zn<|zt<|?_
 exact A6 R (RV.nil (sz:=1) R R) (RV.tmp R R) (r2 (rSl (Rz (by rw [←hgo,Z2 hx0 c23]) c23).1) (rI (Rz (by rw [←hgo,Z2 hx0 c23]) c23).2))
 refine zi<|zr<|zp (Aa R R Dj)<|zp (Ab R R Ai R R)<|zp (Bi R R R)<|zm R R<|?_
 refine XL.dec 28 R (fun g28=> ?_) (fun g28=> ?_)
 refine zm R R<|zp (Bb R R R)<|zm R R<|?_
 refine XL.dec 31 R (fun g31=> ?_) (fun g31=> ?_)
 refine zk 4 R<|zq R R R<|zq R R R<|zn<|Av (by kernel_rfl) R<|zr<|za R R<|za R R<|zn<|zt<|?_
 exact A6 R (RV.nil (sz:=1) R R) (RV.tmp R R) (r2 (rSl (Rz (e:=11) (by rw [←hgo,N7 hx0 c23 (by omega)]) (by decide)).1) (rI (Rz (by rw [←hgo,N7 hx0 c23 (by omega)]) (by decide)).2))
 refine zp (Aa R R Bo)<|zp (Ab R R Cz R R)<|XL.len R R R Tryz.underlying79 fun hl34=>zp (Bb R R R)<|zq R R R<|zq R R R<|zn<|?_
 refine zd R (fun c37=> ?_) (fun c37=> ?_)
 refine zr<|za R R<|za R R<|zn<|zt<|?_
 exact A6 R (RV.nil (sz:=1) R R) (RV.tmp R R) (r2 (rSl (Rz (e:=11) (by rw [←hgo,N7 hx0 c23 (by omega)]) (by decide)).1) (rI (Rz (by rw [←hgo,N7 hx0 c23 (by omega)]) (by decide)).2))
 refine zi<|Ag (by kernel_rfl)<|zp (Al R R R (by omega) (by omega))<|zm R R<|zn<|?_
 exact Am (k+1) (⟨by omega,by rw [←W9 hx0 c23 (by omega)];exact hgo⟩) (by omega) (fz ⟨sr,sr,sr,sr,trivial⟩) (gz ⟨rfl,trivial⟩)
 refine zk 8 R<|zq R R R<|zn<|A8 (by kernel_rfl) R<|zi<|Ag (by kernel_rfl)<|zp (Al R R R (by omega) (by omega))<|zm R R<|zn<|?_
 exact Am (k+1) (⟨by omega,by rw [←W9 hx0 c23 (by omega)];exact hgo⟩) (by omega) (fz ⟨sr,sr,sr,sr,trivial⟩) (gz ⟨rfl,trivial⟩)
 have hk0b:k=v.evs.length:=by omega
 have hz:G3 v.evs.length 0 v.evs=0:=by rw [←hgo,hk0b,List.drop_length];rfl
 refine At<|zr<|zp (Aa R R Bo)<|zp (Ab R R Cz R R)<|XL.call1 R R (Ac9 _ (by assumption) (by omega)) R<|za R R<|znr<|zp (Aa R R B6)<|zp (Ab R R B7 R R)<|zm R R<|XL.call1 R R (Sr _ _) R<|zm R R<|zp (A0 R R R)<|zp (A0 R R R)<|?_
 refine za R R<|za R R<|zn<|zs<|zr<|zm R R<|zp (A1 R R R)<|zn<|?_
 refine zd R (fun c50=> ?_) (fun c50=> ?_)
 refine zr<|zm R R<|za R R<|za R R<|zn<|zt<|?_
 exact A6 R (RV.nil (sz:=1) R R) (RV.tmp R R) (r2 (rSl (Aol hz c50).1) (rI (Aol hz c50).2))
 refine zi<|zs<|zr<|zp (Aa R R B6)<|zp (Ab R R B7 R R)<|zm R R<|XL.call1 R R (Alr _ _) R<|zm R R<|zp (A0 R R R)<|zp (A0 R R R)<|za R R<|za R R<|znr<|zm R R<|?_
 refine zp (A1 R R R)<|zn<|?_
 refine zd R (fun c60=> ?_) (fun c60=> ?_)
 refine zr<|za R R<|za R R<|zn<|zt<|?_
 exact A6 R (RV.nil (sz:=1) R R) (RV.tmp R R) (r2 (rSl (Aok hz c50 c60).1) (rI (Aok hz c50 c60).2))
 refine zi<|zr<|zm R R<|za R R<|za R R<|zn<|zt<|?_
 exact A6 R (RV.tmp R R) (RV.tmp R R) (r2 (rSl (Aoj hz c50 c60).1) (rI (Aoj hz c50 c60).2))
def Dq (v:Vo) (L:Int):Int:=
 if L<1∨15482880<L then 2 else if 128<v.evs.length then 9 else
 if v.whole∧v.evs.length=1 then (match v.evs with| []=>0|e::_=>if e.err≠0 then e.err else if 0<v.tups.length then 21 else 0) else Fp v
def E0 (v:Vo) (L:Int):List Int:=if Dq v L≠0 then [] else if v.whole∧v.evs.length=1 then [L] else G2 v
def ckE (v:Vo) (L:Int):Int:=if Dq v L=0∧0<(E0 v L).length∧tot (E0 v L)≠L then 20 else Dq v L
def ckL (v:Vo) (L:Int):List Int:=if ckE v L≠0 then [] else E0 v L
theorem X6 {v:Vo} {L:Int} (h:L<1∨15482880<L): []=E0 v L∧2=Dq v L:=by
 have e:Dq v L=2:=by rw [Dq,if_pos h]
 exact ⟨by rw [E0,e,if_pos (by decide)],e.symm⟩
theorem Aoh {v:Vo} {L:Int} (h:¬L<1) (h':¬15482880<L) (h2:128<(v.evs.length:Int)): []=E0 v L∧9=Dq v L:=by
 have e:Dq v L=9:=by rw [Dq,if_neg (by omega),if_pos (by omega)]
 exact ⟨by rw [E0,e,if_pos (by decide)],e.symm⟩
theorem Aho {v:Vo} {L:Int} (h:¬L<1) (h':¬15482880<L) (h2:¬128<(v.evs.length:Int)) (hw:v.whole) (h1:(v.evs.length:Int)=1) {e:Ev} (he:v.evs[0]? =some e):
  Dq v L=(if e.err≠0 then e.err else if 0<v.tups.length then 21 else 0):=by
 rw [Dq,if_neg (by omega),if_neg (by omega),if_pos ⟨hw,by omega⟩]
 cases hv:v.evs with
 |nil=>rw [hv] at he;cases he
 |cons x l=>rw [hv] at he;cases he;rfl
theorem X5 {v:Vo} {L:Int} (h:¬L<1) (h':¬15482880<L) (h2:¬128<(v.evs.length:Int)) (hw:¬(v.whole∧(v.evs.length:Int)=1)):G2 v=E0 v L∧Fp v=Dq v L:=by
 have hw':¬(v.whole∧v.evs.length=1):=fun k=>hw ⟨k.1,by omega⟩
 have e:Dq v L=Fp v:=by rw [Dq,if_neg (by omega),if_neg (by omega),if_neg hw']
 refine ⟨?_,e.symm⟩
 rw [E0,e,if_neg hw']
 split
 ·rename_i hn;rw [G2,if_neg hn]
 ·rfl
theorem U3 {v:Vo} {L a:Int} (h:Dq v L=a) (ha:a≠0): []=E0 v L∧a=Dq v L:=⟨by rw [E0,h,if_pos ha],h.symm⟩
theorem Aj3 {v:Vo} {L:Int} (h:Dq v L=0) (hw:v.whole) (h1:(v.evs.length:Int)=1): [L]=E0 v L∧0=Dq v L:=⟨by rw [E0,h,if_neg (by decide),if_pos ⟨hw,by omega⟩],h.symm⟩
theorem Ahn (v:Vo) (L:Int) (hE:Evs v.evs):XC Tryz.prog 115 [.agg (Vo.c v), .v (.int .i64 L)] (fun r=>r= .tup [.sl 1 (Cg (E0 v L)),dI (Dq v L)]):=by
 refine An Acq Tryz.func115 R R lb<|zr<|XL.step R (Ap 2 (l:= [.d (.sl 13 (v.evs.map Ev.c)), .d (.sl 4 (v.tups.map Tp.c))]) R R (by kernel_rfl))<|za R R<|za R R<|zn<|zs<|Ah<|zr<|zm R R<|zp (Au R R R)<|zm R R<|?_
 refine XL.dec 10 R (fun g10=> ?_) (fun g10=> ?_)
 refine zk 2 R<|zq R R R<|za R R<|zn<|Av (by kernel_rfl) R<|zr<|za R R<|za R R<|zn<|zt<|?_
 exact A6 R (RV.nil (sz:=1) R R) (RV.tmp R R) (r2 (rSl (X6 (v:=v) (by omega)).1) (rI (X6 (v:=v) (by omega)).2))
 refine zm R R<|zp (Bb R R R)<|zq R R R<|za R R<|zn<|?_
 refine zd R (fun c7=> ?_) (fun c7=> ?_)
 refine zr<|za R R<|za R R<|zn<|zt<|?_
 exact A6 R (RV.nil (sz:=1) R R) (RV.tmp R R) (r2 (rSl (X6 (v:=v) (by omega)).1) (rI (X6 (v:=v) (by omega)).2))
 refine zr<|zp (Aa R R Bo)<|zp (Ab R R Cz R R)<|XL.len R R R Tryz.underlying79 fun hl17=>zp (Bb R R R)<|za R R<|zn<|?_
 refine zd R (fun c14=> ?_) (fun c14=> ?_)
 refine zr<|za R R<|za R R<|zn<|zt<|?_
 exact A6 R (RV.nil (sz:=1) R R) (RV.tmp R R) (r2 (rSl (Aoh g10 c7 c14).1) (rI (Aoh g10 c7 c14).2))
 refine zi<|zs<|zr<|zp (Ae (s':= .d (.agg (Vo.c v))) (Ac (Ad R R Ax R lb)) (by kernel_rfl))<|XL.call1 R R (Alp _) R<|zm R R<|?_
 refine XL.dec 21 R (fun g21=> ?_) (fun g21=> ?_)
 refine zp (Aa R R Bo)<|zp (Ab R R Cz R R)<|XL.len R R R Tryz.underlying79 fun hl24=>zp (Bi R R R)<|zq R R R<|zn<|?_
 refine zd R (fun c26=> ?_) (fun c26=> ?_)
 refine zs<|zs<|?_
 obtain ⟨e,hxe⟩:∃e,v.evs[0]? =some e:=Ar (by omega)
 have he:=hE e (List.mem_of_getElem? hxe)
 have hle:=Aho (L:=L) g10 c7 c14 g21 c26 hxe
 refine Ag (by kernel_rfl)<|zp (Aa R R Bo)<|zp (Ab R R Cz R R)<|zp (Ao (k:=0) R R R F5 (hxe))<|zp (Ae (s':= .d (.agg (Ev.c e))) (Ay R R Bq lb) (by kernel_rfl))<|XL.call1 R R (Q6 _ (by assumption)) R<|za R R<|znr<|zm R R<|zp (A1 R R R)<|zn<|?_
 refine zd R (fun c33=> ?_) (fun c33=> ?_)
 refine zr<|zm R R<|za R R<|za R R<|zn<|zt<|?_
 exact A6 R (RV.nil (sz:=1) R R) (RV.tmp R R) (r2 (rSl (U3 (by rw [hle,if_pos c33]) c33).1) (rI (U3 (by rw [hle,if_pos c33]) c33).2))
 refine zi<|zs<|zr<|zp (Aa R R B6)<|zp (Ab R R B7 R R)<|XL.len R R R Tryz.underlying80 fun hl37=>zp (Bb R R R)<|zn<|?_
 refine zd R (fun c38=> ?_) (fun c38=> ?_)
 refine zr<|za R R<|za R R<|zn<|zt<|?_
 exact A6 R (RV.nil (sz:=1) R R) (RV.tmp R R) (r2 (rSl (U3 (a:=21) (by rw [hle,if_neg c33,if_pos (by omega)]) (by decide)).1) (rI (U3 (a:=21) (by rw [hle,if_neg c33,if_pos (by omega)]) (by decide)).2))
 refine zi<|zr<|zm R R<|XL.step R (Br 40 R Tryz.underlying45 Ey H0 R R (by omega) (by omega))<|zp (Aw R (by conv=>lhs;whnf))<|?_
 refine za R R<|zn<|zt<|Cd (i:=40) R<|?_
 exact A6 R (RV.tmp R R) (RV.tmp R R) (r2 (rSl (l:= [L]) (g:=iv) (Aj3 (by rw [hle,if_neg c33,if_neg (by omega)]) g21 c26).1) (rI (Aj3 (by rw [hle,if_neg c33,if_neg (by omega)]) g21 c26).2))
 refine zi<|zr<|zp (Ae (s':= .d (.agg (Vo.c v))) (Ac (Ad R R Ax R lb)) (by kernel_rfl))<|XL.call1 R R (Z1 _ (by assumption) (by omega)) R<|zp (A0 R R R)<|zp (A0 R R R)<|za R R<|za R R<|zn<|zt<|?_
 exact A6 R (RV.tmp R R) (RV.tmp R R) (r2 (rSl (X5 g10 c7 c14 (fun h=>c26 h.2)).1) (rI (X5 g10 c7 c14 (fun h=>c26 h.2)).2))
 refine zk 4 R<|zq R R R<|zn<|A8 (by kernel_rfl) R<|zi<|zr<|zp (Ae (s':= .d (.agg (Vo.c v))) (Ac (Ad R R Ax R lb)) (by kernel_rfl))<|XL.call1 R R (Z1 _ (by assumption) (by omega)) R<|zp (A0 R R R)<|zp (A0 R R R)<|za R R<|za R R<|zn<|zt<|?_
 exact A6 R (RV.tmp R R) (RV.tmp R R) (r2 (rSl (X5 g10 c7 c14 (fun h=>g21 h.1)).1) (rI (X5 g10 c7 c14 (fun h=>g21 h.1)).2))
end Go.Proofs.YtaafemnkamfgnaaGreat
namespace Go.Proofs.YtaafemnkamfgnaaGreat
open Go.RowKit
theorem Apz {l:List Tp} {n:Int} (hT:Tups l n) (ws:List Int):∀i x,x∈C1 l i ws→0≤x∧x≤253671505920:=by
 induction ws with
 |nil=>intro i x h;cases h
 |cons w r ih=>
  intro i x h
  rw [C1] at h
  rcases List.mem_cons.1 h with e|e
  ·rw [e];exact Y2 hT.ok (hT.hits i)
  ·exact ih _ _ e
theorem Ahd (l:List Tp) (ws:List Int):Nums (Ho l ws):=by
 unfold Ho
 split
 ·rename_i h
  have hT:=Ns (show ¬C9 l ws≠0 by omega)
  have hb:=hT.bd
  exact ⟨by rw [I2];omega,Apz hT ws 0⟩
 ·exact ⟨by simp,fun x h=>by cases h⟩
theorem Tj:Nums []:=⟨by simp,fun x h=>by cases h⟩
theorem Ajr (v:Vo):Nums (G2 v):=by
 unfold G2
 split
 ·exact Ahd _ _
 ·exact Tj
theorem Wv (v:Vo) (L:Int):Nums (E0 v L):=by
 unfold E0
 split
 ·exact Tj
 ·rename_i h
  split
  ·refine ⟨by simp,fun x hx=> ?_⟩
   rw [List.mem_singleton.1 hx]
   unfold Dq at h
   split at h
   ·omega
   ·omega
  ·exact Ajr v
theorem Jp (v:Vo) (L:Int):Nums (ckL v L):=by
 unfold ckL
 split
 ·exact Tj
 ·exact Wv v L
theorem Atb {v:Vo} {L:Int} (h0:Dq v L=0) (h1:0<((E0 v L).length:Int)) (h2:tot (E0 v L)≠L): []=ckL v L∧20=ckE v L:=by
 have e:ckE v L=20:=by rw [ckE,if_pos ⟨h0,by omega,h2⟩]
 exact ⟨by rw [ckL,e,if_pos (by decide)],e.symm⟩
theorem Ah8 {v:Vo} {L:Int} (h0:Dq v L=0) (h:¬(0<((E0 v L).length:Int)∧tot (E0 v L)≠L)):E0 v L=ckL v L∧0=ckE v L:=by
 have e:ckE v L=0:=by rw [ckE,if_neg (fun k=>h ⟨by omega,k.2.2⟩),h0]
 exact ⟨by rw [ckL,e,if_neg (by decide)],e.symm⟩
theorem Ata {v:Vo} {L:Int} (h:Dq v L≠0): []=ckL v L∧Dq v L=ckE v L:=by
 have e:ckE v L=Dq v L:=by rw [ckE,if_neg (fun k=>h k.1)]
 exact ⟨by rw [ckL,e,if_pos h],e.symm⟩
theorem Mi (v:Vo) (L:Int) (hE:Evs v.evs):XC Tryz.prog 95 [.agg (Vo.c v), .v (.int .i64 L)] (fun r=>r= .tup [.sl 1 (Cg (ckL v L)),dI (ckE v L)]):=by
 have hN:=Wv v L
 refine An Adw Tryz.func95 R R lb<|zr<|XL.step R (Ap 2 (l:= [.d (.sl 13 (v.evs.map Ev.c)), .d (.sl 4 (v.tups.map Tp.c))]) R R (by kernel_rfl))<|za R R<|za R R<|znr<|zp (Ae (s':= .d (.agg (Vo.c v))) (Ac (Ad R R Ax R lb)) (by kernel_rfl))<|zm R R<|XL.call1 R R (Ahn _ _ (by assumption)) R<|zm R R<|zp (A0 R R R)<|zp (A0 R R R)<|za R R<|za R R<|?_
 refine zn<|zs<|zr<|zm R R<|zp (Bi R R R)<|zm R R<|?_
 refine XL.dec 16 R (fun g16=> ?_) (fun g16=> ?_)
 refine zm R R<|XL.len R R R Tryz.underlying45 fun hl18=>zp (Bb R R R)<|zq R R R<|zm R R<|?_
 refine XL.dec 21 R (fun g21=> ?_) (fun g21=> ?_)
 refine zm R R<|XL.call1 R R (Alt _ (by assumption)) R<|zm R R<|zp (A1 R R R)<|zq R R R<|zn<|?_
 refine zd R (fun c26=> ?_) (fun c26=> ?_)
 refine Ag (by kernel_rfl)<|za R R<|zn<|zs<|zr<|zm R R<|zp (A1 R R R)<|zn<|?_
 refine zd R (fun c28=> ?_) (fun c28=> ?_)
 refine zr<|zm R R<|za R R<|za R R<|zn<|zt<|?_
 exact A6 R (RV.nil (sz:=1) R R) (RV.tmp R R) (r2 (rSl (Atb g16 g21 c26).1) (rI (Atb g16 g21 c26).2))
 refine zi<|zr<|zm R R<|za R R<|za R R<|zn<|zt<|?_
 exact A6 R (RV.tmp R R) (RV.tmp R R) (by exfalso;omega)
 refine zi<|zs<|zr<|zm R R<|zp (A1 R R R)<|zn<|?_
 refine zd R (fun c28=> ?_) (fun c28=> ?_)
 refine zr<|zm R R<|za R R<|za R R<|zn<|zt<|?_
 exact A6 R (RV.nil (sz:=1) R R) (RV.tmp R R) (by exfalso;omega)
 refine zi<|zr<|zm R R<|za R R<|za R R<|zn<|zt<|?_
 exact A6 R (RV.tmp R R) (RV.tmp R R) (r2 (rSl (Ah8 g16 (fun h=>c26 h.2)).1) (rI (Ah8 g16 (fun h=>c26 h.2)).2))
 refine zk 4 R<|zq R R R<|zn<|A8 (by kernel_rfl) R<|zi<|zs<|zr<|zm R R<|zp (A1 R R R)<|zn<|?_
 refine zd R (fun c28=> ?_) (fun c28=> ?_)
 refine zr<|zm R R<|za R R<|za R R<|zn<|zt<|?_
 exact A6 R (RV.nil (sz:=1) R R) (RV.tmp R R) (by exfalso;omega)
 refine zi<|zr<|zm R R<|za R R<|za R R<|zn<|zt<|?_
 exact A6 R (RV.tmp R R) (RV.tmp R R) (r2 (rSl (Ah8 g16 (fun h=>g21 h.1)).1) (rI (Ah8 g16 (fun h=>g21 h.1)).2))
 refine zk 3 R<|zq R R R<|zm R R<|zk 4 R<|zq R R R<|zn<|A8 (by kernel_rfl) R<|zi<|zs<|zr<|zm R R<|zp (A1 R R R)<|zn<|?_
 refine zd R (fun c28=> ?_) (fun c28=> ?_)
 refine zr<|zm R R<|za R R<|za R R<|zn<|zt<|?_
 exact A6 R (RV.nil (sz:=1) R R) (RV.tmp R R) (r2 (rSl (Ata g16).1) (rI (Ata g16).2))
 refine zi<|zr<|zm R R<|za R R<|za R R<|zn<|zt<|?_
 exact A6 R (RV.tmp R R) (RV.tmp R R) (by exfalso;omega)
theorem Np (v:Vo) (L:Int) (hE:Evs v.evs):XC Tryz.prog 71 [.agg (Vo.c v), .v (.int .i64 L)] (fun r=>r=dI (ckE v L)):=by
 refine An Aeb Tryz.func71 R R lb<|zr<|XL.step R (Ap 2 (l:= [.d (.sl 13 (v.evs.map Ev.c)), .d (.sl 4 (v.tups.map Tp.c))]) R R (by kernel_rfl))<|za R R<|znr<|zp (Ae (s':= .d (.agg (Vo.c v))) (Ac (Ad R R Ax R lb)) (by kernel_rfl))<|zm R R<|XL.call1 R R (Mi _ _ (by assumption)) R<|zm R R<|zp (A0 R R R)<|zp (A0 R R R)<|za R R<|za R R<|znr<|?_
 exact zm R R<|za R R<|zn<|zt<|z1 R R (R)
theorem Ar3 {v:Vo} {L:Int} (h:ckE v L≠0): []=Ba (ckL v L):=by rw [ckL,if_pos h];rfl
theorem Xq (v:Vo) (L:Int) (hE:Evs v.evs):XC Tryz.prog 57 [.agg (Vo.c v), .v (.int .i64 L)] (fun r=>r= .tup [.sl 1 (Cg (Ba (ckL v L))),dI (ckE v L)]):=by
 have hN:=Jp v L
 refine An Aen Tryz.func57 R R lb<|zr<|XL.step R (Ap 2 (l:= [.d (.sl 13 (v.evs.map Ev.c)), .d (.sl 4 (v.tups.map Tp.c))]) R R (by kernel_rfl))<|za R R<|za R R<|znr<|zp (Ae (s':= .d (.agg (Vo.c v))) (Ac (Ad R R Ax R lb)) (by kernel_rfl))<|zm R R<|XL.call1 R R (Mi _ _ (by assumption)) R<|zm R R<|zp (A0 R R R)<|zp (A0 R R R)<|za R R<|za R R<|?_
 refine zn<|zs<|zr<|zm R R<|zp (A1 R R R)<|zn<|?_
 refine zd R (fun c15=> ?_) (fun c15=> ?_)
 refine zr<|zm R R<|za R R<|za R R<|zn<|zt<|?_
 exact A6 R (RV.nil (sz:=1) R R) (RV.tmp R R) (r2 (rSl (Ar3 c15)) R)
 refine zi<|zr<|zm R R<|XL.call1 R R (Wr _ (by assumption)) R<|za R R<|za R R<|zn<|zt<|?_
 exact A6 R (RV.tmp R R) (RV.tmp R R) (r2 R (rI (by omega)))
def atS (l:List Int) (t:Int):Nat→Int × Int
 |0=>(0,0)
 |k+1=>match l[k]? with
  |some x=>if tot (l.take k)≤t∧0<x then (k,tot (l.take k)) else atS l t k
  |none=>atS l t k
theorem Ac2 {l:List Int} {t x:Int} {k:Nat} (h:l[k]? =some x) (h1:tot (l.take k)≤t) (h2:0<x):atS l t (k+1)=((k:Int),tot (l.take k)):=by simp only [atS,h];rw [if_pos ⟨h1,h2⟩]
theorem O1 {l:List Int} {t x:Int} {k:Nat} (h:l[k]? =some x) (h1:¬(tot (l.take k)≤t∧0<x)):atS l t (k+1)=atS l t k:=by simp only [atS,h];rw [if_neg h1]
def atE (v:Vo) (L t:Int):Int:=if ckE v L≠0 then ckE v L else if (ckL v L).length=0 then 10 else if t<0∨L≤t then 2 else 0
def atV (v:Vo) (L t:Int):Int × Int:=if atE v L t≠0 then (0,0) else atS (ckL v L) t (ckL v L).length
theorem Im {l:List Int} {k:Nat} {x:Int} (h:(Ba l)[k]? =some x):x=tot (l.take k):=by
 have hk:=(List.getElem?_eq_some_iff.1 h).1
 rw [Ba,List.length_map,List.length_range] at hk
 rw [Ba,List.getElem?_map,List.getElem?_range hk] at h
 cases h;rfl
theorem K1 (l:List Int):(Ba l).length=l.length:=by rw [Ba,List.length_map,List.length_range]
theorem L8 {v:Vo} {L t a:Int} (h:atE v L t=a) (ha:a≠0):0=(atV v L t).1∧0=(atV v L t).2∧a=atE v L t:=by
 have e:atV v L t=(0,0):=by rw [atV,h,if_pos ha]
 rw [e];exact ⟨rfl,rfl,h.symm⟩
theorem Aic {v:Vo} {L t:Int} (h:ckE v L≠0):atE v L t=ckE v L:=by rw [atE,if_pos h]
theorem Aib {v:Vo} {L t:Int} (h:¬ckE v L≠0) (h2:((ckL v L).length:Int)=0):atE v L t=10:=by rw [atE,if_neg h,if_pos (by omega)]
theorem V1 {v:Vo} {L t:Int} (h:¬ckE v L≠0) (h2:¬((ckL v L).length:Int)=0) (h3:t<0∨L≤t):atE v L t=2:=by rw [atE,if_neg h,if_neg (by omega),if_pos h3]
theorem An1 {v:Vo} {L t:Int} (h:¬ckE v L≠0) (h2:¬((ckL v L).length:Int)=0) (h3:¬(t<0∨L≤t)):atS (ckL v L) t (ckL v L).length=atV v L t∧0=atE v L t:=by
 have e:atE v L t=0:=by rw [atE,if_neg h,if_neg (by omega),if_neg h3]
 exact ⟨by rw [atV,e,if_neg (by decide)],e.symm⟩
theorem Aui (v:Vo) (L t:Int) (hE:Evs v.evs):XC Tryz.prog 61 [.agg (Vo.c v), .v (.int .i64 L), .v (.int .i64 t)] (fun r=>r= .tup [dI (atV v L t).1,dI (atV v L t).2,dI (atE v L t)]):=by
 have hN:=Jp v L
 have hol:=K1 (ckL v L)
 refine An Aek Tryz.func61 R R lb<|zr<|XL.step R (Ap 3 (l:= [.d (.sl 13 (v.evs.map Ev.c)), .d (.sl 4 (v.tups.map Tp.c))]) R R (by kernel_rfl))<|za R R<|za R R<|za R R<|znr<|zp (Ae (s':= .d (.agg (Vo.c v))) (Ac (Ad R R Ax R lb)) (by kernel_rfl))<|zm R R<|XL.call1 R R (Mi _ _ (by assumption)) R<|zm R R<|zp (A0 R R R)<|zp (A0 R R R)<|za R R<|?_
 refine za R R<|zn<|zs<|Ah<|zr<|zm R R<|zp (A1 R R R)<|za R R<|zn<|?_
 refine zd R (fun c18=> ?_) (fun c18=> ?_)
 refine zr<|zm R R<|za R R<|za R R<|za R R<|zn<|zt<|?_
 exact Vk R (RV.tmp R R) (RV.tmp R R) (RV.tmp R R) (r3 (rI (L8 (t:=t) (Aic c18) c18).1) (rI (L8 (t:=t) (Aic c18) c18).2.1) (rI (L8 (t:=t) (Aic c18) c18).2.2))
 refine zr<|zm R R<|XL.len R R R Tryz.underlying45 fun hl24=>zp (Bi R R R)<|za R R<|zn<|?_
 refine zd R (fun c22=> ?_) (fun c22=> ?_)
 refine zr<|za R R<|za R R<|za R R<|zn<|zt<|?_
 exact Vk R (RV.tmp R R) (RV.tmp R R) (RV.tmp R R) (r3 (rI (L8 (t:=t) (Aib c18 c22) (by decide)).1) (rI (L8 (t:=t) (Aib c18 c22) (by decide)).2.1) (rI (L8 (t:=t) (Aib c18 c22) (by decide)).2.2))
 refine zr<|zm R R<|zp (Au R R R)<|zm R R<|?_
 refine XL.dec 29 R (fun g29=> ?_) (fun g29=> ?_)
 refine zk 3 R<|zq R R R<|za R R<|zn<|Av (by kernel_rfl) R<|zr<|za R R<|za R R<|za R R<|zn<|zt<|?_
 exact Vk R (RV.tmp R R) (RV.tmp R R) (RV.tmp R R) (r3 (rI (L8 (V1 c18 c22 (by omega)) (by decide)).1) (rI (L8 (V1 c18 c22 (by omega)) (by decide)).2.1) (rI (L8 (V1 c18 c22 (by omega)) (by decide)).2.2))
 refine zm R R<|zm R R<|zp (Gg R R R)<|zq R R R<|za R R<|zn<|?_
 refine zd R (fun c26=> ?_) (fun c26=> ?_)
 refine zr<|za R R<|za R R<|za R R<|zn<|zt<|?_
 exact Vk R (RV.tmp R R) (RV.tmp R R) (RV.tmp R R) (r3 (rI (L8 (V1 c18 c22 (by omega)) (by decide)).1) (rI (L8 (V1 c18 c22 (by omega)) (by decide)).2.1) (rI (L8 (V1 c18 c22 (by omega)) (by decide)).2.2))
 refine zi<|zs<|zr<|zm R R<|XL.call1 R R (Wr _ (by assumption)) R<|XL.len R R R Tryz.underlying45 fun hl36=>zm R R<|zn<|Ah<|?_
 refine Az (α:=Nat) (fun k=>k≤(Ba (ckL v L)).length) (fun k=>mkF [(2, .d (dI t)),(6, .d (dI (atS (ckL v L) t k).1)),(7, .d (dI (atS (ckL v L) t k).2)),(8, .d (dI (ckE v L))),(9, .d (.sl 1 (Cg (ckL v L)))),(35, .d (.sl 1 (Cg (Ba (ckL v L))))),(36, .d (dI (Ba (ckL v L)).length)),(37, .d (dI k))]) (fun k=>mkH []) (fun k=>(Ba (ckL v L)).length - k) (0) (Nat.zero_le _) ?_ ?_ ?_
 exact fz ⟨sr,sr,sr,sr,sr,sr,sr,sr,trivial⟩
 exact HSub.nil
 intro k hk1
 refine zr<|zp (Au R R R)<|zn<|zs<|?_
 refine zd R (fun c38=> ?_) (fun c38=> ?_)
 have hk1a:k<(Ba (ckL v L)).length:=by omega
 obtain ⟨x1,hx1⟩:=Ar hk1a
 have hxe:=Im hx1
 obtain ⟨y,hy⟩:∃y,(ckL v L)[k]? =some y:=Ar (by omega)
 refine zi<|zs<|Ah<|zr<|zm R R<|zp (Ao R R R Dt hx1)<|zp (Bg R R Ai)<|za R R<|za R R<|znr<|zm R R<|zm R R<|zp (N1 R R R)<|zm R R<|?_
 refine XL.dec 45 R (fun g45=> ?_) (fun g45=> ?_)
 refine zm R R<|zm R R<|zp (Ao R R R Dt (hy))<|zp (Bg R R Ai)<|zp (Bb R R R)<|zq R R R<|zn<|?_
 refine zd R (fun c51=> ?_) (fun c51=> ?_)
 refine Ag (by kernel_rfl)<|zm R R<|zm R R<|za R R<|za R R<|zn<|Ag (by kernel_rfl)<|zp (Al R R R (by omega) (by omega))<|zm R R<|zn<|?_
 exact Am (k+1) (by omega) (by omega) (fz ⟨sr, .same (sI (by rw [Ac2 hy (by rw [←Im hx1];exact g45) c51])), .same (sI (by rw [Ac2 hy (by rw [←Im hx1];exact g45) c51];exact Im hx1)),sr,sr,sr,sr,sr,trivial⟩) (HSub.nil)
 refine zi<|Ag (by kernel_rfl)<|zp (Al R R R (by omega) (by omega))<|zm R R<|zn<|?_
 exact Am (k+1) (by omega) (by omega) (fz ⟨sr, .same (sI (by rw [O1 hy (fun h=>c51 h.2)])), .same (sI (by rw [O1 hy (fun h=>c51 h.2)])),sr,sr,sr,sr,sr,trivial⟩) (HSub.nil)
 refine zk 5 R<|zq R R R<|zn<|A8 (by kernel_rfl) R<|zi<|Ag (by kernel_rfl)<|zp (Al R R R (by omega) (by omega))<|zm R R<|zn<|?_
 exact Am (k+1) (by omega) (by omega) (fz ⟨sr, .same (sI (by rw [O1 hy (fun h=>g45 (by rw [Im hx1];exact h.1))])), .same (sI (by rw [O1 hy (fun h=>g45 (by rw [Im hx1];exact h.1))])),sr,sr,sr,sr,sr,trivial⟩) (HSub.nil)
 have hk1b:k=(Ba (ckL v L)).length:=by omega
 have hke:k=(ckL v L).length:=by omega
 refine At<|zr<|zm R R<|zm R R<|za R R<|za R R<|za R R<|zn<|zt<|?_
 exact Vk R (RV.tmp R R) (RV.tmp R R) (RV.tmp R R) (r3 (rI (by rw [hke,(An1 c18 c22 (by omega)).1])) (rI (by rw [hke,(An1 c18 c22 (by omega)).1])) (rI (An1 c18 c22 (by omega)).2))
end Go.Proofs.YtaafemnkamfgnaaGreat
namespace Go.Proofs.YtaafemnkamfgnaaGreat
open Go.RowKit
set_option maxRecDepth 4000
set_option maxHeartbeats 4000000 in
theorem Vx (d:Nat) (w:World) (a0 a1 a2 a3 a4 a5 b0 b1 b2 b3 b4 b5:Int):(Op.equalIn (d+2) 24 (.agg #[.int .i64 a0, .int .i64 a1, .int .i64 a2, .int .i64 a3, .int .i64 a4, .int .i64 a5]) (.agg #[.int .i64 b0, .int .i64 b1, .int .i64 b2, .int .i64 b3, .int .i64 b4, .int .i64 b5])).run Tryz.prog w=
  .ok (decide (a0=b0∧a1=b1∧a2=b2∧a3=b3∧a4=b4∧a5=b5)) w:=by
 rw [show d+2=(d+1)+1 from rfl]
 have hp:∀(cs:Array Value) (k:Nat) (v:Value),cs[k]? =some v→(part 3 cs k).run Tryz.prog w= .ok v w:=fun cs k v h=>Bc Ai w h
 have he:∀a b:Int,(Op.equalIn (d+1) 3 (.int .i64 a) (.int .i64 b)).run Tryz.prog w= .ok (decide (a=b)) w:=fun a b=>Ci d 3 Tryz.underlying3 a b
 have ha0:=hp (#[.int .i64 a0, .int .i64 a1, .int .i64 a2, .int .i64 a3, .int .i64 a4, .int .i64 a5]) ((0)*1) (.int .i64 a0) rfl
 have hb0:=hp (#[.int .i64 b0, .int .i64 b1, .int .i64 b2, .int .i64 b3, .int .i64 b4, .int .i64 b5]) ((0)*1) (.int .i64 b0) rfl
 have ha1:=hp (#[.int .i64 a0, .int .i64 a1, .int .i64 a2, .int .i64 a3, .int .i64 a4, .int .i64 a5]) ((0+1)*1) (.int .i64 a1) rfl
 have hb1:=hp (#[.int .i64 b0, .int .i64 b1, .int .i64 b2, .int .i64 b3, .int .i64 b4, .int .i64 b5]) ((0+1)*1) (.int .i64 b1) rfl
 have ha2:=hp (#[.int .i64 a0, .int .i64 a1, .int .i64 a2, .int .i64 a3, .int .i64 a4, .int .i64 a5]) ((0+1+1)*1) (.int .i64 a2) rfl
 have hb2:=hp (#[.int .i64 b0, .int .i64 b1, .int .i64 b2, .int .i64 b3, .int .i64 b4, .int .i64 b5]) ((0+1+1)*1) (.int .i64 b2) rfl
 have ha3:=hp (#[.int .i64 a0, .int .i64 a1, .int .i64 a2, .int .i64 a3, .int .i64 a4, .int .i64 a5]) ((0+1+1+1)*1) (.int .i64 a3) rfl
 have hb3:=hp (#[.int .i64 b0, .int .i64 b1, .int .i64 b2, .int .i64 b3, .int .i64 b4, .int .i64 b5]) ((0+1+1+1)*1) (.int .i64 b3) rfl
 have ha4:=hp (#[.int .i64 a0, .int .i64 a1, .int .i64 a2, .int .i64 a3, .int .i64 a4, .int .i64 a5]) ((0+1+1+1+1)*1) (.int .i64 a4) rfl
 have hb4:=hp (#[.int .i64 b0, .int .i64 b1, .int .i64 b2, .int .i64 b3, .int .i64 b4, .int .i64 b5]) ((0+1+1+1+1)*1) (.int .i64 b4) rfl
 have ha5:=hp (#[.int .i64 a0, .int .i64 a1, .int .i64 a2, .int .i64 a3, .int .i64 a4, .int .i64 a5]) ((0+1+1+1+1+1)*1) (.int .i64 a5) rfl
 have hb5:=hp (#[.int .i64 b0, .int .i64 b1, .int .i64 b2, .int .i64 b3, .int .i64 b4, .int .i64 b5]) ((0+1+1+1+1+1)*1) (.int .i64 b5) rfl
 clear hp
 generalize hd:d+1=d1 at*
 generalize hA:(#[.int .i64 a0, .int .i64 a1, .int .i64 a2, .int .i64 a3, .int .i64 a4, .int .i64 a5]:Array Value)=A at*
 generalize hB:(#[.int .i64 b0, .int .i64 b1, .int .i64 b2, .int .i64 b3, .int .i64 b4, .int .i64 b5]:Array Value)=B at*
 unfold Op.equalIn
 simp only [Sem.run_bind,run_underlying Tryz.underlying24,Result.andThen_ok,sizeB.run Ey]
 simp only [Std.Legacy.Range.forIn_eq_forIn_range',Std.Legacy.Range.size,List.range',List.forIn_cons,List.forIn_nil]
 by_cases e0:a0=b0
 rotate_left
 ·simp_all
 by_cases e1:a1=b1
 rotate_left
 ·simp_all
 by_cases e2:a2=b2
 rotate_left
 ·simp_all
 by_cases e3:a3=b3
 rotate_left
 ·simp_all
 by_cases e4:a4=b4
 rotate_left
 ·simp_all
 by_cases e5:a5=b5
 rotate_left
 ·simp_all
 ·simp_all
theorem Ami {t':TypeId} {o:Oper} {e:Operand→S} {h:Xh} {x y:Operand} {a0:Int} {a1:Int} {a2:Int} {a3:Int} {a4:Int} {a5:Int} {b0:Int} {b1:Int} {b2:Int} {b3:Int} {b4:Int} {b5:Int} (ho:o.op= .binOp .eql 24 x y t') (hx:e x= .d (.agg [.v (.int .i64 a0), .v (.int .i64 a1), .v (.int .i64 a2), .v (.int .i64 a3), .v (.int .i64 a4), .v (.int .i64 a5)])) (hy:e y= .d (.agg [.v (.int .i64 b0), .v (.int .i64 b1), .v (.int .i64 b2), .v (.int .i64 b3), .v (.int .i64 b4), .v (.int .i64 b5)])):A9 Tryz.prog o e h (.d (.v (.bool (decide (a0=b0∧a1=b1∧a2=b2∧a3=b3∧a4=b4∧a5=b5))))):=by
 refine Eo ho hx hy rfl rfl (by kernel_rfl) fun w=> ?_
 refine (run_eql_struct w 24 #[.int .i64 a0, .int .i64 a1, .int .i64 a2, .int .i64 a3, .int .i64 a4, .int .i64 a5] #[.int .i64 b0, .int .i64 b1, .int .i64 b2, .int .i64 b3, .int .i64 b4, .int .i64 b5]).trans ?_
 have hq:=Vx 9998 w a0 a1 a2 a3 a4 a5 b0 b1 b2 b3 b4 b5
 simp only [Nat.reduceAdd] at hq
 rw [hq]
 simp only [Result.andThen_ok]
theorem Amc {t':TypeId} {o:Oper} {e:Operand→S} {h:Xh} {x y:Operand} {a0:Int} {a1:Int} {a2:Int} {a3:Int} {a4:Int} {a5:Int} {b0:Int} {b1:Int} {b2:Int} {b3:Int} {b4:Int} {b5:Int} (ho:o.op= .binOp .neq 24 x y t') (hx:e x= .d (.agg [.v (.int .i64 a0), .v (.int .i64 a1), .v (.int .i64 a2), .v (.int .i64 a3), .v (.int .i64 a4), .v (.int .i64 a5)])) (hy:e y= .d (.agg [.v (.int .i64 b0), .v (.int .i64 b1), .v (.int .i64 b2), .v (.int .i64 b3), .v (.int .i64 b4), .v (.int .i64 b5)])):A9 Tryz.prog o e h (.d (.v (.bool (decide (¬(a0=b0∧a1=b1∧a2=b2∧a3=b3∧a4=b4∧a5=b5)))))):=by
 refine Eo ho hx hy rfl rfl (by kernel_rfl) fun w=> ?_
 refine (run_neq_struct w 24 #[.int .i64 a0, .int .i64 a1, .int .i64 a2, .int .i64 a3, .int .i64 a4, .int .i64 a5] #[.int .i64 b0, .int .i64 b1, .int .i64 b2, .int .i64 b3, .int .i64 b4, .int .i64 b5]).trans ?_
 have hq:=Vx 9998 w a0 a1 a2 a3 a4 a5 b0 b1 b2 b3 b4 b5
 simp only [Nat.reduceAdd] at hq
 rw [hq]
 simp only [Result.andThen_ok,decide_not]
end Go.Proofs.YtaafemnkamfgnaaGreat
namespace Go.Proofs.YtaafemnkamfgnaaGreat
open Go.RowKit
theorem Aso {m:Me} {k:Nat} {g:Int} (h:m.gs[k]? =some g): [dI m.g0,dI m.g1,dI m.g2,dI m.g3,dI m.g4,dI m.g5][k]? =some (dI g):=by
 have:(m.gs.map dI)[k]? =some (dI g):=by rw [List.getElem?_map,h];rfl
 exact this
def Me.flat (m:Me):Prop:=m.g0=0∧m.g1=0∧m.g2=0∧m.g3=0∧m.g4=0∧m.g5=0
instance (m:Me):Decidable m.flat:=by unfold Me.flat;exact inferInstance
def gGo (k:Nat) (s n:Int):List Int→Option (Int × Int)
 | []=>some (s,n)
 |g::r=>if g<0∨64<g∨(0<g∧(k:Int)≠n) then none else if 0<g then gGo (k+1) (s+g) (n+1) r else gGo (k+1) s n r
def gOk (c:Int) (o:Option (Int × Int)):Prop:=match o with|some p=>p.1=c∧2≤p.2|none=>False
instance (c:Int) (o:Option (Int × Int)):Decidable (gOk c o):=by unfold gOk;cases o<;>exact inferInstance
def Me.grouped (m:Me):Prop:=m.flat∨gOk m.count (gGo 0 0 0 m.gs)
instance (m:Me):Decidable m.grouped:=by unfold Me.grouped;exact inferInstance
theorem Ty {m:Me} {k:Nat} {g s n:Int} (h:m.gs[k]? =some g) (hb:g<0∨64<g∨(0<g∧(k:Int)≠n)):gGo k s n (m.gs.drop k)=none:=by rw [B5 h,gGo,if_pos hb]
theorem Aqi {m:Me} {k:Nat} {g s n:Int} (h:m.gs[k]? =some g) (hb:¬(g<0∨64<g∨(0<g∧(k:Int)≠n))) (hg:0<g):gGo k s n (m.gs.drop k)=gGo (k+1) (s+g) (n+1) (m.gs.drop (k+1)):=by rw [B5 h,gGo,if_neg hb,if_pos hg]
theorem Asq {m:Me} {k:Nat} {g s n:Int} (h:m.gs[k]? =some g) (hb:¬(g<0∨64<g∨(0<g∧(k:Int)≠n))) (hg:¬0<g):gGo k s n (m.gs.drop k)=gGo (k+1) s n (m.gs.drop (k+1)):=by rw [B5 h,gGo,if_neg hb,if_neg hg]
theorem Aqg {m:Me} (h:m.grouped):true=decide m.grouped:=by rw [decide_eq_true h]
theorem Z4 {m:Me} (h1:¬m.flat) (h:gGo 0 0 0 m.gs=none):false=decide m.grouped:=by rw [decide_eq_false];exact fun k=>k.elim h1 (by rw [h];exact fun k=>k)
theorem Akj {m:Me} (h1:¬m.flat) {s n:Int} (h:gGo 0 0 0 m.gs=some (s,n)):m.grouped↔s=m.count∧2≤n:=by
 unfold Me.grouped
 rw [h]
 exact ⟨fun k=>k.elim (fun k=>absurd k h1) fun k=>k,fun k=> .inr k⟩
theorem Aht (m:Me):XC Tryz.prog 92 [.agg (Me.c m)] (fun r=>r=dB (decide m.grouped)):=by
 refine An Adz Tryz.func92 R R lb<|zr<|XL.step R (Ap 1 (l:= [.d (dI m.count), .d (dI m.unit), .d (dI m.g0), .d (dI m.g1), .d (dI m.g2), .d (dI m.g3), .d (dI m.g4), .d (dI m.g5)]) R R (by kernel_rfl))<|za R R<|zn<|zs<|zr<|zp (Aa R R Ps)<|?_
 refine zp (Ae (s':= .d (.agg [dI m.g0,dI m.g1,dI m.g2,dI m.g3,dI m.g4,dI m.g5])) (Ac (Ad R R Rj R lb)) (by kernel_rfl))<|zp (Ae (s':= .d (.agg [dI 0,dI 0,dI 0,dI 0,dI 0,dI 0])) (Ac (Pi R Tryz.underlying24 Ey Ae7 R)) (by kernel_rfl))<|zp (Ami R R R)<|zn<|?_
 refine zd R (fun c10=> ?_) (fun c10=> ?_)
 exact zr<|za R R<|zn<|zt<|z1 R R (rB (Aqg (.inl c10)))
 refine zi<|zr<|za R R<|za R R<|zn<|zs<|zr<|zp (Aa R R Ps)<|zp (Ae (s':= .d (.agg [dI m.g0,dI m.g1,dI m.g2,dI m.g3,dI m.g4,dI m.g5])) (Ac (Ad R R Rj R lb)) (by kernel_rfl))<|zm R R<|zn<|Ah<|?_
 refine Az (α:=Nat × Int × Int) (fun p=>p.1≤6∧gGo p.1 p.2.1 p.2.2 (m.gs.drop p.1)=gGo 0 0 0 m.gs∧0≤p.2.1∧p.2.1≤64*p.1∧0≤p.2.2∧p.2.2≤p.1) (fun p=>mkF [(1, .ptr 1 0 0),(3, .d (dI p.2.1)),(4, .d (dI p.2.2)),(12, .d (.agg [dI m.g0,dI m.g1,dI m.g2,dI m.g3,dI m.g4,dI m.g5])),(13, .d (dI p.1))]) (fun p=>mkH [(1, .box ((Me.c m).map S.d))]) (fun p=>6 - p.1) ((0,0,0)) (⟨Nat.zero_le _,R,by simp,by simp,by simp,by simp⟩) ?_ ?_ ?_
 exact fz ⟨sr,sr,sr,sr,sr,trivial⟩
 exact gz ⟨R,trivial⟩
 intro p hk0
 obtain ⟨hk,hgo,hs0,hs1,hn0,hn1⟩:=hk0
 refine zr<|zp (Au R R R)<|zn<|zs<|?_
 refine zd R (fun c14=> ?_) (fun c14=> ?_)
 obtain ⟨g,hg⟩:∃g,m.gs[p.1]? =some g:=Ar (by show p.1<6;omega)
 refine zi<|zs<|Ah<|zr<|zm R R<|zp (Wo (k:=p.1) R R R R Tryz.underlying24 Ai Ey (by omega) (Aso hg))<|za R R<|za R R<|zn<|Ah<|zr<|zm R R<|zp (Au R R R)<|zm R R<|?_
 refine XL.dec 20 R (fun g20=> ?_) (fun g20=> ?_)
 exact zk 2 R<|zq R R R<|zm R R<|zk 7 R<|zq R R R<|za R R<|zn<|Av (by kernel_rfl) R<|zr<|za R R<|zn<|zt<|z1 R R (rB (Z4 c10 (by rw [←hgo];exact Ty hg (by omega))))
 refine zm R R<|zp (Bb R R R)<|zq R R R<|zm R R<|?_
 refine XL.dec 24 R (fun g24=> ?_) (fun g24=> ?_)
 exact zk 7 R<|zq R R R<|za R R<|zn<|Av (by kernel_rfl) R<|zr<|za R R<|zn<|zt<|z1 R R (rB (Z4 c10 (by rw [←hgo];exact Ty hg (by omega))))
 refine zm R R<|zp (Bb R R R)<|zm R R<|?_
 refine XL.dec 27 R (fun g27=> ?_) (fun g27=> ?_)
 refine zm R R<|zm R R<|zp (A1 R R R)<|zq R R R<|zq R R R<|za R R<|zn<|?_
 refine zd R (fun c17=> ?_) (fun c17=> ?_)
 exact zr<|za R R<|zn<|zt<|z1 R R (rB (Z4 c10 (by rw [←hgo];exact Ty hg (by omega))))
 refine zr<|zm R R<|zp (Bb R R R)<|za R R<|zn<|?_
 refine zd R (fun c33=> ?_) (fun c33=> ?_)
 refine Ag (by kernel_rfl)<|zm R R<|zm R R<|zp (Al R R R (by omega) (by omega))<|zm R R<|zp (Al R R R (by omega) (by omega))<|za R R<|za R R<|zn<|Ag (by kernel_rfl)<|zp (Al R R R (by omega) (by omega))<|zm R R<|zn<|?_
 exact Am ((p.1+1,p.2.1+g,p.2.2+1)) (⟨by simp only;omega,by rw [←Aqi hg (by omega) c33];exact hgo,by simp only;omega,by simp only;omega,by simp only;omega,by simp only;omega⟩) (by simp only;omega) (fz ⟨sr,sr,sr,sr,sr,trivial⟩) (gz ⟨rfl,trivial⟩)
 refine zi<|Ag (by kernel_rfl)<|zp (Al R R R (by omega) (by omega))<|zm R R<|zn<|?_
 exfalso;omega
 refine zk 3 R<|zq R R R<|zq R R R<|za R R<|zn<|A8 (by kernel_rfl) R<|zr<|zm R R<|zp (Bb R R R)<|za R R<|zn<|?_
 refine zd R (fun c33=> ?_) (fun c33=> ?_)
 refine Ag (by kernel_rfl)<|zm R R<|zm R R<|zp (Al R R R (by omega) (by omega))<|zm R R<|zp (Al R R R (by omega) (by omega))<|za R R<|za R R<|zn<|Ag (by kernel_rfl)<|zp (Al R R R (by omega) (by omega))<|zm R R<|zn<|?_
 exfalso;omega
 refine zi<|Ag (by kernel_rfl)<|zp (Al R R R (by omega) (by omega))<|zm R R<|zn<|?_
 exact Am ((p.1+1,p.2.1,p.2.2)) (⟨by simp only;omega,by rw [←Asq hg (by omega) c33];exact hgo,by simp only;omega,by simp only;omega,by simp only;omega,by simp only;omega⟩) (by simp only;omega) (fz ⟨sr,sr,sr,sr,sr,trivial⟩) (gz ⟨rfl,trivial⟩)
 have hke:p.1=6:=by omega
 have hend:gGo 0 0 0 m.gs=some (p.2.1,p.2.2):=by rw [←hgo,hke];rfl
 refine At<|zr<|zm R R<|zp (Aa R R Iv)<|zp (Ab R R Ai R R)<|zp (Bi R R R)<|zm R R<|?_
 refine XL.dec 46 R (fun g46=> ?_) (fun g46=> ?_)
 exact zm R R<|zp (Gg R R R)<|zq R R R<|za R R<|zn<|zt<|z1 R R (rB (by rw [decide_eq_decide,Akj c10 hend];exact ⟨fun h=>⟨g46,h⟩,fun h=>h.2⟩))
 exact zk 2 R<|zq R R R<|za R R<|zn<|zt<|z1 R R (rB (by rw [eq_comm,decide_eq_false_iff_not,Akj c10 hend];exact fun h=>g46 h.1))
def Me.pow (m:Me):Prop:=((m.unit.toNat &&& (m.unit - 1).toNat:Nat):Int)=0
instance (m:Me):Decidable m.pow:=by unfold Me.pow;exact inferInstance
def Me.err (m:Me):Int:=if m.count<1∨64<m.count then 2 else if m.unit<1∨64<m.unit∨¬m.pow then 17 else if ¬m.grouped then 19 else 0
theorem Asg {m:Me} (h:m.count<1∨64<m.count):2=m.err:=by rw [Me.err,if_pos h]
theorem Ams {m:Me} (h:¬(m.count<1∨64<m.count)) (h2:m.unit<1∨64<m.unit∨¬m.pow):17=m.err:=by rw [Me.err,if_neg h,if_pos h2]
theorem Au2 {m:Me} (h:¬(m.count<1∨64<m.count)) (h2:¬(m.unit<1∨64<m.unit∨¬m.pow)) (h3:¬m.grouped):19=m.err:=by rw [Me.err,if_neg h,if_neg h2,if_pos h3]
theorem Au1 {m:Me} (h:¬(m.count<1∨64<m.count)) (h2:¬(m.unit<1∨64<m.unit∨¬m.pow)) (h3:m.grouped):0=m.err:=by rw [Me.err,if_neg h,if_neg h2,if_neg (fun k=>k h3)]
theorem Afs {a b c:Prop} (h1:¬a) (h2:¬b) (h3:¬c):¬(a∨b∨c):=fun k=>k.elim h1 fun k=>k.elim h2 h3
theorem Oy {a b:Prop} (h1:¬a) (h2:¬b):¬(a∨b):=fun k=>k.elim h1 h2
theorem N4 (m:Me):XC Tryz.prog 53 [.agg (Me.c m)] (fun r=>r=dI m.err):=by
 refine An Aeq Tryz.func53 R R lb<|zr<|XL.step R (Ap 1 (l:= [.d (dI m.count), .d (dI m.unit), .d (dI m.g0), .d (dI m.g1), .d (dI m.g2), .d (dI m.g3), .d (dI m.g4), .d (dI m.g5)]) R R (by kernel_rfl))<|za R R<|zn<|zs<|Ah<|zr<|zp (Aa R R Iv)<|zp (Ab R R Ai R R)<|zp (Au R R R)<|zm R R<|?_
 refine XL.dec 7 R (fun g7=> ?_) (fun g7=> ?_)
 exact zk 3 R<|zq R R R<|za R R<|zn<|Av (by kernel_rfl) R<|zr<|za R R<|zn<|zt<|z1 R R (rI (Asg (.inl g7)))
 refine zp (Aa R R Iv)<|zp (Ab R R Ai R R)<|zp (Bb R R R)<|zq R R R<|za R R<|zn<|?_
 refine zd R (fun c3=> ?_) (fun c3=> ?_)
 exact zr<|za R R<|zn<|zt<|z1 R R (rI (Asg (.inr c3)))
 refine zr<|zp (Aa R R K6)<|zp (Ab R R Ai R R)<|zp (Au R R R)<|zm R R<|?_
 refine XL.dec 16 R (fun g16=> ?_) (fun g16=> ?_)
 exact zk 3 R<|zq R R R<|zm R R<|zk 7 R<|zq R R R<|za R R<|zn<|Av (by kernel_rfl) R<|zr<|za R R<|zn<|zt<|z1 R R (rI (Ams (Oy g7 c3) (.inl g16)))
 refine zp (Aa R R K6)<|zp (Ab R R Ai R R)<|zp (Bb R R R)<|zq R R R<|zm R R<|?_
 refine XL.dec 21 R (fun g21=> ?_) (fun g21=> ?_)
 exact zk 7 R<|zq R R R<|za R R<|zn<|Av (by kernel_rfl) R<|zr<|za R R<|zn<|zt<|z1 R R (rI (Ams (Oy g7 c3) (.inr (.inl g21))))
 refine zp (Aa R R K6)<|zp (Ab R R Ai R R)<|zp (Aa R R K6)<|zp (Ab R R Ai R R)<|zp (Fk R R R (by omega) (by omega))<|zp (Aof R R R (by omega) (by omega) (by omega) (by omega))<|zp (A1 R R R)<|zq R R R<|za R R<|zn<|?_
 refine zd R (fun c12=> ?_) (fun c12=> ?_)
 exact zr<|za R R<|zn<|zt<|z1 R R (rI (Ams (Oy g7 c3) (.inr (.inr c12))))
 refine zr<|zp (Ae (s':= .d (.agg (Me.c m))) (Ac (Ad R R Bn R lb)) (by kernel_rfl))<|XL.call1 R R (Aht _) R<|zp (En R R)<|za R R<|zn<|?_
 refine zd R (fun c30=> ?_) (fun c30=> ?_)
 exact zr<|za R R<|zn<|zt<|z1 R R (rI (Au2 (Oy g7 c3) (Afs g16 g21 c12) c30))
 exact zi<|zr<|za R R<|zn<|zt<|z1 R R (rI (Au1 (Oy g7 c3) (Afs g16 g21 c12) (Decidable.not_not.1 c30)))
structure Mok (m:Me):Prop where
 count:1≤m.count∧m.count≤64
 unit:1≤m.unit∧m.unit≤64
 pow:m.pow
 grp:m.grouped
theorem Ln {m:Me} (h:¬m.err≠0):Mok m:=by
 have h0:m.err=0:=by omega
 unfold Me.err at h0
 split at h0
 ·omega
 ·split at h0
  ·omega
  ·rename_i h2
   split at h0
   ·omega
   ·rename_i h3
    exact ⟨by omega,⟨by omega,by omega⟩,Decidable.not_not.1 fun k=>h2 (.inr (.inr k)),Decidable.not_not.1 h3⟩
def Me.u (m:Me):Int:=1935360 / m.unit
def Me.len (m:Me):Int:=m.count*m.u
theorem Mok.u {m:Me} (h:Mok m):1≤m.u∧m.u≤1935360:=by
 have:=h.unit
 unfold Me.u
 exact ⟨(Int.le_ediv_iff_mul_le (by omega)).2 (by omega),Int.ediv_le_self _ (by omega)⟩
theorem Mok.len {m:Me} (h:Mok m):1≤m.len∧m.len≤123863040:=by
 have h1:=h.u
 have h2:=h.count
 unfold Me.len
 have h3:1*1≤m.count*m.u:=Int.mul_le_mul h2.1 h1.1 (by omega) (by omega)
 have h4:m.count*m.u≤64*1935360:=Int.mul_le_mul h2.2 h1.2 (by omega) (by omega)
 omega
theorem In (m:Me) (h:Mok m):XC Tryz.prog 93 [.agg (Me.c m)] (fun r=>r=dI m.u):=by
 have hu:=h.unit
 exact An Ady Tryz.func93 R R lb<|zr<|XL.step R (Ap 1 (l:= [.d (dI m.count), .d (dI m.unit), .d (dI m.g0), .d (dI m.g1), .d (dI m.g2), .d (dI m.g3), .d (dI m.g4), .d (dI m.g5)]) R R (by kernel_rfl))<|za R R<|znr<|zp (Aa R R K6)<|zp (Ab R R Ai R R)<|zp (Jj R R R (by omega) (by omega) (by omega))<|za R R<|zn<|zt<|z1 R R (rI R)
theorem Mb (m:Me) (h:Mok m):XC Tryz.prog 54 [.agg (Me.c m)] (fun r=>r=dI m.len):=by
 have hu:=h.u
 have hc:=h.count
 have hl:=h.len
 have hl2:m.count*m.u=m.len:=rfl
 refine An Aep Tryz.func54 R R lb<|zr<|XL.step R (Ap 1 (l:= [.d (dI m.count), .d (dI m.unit), .d (dI m.g0), .d (dI m.g1), .d (dI m.g2), .d (dI m.g3), .d (dI m.g4), .d (dI m.g5)]) R R (by kernel_rfl))<|za R R<|zn<|zs<|Bv [] (by kernel_rfl) (by kernel_rfl) (by kernel_rfl) (by decide)<|yp (Aa R R Iv)<|yp (Ab R R Ai R R)<|?_
 refine yp (Ae (s':= .d (.agg (Me.c m))) (Ac (Ad R R Bn R lb)) (by kernel_rfl))<|ChK.cons R (CStep.call R (In _ (by assumption)) R)<|yp (L9 R R R (by omega) (by omega))<|ya R R<|?_
 refine ChK.nil ⟨by kernel_rfl, ?_⟩
 exact zt<|z1 R R (rI R)
end Go.Proofs.YtaafemnkamfgnaaGreat
namespace Go.Proofs.YtaafemnkamfgnaaGreat
open Go.RowKit
def Jc:List Int→Int
 | []=>0
 |x::r=>r.foldl min x
def Jd:List Int→Int
 | []=>0
 |x::r=>r.foldl max x
theorem Ajx {l:List Int} (h:l≠ []) (x:Int):Jc (l++ [x])=min (Jc l) x:=by
 cases l with
 |nil=>exact absurd rfl h
 |cons a r=>simp only [Jc,List.cons_append,List.foldl_append,List.foldl_cons,List.foldl_nil]
theorem Ajz {l:List Int} (h:l≠ []) (x:Int):Jd (l++ [x])=max (Jd l) x:=by
 cases l with
 |nil=>exact absurd rfl h
 |cons a r=>simp only [Jd,List.cons_append,List.foldl_append,List.foldl_cons,List.foldl_nil]
theorem Afe {l:List Int} {k:Nat} (h:1≤k) (h2:0<l.length):l.take k≠ []:=fun e=>by
 have:=congrArg List.length e
 rw [List.length_take,List.length_nil] at this
 omega
theorem Ajw {l:List Int} {k:Nat} {x:Int} (h:l[k]? =some x) (hk:1≤k):Jc (l.take (k+1))=min (Jc (l.take k)) x:=by
 rw [B3 h,Ajx (Afe hk (by have:=(List.getElem?_eq_some_iff.1 h).1;omega))]
theorem Ajy {l:List Int} {k:Nat} {x:Int} (h:l[k]? =some x) (hk:1≤k):Jd (l.take (k+1))=max (Jd (l.take k)) x:=by
 rw [B3 h,Ajz (Afe hk (by have:=(List.getElem?_eq_some_iff.1 h).1;omega))]
theorem Zn {l:List Int} {x:Int} (h:l[0]? =some x):Jc (l.take 1)=x∧Jd (l.take 1)=x:=by
 cases l with
 |nil=>cases h
 |cons a r=>cases h;exact ⟨rfl,rfl⟩
theorem Apo (l:List Int) (h:0<l.length):XC Tryz.prog 181 [.sl 1 (Cg l)] (fun r=>r=dI (Jc l)):=by
 refine An Abk Tryz.func181 R R lb<|zr<|za R R<|zn<|zs<|zr<|zm R R<|XL.len R R R Tryz.underlying45 fun hl6=>zp (Au R R R)<|zn<|?_
 refine zd R (fun c7=> ?_) (fun c7=> ?_)
 exfalso;omega
 refine zi<|zs<|?_
 obtain ⟨x,hx⟩:∃x,l[0]? =some x:=Ar h
 refine Ag (by kernel_rfl)<|zm R R<|zp (Ao (k:=0) R R R Dt (hx))<|zp (Bg R R Ai)<|za R R<|zn<|zs<|zr<|za R R<|zn<|Ah<|?_
 refine Az (α:=Nat) (fun k=>1≤k∧k≤l.length) (fun k=>mkF [(0, .d (.sl 1 (Cg l))),(2, .d (dI 0)),(3, .d (dI (Jc (l.take k)))),(4, .d (dI k))]) (fun k=>mkH []) (fun k=>l.length - k) (1) (⟨Nat.le_refl _,h⟩) ?_ ?_ ?_
 exact fz ⟨sr,sr, .same (sI (Zn hx).1.symm),sr,trivial⟩
 exact HSub.nil
 intro k hk0
 refine zs<|zr<|zm R R<|zm R R<|XL.len R R R Tryz.underlying45 fun hl14=>zp (Au R R R)<|zn<|?_
 refine zd R (fun c15=> ?_) (fun c15=> ?_)
 obtain ⟨y,hy⟩:∃y,l[k]? =some y:=Ar (by omega)
 refine zi<|zs<|Ah<|Ag (by kernel_rfl)<|zm R R<|zm R R<|zm R R<|zp (Ao R R R Dt (hy))<|zp (Bg R R Ai)<|zp (F4 R R R)<|za R R<|zn<|Ag (by kernel_rfl)<|zm R R<|?_
 refine zp (Al R R R (by omega) (by omega))<|za R R<|zn<|?_
 exact Am (k+1) (by omega) (by omega) (fz ⟨sr,sr, .same (sI (by rw [Ajw hy (by omega)])),sr,trivial⟩) (HSub.nil)
 have ht:l.take k=l:=List.take_of_length_le (by omega)
 exact At<|zr<|zm R R<|za R R<|zn<|zt<|z1 R R (rI (by rw [ht]))
theorem App (l:List Int) (h:0<l.length):XC Tryz.prog 182 [.sl 1 (Cg l)] (fun r=>r=dI (Jd l)):=by
 refine An Abj Tryz.func182 R R lb<|zr<|za R R<|zn<|zs<|zr<|zm R R<|XL.len R R R Tryz.underlying45 fun hl6=>zp (Au R R R)<|zn<|?_
 refine zd R (fun c7=> ?_) (fun c7=> ?_)
 exfalso;omega
 refine zi<|zs<|?_
 obtain ⟨x,hx⟩:∃x,l[0]? =some x:=Ar h
 refine Ag (by kernel_rfl)<|zm R R<|zp (Ao (k:=0) R R R Dt (hx))<|zp (Bg R R Ai)<|za R R<|zn<|zs<|zr<|za R R<|zn<|Ah<|?_
 refine Az (α:=Nat) (fun k=>1≤k∧k≤l.length) (fun k=>mkF [(0, .d (.sl 1 (Cg l))),(2, .d (dI 0)),(3, .d (dI (Jd (l.take k)))),(4, .d (dI k))]) (fun k=>mkH []) (fun k=>l.length - k) (1) (⟨Nat.le_refl _,h⟩) ?_ ?_ ?_
 exact fz ⟨sr,sr, .same (sI (Zn hx).2.symm),sr,trivial⟩
 exact HSub.nil
 intro k hk0
 refine zs<|zr<|zm R R<|zm R R<|XL.len R R R Tryz.underlying45 fun hl14=>zp (Au R R R)<|zn<|?_
 refine zd R (fun c15=> ?_) (fun c15=> ?_)
 obtain ⟨y,hy⟩:∃y,l[k]? =some y:=Ar (by omega)
 refine zi<|zs<|Ah<|Ag (by kernel_rfl)<|zm R R<|zm R R<|zm R R<|zp (Ao R R R Dt (hy))<|zp (Bg R R Ai)<|zp (Rp R R R)<|za R R<|zn<|Ag (by kernel_rfl)<|zm R R<|?_
 refine zp (Al R R R (by omega) (by omega))<|za R R<|zn<|?_
 exact Am (k+1) (by omega) (by omega) (fz ⟨sr,sr, .same (sI (by rw [Ajy hy (by omega)])),sr,trivial⟩) (HSub.nil)
 have ht:l.take k=l:=List.take_of_length_le (by omega)
 exact At<|zr<|zm R R<|za R R<|zn<|zt<|z1 R R (rI (by rw [ht]))
def I3 (v:Int) (k:Nat):List Int→Int
 | []=> -1
 |x::r=>if v=x then k else I3 v (k+1) r
theorem Akg {v x:Int} {l:List Int} {k:Nat} (h:l[k]? =some x) (hv:v=x):I3 v k (l.drop k)=k:=by rw [B5 h,I3,if_pos hv]
theorem Ahr {v x:Int} {l:List Int} {k:Nat} (h:l[k]? =some x) (hv:¬v=x):I3 v k (l.drop k)=I3 v (k+1) (l.drop (k+1)):=by rw [B5 h,I3,if_neg hv]
theorem Akf (v:Int) (l:List Int):∀k,0≤I3 v k l↔v∈l:=by
 induction l with
 |nil=>intro k;simp [I3]
 |cons x r ih=>
  intro k
  rw [I3]
  split
  ·rename_i h;simp [h]
  ·rename_i h;rw [ih,List.mem_cons];exact ⟨.inr,fun k=>k.elim (fun e=>absurd e h) fun e=>e⟩
theorem Ai7 (l:List Int) (v:Int):XC Tryz.prog 203 [.sl 1 (Cg l), .v (.int .i64 v)] (fun r=>r=dI (I3 v 0 l)):=by
 refine An Aa0 Tryz.func203 R R lb<|zr<|za R R<|zn<|zs<|zr<|zm R R<|XL.len R R R Tryz.underlying45 fun hl7=>zm R R<|zn<|Ah<|?_
 refine Az (α:=Nat) (fun k=>k≤l.length∧I3 v k (l.drop k)=I3 v 0 l) (fun k=>mkF [(0, .d (.sl 1 (Cg l))),(1, .d (dI v)),(7, .d (dI l.length)),(8, .d (dI k))]) (fun k=>mkH []) (fun k=>l.length - k) (0) (⟨Nat.zero_le _,by rw [List.drop_zero]⟩) ?_ ?_ ?_
 exact fz ⟨sr,sr,sr,sr,trivial⟩
 exact HSub.nil
 intro k hk0
 obtain ⟨hk,hgo⟩:=hk0
 refine zr<|zp (Au R R R)<|zn<|zs<|?_
 refine zd R (fun c9=> ?_) (fun c9=> ?_)
 have hk0a:k<l.length:=by omega
 obtain ⟨x0,hx0⟩:=Ar hk0a
 refine zi<|zs<|Ah<|zr<|zm R R<|za R R<|znr<|zm R R<|zm R R<|zm R R<|zp (Ao R R R Dt hx0)<|zp (Bg R R Ai)<|zp (Bi R R R)<|zn<|?_
 refine zd R (fun c16=> ?_) (fun c16=> ?_)
 exact zr<|zm R R<|za R R<|zn<|zt<|z1 R R (rI (by rw [←hgo,Akg hx0 c16]))
 refine zi<|Ag (by kernel_rfl)<|zp (Al R R R (by omega) (by omega))<|zm R R<|zn<|?_
 exact Am (k+1) (⟨by omega,by rw [←Ahr hx0 c16];exact hgo⟩) (by omega) (fz ⟨sr,sr,sr,sr,trivial⟩) (HSub.nil)
 have hk0b:k=l.length:=by omega
 have hz:I3 v 0 l= -1:=by rw [←hgo,hk0b,List.drop_length];rfl
 exact At<|zr<|za R R<|zn<|zt<|z1 R R (rI hz.symm)
theorem M3 (l:List Int) (v:Int):XC Tryz.prog 183 [.sl 1 (Cg l), .v (.int .i64 v)] (fun r=>r=dB (decide (v∈l))):=by
 exact An Abi Tryz.func183 R R lb<|zr<|za R R<|znr<|zm R R<|zm R R<|XL.call1 R R (Ai7 _ _) R<|zp (Gg R R R)<|za R R<|zn<|zt<|z1 R R (rB (by rw [decide_eq_decide];exact Akf v l 0))
end Go.Proofs.YtaafemnkamfgnaaGreat
namespace Go.Proofs.YtaafemnkamfgnaaGreat
open Go.RowKit
theorem On (l:List Hd) (h:l.length≤1000):XS Tryz.prog 140 [.sl 5 (l.map Hd.c)] (.own 5) [(5, .row 200 5 ((l).map Hd.c))]:=by
 refine D4 Rd Tryz.func140 R R lb (by kernel_rfl) (by kernel_rfl)<|zr<|za R R<|zn<|zs<|zr<|zm R R<|?_
 refine XL.eqnil R R R Tryz.underlying55 (fun hn4=> ?_) ?_
 refine zn<|Av (by kernel_rfl) R<|zr<|za R R<|zn<|Dx 5 2 200 5 R<|zt<|?_
 exact ⟨Cs R (RVS.tmp R R),HSub.cons (by rw [hn4];rfl) (HSub.nil)⟩
 refine zn<|A8 (by kernel_rfl) R<|zi<|zr<|XL.step R (Br 5 R Tryz.underlying55 Ym S6 R R (by omega) (by omega))<|zm R R<|XL.step R (A5 R Ak0 (.own R) (Src.sl (by omega)) (by unfold maxLen;simp;omega) (by simp;omega))<|zp (Aw R (by conv=>lhs;whnf))<|?_
 refine zn<|zt<|?_
 exact ⟨Cs R (RVS.tmp R R),HSub.cons (R) (HSub.nil)⟩
theorem Adr (l:List Gr) (h:l.length≤1000):XS Tryz.prog 141 [.sl 5 (l.map Gr.c)] (.own 5) [(5, .row 203 5 ((l).map Gr.c))]:=by
 refine D4 Rc Tryz.func141 R R lb (by kernel_rfl) (by kernel_rfl)<|zr<|za R R<|zn<|zs<|zr<|zm R R<|?_
 refine XL.eqnil R R R Tryz.underlying56 (fun hn4=> ?_) ?_
 refine zn<|Av (by kernel_rfl) R<|zr<|za R R<|zn<|Dx 5 2 203 5 R<|zt<|?_
 exact ⟨Cs R (RVS.tmp R R),HSub.cons (by rw [hn4];rfl) (HSub.nil)⟩
 refine zn<|A8 (by kernel_rfl) R<|zi<|zr<|XL.step R (Br 5 R Tryz.underlying56 Yl S5 R R (by omega) (by omega))<|zm R R<|XL.step R (A5 R Akz (.own R) (Src.sl (by omega)) (by unfold maxLen;simp;omega) (by simp;omega))<|zp (Aw R (by conv=>lhs;whnf))<|?_
 refine zn<|zt<|?_
 exact ⟨Cs R (RVS.tmp R R),HSub.cons (R) (HSub.nil)⟩
theorem Ado (l:List Sy) (h:l.length≤1000):XS Tryz.prog 142 [.sl 2 (l.map Sy.c)] (.own 5) [(5, .row 171 2 ((l).map Sy.c))]:=by
 refine D4 Rb Tryz.func142 R R lb (by kernel_rfl) (by kernel_rfl)<|zr<|za R R<|zn<|zs<|zr<|zm R R<|?_
 refine XL.eqnil R R R Tryz.underlying57 (fun hn4=> ?_) ?_
 refine zn<|Av (by kernel_rfl) R<|zr<|za R R<|zn<|Dx 5 2 171 2 R<|zt<|?_
 exact ⟨Cs R (RVS.tmp R R),HSub.cons (by rw [hn4];rfl) (HSub.nil)⟩
 refine zn<|A8 (by kernel_rfl) R<|zi<|zr<|XL.step R (Br 5 R Tryz.underlying57 Yn O4 R R (by omega) (by omega))<|zm R R<|XL.step R (A5 R Aky (.own R) (Src.sl (by omega)) (by unfold maxLen;simp;omega) (by simp;omega))<|zp (Aw R (by conv=>lhs;whnf))<|?_
 refine zn<|zt<|?_
 exact ⟨Cs R (RVS.tmp R R),HSub.cons (R) (HSub.nil)⟩
theorem Aap (l:List Int) (h:l.length≤1000):XS Tryz.prog 200 [.sl 1 (l.map iv)] (.own 5) [(5, .row 3 1 ((l).map iv))]:=by
 refine D4 Aa3 Tryz.func200 R R lb (by kernel_rfl) (by kernel_rfl)<|zr<|za R R<|zn<|zs<|zr<|zm R R<|?_
 refine XL.eqnil R R R Tryz.underlying45 (fun hn4=> ?_) ?_
 refine zn<|Av (by kernel_rfl) R<|zr<|za R R<|zn<|Dx 5 2 3 1 R<|zt<|?_
 exact ⟨Cs R (RVS.tmp R R),HSub.cons (by rw [hn4];rfl) (HSub.nil)⟩
 refine zn<|A8 (by kernel_rfl) R<|zi<|zr<|XL.step R (Br 5 R Tryz.underlying45 Ey H0 R R (by omega) (by omega))<|zm R R<|XL.step R (A5 R Q4 (.own R) (Src.sl (by omega)) (by unfold maxLen;simp;omega) (by simp;omega))<|zp (Aw R (by conv=>lhs;whnf))<|?_
 refine zn<|zt<|?_
 exact ⟨Cs R (RVS.tmp R R),HSub.cons (R) (HSub.nil)⟩
def Gs {α:Type} (f:α→α) (l:List α) (k:Nat):List α:=(l.take k).map f++l.drop k
theorem Kj {α:Type} (f:α→α) (l:List α):l=Gs f l 0:=by simp [Gs]
theorem Lr {α:Type} {f:α→α} {l:List α} {k:Nat} (h:l.length≤k):Gs f l k=l.map f:=by rw [Gs,List.take_of_length_le h,List.drop_eq_nil_of_le h,List.append_nil]
theorem Hj {α:Type} (f:α→α) (l:List α) (k:Nat):(Gs f l k).length=l.length:=by rw [Gs,List.length_append,List.length_map,List.length_take,List.length_drop];omega
theorem Lq {α:Type} {f:α→α} {l:List α} {k:Nat} {x:α} (h:l[k]? =some x):(Gs f l k)[k]? =some x:=by
 have hk:=(List.getElem?_eq_some_iff.1 h).1
 rw [Gs,List.getElem?_append_right (by rw [List.length_map,List.length_take];omega),List.length_map,List.length_take,Nat.min_eq_left (by omega),Nat.sub_self,List.getElem?_drop]
 exact h
theorem Lp {α:Type} {f:α→α} {l:List α} {k:Nat} {x:α} (h:l[k]? =some x):Gs f l (k+1)=(Gs f l k).set k (f x):=by
 have hk:=(List.getElem?_eq_some_iff.1 h).1
 have hl:((l.take k).map f).length=k:=by rw [List.length_map,List.length_take];omega
 rw [Gs,Gs,B3 h,List.map_append,List.set_append_right _ _ (by omega),hl,Nat.sub_self,B5 h,List.set_cons_zero,List.append_assoc]
 rfl
def Hd.tie (h:Hd):Hd:=⟨h.p,true,h.sh⟩
def Hd.plain (h:Hd):Hd:=⟨h.p,h.tied,0⟩
theorem P9 (l:List Hd) (h:l.length≤1000):XC Tryz.prog 136 [.sl 5 (l.map Hd.c)] (fun r=>r= .sl 5 ((l.map Hd.tie).map Hd.c)):=by
 refine An Ach Tryz.func136 R R lb<|zr<|za R R<|znr<|zm R R<|XL.callS R R ((On _ (by omega)).lab 7001) R<|zp (Aw R (by conv=>lhs;whnf))<|?_
 refine zn<|zs<|zr<|zp (As R (by conv=>lhs;whnf))<|?_
 refine zp (Bz R R R Tryz.underlying55)<|zm R R<|zn<|Ah<|?_
 refine Az (α:=Nat) (fun k=>k≤l.length) (fun k=>mkF [(0, .own 7001),(2, .d (.v (.slice none 0 0))),(6, .own 7001),(7, .d (dI l.length)),(8, .d (dI k))]) (fun k=>mkH [(7001, .row 200 5 ((Gs Hd.tie l k).map Hd.c))]) (fun k=>l.length - k) (0) (Nat.zero_le _) ?_ ?_ ?_
 exact fz ⟨sr,sr,sr,sr,sr,trivial⟩
 exact gz ⟨by rw [←Kj];rfl,trivial⟩
 intro k hk0
 refine zr<|zp (Au R R R)<|zn<|zs<|?_
 refine zd R (fun c9=> ?_) (fun c9=> ?_)
 have hkl:k<l.length:=by omega
 obtain ⟨x,hx⟩:=Ar hkl
 have hml:=Hj Hd.tie l k
 have hg:=Lq (f:=Hd.tie) hx
 refine zi<|zs<|Ah<|zr<|zm R R<|za R R<|zng<|zp (As R (by conv=>lhs;whnf))<|?_
 refine zm R R<|zp (Kc R R R R R0 (by omega))<|zp (Aa R R Akm)<|XL.step R (D8 R R R (C2 hg) R R Aum R lb)<|zn<|Ag (by kernel_rfl)<|zp (Al R R R (by omega) (by omega))<|zm R R<|zn<|?_
 exact Am (k+1) (by omega) (by omega) (fz ⟨sr,sr,sr,sr,sr,trivial⟩) (gz ⟨Od (a:=Hd.tie x) R (Lp hx),trivial⟩)
 have he:=Lr (f:=Hd.tie) (l:=l) (k:=k) (by omega)
 refine At<|zr<|zp (As R (by conv=>lhs;whnf))<|?_
 refine zp (Aw R (by conv=>lhs;whnf))<|?_
 exact zn<|zt<|Cd (i:=7001) R<|z1 R R (rSl he)
theorem P1 (l:List Hd) (h:l.length≤1000):XC Tryz.prog 135 [.sl 5 (l.map Hd.c)] (fun r=>r= .sl 5 ((l.map Hd.plain).map Hd.c)):=by
 refine An Aci Tryz.func135 R R lb<|zr<|za R R<|znr<|zm R R<|XL.callS R R ((On _ (by omega)).lab 7001) R<|zp (Aw R (by conv=>lhs;whnf))<|?_
 refine zn<|zs<|zr<|zp (As R (by conv=>lhs;whnf))<|?_
 refine zp (Bz R R R Tryz.underlying55)<|zm R R<|zn<|Ah<|?_
 refine Az (α:=Nat) (fun k=>k≤l.length) (fun k=>mkF [(0, .own 7001),(2, .d (.v (.slice none 0 0))),(6, .own 7001),(7, .d (dI l.length)),(8, .d (dI k))]) (fun k=>mkH [(7001, .row 200 5 ((Gs Hd.plain l k).map Hd.c))]) (fun k=>l.length - k) (0) (Nat.zero_le _) ?_ ?_ ?_
 exact fz ⟨sr,sr,sr,sr,sr,trivial⟩
 exact gz ⟨by rw [←Kj];rfl,trivial⟩
 intro k hk0
 refine zr<|zp (Au R R R)<|zn<|zs<|?_
 refine zd R (fun c9=> ?_) (fun c9=> ?_)
 have hkl:k<l.length:=by omega
 obtain ⟨x,hx⟩:=Ar hkl
 have hml:=Hj Hd.plain l k
 have hg:=Lq (f:=Hd.plain) hx
 refine zi<|zs<|Ah<|zr<|zm R R<|za R R<|zng<|zp (As R (by conv=>lhs;whnf))<|?_
 refine zm R R<|zp (Kc R R R R R0 (by omega))<|zp (Aa R R Xe)<|XL.step R (D8 R R R (C2 hg) R R Ey R lb)<|zn<|Ag (by kernel_rfl)<|zp (Al R R R (by omega) (by omega))<|zm R R<|zn<|?_
 exact Am (k+1) (by omega) (by omega) (fz ⟨sr,sr,sr,sr,sr,trivial⟩) (gz ⟨Od (a:=Hd.plain x) R (Lp hx),trivial⟩)
 have he:=Lr (f:=Hd.plain) (l:=l) (k:=k) (by omega)
 refine At<|zr<|zp (As R (by conv=>lhs;whnf))<|?_
 refine zp (Aw R (by conv=>lhs;whnf))<|?_
 exact zn<|zt<|Cd (i:=7001) R<|z1 R R (rSl he)
end Go.Proofs.YtaafemnkamfgnaaGreat
namespace Go.Proofs.YtaafemnkamfgnaaGreat
open Go.RowKit
def Ev.fit (e:Ev):Prop:=e.heads.length≤1000∧e.graces.length≤1000∧e.lyr.length≤1000
theorem Q5 (e:Ev) (h:e.fit):XC Tryz.prog 111 [.agg (Ev.c e)] (fun r=>r= .agg (Ev.c e)):=by
 obtain ⟨h1,h2,h3⟩:=h
 refine An Rf Tryz.func111 R R lb<|zr<|XL.step R (Ap 1 (l:= [.d (dI e.site), .d (dI e.num), .d (dI e.kind), .d (dI e.v.log), .d (dI e.v.dots), .d (.sl 5 (e.heads.map Hd.c)), .d (.sl 5 (e.graces.map Gr.c)), .d (dI e.art), .d (dI e.orn), .d (dI e.dyn), .d (.sl 2 (e.lyr.map Sy.c)), .d (dI e.stem), .d (dI e.beam)]) R R (by kernel_rfl))<|?_
 refine XL.step R (Aq 2 (l:= [.d (dI 0), .d (dI 0), .d (dI 0), .d (dI 0), .d (dI 0), .d (.v (.slice none 0 0)), .d (.v (.slice none 0 0)), .d (dI 0), .d (dI 0), .d (dI 0), .d (.v (.slice none 0 0)), .d (dI 0), .d (dI 0)]) R Cc (by kernel_rfl))<|zn<|zs<|Cq 10 [7001,7002,7003] (by kernel_rfl) (by kernel_rfl) (by kernel_rfl) (by kernel_rfl) (by decide)<|yp (Aa R R C7)<|?_
 refine yp (Ab R R Hs R R)<|ChK.cons R (CStep.callS R ((On _ (by omega)).lab 7001) R (Gt (by kernel_rfl)))<|yp (Aa R R Ga)<|yp (Ab R R Nz R R)<|ChK.cons R (CStep.callS R ((Adr _ (by omega)).lab 7002) R (Gt (by kernel_rfl)))<|yp (Aa R R Ep)<|yp (Ab R R Ji R R)<|?_
 refine ChK.cons R (CStep.callS R ((Ado _ (by omega)).lab 7003) R (Gt (by kernel_rfl)))<|yp (Aa R R C7)<|?_
 refine ChK.nil ⟨by kernel_rfl, ?_⟩
 refine XL.step R (Af (l':= [.d (dI e.site), .d (dI e.num), .d (dI e.kind), .d (dI e.v.log), .d (dI e.v.dots), .own 7001, .d (.sl 5 (e.graces.map Gr.c)), .d (dI e.art), .d (dI e.orn), .d (dI e.dyn), .d (.sl 2 (e.lyr.map Sy.c)), .d (dI e.stem), .d (dI e.beam)]) R R R R Nu R lb (by kernel_rfl))<|zp (Aa R R Ga)<|?_
 refine XL.step R (Af (l':= [.d (dI e.site), .d (dI e.num), .d (dI e.kind), .d (dI e.v.log), .d (dI e.v.dots), .own 7001, .own 7002, .d (dI e.art), .d (dI e.orn), .d (dI e.dyn), .d (.sl 2 (e.lyr.map Sy.c)), .d (dI e.stem), .d (dI e.beam)]) R R R R Agv R lb (by kernel_rfl))<|zp (Aa R R Ep)<|?_
 refine XL.step R (Af (l':= [.d (dI e.site), .d (dI e.num), .d (dI e.kind), .d (dI e.v.log), .d (dI e.v.dots), .own 7001, .own 7002, .d (dI e.art), .d (dI e.orn), .d (dI e.dyn), .own 7003, .d (dI e.stem), .d (dI e.beam)]) R R R R Agu R lb (by kernel_rfl))<|znr<|zp (Ac (Ad R R Bq R lb))<|?_
 refine XL.step R (Af (l':= [.d (dI e.site), .d (dI e.num), .d (dI e.kind), .d (dI e.v.log), .d (dI e.v.dots), .own 7001, .own 7002, .d (dI e.art), .d (dI e.orn), .d (dI e.dyn), .own 7003, .d (dI e.stem), .d (dI e.beam)]) R R R R C4 R lb (by kernel_rfl))<|zn<|zt<|Cd (i:=7001) R<|Cd (i:=7002) R<|Cd (i:=7003) R<|?_
 exact Jb R (RV.cells R R R Bq lb R) (R)
def Ev.eqv (a b:Ev):Prop:=(a.site=b.site∧a.num=b.num)∧a.same b
instance (a b:Ev):Decidable (a.eqv b):=by unfold Ev.eqv;exact inferInstance
theorem Ak3 (a b:Ev):XC Tryz.prog 109 [.agg (Ev.c a), .agg (Ev.c b)] (fun r=>r=dB (decide (a.eqv b))):=by
 refine An Acs Tryz.func109 R R lb<|zr<|XL.step R (Ap 2 (l:= [.d (dI a.site), .d (dI a.num), .d (dI a.kind), .d (dI a.v.log), .d (dI a.v.dots), .d (.sl 5 (a.heads.map Hd.c)), .d (.sl 5 (a.graces.map Gr.c)), .d (dI a.art), .d (dI a.orn), .d (dI a.dyn), .d (.sl 2 (a.lyr.map Sy.c)), .d (dI a.stem), .d (dI a.beam)]) R R (by kernel_rfl))<|?_
 refine XL.step R (Ap 3 (l:= [.d (dI b.site), .d (dI b.num), .d (dI b.kind), .d (dI b.v.log), .d (dI b.v.dots), .d (.sl 5 (b.heads.map Hd.c)), .d (.sl 5 (b.graces.map Gr.c)), .d (dI b.art), .d (dI b.orn), .d (dI b.dyn), .d (.sl 2 (b.lyr.map Sy.c)), .d (dI b.stem), .d (dI b.beam)]) R R (by kernel_rfl))<|za R R<|znr<|zp (Aa R R Iu)<|?_
 refine zp (Ae (s':= .d (.agg [dI a.site,dI a.num])) (Ac (Ad R R Kt R lb)) (by kernel_rfl))<|zp (Aa R R Iu)<|zp (Ae (s':= .d (.agg [dI b.site,dI b.num])) (Ac (Ad R R Kt R lb)) (by kernel_rfl))<|zp (Amj R R R)<|zm R R<|?_
 refine XL.dec 10 R (fun g10=> ?_) (fun g10=> ?_)
 exact zp (Ae (s':= .d (.agg (Ev.c a))) (Ac (Ad R R Bq R lb)) (by kernel_rfl))<|zp (Ae (s':= .d (.agg (Ev.c b))) (Ac (Ad R R Bq R lb)) (by kernel_rfl))<|XL.call1 R R (Afm _ _) R<|zq R R R<|za R R<|zn<|zt<|z1 R R (rB (by rw [decide_eq_decide];exact ⟨fun h=>⟨g10,h⟩,fun h=>h.2⟩))
 exact zk 3 R<|zq R R R<|za R R<|zn<|zt<|z1 R R (rB (by rw [eq_comm,decide_eq_false_iff_not];exact fun h=>g10 h.1))
structure Vo.fit (v:Vo):Prop where
 evs:v.evs.length≤1000
 tups:v.tups.length≤1000
 ev:∀e∈v.evs,e.fit
theorem Lg (v:Vo) (h:v.fit):XC Tryz.prog 82 [.agg (Vo.c v)] (fun r=>r= .agg (Vo.c v)):=by
 have h1:=h.evs
 have h2:=h.tups
 refine An S0 Tryz.func82 R R lb<|zr<|XL.step R (Ap 1 (l:= [.d (.sl 13 (v.evs.map Ev.c)), .d (.sl 4 (v.tups.map Tp.c))]) R R (by kernel_rfl))<|XL.step R (Aq 2 (l:= [.d (.v (.slice none 0 0)), .d (.v (.slice none 0 0))]) R Bf (by kernel_rfl))<|znr<|XL.step R (Aq 3 (l:= [.d (.v (.slice none 0 0)), .d (.v (.slice none 0 0))]) R Bf (by kernel_rfl))<|zn<|zs<|zr<|?_
 refine zp (Aa R R Bo)<|zp (Ab R R Cz R R)<|XL.len R R R Tryz.underlying79 fun hl8=>zm R R<|zn<|Ah<|E7 900 3 0 59 13 (l':= [.own 900, .d (.v (.slice none 0 0))]) R R (by decide) (by kernel_rfl)<|?_
 refine Az (α:=Nat) (fun k=>k≤v.evs.length) (fun k=>mkF [(1, .ptr 1 0 0),(2, .ptr 2 0 0),(3, .ptr 3 0 0),(7, .d (.sl 13 (v.evs.map Ev.c))),(8, .d (dI v.evs.length)),(9, .d (dI k))]) (fun k=>mkH [(1, .box ((Vo.c v).map S.d)),(2, .box [.d (.v (.slice none 0 0)), .d (.v (.slice none 0 0))]),(3, .box [.own 900, .d (.v (.slice none 0 0))]),(900, .row 59 13 ((v.evs.take k).map Ev.c))]) (fun k=>v.evs.length - k) (0) (Nat.zero_le _) ?_ ?_ ?_
 exact fz ⟨sr,sr,sr,sr,sr,sr,trivial⟩
 exact gz ⟨R,R,R,R,trivial⟩
 intro k hk0
 refine zr<|zp (Au R R R)<|zn<|zs<|?_
 refine zd R (fun c10=> ?_) (fun c10=> ?_)
 have hk0a:k<v.evs.length:=by omega
 obtain ⟨x0,hx0⟩:=Ar hk0a
 have hf:=h.ev x0 (List.mem_of_getElem? hx0)
 have htl:(v.evs.take k).length=k:=by rw [List.length_take];omega
 refine zi<|zs<|Ah<|zr<|zp (Ao R R R F5 hx0)<|zp (Ae (s':= .d (.agg (Ev.c x0))) (Ay R R Bq lb) (by kernel_rfl))<|XL.step R (Aq 5 (l:= [.d (dI 0), .d (dI 0), .d (dI 0), .d (dI 0), .d (dI 0), .d (.v (.slice none 0 0)), .d (.v (.slice none 0 0)), .d (dI 0), .d (dI 0), .d (dI 0), .d (.v (.slice none 0 0)), .d (dI 0), .d (dI 0)]) R Cc (by kernel_rfl))<|?_
 refine XL.step R (Af (l':= [.d (dI x0.site), .d (dI x0.num), .d (dI x0.kind), .d (dI x0.v.log), .d (dI x0.v.dots), .d (.sl 5 (x0.heads.map Hd.c)), .d (.sl 5 (x0.graces.map Gr.c)), .d (dI x0.art), .d (dI x0.orn), .d (dI x0.dyn), .d (.sl 2 (x0.lyr.map Sy.c)), .d (dI x0.stem), .d (dI x0.beam)]) R R R R C4 R lb (by kernel_rfl))<|zn<|?_
 refine Cq 5 [] (by kernel_rfl) (by kernel_rfl) (by kernel_rfl) (by kernel_rfl) (by decide)<|yp (Aa R R Bo)<|yp (Ab R R Cz R R)<|yp (Ae (s':= .d (.agg (Ev.c x0))) (Ac (Ad R R Bq R lb)) (by kernel_rfl))<|ChK.cons R (CStep.call R (Q5 _ (by assumption)) R)<|ChK.cons R (CStep.slice R Tryz.underlying79 C4 Cc R R (by omega) (by omega))<|?_
 refine ChK.nil ⟨by kernel_rfl, ?_⟩
 refine XL.step R (A5 R Gv (.own R) (Src.sl (by omega)) (by unfold maxLen;simp;omega) (by simp;omega))<|zp (Aa R R Bo)<|XL.step R (Af (l':= [.own 900, .d (.v (.slice none 0 0))]) R R R R Rm R lb (by kernel_rfl))<|zn<|Ag (by kernel_rfl)<|zp (Al R R R (by omega) (by omega))<|zm R R<|zn<|?_
 exact Am (k+1) (by omega) (by omega) (fz ⟨sr,sr,sr,sr,sr,sr,trivial⟩) (gz ⟨R,R,R,Jn R (B3 hx0),trivial⟩)
 have hk0b:k=v.evs.length:=by omega
 have ht:v.evs.take k=v.evs:=by rw [hk0b,List.take_length]
 refine At<|zr<|zp (Aa R R B6)<|zp (Ab R R B7 R R)<|zp (Aa R R B6)<|zp (Ab R R B7 R R)<|XL.step R (A5 R F1 (.nil 25 _ _) (Src.sl (by omega)) (by unfold maxLen;simp;omega) (by simp;omega))<|zp (Aa R R B6)<|XL.step R (Af (l':= [.own 900, .own 25]) R R R R Ge R lb (by kernel_rfl))<|znr<|?_
 refine zp (Ac (Ad R R Ax R lb))<|XL.step R (Af (l':= [.own 900, .own 25]) R R R R Bu R lb (by kernel_rfl))<|zn<|zt<|Cd (i:=900) R<|Cd (i:=25) R<|?_
 exact Jb R (RV.cells R R R Ax lb R) (by rw [ht];rfl)
end Go.Proofs.YtaafemnkamfgnaaGreat
namespace Go.Proofs.YtaafemnkamfgnaaGreat
open Go.RowKit
def Ev.further (x:Ev):Ev:=⟨0,0,x.kind,⟨0,0⟩,x.heads.map Hd.plain, [],0,0,0, [],x.stem,0⟩
def Ev.put (y:Ev) (v:Val) (t:Bool):Ev:=⟨y.site,y.num,y.kind,v,if t then y.heads.map Hd.tie else y.heads,y.graces,y.art,y.orn,y.dyn,y.lyr,y.stem,y.beam⟩
def Fo (x:Ev) (n:Nat) (fu:Bool) (i:Nat) (v:Val):Ev:=(if 0<(i:Int)∨fu=true then x.further else x).put v (decide ((i:Int)+1<(n:Int)))
def By (x:Ev) (vs:List Val) (fu:Bool):List Ev:=vs.mapIdx (Fo x vs.length fu)
def Kh (x:Ev) (vs:List Val) (fu:Bool) (k:Nat):List Ev:=(vs.take k).mapIdx (Fo x vs.length fu)
theorem H6 {x:Ev} {vs:List Val} {fu:Bool} {k:Nat} {v:Val} (h:vs[k]? =some v) {y:Ev} (hy:Fo x vs.length fu k v=y):Kh x vs fu (k+1)=Kh x vs fu k++ [y]:=by
 have hk:=(List.getElem?_eq_some_iff.1 h).1
 rw [Kh,B3 h,List.mapIdx_append, ←hy]
 simp [Kh,List.length_take,Nat.min_eq_left (Nat.le_of_lt hk)]
theorem Ajt {x:Ev} {n i:Nat} {fu:Bool} {v:Val} (h:0<(i:Int)∨fu=true) (h2:(i:Int)+1<(n:Int)):Fo x n fu i v=x.further.put v true:=by rw [Fo,if_pos h,decide_eq_true h2]
theorem Ajs {x:Ev} {n i:Nat} {fu:Bool} {v:Val} (h:0<(i:Int)∨fu=true) (h2:¬(i:Int)+1<(n:Int)):Fo x n fu i v=x.further.put v false:=by rw [Fo,if_pos h,decide_eq_false h2]
theorem Asc {x:Ev} {n i:Nat} {fu:Bool} {v:Val} (h:¬0<(i:Int)) (h':fu=false) (h2:(i:Int)+1<(n:Int)):Fo x n fu i v=x.put v true:=by rw [Fo,if_neg (by rw [h'];simp;omega),decide_eq_true h2]
theorem Asb {x:Ev} {n i:Nat} {fu:Bool} {v:Val} (h:¬0<(i:Int)) (h':fu=false) (h2:¬(i:Int)+1<(n:Int)):Fo x n fu i v=x.put v false:=by rw [Fo,if_neg (by rw [h'];simp;omega),decide_eq_false h2]
theorem M9 (x:Ev) (vs:List Val) (fu:Bool) (h:x.fit) (hv:vs.length≤3000):XS Tryz.prog 105 [.agg (Ev.c x), .sl 2 (vs.map Val.c), .v (.bool fu)] (.own 900) [(900, .row 59 13 ((By x vs fu).map Ev.c))]:=by
 have hf:=h
 have hf1:=h.1
 refine D4 Acw Tryz.func105 R R lb (by kernel_rfl) (by kernel_rfl)<|zr<|XL.step R (Ap 3 (l:= [.d (dI x.site), .d (dI x.num), .d (dI x.kind), .d (dI x.v.log), .d (dI x.v.dots), .d (.sl 5 (x.heads.map Hd.c)), .d (.sl 5 (x.graces.map Gr.c)), .d (dI x.art), .d (dI x.orn), .d (dI x.dyn), .d (.sl 2 (x.lyr.map Sy.c)), .d (dI x.stem), .d (dI x.beam)]) R R (by kernel_rfl))<|za R R<|znr<|?_
 refine za R R<|zn<|zs<|zr<|zm R R<|XL.len R R R Tryz.underlying159 fun hl12=>zm R R<|zn<|Ah<|Dx 900 7 59 13 R<|?_
 refine Az (α:=Nat) (fun k=>k≤vs.length) (fun k=>mkF [(1, .d (.sl 2 (vs.map Val.c))),(2, .d (dB fu)),(3, .ptr 3 0 0),(6, .d (.v (.slice none 0 0))),(7, .own 900),(11, .d (.sl 2 (vs.map Val.c))),(12, .d (dI vs.length)),(13, .d (dI k))]) (fun k=>mkH [(3, .box ((Ev.c x).map S.d)),(900, .row 59 13 ((Kh x vs fu k).map Ev.c))]) (fun k=>vs.length - k) (0) (Nat.zero_le _) ?_ ?_ ?_
 exact fz ⟨sr,sr,sr,sr,sr,sr,sr,sr,trivial⟩
 exact gz ⟨R,R,trivial⟩
 intro k hk0
 refine zr<|zp (Au R R R)<|zn<|zs<|?_
 refine zd R (fun c14=> ?_) (fun c14=> ?_)
 have hk0a:k<vs.length:=by omega
 obtain ⟨x0,hx0⟩:=Ar hk0a
 have hnl:(Kh x vs fu k).length=k:=by rw [Kh,List.length_mapIdx,List.length_take];omega
 have hpl:(x.heads.map Hd.plain).length≤1000:=by rw [List.length_map];exact hf1
 refine zi<|zs<|Ah<|zr<|zm R R<|zp (Ao R R R As1 hx0)<|zp (Ae (s':= .d (.agg (Val.c x0))) (Ay R R El lb) (by kernel_rfl))<|XL.step R (Aq 9 (l:= [.d (dI 0), .d (dI 0)]) R Ft (by kernel_rfl))<|za R R<|XL.step R (Af (l':= [.d (dI x0.log), .d (dI x0.dots)]) R R R R Hq R lb (by kernel_rfl))<|znr<|?_
 refine zp (Ae (s':= .d (.agg (Ev.c x))) (Ac (Ad R R Bq R lb)) (by kernel_rfl))<|XL.call1 R R (Q5 _ (by assumption)) R<|XL.step R (Aq 10 (l:= [.d (dI 0), .d (dI 0), .d (dI 0), .d (dI 0), .d (dI 0), .d (.v (.slice none 0 0)), .d (.v (.slice none 0 0)), .d (dI 0), .d (dI 0), .d (dI 0), .d (.v (.slice none 0 0)), .d (dI 0), .d (dI 0)]) R Cc (by kernel_rfl))<|?_
 refine XL.step R (Af (l':= [.d (dI x.site), .d (dI x.num), .d (dI x.kind), .d (dI x.v.log), .d (dI x.v.dots), .d (.sl 5 (x.heads.map Hd.c)), .d (.sl 5 (x.graces.map Gr.c)), .d (dI x.art), .d (dI x.orn), .d (dI x.dyn), .d (.sl 2 (x.lyr.map Sy.c)), .d (dI x.stem), .d (dI x.beam)]) R R R R C4 R lb (by kernel_rfl))<|zn<|zs<|zr<|zm R R<|zp (Bb R R R)<|zm R R<|?_
 refine XL.dec 22 R (fun g22=> ?_) (fun g22=> ?_)
 refine XL.skip R<|zq R R R<|zn<|Av (by kernel_rfl) R<|Cq 7 [] (by kernel_rfl) (by kernel_rfl) (by kernel_rfl) (by kernel_rfl) (by decide)<|yp (Aa R R Dj)<|yp (Ab R R Ai R R)<|yp (Aa R R It)<|yp (Ab R R Ai R R)<|yp (Aa R R C7)<|yp (Ab R R Hs R R)<|ChK.cons R (CStep.call R (P1 _ (by omega)) R)<|?_
 refine ChK.nil ⟨by kernel_rfl, ?_⟩
 refine zp (Ae (s':= .d (.agg [dI 0,dI 0,dI x.kind,dI 0,dI 0, .sl 5 ((x.heads.map Hd.plain).map Hd.c), .v (.slice none 0 0),dI 0,dI 0,dI 0, .v (.slice none 0 0),dI x.stem,dI 0])) (Ac (A4 R Qb Cc R)) (by kernel_rfl))<|?_
 refine XL.step R (Af (l':= [.d (dI 0), .d (dI 0), .d (dI x.kind), .d (dI 0), .d (dI 0), .d (.sl 5 ((x.heads.map Hd.plain).map Hd.c)), .d (.v (.slice none 0 0)), .d (dI 0), .d (dI 0), .d (dI 0), .d (.v (.slice none 0 0)), .d (dI x.stem), .d (dI 0)]) R R R R C4 R lb (by kernel_rfl))<|znr<|zp (Ae (s':= .d (.agg (Val.c x0))) (Ac (Ad R R El R lb)) (by kernel_rfl))<|?_
 refine zp (Aa R R Hy)<|XL.step R (Af (l':= [.d (dI 0), .d (dI 0), .d (dI x.kind), .d (dI x0.log), .d (dI x0.dots), .d (.sl 5 ((x.heads.map Hd.plain).map Hd.c)), .d (.v (.slice none 0 0)), .d (dI 0), .d (dI 0), .d (dI 0), .d (.v (.slice none 0 0)), .d (dI x.stem), .d (dI 0)]) R R R R Hq R lb (by kernel_rfl))<|zn<|zs<|zr<|zm R R<|zp (Al R R R (by omega) (by omega))<|zm R R<|?_
 refine XL.len R R R Tryz.underlying159 fun hl38=>zp (Au R R R)<|zn<|?_
 refine zd R (fun c39=> ?_) (fun c39=> ?_)
 refine Ag (by kernel_rfl)<|zp (Aa R R C7)<|zp (Ab R R Hs R R)<|XL.call1 R R (P9 _ (by omega)) R<|zp (Aa R R C7)<|?_
 refine XL.step R (Af (l':= [.d (dI 0), .d (dI 0), .d (dI x.kind), .d (dI x0.log), .d (dI x0.dots), .d (.sl 5 (((x.heads.map Hd.plain).map Hd.tie).map Hd.c)), .d (.v (.slice none 0 0)), .d (dI 0), .d (dI 0), .d (dI 0), .d (.v (.slice none 0 0)), .d (dI x.stem), .d (dI 0)]) R R R R Nu R lb (by kernel_rfl))<|zng<|zp (As R (by conv=>lhs;whnf))<|?_
 refine zp (Ae (s':= .d (.agg [dI 0,dI 0,dI x.kind,dI x0.log,dI x0.dots, .sl 5 (((x.heads.map Hd.plain).map Hd.tie).map Hd.c), .v (.slice none 0 0),dI 0,dI 0,dI 0, .v (.slice none 0 0),dI x.stem,dI 0])) (Ac (Ad R R Bq R lb)) (by kernel_rfl))<|XL.step R (Br 46 R Tryz.underlying79 C4 Cc R R (by omega) (by omega))<|?_
 refine XL.row1 (i:=46) R (.cons (.same R) (.cons (.same R) (.cons (.same R) (.cons (.same R) (.cons (.same R) (.cons (.same R) (.cons (.nil 5) (.cons (.same R) (.cons (.same R) (.cons (.same R) (.cons (.nil 2) (.cons (.same R) (.cons (.same R) (.nil))))))))))))))<|XL.step R (A5 R Gv (.own R) (Src.own R) (by unfold maxLen;simp;omega) (by simp;omega))<|?_
 refine zp (Aw R (by conv=>lhs;whnf))<|?_
 refine zn<|Ag (by kernel_rfl)<|zp (Al R R R (by omega) (by omega))<|zm R R<|zn<|?_
 exact Am (k+1) (by omega) (by omega) (fz ⟨sr,sr,sr,sr,sr,sr,sr,sr,trivial⟩) (gz ⟨R,Jn R (H6 hx0 (Ajt (.inl g22) c39)),trivial⟩)
 refine zi<|Ag (by kernel_rfl)<|zp (As R (by conv=>lhs;whnf))<|?_
 refine zp (Ae (s':= .d (.agg [dI 0,dI 0,dI x.kind,dI x0.log,dI x0.dots, .sl 5 ((x.heads.map Hd.plain).map Hd.c), .v (.slice none 0 0),dI 0,dI 0,dI 0, .v (.slice none 0 0),dI x.stem,dI 0])) (Ac (Ad R R Bq R lb)) (by kernel_rfl))<|XL.step R (Br 46 R Tryz.underlying79 C4 Cc R R (by omega) (by omega))<|?_
 refine XL.row1 (i:=46) R (.cons (.same R) (.cons (.same R) (.cons (.same R) (.cons (.same R) (.cons (.same R) (.cons (.same R) (.cons (.nil 5) (.cons (.same R) (.cons (.same R) (.cons (.same R) (.cons (.nil 2) (.cons (.same R) (.cons (.same R) (.nil))))))))))))))<|XL.step R (A5 R Gv (.own R) (Src.own R) (by unfold maxLen;simp;omega) (by simp;omega))<|?_
 refine zp (Aw R (by conv=>lhs;whnf))<|?_
 refine zn<|Ag (by kernel_rfl)<|zp (Al R R R (by omega) (by omega))<|zm R R<|zn<|?_
 exact Am (k+1) (by omega) (by omega) (fz ⟨sr,sr,sr,sr,sr,sr,sr,sr,trivial⟩) (gz ⟨R,Jn R (H6 hx0 (Ajs (.inl g22) c39)),trivial⟩)
 refine zm R R<|zq R R R<|zn<|?_
 refine Ff (by kernel_rfl) R (fun c24=> ?_) (fun c24=> ?_)
 refine Cq 7 [] (by kernel_rfl) (by kernel_rfl) (by kernel_rfl) (by kernel_rfl) (by decide)<|yp (Aa R R Dj)<|yp (Ab R R Ai R R)<|yp (Aa R R It)<|yp (Ab R R Ai R R)<|yp (Aa R R C7)<|yp (Ab R R Hs R R)<|ChK.cons R (CStep.call R (P1 _ (by omega)) R)<|?_
 refine ChK.nil ⟨by kernel_rfl, ?_⟩
 refine zp (Ae (s':= .d (.agg [dI 0,dI 0,dI x.kind,dI 0,dI 0, .sl 5 ((x.heads.map Hd.plain).map Hd.c), .v (.slice none 0 0),dI 0,dI 0,dI 0, .v (.slice none 0 0),dI x.stem,dI 0])) (Ac (A4 R Qb Cc R)) (by kernel_rfl))<|?_
 refine XL.step R (Af (l':= [.d (dI 0), .d (dI 0), .d (dI x.kind), .d (dI 0), .d (dI 0), .d (.sl 5 ((x.heads.map Hd.plain).map Hd.c)), .d (.v (.slice none 0 0)), .d (dI 0), .d (dI 0), .d (dI 0), .d (.v (.slice none 0 0)), .d (dI x.stem), .d (dI 0)]) R R R R C4 R lb (by kernel_rfl))<|znr<|zp (Ae (s':= .d (.agg (Val.c x0))) (Ac (Ad R R El R lb)) (by kernel_rfl))<|?_
 refine zp (Aa R R Hy)<|XL.step R (Af (l':= [.d (dI 0), .d (dI 0), .d (dI x.kind), .d (dI x0.log), .d (dI x0.dots), .d (.sl 5 ((x.heads.map Hd.plain).map Hd.c)), .d (.v (.slice none 0 0)), .d (dI 0), .d (dI 0), .d (dI 0), .d (.v (.slice none 0 0)), .d (dI x.stem), .d (dI 0)]) R R R R Hq R lb (by kernel_rfl))<|zn<|zs<|zr<|zm R R<|zp (Al R R R (by omega) (by omega))<|zm R R<|?_
 refine XL.len R R R Tryz.underlying159 fun hl38=>zp (Au R R R)<|zn<|?_
 refine zd R (fun c39=> ?_) (fun c39=> ?_)
 refine Ag (by kernel_rfl)<|zp (Aa R R C7)<|zp (Ab R R Hs R R)<|XL.call1 R R (P9 _ (by omega)) R<|zp (Aa R R C7)<|?_
 refine XL.step R (Af (l':= [.d (dI 0), .d (dI 0), .d (dI x.kind), .d (dI x0.log), .d (dI x0.dots), .d (.sl 5 (((x.heads.map Hd.plain).map Hd.tie).map Hd.c)), .d (.v (.slice none 0 0)), .d (dI 0), .d (dI 0), .d (dI 0), .d (.v (.slice none 0 0)), .d (dI x.stem), .d (dI 0)]) R R R R Nu R lb (by kernel_rfl))<|zng<|zp (As R (by conv=>lhs;whnf))<|?_
 refine zp (Ae (s':= .d (.agg [dI 0,dI 0,dI x.kind,dI x0.log,dI x0.dots, .sl 5 (((x.heads.map Hd.plain).map Hd.tie).map Hd.c), .v (.slice none 0 0),dI 0,dI 0,dI 0, .v (.slice none 0 0),dI x.stem,dI 0])) (Ac (Ad R R Bq R lb)) (by kernel_rfl))<|XL.step R (Br 46 R Tryz.underlying79 C4 Cc R R (by omega) (by omega))<|?_
 refine XL.row1 (i:=46) R (.cons (.same R) (.cons (.same R) (.cons (.same R) (.cons (.same R) (.cons (.same R) (.cons (.same R) (.cons (.nil 5) (.cons (.same R) (.cons (.same R) (.cons (.same R) (.cons (.nil 2) (.cons (.same R) (.cons (.same R) (.nil))))))))))))))<|XL.step R (A5 R Gv (.own R) (Src.own R) (by unfold maxLen;simp;omega) (by simp;omega))<|?_
 refine zp (Aw R (by conv=>lhs;whnf))<|?_
 refine zn<|Ag (by kernel_rfl)<|zp (Al R R R (by omega) (by omega))<|zm R R<|zn<|?_
 exact Am (k+1) (by omega) (by omega) (fz ⟨sr,sr,sr,sr,sr,sr,sr,sr,trivial⟩) (gz ⟨R,Jn R (H6 hx0 (Ajt (.inr c24) c39)),trivial⟩)
 refine zi<|Ag (by kernel_rfl)<|zp (As R (by conv=>lhs;whnf))<|?_
 refine zp (Ae (s':= .d (.agg [dI 0,dI 0,dI x.kind,dI x0.log,dI x0.dots, .sl 5 ((x.heads.map Hd.plain).map Hd.c), .v (.slice none 0 0),dI 0,dI 0,dI 0, .v (.slice none 0 0),dI x.stem,dI 0])) (Ac (Ad R R Bq R lb)) (by kernel_rfl))<|XL.step R (Br 46 R Tryz.underlying79 C4 Cc R R (by omega) (by omega))<|?_
 refine XL.row1 (i:=46) R (.cons (.same R) (.cons (.same R) (.cons (.same R) (.cons (.same R) (.cons (.same R) (.cons (.same R) (.cons (.nil 5) (.cons (.same R) (.cons (.same R) (.cons (.same R) (.cons (.nil 2) (.cons (.same R) (.cons (.same R) (.nil))))))))))))))<|XL.step R (A5 R Gv (.own R) (Src.own R) (by unfold maxLen;simp;omega) (by simp;omega))<|?_
 refine zp (Aw R (by conv=>lhs;whnf))<|?_
 refine zn<|Ag (by kernel_rfl)<|zp (Al R R R (by omega) (by omega))<|zm R R<|zn<|?_
 exact Am (k+1) (by omega) (by omega) (fz ⟨sr,sr,sr,sr,sr,sr,sr,sr,trivial⟩) (gz ⟨R,Jn R (H6 hx0 (Ajs (.inr c24) c39)),trivial⟩)
 refine zi<|zr<|zp (Ae (s':= .d (.agg (Val.c x0))) (Ac (Ad R R El R lb)) (by kernel_rfl))<|zp (Aa R R Hy)<|?_
 refine XL.step R (Af (l':= [.d (dI x.site), .d (dI x.num), .d (dI x.kind), .d (dI x0.log), .d (dI x0.dots), .d (.sl 5 (x.heads.map Hd.c)), .d (.sl 5 (x.graces.map Gr.c)), .d (dI x.art), .d (dI x.orn), .d (dI x.dyn), .d (.sl 2 (x.lyr.map Sy.c)), .d (dI x.stem), .d (dI x.beam)]) R R R R Hq R lb (by kernel_rfl))<|zn<|zs<|zr<|zm R R<|zp (Al R R R (by omega) (by omega))<|zm R R<|?_
 refine XL.len R R R Tryz.underlying159 fun hl38=>zp (Au R R R)<|zn<|?_
 refine zd R (fun c39=> ?_) (fun c39=> ?_)
 refine Ag (by kernel_rfl)<|zp (Aa R R C7)<|zp (Ab R R Hs R R)<|XL.call1 R R (P9 _ (by omega)) R<|zp (Aa R R C7)<|?_
 refine XL.step R (Af (l':= [.d (dI x.site), .d (dI x.num), .d (dI x.kind), .d (dI x0.log), .d (dI x0.dots), .d (.sl 5 ((x.heads.map Hd.tie).map Hd.c)), .d (.sl 5 (x.graces.map Gr.c)), .d (dI x.art), .d (dI x.orn), .d (dI x.dyn), .d (.sl 2 (x.lyr.map Sy.c)), .d (dI x.stem), .d (dI x.beam)]) R R R R Nu R lb (by kernel_rfl))<|zng<|zp (As R (by conv=>lhs;whnf))<|?_
 refine zp (Ae (s':= .d (.agg [dI x.site,dI x.num,dI x.kind,dI x0.log,dI x0.dots, .sl 5 ((x.heads.map Hd.tie).map Hd.c), .sl 5 (x.graces.map Gr.c),dI x.art,dI x.orn,dI x.dyn, .sl 2 (x.lyr.map Sy.c),dI x.stem,dI x.beam])) (Ac (Ad R R Bq R lb)) (by kernel_rfl))<|XL.step R (Br 46 R Tryz.underlying79 C4 Cc R R (by omega) (by omega))<|?_
 refine XL.step R (A5 R Gv (.own R) (Src.own R) (by unfold maxLen;simp;omega) (by simp;omega))<|zp (Aw R (by conv=>lhs;whnf))<|?_
 refine zn<|Ag (by kernel_rfl)<|zp (Al R R R (by omega) (by omega))<|zm R R<|zn<|?_
 exact Am (k+1) (by omega) (by omega) (fz ⟨sr,sr,sr,sr,sr,sr,sr,sr,trivial⟩) (gz ⟨R,Jn R (H6 hx0 (Asc g22 c24 c39)),trivial⟩)
 refine zi<|Ag (by kernel_rfl)<|zp (As R (by conv=>lhs;whnf))<|?_
 refine zp (Ae (s':= .d (.agg [dI x.site,dI x.num,dI x.kind,dI x0.log,dI x0.dots, .sl 5 (x.heads.map Hd.c), .sl 5 (x.graces.map Gr.c),dI x.art,dI x.orn,dI x.dyn, .sl 2 (x.lyr.map Sy.c),dI x.stem,dI x.beam])) (Ac (Ad R R Bq R lb)) (by kernel_rfl))<|XL.step R (Br 46 R Tryz.underlying79 C4 Cc R R (by omega) (by omega))<|?_
 refine XL.step R (A5 R Gv (.own R) (Src.own R) (by unfold maxLen;simp;omega) (by simp;omega))<|zp (Aw R (by conv=>lhs;whnf))<|?_
 refine zn<|Ag (by kernel_rfl)<|zp (Al R R R (by omega) (by omega))<|zm R R<|zn<|?_
 exact Am (k+1) (by omega) (by omega) (fz ⟨sr,sr,sr,sr,sr,sr,sr,sr,trivial⟩) (gz ⟨R,Jn R (H6 hx0 (Asb g22 c24 c39)),trivial⟩)
 have hk0b:k=vs.length:=by omega
 have ht:Kh x vs fu k=By x vs fu:=by rw [Kh,hk0b,List.take_length];rfl
 refine At<|zr<|zp (As R (by conv=>lhs;whnf))<|?_
 refine zp (Aw R (by conv=>lhs;whnf))<|?_
 refine zn<|zt<|?_
 exact ⟨Cs R (RVS.tmp R R),HSub.cons (by rw [ht];rfl) (HSub.nil)⟩
end Go.Proofs.YtaafemnkamfgnaaGreat
namespace Go.Proofs.YtaafemnkamfgnaaGreat
open Go.RowKit
def Ev.silent (e:Ev):Prop:=(e.kind=2∨e.kind=4)∧e.dyn=0∧e.art=0
instance (e:Ev):Decidable e.silent:=by unfold Ev.silent;exact inferInstance
def Ev.bare (y:Ev) (stem:Int):Ev:=⟨y.site,y.num,1,y.v,y.heads.map Hd.plain, [],0,0,0, [],stem,0⟩
def Yg (a b:List Hd):Prop:=∀(j:Nat) (x y:Hd),a[j]? =some x→b[j]? =some y→x.tied=true∧x.p=y.p
def Ev.conts (x y:Ev) (stem:Int):Prop:=x.kind=1∧x.heads.length=y.heads.length∧Yg x.heads y.heads∧y.eqv (y.bare stem)
open Classical in
noncomputable def Ev.contB (x y:Ev) (stem:Int):Bool:=decide (x.conts y stem)
def Pl.bad (p:Pl):Prop:=p.off<0∨15482880<p.off∨p.len<1∨15482880<p.len
instance (p:Pl):Decidable p.bad:=by unfold Pl.bad;exact inferInstance
def Pl.chk (p:Pl) (v:Vo):Int:=if p.m.err≠0 then p.m.err else if p.bad then 2 else ckE v p.len
theorem Auu {p:Pl} {v:Vo} (h:p.m.err≠0):p.m.err=p.chk v:=by rw [Pl.chk,if_pos h]
theorem Aha {p:Pl} {v:Vo} (h:¬p.m.err≠0) (h2:p.bad):2=p.chk v:=by rw [Pl.chk,if_neg h,if_pos h2]
theorem Aut {p:Pl} {v:Vo} (h:¬p.m.err≠0) (h2:¬p.bad):ckE v p.len=p.chk v:=by rw [Pl.chk,if_neg h,if_neg h2]
theorem Ag9 (p:Pl) (v:Vo) (hE:Evs v.evs):XC Tryz.prog 128 [.agg (Pl.c p), .agg (Vo.c v)] (fun r=>r=dI (p.chk v)):=by
 refine An Aco Tryz.func128 R R lb<|zr<|XL.step R (Ap 2 (l:= [.d (dI p.m.count), .d (dI p.m.unit), .d (dI p.m.g0), .d (dI p.m.g1), .d (dI p.m.g2), .d (dI p.m.g3), .d (dI p.m.g4), .d (dI p.m.g5), .d (dI p.off), .d (dI p.len)]) R R (by kernel_rfl))<|XL.step R (Ap 3 (l:= [.d (.sl 13 (v.evs.map Ev.c)), .d (.sl 4 (v.tups.map Tp.c))]) R R (by kernel_rfl))<|za R R<|zn<|zs<|zr<|?_
 refine zp (Aa R R Ni)<|zp (Ae (s':= .d (.agg (Me.c p.m))) (Ac (Ad R R Bn R lb)) (by kernel_rfl))<|XL.call1 R R (N4 _) R<|za R R<|znr<|zm R R<|zp (A1 R R R)<|zn<|?_
 refine zd R (fun c10=> ?_) (fun c10=> ?_)
 exact zr<|zm R R<|za R R<|zn<|zt<|z1 R R (rI (Auu c10))
 refine zi<|zs<|zr<|zp (Aa R R G5)<|zp (Ab R R Ai R R)<|zp (Au R R R)<|zm R R<|?_
 refine XL.dec 15 R (fun g15=> ?_) (fun g15=> ?_)
 exact zk 3 R<|zq R R R<|zm R R<|zk 3 R<|zq R R R<|zm R R<|zk 3 R<|zq R R R<|zn<|Av (by kernel_rfl) R<|zr<|za R R<|zn<|zt<|z1 R R (rI (Aha c10 (by unfold Pl.bad;omega)))
 refine zp (Aa R R G5)<|zp (Ab R R Ai R R)<|zp (Bb R R R)<|zq R R R<|zm R R<|?_
 refine XL.dec 20 R (fun g20=> ?_) (fun g20=> ?_)
 exact zk 3 R<|zq R R R<|zm R R<|zk 3 R<|zq R R R<|zn<|Av (by kernel_rfl) R<|zr<|za R R<|zn<|zt<|z1 R R (rI (Aha c10 (by unfold Pl.bad;omega)))
 refine zp (Aa R R Cx)<|zp (Ab R R Ai R R)<|zp (Au R R R)<|zq R R R<|zm R R<|?_
 refine XL.dec 25 R (fun g25=> ?_) (fun g25=> ?_)
 exact zk 3 R<|zq R R R<|zn<|Av (by kernel_rfl) R<|zr<|za R R<|zn<|zt<|z1 R R (rI (Aha c10 (by unfold Pl.bad;omega)))
 refine zp (Aa R R Cx)<|zp (Ab R R Ai R R)<|zp (Bb R R R)<|zq R R R<|zn<|?_
 refine zd R (fun c29=> ?_) (fun c29=> ?_)
 exact zr<|za R R<|zn<|zt<|z1 R R (rI (Aha c10 (by unfold Pl.bad;omega)))
 exact zi<|zr<|zp (Ae (s':= .d (.agg (Vo.c v))) (Ac (Ad R R Ax R lb)) (by kernel_rfl))<|zp (Aa R R Cx)<|zp (Ab R R Ai R R)<|XL.call1 R R (Np _ _ (by assumption)) R<|za R R<|zn<|zt<|z1 R R (rI (Aut c10 (by unfold Pl.bad;omega)))
end Go.Proofs.YtaafemnkamfgnaaGreat
namespace Go.Proofs.YtaafemnkamfgnaaGreat
open Go.RowKit
theorem Aqu (t:Tp) (a b:Int):XC Tryz.prog 103 [.agg (Tp.c t), .pt [dI a], .pt [dI b]] (fun r=>r=dB (decide (a≤t.first∧t.first<b))):=by
 refine An Acy Tryz.func103 R R lb<|zr<|XL.step R (Ap 3 (l:= [.d (dI t.first), .d (dI t.count), .d (dI t.actual), .d (dI t.normal)]) R R (by kernel_rfl))<|za R R<|znr<|zp (Aa R R Bw)<|zp (Ab R R Ai R R)<|zp (Bg R R Ai)<|zp (Gg R R R)<|zm R R<|?_
 refine XL.dec 9 R (fun g9=> ?_) (fun g9=> ?_)
 exact zp (Aa R R Bw)<|zp (Ab R R Ai R R)<|zp (Bg R R Ai)<|zp (Au R R R)<|zq R R R<|za R R<|zn<|zt<|z1 R R (rB (by rw [decide_eq_decide];omega))
 exact zk 4 R<|zq R R R<|za R R<|zn<|zt<|z1 R R (rB (by rw [eq_comm,decide_eq_false_iff_not];omega))
theorem Apt (t:Tp) (a:Int):XC Tryz.prog 175 [.agg (Tp.c t), .pt [dI a]] (fun r=>r=dB (decide (t.first<a))):=by
 exact An Abp Tryz.func175 R R lb<|zr<|XL.step R (Ap 2 (l:= [.d (dI t.first), .d (dI t.count), .d (dI t.actual), .d (dI t.normal)]) R R (by kernel_rfl))<|za R R<|znr<|zp (Aa R R Bw)<|zp (Ab R R Ai R R)<|zp (Bg R R Ai)<|zp (Au R R R)<|za R R<|zn<|zt<|z1 R R (R)
theorem Aps (t:Tp) (a b:Int) (h0:0≤a∧a≤100000) (h1:0≤b∧b≤100000):XC Tryz.prog 176 [.agg (Tp.c t), .pt [dI a], .pt [dI b]] (fun r=>r=dB (decide (a+b≤t.first))):=by
 exact An Abo Tryz.func176 R R lb<|zr<|XL.step R (Ap 3 (l:= [.d (dI t.first), .d (dI t.count), .d (dI t.actual), .d (dI t.normal)]) R R (by kernel_rfl))<|za R R<|znr<|zp (Aa R R Bw)<|zp (Ab R R Ai R R)<|zp (Bg R R Ai)<|zp (Bg R R Ai)<|zp (Al R R R (by omega) (by omega))<|zp (Gg R R R)<|za R R<|zn<|zt<|z1 R R (R)
theorem Apr (t:Tp):XC Tryz.prog 177 [.agg (Tp.c t)] (fun r=>r=dB true):=by
 exact An Abn Tryz.func177 R R lb<|zr<|XL.step R (Ap 1 (l:= [.d (dI t.first), .d (dI t.count), .d (dI t.actual), .d (dI t.normal)]) R R (by kernel_rfl))<|za R R<|znr<|za R R<|zn<|zt<|z1 R R (R)
end Go.Proofs.YtaafemnkamfgnaaGreat
