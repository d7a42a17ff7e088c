/- Part 6 of what the statements need: lemmas and walks. -/
import Derived.Test.YtaafemnkamfgnaaGreatNm5
set_option linter.unusedVariables false
set_option linter.unusedSimpArgs false
set_option linter.unusedSectionVars false
set_option maxRecDepth 20000
set_option maxHeartbeats 8000000
namespace Go.Proofs.YtaafemnkamfgnaaGreat
open Go.RowKit
theorem Xn (t:Tp) (l:List Tp) (n:Int):hits (t::l) n=hits l n+(if t.has n then 1 else 0):=by
 unfold hits
 rw [List.filter_cons]
 by_cases h:t.has n<;>simp [h]
theorem Aoa (l:List Tp) (n:Int):hits l n≤l.length:=List.length_filter_le _ _
theorem An9 (t:Tp) (s:List Tp) (n:Int) (hn:t.first≤n):hits (Cr t s) n=hits s n:=by
 induction s with
 |nil=>rfl
 |cons o r ih=>
  unfold Cr
  split
  ·rename_i h
   rw [ih,Xn,if_neg (fun k=>by unfold Tp.has at k;unfold Tp.e at h;omega)]
   rfl
  ·rfl
theorem Ahw {q t:Tp} (h:¬0<Kf q t):q.first≤t.first:=by
 unfold Kf at h
 split at h
 ·split at h<;>omega
 ·omega
theorem Ag9 (n:Int) (l:List Tp):∀(p:Option Tp) (s L:List Tp),Ex n p s l=0→s.length≤3→(∀e,hits L e≤3)→(∀e,(∀q,p=some q→q.first≤e)→hits L e=hits s e)→∀e,hits (L++l) e≤3:=by
 induction l with
 |nil=>intro p s L _ _ h1 _ e;rw [List.append_nil];exact h1 e
 |cons t l ih=>
  intro p s L hz hs h1 h2 e
  rw [Ex] at hz
  split at hz
  ·omega
  ·split at hz
   ·omega
   ·rename_i hin hna
    split at hz
    ·omega
    ·rename_i hov
     have hp:∀q,p=some q→q.first≤t.first:=fun q hq=>by subst hq;exact Ahw hna
     have h3:(t::Cr t s).length≤3:=by
      have h4:=Am7 t s
      have h5:¬(Cr t s).length=3:=fun k=>hov (.inl k)
      rw [List.length_cons]
      omega
     have heq:∀e,t.first≤e→hits (L++ [t]) e=hits (t::Cr t s) e:=fun e he=>by
      rw [Iv,Xn,An9 t s e he,h2 e (fun q hq=>Int.le_trans (hp q hq) he)]
     have:=ih (some t) (t::Cr t s) (L++ [t]) hz h3 (fun e=> ?_) (fun e he=>heq e (he t rfl)) e
     ·rw [List.append_assoc] at this;exact this
     ·by_cases he:t.first≤e
      ·rw [heq e he];exact Nat.le_trans (Aoa _ _) h3
      ·rw [Iv,if_neg (fun k=>he k.1)];exact h1 e
theorem Amp (n:Int) (l:List Tp):∀(p:Option Tp) (s:List Tp),Ex n p s l=0→∀t∈l,t.inR n:=by
 induction l with
 |nil=>intro p s _ t ht;cases ht
 |cons t l ih=>
  intro p s hz x hx
  rw [Ex] at hz
  split at hz
  ·omega
  ·rename_i hin
   split at hz
   ·omega
   ·split at hz
    ·omega
    ·rcases List.mem_cons.1 hx with e|e
     ·rw [e];exact Decidable.not_not.1 hin
     ·exact ih _ _ hz x e
structure Tups (l:List Tp) (n:Int):Prop where
 bd:0≤n∧n≤128
 len:l.length≤16
 inR:∀t∈l,t.inR n
 ok:∀t∈l,t.ok
 hits:∀e,hits l e≤3
theorem Vl {l:List Tp} {n:Int} (h:¬D8 l n≠0):Tups l n:=by
 have h0:D8 l n=0:=by omega
 unfold D8 at h0
 split at h0
 ·omega
 ·split at h0
  ·omega
  ·have hi:=Amp n l _ _ h0
   refine ⟨by omega,by omega,hi,fun t ht=>(hi t ht).ok (by omega),fun e=> ?_⟩
   have:=Ag9 n l none [] [] h0 (by decide) (fun e=>Nat.zero_le _) (fun e _=>rfl) e
   rwa [List.nil_append] at this
def C6 (l:List Tp):Nat→List Int→List Int
 |_, []=> []
 |i,w::r=>Ea l i w::C6 l (i+1) r
def Ji (l:List Tp):Nat→List Int→Int
 |_, []=>0
 |i,w::r=>if D2 l i w≠0 then D2 l i w else Ji l (i+1) r
def Db (l:List Tp) (ws:List Int):Int:=if D8 l ws.length≠0 then D8 l ws.length else Ji l 0 ws
def Ht (l:List Tp) (ws:List Int):List Int:=if Db l ws=0 then C6 l 0 ws else []
theorem Ah8 (l:List Tp) (a:List Int) (w:Int):∀i,C6 l i (a++ [w])=C6 l i a++ [Ea l ((i+a.length:Nat):Int) w]:=by
 induction a with
 |nil=>intro i;rfl
 |cons x a ih=>
  intro i
  rw [List.cons_append,C6,ih (i+1),C6,List.cons_append,List.length_cons,show i+1+a.length=i+(a.length+1) by omega]
theorem Adr {l:List Tp} {ws:List Int} {k:Nat} {w:Int} (h:ws[k]? =some w):C6 l 0 (ws.take (k+1))=C6 l 0 (ws.take k)++ [Ea l (k:Int) w]:=by
 have hk:=(List.getElem?_eq_some_iff.1 h).1
 rw [Bn h,Ah8,List.length_take,Nat.zero_add,Nat.min_eq_left (by omega)]
theorem I8 (l:List Tp) (ws:List Int):∀i,(C6 l i ws).length=ws.length:=by
 induction ws with
 |nil=>intro i;rfl
 |cons w r ih=>intro i;rw [C6,List.length_cons,ih,List.length_cons]
theorem Ajw {l:List Tp} {ws:List Int} {k:Nat} {w:Int} (h:ws[k]? =some w) (hx:¬D2 l k w≠0):Ji l k (ws.drop k)=Ji l (k+1) (ws.drop (k+1)):=by rw [Bw h,Ji,if_neg hx]
theorem Ze {l:List Tp} {ws:List Int} {k:Nat} {w:Int} (h:ws[k]? =some w) (hx:D2 l k w≠0):Ji l k (ws.drop k)=D2 l k w:=by rw [Bw h,Ji,if_pos hx]
theorem Ajk {l:List Tp} {ws:List Int} (h:D8 l ws.length≠0): []=Ht l ws∧D8 l ws.length=Db l ws:=by
 have e:Db l ws=D8 l ws.length:=by rw [Db,if_pos h]
 exact ⟨by rw [Ht,e,if_neg h],e.symm⟩
theorem Ajj {l:List Tp} {ws:List Int} (h:¬D8 l ws.length≠0) {e:Int} (he:e=Ji l 0 ws) (hn:e≠0): []=Ht l ws∧e=Db l ws:=by
 have e2:Db l ws=e:=by rw [Db,if_neg h,he]
 exact ⟨by rw [Ht,e2,if_neg hn],e2.symm⟩
theorem Aji {l:List Tp} {ws:List Int} (h:¬D8 l ws.length≠0) (he:Ji l 0 ws=0):C6 l 0 ws=Ht l ws∧0=Db l ws:=by
 have e2:Db l ws=0:=by rw [Db,if_neg h,he]
 exact ⟨by rw [Ht,e2,if_pos rfl],e2.symm⟩
theorem S6 (l:List Tp) (ws:List Int):XC Tryz.prog 169 [.sl 4 (l.map Tp.c), .sl 1 (Ci ws)] (fun r=>r= .tup [.sl 1 (Ci (Ht l ws)),dI (Db l ws)]):=by
 refine Am Ab1 Tryz.func169 R R lb<|zr<|za R R<|za R R<|zn<|zs<|zr<|zm R R<|zm R R<|XL.len R R R Tryz.underlying45 fun hl14=>XL.call1 R R (Wk _ _) R<|za R R<|znr<|zm R R<|?_
 refine zp (A5 R R R)<|zn<|?_
 refine zd R (fun c17=> ?_) (fun c17=> ?_)
 refine zr<|zm R R<|za R R<|za R R<|zn<|zt<|?_
 exact A6 R (RV.nil (sz:=1) R R) (RV.tmp R R) (r2 (rSl (Ajk c17).1) (rI (Ajk c17).2))
 refine zi<|zs<|?_
 have hT:=Vl c17
 have hbd:=hT.bd
 refine Ag (by kernel_rfl)<|zm R R<|XL.len R R R Tryz.underlying45 fun hl20=>XL.step R (Ox 21 (m:=0) (z:=(.int .i64 0)) (zs:= [dI 0]) (sz:=1) (bytes:=8) R R R Tryz.underlying45 (by kernel_rfl) (by kernel_rfl) (by kernel_rfl) (by decide) (by decide) (by omega) (by unfold maxLen;omega) (by omega))<|zp (Au R (by conv=>lhs;whnf))<|?_
 refine zn<|zs<|zr<|zm R R<|XL.len R R R Tryz.underlying45 fun hl23=>zm R R<|zn<|Ah<|?_
 refine Av (α:=Nat) (fun k=>k≤ws.length∧Ji l k (ws.drop k)=Ji l 0 ws) (fun k=>mkF [(0, .d (.sl 4 (l.map Tp.c))),(7, .own 21),(22, .d (.sl 1 (Ci ws))),(23, .d (dI ws.length)),(24, .d (dI k))]) (fun k=>mkH [(21, .row 3 1 ((C6 l 0 (ws.take k)).map iv))]) (fun k=>ws.length - k) (0) (⟨Nat.zero_le _,by rw [List.drop_zero]⟩) ?_ ?_ ?_
 exact fz ⟨sr,sr,sr,sr,sr,trivial⟩
 exact gz ⟨R,trivial⟩
 intro k hk0
 obtain ⟨hk,hgo⟩:=hk0
 refine zr<|zp (As R R R)<|zn<|zs<|?_
 refine zd R (fun c25=> ?_) (fun c25=> ?_)
 have hk0a:k<ws.length:=by omega
 obtain ⟨x0,hx0⟩:=At hk0a
 have hok:=hT.ok
 have hh:=hT.hits k
 have hll:(C6 l 0 (ws.take k)).length=k:=by rw [I8,List.length_take];omega
 refine zi<|zs<|Ah<|zr<|zm R R<|zp (Ao R R R Du hx0)<|zp (A3 R R Ai)<|za R R<|za R R<|znr<|zm R R<|zm R R<|zm R R<|XL.call1 R R (Zc _ _ _ (by assumption) (by assumption) (by omega) (by omega)) R<|?_
 refine zm R R<|zp (Ay R R R)<|zp (Ay R R R)<|za R R<|za R R<|zn<|zs<|zr<|zm R R<|zp (A5 R R R)<|zn<|?_
 refine zd R (fun c37=> ?_) (fun c37=> ?_)
 refine zr<|zm R R<|za R R<|za R R<|zn<|zt<|?_
 exact A6 R (RV.nil (sz:=1) R R) (RV.tmp R R) (r2 (rSl (Ajj c17 (by rw [←hgo,Ze hx0 c37]) c37).1) (rI (Ajj c17 (by rw [←hgo,Ze hx0 c37]) c37).2))
 refine zi<|Ag (by kernel_rfl)<|zp (Ar R (by conv=>lhs;whnf))<|?_
 refine zm R R<|XL.step R (Bk 41 R Tryz.underlying45 Ey H7 R R (by omega) (by omega))<|XL.step R (A1 R Rv (.own R) (Src.own R) (by unfold maxLen;simp;omega) (by simp;omega))<|zp (Au R (by conv=>lhs;whnf))<|?_
 refine zn<|Ag (by kernel_rfl)<|zp (Ak R R R (by omega) (by omega))<|zm R R<|zn<|?_
 exact Al (k+1) (⟨by omega,by rw [←Ajw hx0 c37];exact hgo⟩) (by omega) (fz ⟨sr,sr,sr,sr,sr,trivial⟩) (gz ⟨Im rfl (Adr hx0),trivial⟩)
 have hk0b:k=ws.length:=by omega
 have hz:Ji l 0 ws=0:=by rw [←hgo,hk0b,List.drop_length];rfl
 have ht:ws.take k=ws:=by rw [hk0b,List.take_length]
 refine Aq<|zr<|zp (Ar R (by conv=>lhs;whnf))<|?_
 refine zp (Au R (by conv=>lhs;whnf))<|?_
 refine za R R<|zn<|zt<|Cb (i:=21) R<|?_
 exact A6 R (RV.tmp R R) (RV.tmp R R) (r2 (rSl (by rw [ht];exact (Aji c17 hz).1)) (rI (Aji c17 hz).2))
abbrev Nw (l:List Tp) (i:Nat):List Tp:=(l.take l.length).drop (i+1)
def Gk (l:List Tp):Nat→List Int→Int→Option Int
 |_, [],acc=>some acc
 |i,w::r,acc=>if D2 l i w≠0 then none else Gk l (i+1) r (acc+Ea l i w)
def Hv (t:Tp) (ws:List Int):List Int:=(ws.drop t.first.toNat).take t.count.toNat
def T5 (a s:Int):Option Int:=((List.range 10).find? fun j=>decide (s=a*(3870720 / 2 ^ j))).map fun j=>(j:Int) - 1
def Gj (l:List Tp) (t:Tp) (ws:List Int):Option Int:=(Gk l t.first.toNat (Hv t ws) 0).bind (T5 t.actual)
def Up (l:List Tp) (i:Nat) (ws:List Int):Option Int:=(l[i]?).bind fun t=>Gj (Nw l i) t ws
theorem My {l:List Tp} {i:Nat} {t:Tp} (h:l[i]? =some t) (ws:List Int):Up l i ws=Gj (Nw l i) t ws:=by rw [Up,h];rfl
theorem Aq0 {t:Tp} {ws:List Int} {j:Nat} (hj:j<t.count.toNat):(Hv t ws)[j]? =ws[t.first.toNat+j]? :=by
 rw [Hv,List.getElem?_take,if_pos hj,List.getElem?_drop]
theorem Ag7 {l:List Tp} {i k:Nat} {seg:List Int} {w acc:Int} (h:seg[k]? =some w) (hx:¬D2 l i w≠0):Gk l i (seg.drop k) acc=Gk l (i+1) (seg.drop (k+1)) (acc+Ea l i w):=by rw [Bw h,Gk,if_neg hx]
theorem Ag6 {l:List Tp} {i k:Nat} {seg:List Int} {w acc:Int} (h:seg[k]? =some w) (hx:D2 l i w≠0):Gk l i (seg.drop k) acc=none:=by rw [Bw h,Gk,if_pos hx]
theorem Ajd {l:List Tp} {i k:Nat} {seg:List Int} {acc:Int} (h:seg.length≤k):Gk l i (seg.drop k) acc=some acc:=by rw [List.drop_eq_nil_of_le h,Gk]
theorem Arz {p:Nat→Bool} {m k:Nat} (hk:k<m) (hp:p k=true) (h:∀j,j<k→p j=false):(List.range m).find? p=some k:=by
 rw [List.find?_range_eq_some]
 exact ⟨hp,List.mem_range.2 hk,fun j hj=>by simp [h j hj]⟩
theorem Arg {a s:Int} {k:Nat} (hk:k<10) (hp:s=a*(3870720 / 2 ^ k)) (h:∀j,j<k→¬s=a*(3870720 / 2 ^ j)):T5 a s=some ((k:Int) - 1):=by
 rw [T5,Arz hk (decide_eq_true hp) (fun j hj=>decide_eq_false (h j hj))];rfl
theorem Aku {a s:Int} (h:∀j,j<10→¬s=a*(3870720 / 2 ^ j)):T5 a s=none:=by
 rw [T5,List.find?_eq_none.2 (fun j hj=>by simp [h j (List.mem_range.1 hj)])];rfl
theorem Uq {l:List Tp} {t:Tp} {ws:List Int} {s:Int} (h:Gk l t.first.toNat (Hv t ws) 0=some s):Gj l t ws=T5 t.actual s:=by rw [Gj,h];rfl
theorem Ag5 {l:List Tp} {t:Tp} {ws:List Int} (h:Gk l t.first.toNat (Hv t ws) 0=none):Gj l t ws=none:=by rw [Gj,h];rfl
theorem Zp {o:Option Int} (h:o=none):D.tup [dI 0,dB false]= .tup [dI (o.getD 0),dB o.isSome]:=by rw [h];rfl
theorem Ank {o:Option Int} {x:Int} (h:o=some x):D.tup [dI x,dB true]= .tup [dI (o.getD 0),dB o.isSome]:=by rw [h];rfl
theorem Asw (k:Nat):0≤(3870720:Int) / 2 ^ k∧(3870720:Int) / 2 ^ k≤3870720:=by
 have h:(0:Int)<2 ^ k:=Int.pow_pos (by omega)
 exact ⟨Int.ediv_nonneg (by omega) (by omega),Int.ediv_le_self _ (by omega)⟩
theorem Aqi (l:List Tp) (i:Nat) (t:Tp) (ws:List Int) (ht:l[i]? =some t) (hT:Tups l ws.length):XC Tryz.prog 192 [.sl 4 (l.map Tp.c), .v (.int .i64 i), .sl 1 (Ci ws)] (fun r=>r= .tup [dI ((Gj (Nw l i) t ws).getD 0),dB (Gj (Nw l i) t ws).isSome]):=by
 have hin:=hT.inR t (List.mem_of_getElem? ht)
 have hok:=hT.ok t (List.mem_of_getElem? ht)
 have hbd:=hT.bd
 have hlen:=hT.len
 have hil:=(List.getElem?_eq_some_iff.1 ht).1
 have hin2:=hin
 simp only [Tp.inR] at hin2
 have hte:t.e=t.first+t.count:=rfl
 obtain ⟨f,hf⟩:∃f:Nat,t.first=f:=⟨t.first.toNat,by omega⟩
 have hf2:t.first.toNat=f:=by omega
 have hsl:(Hv t ws).length=t.count.toNat:=by rw [Hv,List.length_take,List.length_drop];omega
 have hoks:∀x∈(l.take l.length).drop (i+1),x.ok:=Ara (Af4 hT.ok _) _
 have hhs:∀e,hits ((l.take l.length).drop (i+1)) e≤3:=fun e=>Nat.le_trans (Alb _ _ e) (Nat.le_trans (Rn _ _ e) (hT.hits e))
 refine Am Abg Tryz.func192 R R lb<|zr<|za R R<|za R R<|znr<|zm R R<|zm R R<|zp (Ao R R R E7 (ht))<|zp (Ae (s':= .d (.agg (Tp.c t))) (Az R R Ca lb) (by kernel_rfl))<|XL.step R (Ap 8 (l:= [.d (dI 0), .d (dI 0), .d (dI 0), .d (dI 0)]) R Dz (by kernel_rfl))<|?_
 refine XL.step R (Af (l':= [.d (dI t.first), .d (dI t.count), .d (dI t.actual), .d (dI t.normal)]) R R R R Fj R lb (by kernel_rfl))<|znr<|za R R<|zn<|zs<|zr<|zp (Aa R R B0)<|zp (Ab R R Ai R R)<|za R R<|zn<|Ah<|?_
 refine Av (α:=Nat × Int) (fun p=>p.1≤t.count.toNat∧Gk ((l.take l.length).drop (i+1)) (f+p.1) ((Hv t ws).drop p.1) p.2=Gk ((l.take l.length).drop (i+1)) f (Hv t ws) 0∧0≤p.2∧p.2≤(p.1:Int)*253671505920) (fun p=>mkF [(0, .d (.sl 4 (l.map Tp.c))),(1, .d (dI i)),(2, .d (.sl 1 (Ci ws))),(8, .ptr 8 0 0),(9, .d (dI p.2)),(10, .d (dI ((f+p.1:Nat):Int)))]) (fun p=>mkH [(8, .box ((Tp.c t).map S.d))]) (fun p=>t.count.toNat - p.1) ((0,0)) (⟨Nat.zero_le _,by rw [List.drop_zero];rfl,Int.le_refl _,by simp⟩) ?_ ?_ ?_
 exact fz ⟨sr,sr,sr,sr,sr, .same (sI (by rw [hf];rfl)),trivial⟩
 exact gz ⟨R,trivial⟩
 intro p hk0
 obtain ⟨hk,hgo,hs0,hs1⟩:=hk0
 refine zs<|zr<|zm R R<|zp (Ae (s':= .d (.agg (Tp.c t))) (Ac (Ad R R Ca R lb)) (by kernel_rfl))<|XL.call1 R R (Hf _ (by assumption)) R<|zp (As R R R)<|zn<|?_
 refine zd R (fun c23=> ?_) (fun c23=> ?_)
 have hkc:p.1<t.count.toNat:=by omega
 obtain ⟨w,hw⟩:∃w,ws[f+p.1]? =some w:=At (by omega)
 have hsw:(Hv t ws)[p.1]? =some w:=by rw [Aq0 hkc,hf2];exact hw
 have hh:=hhs ((f+p.1:Nat):Int)
 have hsb:=Zd (n:=((f+p.1:Nat):Int)) (w:=w) hoks hh
 refine zi<|zs<|Ah<|zs<|B4 [] (by kernel_rfl) (by kernel_rfl) (by kernel_rfl) (by decide)<|ym R R<|ym R R<|yp (Ak R R R (by omega) (by omega))<|yp (Jl R R E7 (Bd.ati (a:=i+1) R (by omega)) Bd.no (by omega) (by omega))<|ym R R<|ym R R<|ym R R<|yp (Ao R R R Du (hw))<|yp (A3 R R Ai)<|?_
 refine ChK.cons R (CStep.call R (Zc _ _ _ (by assumption) (by assumption) (by omega) (by omega)) R)<|ym R R<|yp (Ay R R R)<|yp (Ay R R R)<|ya R R<|ya R R<|?_
 refine ChK.nil ⟨by kernel_rfl, ?_⟩
 refine zs<|zr<|zm R R<|zp (A5 R R R)<|zn<|?_
 refine zd R (fun c40=> ?_) (fun c40=> ?_)
 refine zr<|za R R<|za R R<|zn<|zt<|?_
 exact A6 R (RV.tmp R R) (RV.tmp R R) (Zp (Ag5 (by rw [hf2, ←hgo];exact Ag6 hsw c40)))
 refine zi<|Ag (by kernel_rfl)<|zm R R<|zm R R<|zp (Ak R R R (by omega) (by omega))<|za R R<|zn<|Ag (by kernel_rfl)<|zm R R<|zp (Ak R R R (by omega) (by omega))<|za R R<|zn<|?_
 exact Al ((p.1+1,p.2+Ea ((l.take l.length).drop (i+1)) ((f+p.1:Nat):Int) w)) (⟨by simp only;omega,(Ag7 hsw c40).symm.trans hgo,by simp only;omega,by simp only;omega⟩) (by simp only;omega) (fz ⟨sr,sr,sr,sr,sr,sr,trivial⟩) (gz ⟨rfl,trivial⟩)
 have hu:Gk ((l.take l.length).drop (i+1)) t.first.toNat (Hv t ws) 0=some p.2:=by rw [hf2, ←hgo];exact Ajd (by omega)
 refine Aq<|zs<|zr<|za R R<|zn<|Ah<|?_
 refine Av (α:=Nat) (fun k=>k≤10∧∀j,j<k→¬p.2=t.actual*(3870720 / 2 ^ j)) (fun k=>mkF [(8, .ptr 8 0 0),(9, .d (dI p.2)),(13, .d (dI ((k:Int) - 1)))]) (fun k=>mkH [(8, .box ((Tp.c t).map S.d))]) (fun k=>10 - k) (0) (⟨Nat.zero_le _,fun j hj=>absurd hj (Nat.not_lt_zero _)⟩) ?_ ?_ ?_
 exact fz ⟨sr,sr,sr,trivial⟩
 exact gz ⟨R,trivial⟩
 intro k hk2
 obtain ⟨hk,hno⟩:=hk2
 have hkk:((k:Int) - 1+1).toNat=k:=by omega
 have hsh:=Asw k
 refine zs<|zr<|zm R R<|zp (Mc R R R)<|zn<|?_
 refine zd R (fun c45=> ?_) (fun c45=> ?_)
 have hml1:0≤t.actual*(3870720 / 2 ^ k):=Int.mul_nonneg (by omega) hsh.1
 have hml2:t.actual*(3870720 / 2 ^ k)≤32*3870720:=Int.mul_le_mul (by omega) hsh.2 hsh.1 (by omega)
 refine zi<|zs<|Ah<|zs<|B4 [] (by kernel_rfl) (by kernel_rfl) (by kernel_rfl) (by decide)<|ym R R<|yp (Aa R R Ob)<|yp (Ab R R Ai R R)<|ym R R<|yp (Ak R R R (by omega) (by omega))<|yp (Apo R R R (by omega) (by omega))<|yp (Mb R R R (by rw [hkk];omega) (by rw [hkk];omega))<|yp (Bh R R R)<|?_
 refine ChK.nil ⟨by kernel_rfl, ?_⟩
 refine zd R (fun c55=> ?_) (fun c55=> ?_)
 refine zr<|zm R R<|za R R<|za R R<|zn<|zt<|?_
 exact A6 R (RV.tmp R R) (RV.tmp R R) (Ank (by rw [Uq hu];exact Arg (by omega) (by rw [hkk] at c55;exact c55) hno))
 refine zi<|Ag (by kernel_rfl)<|zm R R<|zp (Ak R R R (by omega) (by omega))<|za R R<|zn<|?_
 exact Al (k+1) (⟨by omega,fun j hj=>by by_cases e:j=k;(· subst e;rw [hkk] at c55;exact c55);(· exact hno j (by omega))⟩) (by omega) (fz ⟨sr,sr, .same (sI (by omega)),trivial⟩) (gz ⟨rfl,trivial⟩)
 have hke:k=10:=by omega
 have hnone:T5 t.actual p.2=none:=Aku (fun j hj=>hno j (by omega))
 refine Aq<|zr<|za R R<|za R R<|zn<|zt<|?_
 exact A6 R (RV.tmp R R) (RV.tmp R R) (Zp (by rw [Uq hu];exact hnone))
theorem Nv {l:List Tp} {ws:List Int} (h:¬Db l ws≠0):Tups l ws.length:=by
 unfold Db at h
 split at h
 ·rename_i h2;exact absurd h2 h
 ·rename_i h2;exact Vl h2
def Mo (l:List Tp) (ws:List Int):Prop:=∀j,j<l.length→(Up l j ws).isSome=true
instance (l:List Tp) (ws:List Int):Decidable (Mo l ws):=by unfold Mo;exact inferInstance
def Fi (l:List Tp) (ws:List Int):Int:=if Db l ws≠0 then Db l ws else if Mo l ws then 0 else 21
def Nu (l:List Tp) (ws:List Int) (k:Nat):List Int:=(List.range k).map fun j=>(Up l j ws).getD 0
def Mz (l:List Tp) (ws:List Int):List Int:=if Fi l ws=0 then Nu l ws l.length else []
theorem Ag8 {l:List Tp} {ws:List Int} {k:Nat} {t:Tp} (h:l[k]? =some t):Nu l ws (k+1)=Nu l ws k++ [(Gj (Nw l k) t ws).getD 0]:=by
 rw [Nu,List.range_succ,List.map_append,List.map_singleton,My h];rfl
theorem Aje (l:List Tp) (ws:List Int) (k:Nat):(Nu l ws k).length=k:=by rw [Nu,List.length_map,List.length_range]
theorem Asp {l:List Tp} {ws:List Int} (h:Db l ws≠0): []=Mz l ws∧Db l ws=Fi l ws:=by
 have e:Fi l ws=Db l ws:=by rw [Fi,if_pos h]
 exact ⟨by rw [Mz,e,if_neg h],e.symm⟩
theorem Aso {l:List Tp} {ws:List Int} (h:¬Db l ws≠0) {k:Nat} {t:Tp} (ht:l[k]? =some t) (hn:(!(Gj (Nw l k) t ws).isSome)=true): []=Mz l ws∧21=Fi l ws:=by
 have e:Fi l ws=21:=by
  rw [Fi,if_neg h,if_neg fun ha=> ?_]
  have:=ha k (List.getElem?_eq_some_iff.1 ht).1
  rw [My ht] at this
  rw [this] at hn
  cases hn
 exact ⟨by rw [Mz,e,if_neg (by decide)],e.symm⟩
theorem Asn {l:List Tp} {ws:List Int} (h:¬Db l ws≠0) (ha:Mo l ws):Nu l ws l.length=Mz l ws∧0=Fi l ws:=by
 have e:Fi l ws=0:=by rw [Fi,if_neg h,if_pos ha]
 exact ⟨by rw [Mz,e,if_pos rfl],e.symm⟩
theorem Amo (l:List Tp) (ws:List Int):XC Tryz.prog 170 [.sl 4 (l.map Tp.c), .sl 1 (Ci ws)] (fun r=>r= .tup [.sl 1 (Ci (Mz l ws)),dI (Fi l ws)]):=by
 refine Am Ab0 Tryz.func170 R R lb<|zr<|za R R<|za R R<|zn<|zs<|zr<|zm R R<|zm R R<|XL.call1 R R (S6 _ _) R<|zm R R<|zp (Ay R R R)<|zp (Ay R R R)<|za R R<|?_
 refine za R R<|znr<|zm R R<|zp (A5 R R R)<|zn<|?_
 refine zd R (fun c19=> ?_) (fun c19=> ?_)
 refine zr<|zm R R<|za R R<|za R R<|zn<|zt<|?_
 exact A6 R (RV.nil (sz:=1) R R) (RV.tmp R R) (r2 (rSl (Asp c19).1) (rI (Asp c19).2))
 refine zi<|zs<|?_
 have hT:=Nv c19
 have hbd:=hT.bd
 have hlen:=hT.len
 refine Ag (by kernel_rfl)<|zm R R<|XL.len R R R Tryz.underlying80 fun hl22=>XL.step R (Ox 23 (m:=0) (z:=(.int .i64 0)) (zs:= [dI 0]) (sz:=1) (bytes:=8) R R R Tryz.underlying45 (by kernel_rfl) (by kernel_rfl) (by kernel_rfl) (by decide) (by decide) (by omega) (by unfold maxLen;omega) (by omega))<|zp (Au R (by conv=>lhs;whnf))<|?_
 refine zn<|zs<|zr<|zm R R<|XL.len R R R Tryz.underlying80 fun hl25=>zm R R<|zn<|Ah<|?_
 refine Av (α:=Nat) (fun k=>k≤l.length∧∀j,j<k→(Up l j ws).isSome=true) (fun k=>mkF [(0, .d (.sl 4 (l.map Tp.c))),(1, .d (.sl 1 (Ci ws))),(8, .own 23),(25, .d (dI l.length)),(26, .d (dI k))]) (fun k=>mkH [(23, .row 3 1 ((Nu l ws k).map iv))]) (fun k=>l.length - k) (0) (⟨Nat.zero_le _,fun j hj=>absurd hj (Nat.not_lt_zero _)⟩) ?_ ?_ ?_
 exact fz ⟨sr,sr,sr,sr,sr,trivial⟩
 exact gz ⟨R,trivial⟩
 intro k hk0
 obtain ⟨hk,hall⟩:=hk0
 refine zr<|zp (As R R R)<|zn<|zs<|?_
 refine zd R (fun c27=> ?_) (fun c27=> ?_)
 have hk0a:k<l.length:=by omega
 obtain ⟨x0,hx0⟩:=At hk0a
 have hll:=Aje l ws k
 refine zi<|zs<|Ah<|zr<|zm R R<|za R R<|znr<|zm R R<|zm R R<|zm R R<|XL.call1 R R (Aqi _ _ _ _ hx0 hT) R<|zm R R<|zp (Ay R R R)<|zp (Ay R R R)<|?_
 refine za R R<|za R R<|zn<|zs<|zr<|zm R R<|zp (D5 R R)<|zn<|?_
 refine Ej (by kernel_rfl) R (fun c37=> ?_) (fun c37=> ?_)
 refine zr<|za R R<|za R R<|zn<|zt<|?_
 exact A6 R (RV.nil (sz:=1) R R) (RV.tmp R R) (r2 (rSl (Aso c19 hx0 c37).1) (rI (Aso c19 hx0 c37).2))
 refine zi<|Ag (by kernel_rfl)<|zp (Ar R (by conv=>lhs;whnf))<|?_
 refine zm R R<|XL.step R (Bk 40 R Tryz.underlying45 Ey H7 R R (by omega) (by omega))<|XL.step R (A1 R Rv (.own R) (Src.own R) (by unfold maxLen;simp;omega) (by simp;omega))<|zp (Au R (by conv=>lhs;whnf))<|?_
 refine zn<|Ag (by kernel_rfl)<|zp (Ak R R R (by omega) (by omega))<|zm R R<|zn<|?_
 exact Al (k+1) (⟨by omega,fun j hj=>by by_cases e:j=k;(· subst e;rw [My hx0];exact (by simpa using c37));(· exact hall j (by omega))⟩) (by omega) (fz ⟨sr,sr,sr,sr,sr,trivial⟩) (gz ⟨Im rfl (Ag8 hx0),trivial⟩)
 have hk0b:k=l.length:=by omega
 have ha:Mo l ws:=fun j hj=>hall j (by omega)
 refine Aq<|zr<|zp (Ar R (by conv=>lhs;whnf))<|?_
 refine zp (Au R (by conv=>lhs;whnf))<|?_
 refine za R R<|zn<|zt<|Cb (i:=23) R<|?_
 exact A6 R (RV.tmp R R) (RV.tmp R R) (r2 (rSl (by rw [hk0b];exact (Asn c19 ha).1)) (rI (Asn c19 ha).2))
def Ia (l:List Tp) (n:Int):Int:=if D8 l 128≠0 then 0 else (hits l n:Int)
theorem An8 {l:List Tp} {k:Nat} {t:Tp} {n:Int} (h:l[k]? =some t) (ht:t.has n):hits (l.take (k+1)) n=hits (l.take k) n+1:=by rw [Bn h,Iv,if_pos ht]
theorem Arp {l:List Tp} {k:Nat} {t:Tp} {n:Int} (h:l[k]? =some t) (ht:¬t.has n):hits (l.take (k+1)) n=hits (l.take k) n:=by rw [Bn h,Iv,if_neg ht];rfl
theorem Ao5 (l:List Tp) (n:Int) (h0:0≤n) (h1:n≤128):XC Tryz.prog 152 [.sl 4 (l.map Tp.c), .v (.int .i64 n)] (fun r=>r=dI (Ia l n)):=by
 refine Am Aci Tryz.func152 R R lb<|zr<|za R R<|zn<|zs<|zr<|zm R R<|XL.call1 R R (Wk _ _) R<|zp (A5 R R R)<|zn<|?_
 refine zd R (fun c10=> ?_) (fun c10=> ?_)
 exact zr<|za R R<|zn<|zt<|z1 R R (rI (by rw [Ia,if_pos c10]))
 refine zi<|zs<|?_
 have hT:=Vl c10
 refine Ag (by kernel_rfl)<|za R R<|zn<|zs<|zr<|zm R R<|XL.len R R R Tryz.underlying80 fun hl12=>zm R R<|zn<|Ah<|?_
 refine Av (α:=Nat) (fun k=>k≤l.length) (fun k=>mkF [(1, .d (dI n)),(4, .d (dI 0)),(5, .d (dI (hits (l.take k) n:Int))),(11, .d (.sl 4 (l.map Tp.c))),(12, .d (dI l.length)),(13, .d (dI k))]) (fun k=>mkH []) (fun k=>l.length - k) (0) (Nat.zero_le _) ?_ ?_ ?_
 exact fz ⟨sr,sr,sr,sr,sr,sr,trivial⟩
 exact HSub.nil
 intro k hk0
 refine zr<|zp (As R R R)<|zn<|zs<|?_
 refine zd R (fun c14=> ?_) (fun c14=> ?_)
 have hk0a:k<l.length:=by omega
 obtain ⟨x0,hx0⟩:=At hk0a
 have hok:=hT.ok x0 (List.mem_of_getElem? hx0)
 have hle:=Nat.le_trans (Rn l k n) (hT.hits n)
 refine zi<|zs<|Ah<|zr<|zp (Ao R R R E7 hx0)<|zp (Ae (s':= .d (.agg (Tp.c x0))) (Az R R Ca lb) (by kernel_rfl))<|XL.step R (Ap 7 (l:= [.d (dI 0), .d (dI 0), .d (dI 0), .d (dI 0)]) R Dz (by kernel_rfl))<|XL.step R (Af (l':= [.d (dI x0.first), .d (dI x0.count), .d (dI x0.actual), .d (dI x0.normal)]) R R R R Fj R lb (by kernel_rfl))<|znr<|?_
 refine zp (Ae (s':= .d (.agg (Tp.c x0))) (Ac (Ad R R Ca R lb)) (by kernel_rfl))<|zm R R<|XL.call1 R R (Td _ _ (by assumption) (by omega) (by omega)) R<|zn<|?_
 refine zd R (fun c19=> ?_) (fun c19=> ?_)
 refine Ag (by kernel_rfl)<|zm R R<|zp (Ak R R R (by omega) (by omega))<|za R R<|zn<|Ag (by kernel_rfl)<|zp (Ak R R R (by omega) (by omega))<|zm R R<|zn<|?_
 exact Al (k+1) (by omega) (by omega) (fz ⟨sr,sr, .same (sI (by rw [An8 hx0 c19];rfl)),sr,sr,sr,trivial⟩) (HSub.nil)
 refine zi<|Ag (by kernel_rfl)<|zp (Ak R R R (by omega) (by omega))<|zm R R<|zn<|?_
 exact Al (k+1) (by omega) (by omega) (fz ⟨sr,sr, .same (sI (by rw [Arp hx0 c19])),sr,sr,sr,trivial⟩) (HSub.nil)
 have hk0b:k=l.length:=by omega
 have ht:l.take k=l:=by rw [hk0b,List.take_length]
 exact Aq<|zr<|zm R R<|za R R<|zn<|zt<|z1 R R (rI (by rw [Ia,if_neg c10,ht]))
end Go.Proofs.YtaafemnkamfgnaaGreat
namespace Go.Proofs.YtaafemnkamfgnaaGreat
open Go.RowKit
def tot (l:List Int):Int:=l.foldl (· + ·) 0
theorem Pa (l:List Int) (x:Int):tot (l++ [x])=tot l+x:=by unfold tot;rw [List.foldl_append];rfl
theorem Tr {l:List Int} {k:Nat} {x:Int} (h:l[k]? =some x):tot (l.take (k+1))=tot (l.take k)+x:=by rw [Bn h,Pa]
structure Nums (l:List Int):Prop where
 len:l.length≤128
 bd:∀x∈l,0≤x∧x≤253671505920
theorem Aqm {l:List Int}:(∀x∈l,0≤x∧x≤253671505920)→0≤tot l∧tot l≤(l.length:Int)*253671505920:=by
 refine Tt (p:=fun l=>(∀x∈l,0≤x∧x≤253671505920)→0≤tot l∧tot l≤(l.length:Int)*253671505920) (fun _=>by simp [tot]) (fun l x ih h=> ?_) l
 have h1:=ih fun y hy=>h y (List.mem_append_left _ hy)
 have h2:=h x (List.mem_append_right _ (List.mem_singleton.2 rfl))
 rw [Pa,List.length_append,List.length_singleton,Int.natCast_add,Int.add_mul]
 omega
theorem Nums.tot {l:List Int} (h:Nums l):0≤Go.Proofs.YtaafemnkamfgnaaGreat.tot l∧Go.Proofs.YtaafemnkamfgnaaGreat.tot l≤32469952757760:=by
 have:=Aqm h.bd
 have:=h.len
 omega
theorem Nums.take {l:List Int} (h:Nums l) (k:Nat):Nums (l.take k):=⟨Nat.le_trans (List.length_take_le' _ _) h.len,fun x hx=>h.bd x (List.mem_of_mem_take hx)⟩
def Evs (l:List Ev):Prop:=∀e∈l,e.art≤9223372036854775807
def wrS (l:List Ev):List Int:=l.map Ev.len
theorem Amq (l:List Int) (h:Nums l):XC Tryz.prog 116 [.sl 1 (Ci l)] (fun r=>r=dI (tot l)):=by
 refine Am Acx Tryz.func116 R R lb<|zr<|za R R<|znr<|za R R<|zn<|zs<|zr<|zm R R<|XL.len R R R Tryz.underlying45 fun hl7=>zm R R<|zn<|Ah<|?_
 refine Av (α:=Nat) (fun k=>k≤l.length) (fun k=>mkF [(2, .d (dI 0)),(3, .d (dI (tot (l.take k)))),(6, .d (.sl 1 (Ci l))),(7, .d (dI l.length)),(8, .d (dI k))]) (fun k=>mkH []) (fun k=>l.length - k) (0) (Nat.zero_le _) ?_ ?_ ?_
 exact fz ⟨sr,sr,sr,sr,sr,trivial⟩
 exact HSub.nil
 intro k hk0
 refine zr<|zp (As R R R)<|zn<|zs<|?_
 refine zd R (fun c9=> ?_) (fun c9=> ?_)
 have hk0a:k<l.length:=by omega
 obtain ⟨x0,hx0⟩:=At hk0a
 have h1:=(h.take k).tot
 have h2:=h.bd x0 (List.mem_of_getElem? hx0)
 refine zi<|zs<|Ah<|zr<|zp (Ao R R R Du hx0)<|zp (A3 R R Ai)<|za R R<|zng<|zm R R<|zm R R<|zp (Ak R R R (by omega) (by omega))<|za R R<|zn<|Ag (by kernel_rfl)<|?_
 refine zp (Ak R R R (by omega) (by omega))<|zm R R<|zn<|?_
 exact Al (k+1) (by omega) (by omega) (fz ⟨sr, .same (sI (by rw [Tr hx0])),sr,sr,sr,trivial⟩) (HSub.nil)
 have hk0b:k=l.length:=by omega
 have ht:l.take k=l:=by rw [hk0b,List.take_length]
 exact Aq<|zr<|zm R R<|za R R<|zn<|zt<|z1 R R (rI (by rw [ht]))
def Ki (l:List Int) (k:Nat):List Int:=(List.range l.length).map fun j=>if j<k then tot (l.take j) else 0
def Bb (l:List Int):List Int:=(List.range l.length).map fun j=>tot (l.take j)
theorem Zq (l:List Int) (k:Nat):(Ki l k).length=l.length:=by rw [Ki,List.length_map,List.length_range]
theorem Ann (l:List Int):List.replicate l.length (0:Int)=Ki l 1:=by
 rw [Ki]
 refine List.ext_getElem? fun j=> ?_
 rw [List.getElem?_replicate,List.getElem?_map]
 by_cases h:j<l.length
 ·rw [if_pos h,List.getElem?_range h,Option.map_some]
  congr 1
  split
  ·have:j=0:=by omega
   subst this;rfl
  ·rfl
 ·rw [if_neg h,List.getElem?_eq_none (by rw [List.length_range];omega)];rfl
theorem Zr {l:List Int} {j k:Nat} (h:j<k) (hj:j<l.length):(Ki l k)[j]? =some (tot (l.take j)):=by
 rw [Ki,List.getElem?_map,List.getElem?_range hj,Option.map_some,if_pos h]
theorem Anm {l:List Int} {k:Nat} (hk:k<l.length):(Ki l k).set k (tot (l.take k))=Ki l (k+1):=by
 refine List.ext_getElem? fun j=> ?_
 rw [List.getElem?_set]
 split
 ·rename_i h
  subst h
  rw [if_pos (by rw [Zq];exact hk),Zr (by omega) hk]
 ·rename_i h
  rw [Ki,Ki,List.getElem?_map,List.getElem?_map]
  by_cases hj:j<l.length
  ·rw [List.getElem?_range hj,Option.map_some,Option.map_some]
   congr 1
   by_cases e:j<k
   ·rw [if_pos e,if_pos (by omega)]
   ·rw [if_neg e,if_neg (by omega)]
  ·rw [List.getElem?_eq_none (by rw [List.length_range];omega)];rfl
theorem Ano {l:List Int} {k:Nat} (hk:l.length≤k):Ki l k=Bb l:=by
 rw [Ki,Bb]
 refine List.map_congr_left fun j hj=> ?_
 rw [if_pos (by have:=List.mem_range.1 hj;omega)]
theorem W4 (l:List Int) (h:Nums l):XC Tryz.prog 96 [.sl 1 (Ci l)] (fun r=>r= .sl 1 (Ci (Bb l))):=by
 have hll:=h.len
 refine Am Ad1 Tryz.func96 R R lb<|zr<|za R R<|znr<|zm R R<|XL.len R R R Tryz.underlying45 fun hl6=>XL.step R (Ox 7 (z:=(.int .i64 0)) (zs:= [dI 0]) (sz:=1) (bytes:=8) R R R Tryz.underlying45 (by kernel_rfl) (by kernel_rfl) (by kernel_rfl) (by decide) (by decide) (by omega) (by unfold maxLen;omega) (by omega))<|zp (Au R (by conv=>lhs;whnf))<|?_
 refine zn<|zs<|zr<|za R R<|zn<|Ah<|?_
 refine Av (α:=Nat) (fun k=>1≤k∧k≤l.length+1) (fun k=>mkF [(0, .d (.sl 1 (Ci l))),(2, .d (.v (.slice none 0 0))),(3, .own 7),(4, .d (dI k))]) (fun k=>mkH [(7, .row 3 1 ((Ki l k).map iv))]) (fun k=>l.length+1 - k) (1) (⟨Nat.le_refl _,by omega⟩) ?_ ?_ ?_
 exact fz ⟨sr,sr,sr,sr,trivial⟩
 exact gz ⟨by rw [←Ann,List.map_replicate];rfl,trivial⟩
 intro k hk0
 refine zs<|zr<|zm R R<|zm R R<|XL.len R R R Tryz.underlying45 fun hl10=>zp (As R R R)<|zn<|?_
 refine zd R (fun c11=> ?_) (fun c11=> ?_)
 have hkl:k<l.length:=by omega
 have h1:=(h.take (k - 1)).tot
 obtain ⟨x,hx⟩:∃x,l[k - 1]? =some x:=At (by omega)
 have h2:=h.bd x (List.mem_of_getElem? hx)
 have ho:=Zr (l:=l) (k:=k) (j:=k - 1) (by omega) (by omega)
 have hol:=Zq l k
 obtain ⟨z,hz⟩:∃z,(Ki l k)[k]? =some z:=At (by omega)
 have htk:tot (l.take k)=tot (l.take (k - 1))+x:=by have:=Tr hx;rwa [Nat.sub_add_cancel (by omega)] at this
 refine zi<|zs<|Ah<|Ct 13 [] (by kernel_rfl) (by kernel_rfl) (by kernel_rfl) (by kernel_rfl) (by decide)<|yp (Ar R (by conv=>lhs;whnf))<|?_
 refine ym R R<|yp (Ar R (by conv=>lhs;whnf))<|?_
 refine ym R R<|yp (Fq R R R (by omega) (by omega))<|yp (Cm R R R ((by omega:(k:Int) - 1=((k - 1:Nat):Int))) R Du (by omega))<|yp (I6 R R Ai R (C4 (ho)) R)<|ym R R<|ym R R<|yp (Fq R R R (by omega) (by omega))<|yp (E1 R R R ((by omega:(k:Int) - 1=((k - 1:Nat):Int))) Du (hx))<|yp (A3 R R Ai)<|yp (Ak R R R (by omega) (by omega))<|?_
 refine ChK.nil ⟨by kernel_rfl, ?_⟩
 refine zp (Ke R R R R Du (by omega))<|XL.step R (Ek R R R (C4 hz) R R Ey R lb)<|zn<|Ag (by kernel_rfl)<|zm R R<|zp (Ak R R R (by omega) (by omega))<|za R R<|zn<|?_
 exact Al (k+1) (by omega) (by omega) (fz ⟨sr,sr,sr,sr,trivial⟩) (gz ⟨Og (a:=tot (l.take k)) (by rw [htk];rfl) (Anm hkl).symm,trivial⟩)
 have he:=Ano (l:=l) (k:=k) (by omega)
 refine Aq<|zr<|zp (Ar R (by conv=>lhs;whnf))<|?_
 refine zp (Au R (by conv=>lhs;whnf))<|?_
 exact zn<|zt<|Cb (i:=7) R<|z1 R R (rSl he)
end Go.Proofs.YtaafemnkamfgnaaGreat
namespace Go.Proofs.YtaafemnkamfgnaaGreat
open Go.RowKit
def Jd (f:Nat→Int) (n k:Nat):List Int:=(List.range n).map fun j=>if j<k then f j else 0
theorem Xu (f:Nat→Int) (n k:Nat):(Jd f n k).length=n:=by rw [Jd,List.length_map,List.length_range]
theorem Ain (f:Nat→Int) (n:Nat):List.replicate n (0:Int)=Jd f n 0:=by
 rw [Jd]
 refine List.ext_getElem? fun j=> ?_
 rw [List.getElem?_replicate,List.getElem?_map]
 by_cases h:j<n
 ·rw [if_pos h,List.getElem?_range h,Option.map_some,if_neg (by omega)]
 ·rw [if_neg h,List.getElem?_eq_none (by rw [List.length_range];omega)];rfl
theorem Alk {f:Nat→Int} {n k:Nat} (hk:k<n):Jd f n (k+1)=(Jd f n k).set k (f k):=by
 refine List.ext_getElem? fun j=> ?_
 rw [List.getElem?_set]
 split
 ·rename_i h
  subst h
  rw [if_pos (by rw [Xu];exact hk),Jd,List.getElem?_map,List.getElem?_range hk,Option.map_some,if_pos (by omega)]
 ·rename_i h
  rw [Jd,Jd,List.getElem?_map,List.getElem?_map]
  by_cases hj:j<n
  ·rw [List.getElem?_range hj,Option.map_some,Option.map_some]
   congr 1
   by_cases e:j<k
   ·rw [if_pos e,if_pos (by omega)]
   ·rw [if_neg e,if_neg (by omega)]
  ·rw [List.getElem?_eq_none (by rw [List.length_range];omega)];rfl
theorem All {f:Nat→Int} {n k:Nat} (hk:n≤k):Jd f n k=(List.range n).map f:=by
 rw [Jd]
 refine List.map_congr_left fun j hj=> ?_
 rw [if_pos (by have:=List.mem_range.1 hj;omega)]
def Mg (l:List Ev) (j:Nat):Int:=((l[j]?).map Ev.len).getD 0
theorem An1 {l:List Ev} {k:Nat} {e:Ev} (h:l[k]? =some e):Mg l k=e.len:=by rw [Mg,h];rfl
theorem Akx (l:List Ev):(List.range l.length).map (Mg l)=wrS l:=by
 refine List.ext_getElem? fun j=> ?_
 rw [List.getElem?_map,wrS,List.getElem?_map]
 by_cases hj:j<l.length
 ·rw [List.getElem?_range hj,Option.map_some,Mg,List.getElem?_eq_getElem hj];rfl
 ·rw [List.getElem?_eq_none (by rw [List.length_range];omega),List.getElem?_eq_none (by omega)];rfl
theorem Adg (l:List Ev) (hE:Evs l) (hlen:l.length≤128):XC Tryz.prog 168 [.sl 13 (l.map Ev.c)] (fun r=>r= .sl 1 (Ci (wrS l))):=by
 refine Am Ab2 Tryz.func168 R R lb<|zr<|za R R<|znr<|zm R R<|XL.len R R R Tryz.underlying79 fun hl7=>XL.step R (Ox 8 (z:=(.int .i64 0)) (zs:= [dI 0]) (sz:=1) (bytes:=8) R R R Tryz.underlying45 (by kernel_rfl) (by kernel_rfl) (by kernel_rfl) (by decide) (by decide) (by omega) (by unfold maxLen;omega) (by omega))<|zp (Au R (by conv=>lhs;whnf))<|?_
 refine zn<|zs<|zr<|zm R R<|XL.len R R R Tryz.underlying79 fun hl10=>zm R R<|zn<|Ah<|?_
 refine Av (α:=Nat) (fun k=>k≤l.length) (fun k=>mkF [(2, .d (.v (.slice none 0 0))),(3, .own 8),(9, .d (.sl 13 (l.map Ev.c))),(10, .d (dI l.length)),(11, .d (dI k))]) (fun k=>mkH [(8, .row 3 1 ((Jd (Mg l) l.length k).map iv))]) (fun k=>l.length - k) (0) (Nat.zero_le _) ?_ ?_ ?_
 exact fz ⟨sr,sr,sr,sr,sr,trivial⟩
 exact gz ⟨by rw [←Ain,List.map_replicate];rfl,trivial⟩
 intro k hk0
 refine zr<|zp (As R R R)<|zn<|zs<|?_
 refine zd R (fun c12=> ?_) (fun c12=> ?_)
 have hk0a:k<l.length:=by omega
 obtain ⟨x0,hx0⟩:=At hk0a
 have he:=hE x0 (List.mem_of_getElem? hx0)
 have hfl:=Xu (Mg l) l.length k
 obtain ⟨z,hz⟩:∃z,(Jd (Mg l) l.length k)[k]? =some z:=At (by omega)
 refine zi<|zs<|Ah<|zr<|zm R R<|zp (Ao R R R E8 hx0)<|zp (Ae (s':= .d (.agg (Ev.c x0))) (Az R R Bm lb) (by kernel_rfl))<|XL.step R (Ap 5 (l:= [.d (dI 0), .d (dI 0), .d (dI 0), .d (dI 0), .d (dI 0), .d (.v (.slice none 0 0)), .d (.v (.slice none 0 0)), .d (dI 0), .d (dI 0), .d (dI 0), .d (.v (.slice none 0 0)), .d (dI 0), .d (dI 0)]) R Cg (by kernel_rfl))<|?_
 refine za R R<|XL.step R (Af (l':= [.d (dI x0.site), .d (dI x0.num), .d (dI x0.kind), .d (dI x0.v.log), .d (dI x0.v.dots), .d (.sl 5 (x0.heads.map Hd.c)), .d (.sl 5 (x0.graces.map Gr.c)), .d (dI x0.art), .d (dI x0.orn), .d (dI x0.dyn), .d (.sl 2 (x0.lyr.map Sy.c)), .d (dI x0.stem), .d (dI x0.beam)]) R R R R C7 R lb (by kernel_rfl))<|zng<|zp (Ar R (by conv=>lhs;whnf))<|?_
 refine zm R R<|zp (Ae (s':= .d (.agg (Ev.c x0))) (Ac (Ad R R Bm R lb)) (by kernel_rfl))<|XL.call1 R R (Agz _ (by assumption)) R<|zm R R<|zp (Ay R R R)<|zp (Ay R R R)<|zp (Ke R R R R Du (by omega))<|XL.step R (Ek R R R (C4 hz) R R Ey R lb)<|zn<|Ag (by kernel_rfl)<|zp (Ak R R R (by omega) (by omega))<|zm R R<|zn<|?_
 exact Al (k+1) (by omega) (by omega) (fz ⟨sr,sr,sr,sr,sr,trivial⟩) (gz ⟨Og (a:=Mg l k) (by rw [An1 hx0];rfl) (Alk hk0a),trivial⟩)
 have hk0b:k=l.length:=by omega
 have he:=All (f:=Mg l) (n:=l.length) (k:=k) (by omega)
 refine Aq<|zr<|zp (Ar R (by conv=>lhs;whnf))<|?_
 refine zp (Au R (by conv=>lhs;whnf))<|?_
 exact zn<|zt<|Cb (i:=8) R<|z1 R R (rSl (by rw [he,Akx]))
def Vo.whole (v:Vo):Prop:=match v.evs with| []=>False|e::_=>e.kind=3
instance (v:Vo):Decidable v.whole:=by unfold Vo.whole;cases v.evs<;>exact inferInstance
theorem Kt {v:Vo} {e:Ev} (h:v.evs[0]? =some e):v.whole↔e.kind=3:=by
 unfold Vo.whole
 cases hv:v.evs with
 |nil=>rw [hv] at h;cases h
 |cons x l=>rw [hv] at h;cases h;exact Iff.rfl
theorem Amn {v:Vo} (h:¬0<(v.evs.length:Int)):¬v.whole:=by
 unfold Vo.whole
 cases hv:v.evs with
 |nil=>exact fun h=>h
 |cons x l=>rw [hv] at h;simp at h
def Vo.absent (v:Vo):Prop:=v.evs.length=0∧v.tups.length=0
instance (v:Vo):Decidable v.absent:=by unfold Vo.absent;exact inferInstance
theorem Amm (v:Vo):XC Tryz.prog 143 [.agg (Vo.c v)] (fun r=>r=dB (decide v.whole)):=by
 refine Am Acl Tryz.func143 R R lb<|zr<|XL.step R (An 1 (l:= [.d (.sl 13 (v.evs.map Ev.c)), .d (.sl 4 (v.tups.map Tp.c))]) R R (by kernel_rfl))<|za R R<|znr<|zp (Aa R R Bl)<|zp (Ab R R Cy R R)<|XL.len R R R Tryz.underlying79 fun hl5=>zp (Bg R R R)<|zm R R<|?_
 refine XL.dec 7 R (fun g7=> ?_) (fun g7=> ?_)
 obtain ⟨e,he⟩:∃e,v.evs[0]? =some e:=At (by omega)
 exact zp (Aa R R Bl)<|zp (Ab R R Cy R R)<|zp (Ao (k:=0) R R R E8 (he))<|zp (Dc R R Di)<|zp (A3 R R Ai)<|zp (Bh R R R)<|zq R R R<|za R R<|zn<|zt<|z1 R R (rB (by rw [decide_eq_decide];exact (Kt he).symm))
 exact zk 6 R<|zq R R R<|za R R<|zn<|zt<|z1 R R (rB (by rw [eq_comm,decide_eq_false_iff_not];exact Amn g7))
theorem Ag4 (v:Vo):XC Tryz.prog 129 [.agg (Vo.c v)] (fun r=>r=dB (decide v.absent)):=by
 refine Am Acv Tryz.func129 R R lb<|zr<|XL.step R (An 1 (l:= [.d (.sl 13 (v.evs.map Ev.c)), .d (.sl 4 (v.tups.map Tp.c))]) R R (by kernel_rfl))<|za R R<|znr<|zp (Aa R R Bl)<|zp (Ab R R Cy R R)<|XL.len R R R Tryz.underlying79 fun hl5=>zp (Bh R R R)<|zm R R<|?_
 refine XL.dec 7 R (fun g7=> ?_) (fun g7=> ?_)
 exact zp (Aa R R B7)<|zp (Ab R R B8 R R)<|XL.len R R R Tryz.underlying80 fun hl10=>zp (Bh R R R)<|zq R R R<|za R R<|zn<|zt<|z1 R R (rB (by rw [decide_eq_decide];unfold Vo.absent;omega))
 exact zk 4 R<|zq R R R<|za R R<|zn<|zt<|z1 R R (rB (by rw [eq_comm,decide_eq_false_iff_not];unfold Vo.absent;omega))
def G8 (n:Nat):Nat→List Ev→Int
 |_, []=>0
 |k,e::r=>if e.err≠0 then e.err else if e.kind=3∧(0<k∨1<n) then 11 else G8 n (k+1) r
def Fv (v:Vo):Int:=
 if G8 v.evs.length 0 v.evs≠0 then G8 v.evs.length 0 v.evs else if Db v.tups (wrS v.evs)≠0 then Db v.tups (wrS v.evs) else if Fi v.tups (wrS v.evs)≠0 then 21 else 0
def G7 (v:Vo):List Int:=if Fv v=0 then Ht v.tups (wrS v.evs) else []
theorem Aaa {n k:Nat} {l:List Ev} {e:Ev} (h:l[k]? =some e) (he:e.err≠0):G8 n k (l.drop k)=e.err:=by rw [Bw h,G8,if_pos he]
theorem N9 {n k:Nat} {l:List Ev} {e:Ev} (h:l[k]? =some e) (he:¬e.err≠0) (hk:e.kind=3∧(0<k∨1<n)):G8 n k (l.drop k)=11:=by rw [Bw h,G8,if_neg he,if_pos hk]
theorem Xk {n k:Nat} {l:List Ev} {e:Ev} (h:l[k]? =some e) (he:¬e.err≠0) (hk:¬(e.kind=3∧(0<k∨1<n))):G8 n k (l.drop k)=G8 n (k+1) (l.drop (k+1)):=by rw [Bw h,G8,if_neg he,if_neg hk]
theorem Sq {v:Vo} {e:Int} (he:e=G8 v.evs.length 0 v.evs) (hn:e≠0): []=G7 v∧e=Fv v:=by
 have e2:Fv v=e:=by rw [Fv, ←he,if_pos hn]
 exact ⟨by rw [G7,e2,if_neg hn],e2.symm⟩
theorem Apv {v:Vo} (h:G8 v.evs.length 0 v.evs=0) (hn:Db v.tups (wrS v.evs)≠0): []=G7 v∧Db v.tups (wrS v.evs)=Fv v:=by
 have e2:Fv v=Db v.tups (wrS v.evs):=by rw [Fv,if_neg (by omega),if_pos hn]
 exact ⟨by rw [G7,e2,if_neg hn],e2.symm⟩
theorem Apu {v:Vo} (h:G8 v.evs.length 0 v.evs=0) (h2:¬Db v.tups (wrS v.evs)≠0) (hn:Fi v.tups (wrS v.evs)≠0): []=G7 v∧21=Fv v:=by
 have e2:Fv v=21:=by rw [Fv,if_neg (by omega),if_neg h2,if_pos hn]
 exact ⟨by rw [G7,e2,if_neg (by decide)],e2.symm⟩
theorem Apt {v:Vo} (h:G8 v.evs.length 0 v.evs=0) (h2:¬Db v.tups (wrS v.evs)≠0) (h3:¬Fi v.tups (wrS v.evs)≠0):Ht v.tups (wrS v.evs)=G7 v∧0=Fv v:=by
 have e2:Fv v=0:=by rw [Fv,if_neg (by omega),if_neg h2,if_neg h3]
 exact ⟨by rw [G7,e2,if_pos rfl],e2.symm⟩
theorem Z9 (v:Vo) (hE:Evs v.evs) (hlen:v.evs.length≤128):XC Tryz.prog 145 [.agg (Vo.c v)] (fun r=>r= .tup [.sl 1 (Ci (G7 v)),dI (Fv v)]):=by
 refine Am Acj Tryz.func145 R R lb<|zr<|XL.step R (An 1 (l:= [.d (.sl 13 (v.evs.map Ev.c)), .d (.sl 4 (v.tups.map Tp.c))]) R R (by kernel_rfl))<|za R R<|za R R<|zn<|zs<|zr<|zp (Aa R R Bl)<|zp (Ab R R Cy R R)<|XL.len R R R Tryz.underlying79 fun hl14=>zm R R<|zn<|Ah<|?_
 refine Av (α:=Nat) (fun k=>k≤v.evs.length∧G8 v.evs.length k (v.evs.drop k)=G8 v.evs.length 0 v.evs) (fun k=>mkF [(1, .ptr 1 0 0),(13, .d (.sl 13 (v.evs.map Ev.c))),(14, .d (dI v.evs.length)),(15, .d (dI k))]) (fun k=>mkH [(1, .box ((Vo.c v).map S.d))]) (fun k=>v.evs.length - k) (0) (⟨Nat.zero_le _,by rw [List.drop_zero]⟩) ?_ ?_ ?_
 exact fz ⟨sr,sr,sr,sr,trivial⟩
 exact gz ⟨R,trivial⟩
 intro k hk0
 obtain ⟨hk,hgo⟩:=hk0
 refine zr<|zp (As R R R)<|zn<|zs<|?_
 refine zd R (fun c16=> ?_) (fun c16=> ?_)
 have hk0a:k<v.evs.length:=by omega
 obtain ⟨x0,hx0⟩:=At hk0a
 have he:=hE x0 (List.mem_of_getElem? hx0)
 refine zi<|zs<|Ah<|zr<|zm R R<|zp (Ao R R R E8 hx0)<|zp (Ae (s':= .d (.agg (Ev.c x0))) (Az R R Bm lb) (by kernel_rfl))<|XL.step R (Ap 5 (l:= [.d (dI 0), .d (dI 0), .d (dI 0), .d (dI 0), .d (dI 0), .d (.v (.slice none 0 0)), .d (.v (.slice none 0 0)), .d (dI 0), .d (dI 0), .d (dI 0), .d (.v (.slice none 0 0)), .d (dI 0), .d (dI 0)]) R Cg (by kernel_rfl))<|?_
 refine za R R<|XL.step R (Af (l':= [.d (dI x0.site), .d (dI x0.num), .d (dI x0.kind), .d (dI x0.v.log), .d (dI x0.v.dots), .d (.sl 5 (x0.heads.map Hd.c)), .d (.sl 5 (x0.graces.map Gr.c)), .d (dI x0.art), .d (dI x0.orn), .d (dI x0.dyn), .d (.sl 2 (x0.lyr.map Sy.c)), .d (dI x0.stem), .d (dI x0.beam)]) R R R R C7 R lb (by kernel_rfl))<|zn<|zs<|zr<|?_
 refine zp (Ae (s':= .d (.agg (Ev.c x0))) (Ac (Ad R R Bm R lb)) (by kernel_rfl))<|XL.call1 R R (Rx _ (by assumption)) R<|za R R<|znr<|zm R R<|zp (A5 R R R)<|zn<|?_
 refine zd R (fun c23=> ?_) (fun c23=> ?_)
 refine zr<|zm R R<|za R R<|za R R<|zn<|zt<|?_
 exact A6 R (RV.nil (sz:=1) R R) (RV.tmp R R) (r2 (rSl (Sq (by rw [←hgo,Aaa hx0 c23]) c23).1) (rI (Sq (by rw [←hgo,Aaa hx0 c23]) c23).2))
 refine zi<|zr<|zp (Aa R R Di)<|zp (Ab R R Ai R R)<|zp (Bh R R R)<|zm R R<|?_
 refine XL.dec 28 R (fun g28=> ?_) (fun g28=> ?_)
 refine zm R R<|zp (Bg R R R)<|zm R R<|?_
 refine XL.dec 31 R (fun g31=> ?_) (fun g31=> ?_)
 refine zk 4 R<|zq R R R<|zq R R R<|zn<|A0 (by kernel_rfl) R<|zr<|za R R<|za R R<|zn<|zt<|?_
 exact A6 R (RV.nil (sz:=1) R R) (RV.tmp R R) (r2 (rSl (Sq (e:=11) (by rw [←hgo,N9 hx0 c23 (by omega)]) (by decide)).1) (rI (Sq (by rw [←hgo,N9 hx0 c23 (by omega)]) (by decide)).2))
 refine zp (Aa R R Bl)<|zp (Ab R R Cy R R)<|XL.len R R R Tryz.underlying79 fun hl34=>zp (Bg R R R)<|zq R R R<|zq R R R<|zn<|?_
 refine zd R (fun c37=> ?_) (fun c37=> ?_)
 refine zr<|za R R<|za R R<|zn<|zt<|?_
 exact A6 R (RV.nil (sz:=1) R R) (RV.tmp R R) (r2 (rSl (Sq (e:=11) (by rw [←hgo,N9 hx0 c23 (by omega)]) (by decide)).1) (rI (Sq (by rw [←hgo,N9 hx0 c23 (by omega)]) (by decide)).2))
 refine zi<|Ag (by kernel_rfl)<|zp (Ak R R R (by omega) (by omega))<|zm R R<|zn<|?_
 exact Al (k+1) (⟨by omega,by rw [←Xk hx0 c23 (by omega)];exact hgo⟩) (by omega) (fz ⟨sr,sr,sr,sr,trivial⟩) (gz ⟨rfl,trivial⟩)
 refine zk 8 R<|zq R R R<|zn<|A8 (by kernel_rfl) R<|zi<|Ag (by kernel_rfl)<|zp (Ak R R R (by omega) (by omega))<|zm R R<|zn<|?_
 exact Al (k+1) (⟨by omega,by rw [←Xk hx0 c23 (by omega)];exact hgo⟩) (by omega) (fz ⟨sr,sr,sr,sr,trivial⟩) (gz ⟨rfl,trivial⟩)
 have hk0b:k=v.evs.length:=by omega
 have hz:G8 v.evs.length 0 v.evs=0:=by rw [←hgo,hk0b,List.drop_length];rfl
 refine Aq<|zr<|zp (Aa R R Bl)<|zp (Ab R R Cy R R)<|XL.call1 R R (Adg _ (by assumption) (by omega)) R<|za R R<|znr<|zp (Aa R R B7)<|zp (Ab R R B8 R R)<|zm R R<|XL.call1 R R (S6 _ _) R<|zm R R<|zp (Ay R R R)<|zp (Ay R R R)<|?_
 refine za R R<|za R R<|zn<|zs<|zr<|zm R R<|zp (A5 R R R)<|zn<|?_
 refine zd R (fun c50=> ?_) (fun c50=> ?_)
 refine zr<|zm R R<|za R R<|za R R<|zn<|zt<|?_
 exact A6 R (RV.nil (sz:=1) R R) (RV.tmp R R) (r2 (rSl (Apv hz c50).1) (rI (Apv hz c50).2))
 refine zi<|zs<|zr<|zp (Aa R R B7)<|zp (Ab R R B8 R R)<|zm R R<|XL.call1 R R (Amo _ _) R<|zm R R<|zp (Ay R R R)<|zp (Ay R R R)<|za R R<|za R R<|znr<|zm R R<|?_
 refine zp (A5 R R R)<|zn<|?_
 refine zd R (fun c60=> ?_) (fun c60=> ?_)
 refine zr<|za R R<|za R R<|zn<|zt<|?_
 exact A6 R (RV.nil (sz:=1) R R) (RV.tmp R R) (r2 (rSl (Apu hz c50 c60).1) (rI (Apu hz c50 c60).2))
 refine zi<|zr<|zm R R<|za R R<|za R R<|zn<|zt<|?_
 exact A6 R (RV.tmp R R) (RV.tmp R R) (r2 (rSl (Apt hz c50 c60).1) (rI (Apt hz c50 c60).2))
def Ds (v:Vo) (L:Int):Int:=
 if L<1∨15482880<L then 2 else if 128<v.evs.length then 9 else
 if v.whole∧v.evs.length=1 then (match v.evs with| []=>0|e::_=>if e.err≠0 then e.err else if 0<v.tups.length then 21 else 0) else Fv v
def E3 (v:Vo) (L:Int):List Int:=if Ds v L≠0 then [] else if v.whole∧v.evs.length=1 then [L] else G7 v
def ckE (v:Vo) (L:Int):Int:=if Ds v L=0∧0<(E3 v L).length∧tot (E3 v L)≠L then 20 else Ds v L
def ckL (v:Vo) (L:Int):List Int:=if ckE v L≠0 then [] else E3 v L
theorem Yh {v:Vo} {L:Int} (h:L<1∨15482880<L): []=E3 v L∧2=Ds v L:=by
 have e:Ds v L=2:=by rw [Ds,if_pos h]
 exact ⟨by rw [E3,e,if_pos (by decide)],e.symm⟩
theorem Apr {v:Vo} {L:Int} (h:¬L<1) (h':¬15482880<L) (h2:128<(v.evs.length:Int)): []=E3 v L∧9=Ds v L:=by
 have e:Ds v L=9:=by rw [Ds,if_neg (by omega),if_pos (by omega)]
 exact ⟨by rw [E3,e,if_pos (by decide)],e.symm⟩
theorem Aia {v:Vo} {L:Int} (h:¬L<1) (h':¬15482880<L) (h2:¬128<(v.evs.length:Int)) (hw:v.whole) (h1:(v.evs.length:Int)=1) {e:Ev} (he:v.evs[0]? =some e):
  Ds v L=(if e.err≠0 then e.err else if 0<v.tups.length then 21 else 0):=by
 rw [Ds,if_neg (by omega),if_neg (by omega),if_pos ⟨hw,by omega⟩]
 cases hv:v.evs with
 |nil=>rw [hv] at he;cases he
 |cons x l=>rw [hv] at he;cases he;rfl
theorem Yg {v:Vo} {L:Int} (h:¬L<1) (h':¬15482880<L) (h2:¬128<(v.evs.length:Int)) (hw:¬(v.whole∧(v.evs.length:Int)=1)):G7 v=E3 v L∧Fv v=Ds v L:=by
 have hw':¬(v.whole∧v.evs.length=1):=fun k=>hw ⟨k.1,by omega⟩
 have e:Ds v L=Fv v:=by rw [Ds,if_neg (by omega),if_neg (by omega),if_neg hw']
 refine ⟨?_,e.symm⟩
 rw [E3,e,if_neg hw']
 split
 ·rename_i hn;rw [G7,if_neg hn]
 ·rfl
theorem U8 {v:Vo} {L a:Int} (h:Ds v L=a) (ha:a≠0): []=E3 v L∧a=Ds v L:=⟨by rw [E3,h,if_pos ha],h.symm⟩
theorem Akw {v:Vo} {L:Int} (h:Ds v L=0) (hw:v.whole) (h1:(v.evs.length:Int)=1): [L]=E3 v L∧0=Ds v L:=⟨by rw [E3,h,if_neg (by decide),if_pos ⟨hw,by omega⟩],h.symm⟩
theorem Ah9 (v:Vo) (L:Int) (hE:Evs v.evs):XC Tryz.prog 115 [.agg (Vo.c v), .v (.int .i64 L)] (fun r=>r= .tup [.sl 1 (Ci (E3 v L)),dI (Ds v L)]):=by
 refine Am Acy Tryz.func115 R R lb<|zr<|XL.step R (An 2 (l:= [.d (.sl 13 (v.evs.map Ev.c)), .d (.sl 4 (v.tups.map Tp.c))]) R R (by kernel_rfl))<|za R R<|za R R<|zn<|zs<|Ah<|zr<|zm R R<|zp (As R R R)<|zm R R<|?_
 refine XL.dec 10 R (fun g10=> ?_) (fun g10=> ?_)
 refine zk 2 R<|zq R R R<|za R R<|zn<|A0 (by kernel_rfl) R<|zr<|za R R<|za R R<|zn<|zt<|?_
 exact A6 R (RV.nil (sz:=1) R R) (RV.tmp R R) (r2 (rSl (Yh (v:=v) (by omega)).1) (rI (Yh (v:=v) (by omega)).2))
 refine zm R R<|zp (Bg R R R)<|zq R R R<|za R R<|zn<|?_
 refine zd R (fun c7=> ?_) (fun c7=> ?_)
 refine zr<|za R R<|za R R<|zn<|zt<|?_
 exact A6 R (RV.nil (sz:=1) R R) (RV.tmp R R) (r2 (rSl (Yh (v:=v) (by omega)).1) (rI (Yh (v:=v) (by omega)).2))
 refine zr<|zp (Aa R R Bl)<|zp (Ab R R Cy R R)<|XL.len R R R Tryz.underlying79 fun hl17=>zp (Bg R R R)<|za R R<|zn<|?_
 refine zd R (fun c14=> ?_) (fun c14=> ?_)
 refine zr<|za R R<|za R R<|zn<|zt<|?_
 exact A6 R (RV.nil (sz:=1) R R) (RV.tmp R R) (r2 (rSl (Apr g10 c7 c14).1) (rI (Apr g10 c7 c14).2))
 refine zi<|zs<|zr<|zp (Ae (s':= .d (.agg (Vo.c v))) (Ac (Ad R R Aw R lb)) (by kernel_rfl))<|XL.call1 R R (Amm _) R<|zm R R<|?_
 refine XL.dec 21 R (fun g21=> ?_) (fun g21=> ?_)
 refine zp (Aa R R Bl)<|zp (Ab R R Cy R R)<|XL.len R R R Tryz.underlying79 fun hl24=>zp (Bh R R R)<|zq R R R<|zn<|?_
 refine zd R (fun c26=> ?_) (fun c26=> ?_)
 refine zs<|zs<|?_
 obtain ⟨e,hxe⟩:∃e,v.evs[0]? =some e:=At (by omega)
 have he:=hE e (List.mem_of_getElem? hxe)
 have hle:=Aia (L:=L) g10 c7 c14 g21 c26 hxe
 refine Ag (by kernel_rfl)<|zp (Aa R R Bl)<|zp (Ab R R Cy R R)<|zp (Ao (k:=0) R R R E8 (hxe))<|zp (Ae (s':= .d (.agg (Ev.c e))) (Az R R Bm lb) (by kernel_rfl))<|XL.call1 R R (Rx _ (by assumption)) R<|za R R<|znr<|zm R R<|zp (A5 R R R)<|zn<|?_
 refine zd R (fun c33=> ?_) (fun c33=> ?_)
 refine zr<|zm R R<|za R R<|za R R<|zn<|zt<|?_
 exact A6 R (RV.nil (sz:=1) R R) (RV.tmp R R) (r2 (rSl (U8 (by rw [hle,if_pos c33]) c33).1) (rI (U8 (by rw [hle,if_pos c33]) c33).2))
 refine zi<|zs<|zr<|zp (Aa R R B7)<|zp (Ab R R B8 R R)<|XL.len R R R Tryz.underlying80 fun hl37=>zp (Bg R R R)<|zn<|?_
 refine zd R (fun c38=> ?_) (fun c38=> ?_)
 refine zr<|za R R<|za R R<|zn<|zt<|?_
 exact A6 R (RV.nil (sz:=1) R R) (RV.tmp R R) (r2 (rSl (U8 (a:=21) (by rw [hle,if_neg c33,if_pos (by omega)]) (by decide)).1) (rI (U8 (a:=21) (by rw [hle,if_neg c33,if_pos (by omega)]) (by decide)).2))
 refine zi<|zr<|zm R R<|XL.step R (Bk 40 R Tryz.underlying45 Ey H7 R R (by omega) (by omega))<|zp (Au R (by conv=>lhs;whnf))<|?_
 refine za R R<|zn<|zt<|Cb (i:=40) R<|?_
 exact A6 R (RV.tmp R R) (RV.tmp R R) (r2 (rSl (l:= [L]) (g:=iv) (Akw (by rw [hle,if_neg c33,if_neg (by omega)]) g21 c26).1) (rI (Akw (by rw [hle,if_neg c33,if_neg (by omega)]) g21 c26).2))
 refine zi<|zr<|zp (Ae (s':= .d (.agg (Vo.c v))) (Ac (Ad R R Aw R lb)) (by kernel_rfl))<|XL.call1 R R (Z9 _ (by assumption) (by omega)) R<|zp (Ay R R R)<|zp (Ay R R R)<|za R R<|za R R<|zn<|zt<|?_
 exact A6 R (RV.tmp R R) (RV.tmp R R) (r2 (rSl (Yg g10 c7 c14 (fun h=>c26 h.2)).1) (rI (Yg g10 c7 c14 (fun h=>c26 h.2)).2))
 refine zk 4 R<|zq R R R<|zn<|A8 (by kernel_rfl) R<|zi<|zr<|zp (Ae (s':= .d (.agg (Vo.c v))) (Ac (Ad R R Aw R lb)) (by kernel_rfl))<|XL.call1 R R (Z9 _ (by assumption) (by omega)) R<|zp (Ay R R R)<|zp (Ay R R R)<|za R R<|za R R<|zn<|zt<|?_
 exact A6 R (RV.tmp R R) (RV.tmp R R) (r2 (rSl (Yg g10 c7 c14 (fun h=>g21 h.1)).1) (rI (Yg g10 c7 c14 (fun h=>g21 h.1)).2))
end Go.Proofs.YtaafemnkamfgnaaGreat
namespace Go.Proofs.YtaafemnkamfgnaaGreat
open Go.RowKit
theorem Arb {l:List Tp} {n:Int} (hT:Tups l n) (ws:List Int):∀i x,x∈C6 l i ws→0≤x∧x≤253671505920:=by
 induction ws with
 |nil=>intro i x h;cases h
 |cons w r ih=>
  intro i x h
  rw [C6] at h
  rcases List.mem_cons.1 h with e|e
  ·rw [e];exact Zd hT.ok (hT.hits i)
  ·exact ih _ _ e
theorem Ahx (l:List Tp) (ws:List Int):Nums (Ht l ws):=by
 unfold Ht
 split
 ·rename_i h
  have hT:=Nv (show ¬Db l ws≠0 by omega)
  have hb:=hT.bd
  exact ⟨by rw [I8];omega,Arb hT ws 0⟩
 ·exact ⟨by simp,fun x h=>by cases h⟩
theorem T1:Nums []:=⟨by simp,fun x h=>by cases h⟩
theorem Aki (v:Vo):Nums (G7 v):=by
 unfold G7
 split
 ·exact Ahx _ _
 ·exact T1
theorem W7 (v:Vo) (L:Int):Nums (E3 v L):=by
 unfold E3
 split
 ·exact T1
 ·rename_i h
  split
  ·refine ⟨by simp,fun x hx=> ?_⟩
   rw [List.mem_singleton.1 hx]
   unfold Ds at h
   split at h
   ·omega
   ·omega
  ·exact Aki v
theorem Js (v:Vo) (L:Int):Nums (ckL v L):=by
 unfold ckL
 split
 ·exact T1
 ·exact W7 v L
theorem Aui {v:Vo} {L:Int} (h0:Ds v L=0) (h1:0<((E3 v L).length:Int)) (h2:tot (E3 v L)≠L): []=ckL v L∧20=ckE v L:=by
 have e:ckE v L=20:=by rw [ckE,if_pos ⟨h0,by omega,h2⟩]
 exact ⟨by rw [ckL,e,if_pos (by decide)],e.symm⟩
theorem Aiw {v:Vo} {L:Int} (h0:Ds v L=0) (h:¬(0<((E3 v L).length:Int)∧tot (E3 v L)≠L)):E3 v L=ckL v L∧0=ckE v L:=by
 have e:ckE v L=0:=by rw [ckE,if_neg (fun k=>h ⟨by omega,k.2.2⟩),h0]
 exact ⟨by rw [ckL,e,if_neg (by decide)],e.symm⟩
theorem Auh {v:Vo} {L:Int} (h:Ds v L≠0): []=ckL v L∧Ds v L=ckE v L:=by
 have e:ckE v L=Ds v L:=by rw [ckE,if_neg (fun k=>h k.1)]
 exact ⟨by rw [ckL,e,if_pos h],e.symm⟩
theorem Ml (v:Vo) (L:Int) (hE:Evs v.evs):XC Tryz.prog 95 [.agg (Vo.c v), .v (.int .i64 L)] (fun r=>r= .tup [.sl 1 (Ci (ckL v L)),dI (ckE v L)]):=by
 have hN:=W7 v L
 refine Am Ad2 Tryz.func95 R R lb<|zr<|XL.step R (An 2 (l:= [.d (.sl 13 (v.evs.map Ev.c)), .d (.sl 4 (v.tups.map Tp.c))]) R R (by kernel_rfl))<|za R R<|za R R<|znr<|zp (Ae (s':= .d (.agg (Vo.c v))) (Ac (Ad R R Aw R lb)) (by kernel_rfl))<|zm R R<|XL.call1 R R (Ah9 _ _ (by assumption)) R<|zm R R<|zp (Ay R R R)<|zp (Ay R R R)<|za R R<|za R R<|?_
 refine zn<|zs<|zr<|zm R R<|zp (Bh R R R)<|zm R R<|?_
 refine XL.dec 16 R (fun g16=> ?_) (fun g16=> ?_)
 refine zm R R<|XL.len R R R Tryz.underlying45 fun hl18=>zp (Bg R R R)<|zq R R R<|zm R R<|?_
 refine XL.dec 21 R (fun g21=> ?_) (fun g21=> ?_)
 refine zm R R<|XL.call1 R R (Amq _ (by assumption)) R<|zm R R<|zp (A5 R R R)<|zq R R R<|zn<|?_
 refine zd R (fun c26=> ?_) (fun c26=> ?_)
 refine Ag (by kernel_rfl)<|za R R<|zn<|zs<|zr<|zm R R<|zp (A5 R R R)<|zn<|?_
 refine zd R (fun c28=> ?_) (fun c28=> ?_)
 refine zr<|zm R R<|za R R<|za R R<|zn<|zt<|?_
 exact A6 R (RV.nil (sz:=1) R R) (RV.tmp R R) (r2 (rSl (Aui g16 g21 c26).1) (rI (Aui g16 g21 c26).2))
 refine zi<|zr<|zm R R<|za R R<|za R R<|zn<|zt<|?_
 exact A6 R (RV.tmp R R) (RV.tmp R R) (by exfalso;omega)
 refine zi<|zs<|zr<|zm R R<|zp (A5 R R R)<|zn<|?_
 refine zd R (fun c28=> ?_) (fun c28=> ?_)
 refine zr<|zm R R<|za R R<|za R R<|zn<|zt<|?_
 exact A6 R (RV.nil (sz:=1) R R) (RV.tmp R R) (by exfalso;omega)
 refine zi<|zr<|zm R R<|za R R<|za R R<|zn<|zt<|?_
 exact A6 R (RV.tmp R R) (RV.tmp R R) (r2 (rSl (Aiw g16 (fun h=>c26 h.2)).1) (rI (Aiw g16 (fun h=>c26 h.2)).2))
 refine zk 4 R<|zq R R R<|zn<|A8 (by kernel_rfl) R<|zi<|zs<|zr<|zm R R<|zp (A5 R R R)<|zn<|?_
 refine zd R (fun c28=> ?_) (fun c28=> ?_)
 refine zr<|zm R R<|za R R<|za R R<|zn<|zt<|?_
 exact A6 R (RV.nil (sz:=1) R R) (RV.tmp R R) (by exfalso;omega)
 refine zi<|zr<|zm R R<|za R R<|za R R<|zn<|zt<|?_
 exact A6 R (RV.tmp R R) (RV.tmp R R) (r2 (rSl (Aiw g16 (fun h=>g21 h.1)).1) (rI (Aiw g16 (fun h=>g21 h.1)).2))
 refine zk 3 R<|zq R R R<|zm R R<|zk 4 R<|zq R R R<|zn<|A8 (by kernel_rfl) R<|zi<|zs<|zr<|zm R R<|zp (A5 R R R)<|zn<|?_
 refine zd R (fun c28=> ?_) (fun c28=> ?_)
 refine zr<|zm R R<|za R R<|za R R<|zn<|zt<|?_
 exact A6 R (RV.nil (sz:=1) R R) (RV.tmp R R) (r2 (rSl (Auh g16).1) (rI (Auh g16).2))
 refine zi<|zr<|zm R R<|za R R<|za R R<|zn<|zt<|?_
 exact A6 R (RV.tmp R R) (RV.tmp R R) (by exfalso;omega)
theorem Nr (v:Vo) (L:Int) (hE:Evs v.evs):XC Tryz.prog 71 [.agg (Vo.c v), .v (.int .i64 L)] (fun r=>r=dI (ckE v L)):=by
 refine Am Ael Tryz.func71 R R lb<|zr<|XL.step R (An 2 (l:= [.d (.sl 13 (v.evs.map Ev.c)), .d (.sl 4 (v.tups.map Tp.c))]) R R (by kernel_rfl))<|za R R<|znr<|zp (Ae (s':= .d (.agg (Vo.c v))) (Ac (Ad R R Aw R lb)) (by kernel_rfl))<|zm R R<|XL.call1 R R (Ml _ _ (by assumption)) R<|zm R R<|zp (Ay R R R)<|zp (Ay R R R)<|za R R<|za R R<|znr<|?_
 exact zm R R<|za R R<|zn<|zt<|z1 R R (R)
theorem Ate {v:Vo} {L:Int} (h:ckE v L≠0): []=Bb (ckL v L):=by rw [ckL,if_pos h];rfl
theorem X4 (v:Vo) (L:Int) (hE:Evs v.evs):XC Tryz.prog 57 [.agg (Vo.c v), .v (.int .i64 L)] (fun r=>r= .tup [.sl 1 (Ci (Bb (ckL v L))),dI (ckE v L)]):=by
 have hN:=Js v L
 refine Am Aex Tryz.func57 R R lb<|zr<|XL.step R (An 2 (l:= [.d (.sl 13 (v.evs.map Ev.c)), .d (.sl 4 (v.tups.map Tp.c))]) R R (by kernel_rfl))<|za R R<|za R R<|znr<|zp (Ae (s':= .d (.agg (Vo.c v))) (Ac (Ad R R Aw R lb)) (by kernel_rfl))<|zm R R<|XL.call1 R R (Ml _ _ (by assumption)) R<|zm R R<|zp (Ay R R R)<|zp (Ay R R R)<|za R R<|za R R<|?_
 refine zn<|zs<|zr<|zm R R<|zp (A5 R R R)<|zn<|?_
 refine zd R (fun c15=> ?_) (fun c15=> ?_)
 refine zr<|zm R R<|za R R<|za R R<|zn<|zt<|?_
 exact A6 R (RV.nil (sz:=1) R R) (RV.tmp R R) (r2 (rSl (Ate c15)) R)
 refine zi<|zr<|zm R R<|XL.call1 R R (W4 _ (by assumption)) R<|za R R<|za R R<|zn<|zt<|?_
 exact A6 R (RV.tmp R R) (RV.tmp R R) (r2 R (rI (by omega)))
def atS (l:List Int) (t:Int):Nat→Int × Int
 |0=>(0,0)
 |k+1=>match l[k]? with
  |some x=>if tot (l.take k)≤t∧0<x then (k,tot (l.take k)) else atS l t k
  |none=>atS l t k
theorem Ada {l:List Int} {t x:Int} {k:Nat} (h:l[k]? =some x) (h1:tot (l.take k)≤t) (h2:0<x):atS l t (k+1)=((k:Int),tot (l.take k)):=by simp only [atS,h];rw [if_pos ⟨h1,h2⟩]
theorem O4 {l:List Int} {t x:Int} {k:Nat} (h:l[k]? =some x) (h1:¬(tot (l.take k)≤t∧0<x)):atS l t (k+1)=atS l t k:=by simp only [atS,h];rw [if_neg h1]
def atE (v:Vo) (L t:Int):Int:=if ckE v L≠0 then ckE v L else if (ckL v L).length=0 then 10 else if t<0∨L≤t then 2 else 0
def atV (v:Vo) (L t:Int):Int × Int:=if atE v L t≠0 then (0,0) else atS (ckL v L) t (ckL v L).length
theorem Iq {l:List Int} {k:Nat} {x:Int} (h:(Bb l)[k]? =some x):x=tot (l.take k):=by
 have hk:=(List.getElem?_eq_some_iff.1 h).1
 rw [Bb,List.length_map,List.length_range] at hk
 rw [Bb,List.getElem?_map,List.getElem?_range hk] at h
 cases h;rfl
theorem Kz (l:List Int):(Bb l).length=l.length:=by rw [Bb,List.length_map,List.length_range]
theorem Ma {v:Vo} {L t a:Int} (h:atE v L t=a) (ha:a≠0):0=(atV v L t).1∧0=(atV v L t).2∧a=atE v L t:=by
 have e:atV v L t=(0,0):=by rw [atV,h,if_pos ha]
 rw [e];exact ⟨rfl,rfl,h.symm⟩
theorem Aiz {v:Vo} {L t:Int} (h:ckE v L≠0):atE v L t=ckE v L:=by rw [atE,if_pos h]
theorem Aiy {v:Vo} {L t:Int} (h:¬ckE v L≠0) (h2:((ckL v L).length:Int)=0):atE v L t=10:=by rw [atE,if_neg h,if_pos (by omega)]
theorem V9 {v:Vo} {L t:Int} (h:¬ckE v L≠0) (h2:¬((ckL v L).length:Int)=0) (h3:t<0∨L≤t):atE v L t=2:=by rw [atE,if_neg h,if_neg (by omega),if_pos h3]
theorem Apa {v:Vo} {L t:Int} (h:¬ckE v L≠0) (h2:¬((ckL v L).length:Int)=0) (h3:¬(t<0∨L≤t)):atS (ckL v L) t (ckL v L).length=atV v L t∧0=atE v L t:=by
 have e:atE v L t=0:=by rw [atE,if_neg h,if_neg (by omega),if_neg h3]
 exact ⟨by rw [atV,e,if_neg (by decide)],e.symm⟩
theorem Avp (v:Vo) (L t:Int) (hE:Evs v.evs):XC Tryz.prog 61 [.agg (Vo.c v), .v (.int .i64 L), .v (.int .i64 t)] (fun r=>r= .tup [dI (atV v L t).1,dI (atV v L t).2,dI (atE v L t)]):=by
 have hN:=Js v L
 have hol:=Kz (ckL v L)
 refine Am Aeu Tryz.func61 R R lb<|zr<|XL.step R (An 3 (l:= [.d (.sl 13 (v.evs.map Ev.c)), .d (.sl 4 (v.tups.map Tp.c))]) R R (by kernel_rfl))<|za R R<|za R R<|za R R<|znr<|zp (Ae (s':= .d (.agg (Vo.c v))) (Ac (Ad R R Aw R lb)) (by kernel_rfl))<|zm R R<|XL.call1 R R (Ml _ _ (by assumption)) R<|zm R R<|zp (Ay R R R)<|zp (Ay R R R)<|za R R<|?_
 refine za R R<|zn<|zs<|Ah<|zr<|zm R R<|zp (A5 R R R)<|za R R<|zn<|?_
 refine zd R (fun c18=> ?_) (fun c18=> ?_)
 refine zr<|zm R R<|za R R<|za R R<|za R R<|zn<|zt<|?_
 exact Vr R (RV.tmp R R) (RV.tmp R R) (RV.tmp R R) (r3 (rI (Ma (t:=t) (Aiz c18) c18).1) (rI (Ma (t:=t) (Aiz c18) c18).2.1) (rI (Ma (t:=t) (Aiz c18) c18).2.2))
 refine zr<|zm R R<|XL.len R R R Tryz.underlying45 fun hl24=>zp (Bh R R R)<|za R R<|zn<|?_
 refine zd R (fun c22=> ?_) (fun c22=> ?_)
 refine zr<|za R R<|za R R<|za R R<|zn<|zt<|?_
 exact Vr R (RV.tmp R R) (RV.tmp R R) (RV.tmp R R) (r3 (rI (Ma (t:=t) (Aiy c18 c22) (by decide)).1) (rI (Ma (t:=t) (Aiy c18 c22) (by decide)).2.1) (rI (Ma (t:=t) (Aiy c18 c22) (by decide)).2.2))
 refine zr<|zm R R<|zp (As R R R)<|zm R R<|?_
 refine XL.dec 29 R (fun g29=> ?_) (fun g29=> ?_)
 refine zk 3 R<|zq R R R<|za R R<|zn<|A0 (by kernel_rfl) R<|zr<|za R R<|za R R<|za R R<|zn<|zt<|?_
 exact Vr R (RV.tmp R R) (RV.tmp R R) (RV.tmp R R) (r3 (rI (Ma (V9 c18 c22 (by omega)) (by decide)).1) (rI (Ma (V9 c18 c22 (by omega)) (by decide)).2.1) (rI (Ma (V9 c18 c22 (by omega)) (by decide)).2.2))
 refine zm R R<|zm R R<|zp (Fg R R R)<|zq R R R<|za R R<|zn<|?_
 refine zd R (fun c26=> ?_) (fun c26=> ?_)
 refine zr<|za R R<|za R R<|za R R<|zn<|zt<|?_
 exact Vr R (RV.tmp R R) (RV.tmp R R) (RV.tmp R R) (r3 (rI (Ma (V9 c18 c22 (by omega)) (by decide)).1) (rI (Ma (V9 c18 c22 (by omega)) (by decide)).2.1) (rI (Ma (V9 c18 c22 (by omega)) (by decide)).2.2))
 refine zi<|zs<|zr<|zm R R<|XL.call1 R R (W4 _ (by assumption)) R<|XL.len R R R Tryz.underlying45 fun hl36=>zm R R<|zn<|Ah<|?_
 refine Av (α:=Nat) (fun k=>k≤(Bb (ckL v L)).length) (fun k=>mkF [(2, .d (dI t)),(6, .d (dI (atS (ckL v L) t k).1)),(7, .d (dI (atS (ckL v L) t k).2)),(8, .d (dI (ckE v L))),(9, .d (.sl 1 (Ci (ckL v L)))),(35, .d (.sl 1 (Ci (Bb (ckL v L))))),(36, .d (dI (Bb (ckL v L)).length)),(37, .d (dI k))]) (fun k=>mkH []) (fun k=>(Bb (ckL v L)).length - k) (0) (Nat.zero_le _) ?_ ?_ ?_
 exact fz ⟨sr,sr,sr,sr,sr,sr,sr,sr,trivial⟩
 exact HSub.nil
 intro k hk1
 refine zr<|zp (As R R R)<|zn<|zs<|?_
 refine zd R (fun c38=> ?_) (fun c38=> ?_)
 have hk1a:k<(Bb (ckL v L)).length:=by omega
 obtain ⟨x1,hx1⟩:=At hk1a
 have hxe:=Iq hx1
 obtain ⟨y,hy⟩:∃y,(ckL v L)[k]? =some y:=At (by omega)
 refine zi<|zs<|Ah<|zr<|zm R R<|zp (Ao R R R Du hx1)<|zp (A3 R R Ai)<|za R R<|za R R<|znr<|zm R R<|zm R R<|zp (Mc R R R)<|zm R R<|?_
 refine XL.dec 45 R (fun g45=> ?_) (fun g45=> ?_)
 refine zm R R<|zm R R<|zp (Ao R R R Du (hy))<|zp (A3 R R Ai)<|zp (Bg R R R)<|zq R R R<|zn<|?_
 refine zd R (fun c51=> ?_) (fun c51=> ?_)
 refine Ag (by kernel_rfl)<|zm R R<|zm R R<|za R R<|za R R<|zn<|Ag (by kernel_rfl)<|zp (Ak R R R (by omega) (by omega))<|zm R R<|zn<|?_
 exact Al (k+1) (by omega) (by omega) (fz ⟨sr, .same (sI (by rw [Ada hy (by rw [←Iq hx1];exact g45) c51])), .same (sI (by rw [Ada hy (by rw [←Iq hx1];exact g45) c51];exact Iq hx1)),sr,sr,sr,sr,sr,trivial⟩) (HSub.nil)
 refine zi<|Ag (by kernel_rfl)<|zp (Ak R R R (by omega) (by omega))<|zm R R<|zn<|?_
 exact Al (k+1) (by omega) (by omega) (fz ⟨sr, .same (sI (by rw [O4 hy (fun h=>c51 h.2)])), .same (sI (by rw [O4 hy (fun h=>c51 h.2)])),sr,sr,sr,sr,sr,trivial⟩) (HSub.nil)
 refine zk 5 R<|zq R R R<|zn<|A8 (by kernel_rfl) R<|zi<|Ag (by kernel_rfl)<|zp (Ak R R R (by omega) (by omega))<|zm R R<|zn<|?_
 exact Al (k+1) (by omega) (by omega) (fz ⟨sr, .same (sI (by rw [O4 hy (fun h=>g45 (by rw [Iq hx1];exact h.1))])), .same (sI (by rw [O4 hy (fun h=>g45 (by rw [Iq hx1];exact h.1))])),sr,sr,sr,sr,sr,trivial⟩) (HSub.nil)
 have hk1b:k=(Bb (ckL v L)).length:=by omega
 have hke:k=(ckL v L).length:=by omega
 refine Aq<|zr<|zm R R<|zm R R<|za R R<|za R R<|za R R<|zn<|zt<|?_
 exact Vr R (RV.tmp R R) (RV.tmp R R) (RV.tmp R R) (r3 (rI (by rw [hke,(Apa c18 c22 (by omega)).1])) (rI (by rw [hke,(Apa c18 c22 (by omega)).1])) (rI (Apa c18 c22 (by omega)).2))
end Go.Proofs.YtaafemnkamfgnaaGreat
namespace Go.Proofs.YtaafemnkamfgnaaGreat
open Go.RowKit
set_option maxRecDepth 4000
set_option maxHeartbeats 4000000 in
theorem V5 (d:Nat) (w:World) (a0 a1 a2 a3 a4 a5 b0 b1 b2 b3 b4 b5:Int):(Op.equalIn (d+2) 24 (.agg #[.int .i64 a0, .int .i64 a1, .int .i64 a2, .int .i64 a3, .int .i64 a4, .int .i64 a5]) (.agg #[.int .i64 b0, .int .i64 b1, .int .i64 b2, .int .i64 b3, .int .i64 b4, .int .i64 b5])).run Tryz.prog w=
  .ok (decide (a0=b0∧a1=b1∧a2=b2∧a3=b3∧a4=b4∧a5=b5)) w:=by
 rw [show d+2=(d+1)+1 from rfl]
 have hp:∀(cs:Array Value) (k:Nat) (v:Value),cs[k]? =some v→(part 3 cs k).run Tryz.prog w= .ok v w:=fun cs k v h=>Be Ai w h
 have he:∀a b:Int,(Op.equalIn (d+1) 3 (.int .i64 a) (.int .i64 b)).run Tryz.prog w= .ok (decide (a=b)) w:=fun a b=>Cj d 3 Tryz.underlying3 a b
 have ha0:=hp (#[.int .i64 a0, .int .i64 a1, .int .i64 a2, .int .i64 a3, .int .i64 a4, .int .i64 a5]) ((0)*1) (.int .i64 a0) rfl
 have hb0:=hp (#[.int .i64 b0, .int .i64 b1, .int .i64 b2, .int .i64 b3, .int .i64 b4, .int .i64 b5]) ((0)*1) (.int .i64 b0) rfl
 have ha1:=hp (#[.int .i64 a0, .int .i64 a1, .int .i64 a2, .int .i64 a3, .int .i64 a4, .int .i64 a5]) ((0+1)*1) (.int .i64 a1) rfl
 have hb1:=hp (#[.int .i64 b0, .int .i64 b1, .int .i64 b2, .int .i64 b3, .int .i64 b4, .int .i64 b5]) ((0+1)*1) (.int .i64 b1) rfl
 have ha2:=hp (#[.int .i64 a0, .int .i64 a1, .int .i64 a2, .int .i64 a3, .int .i64 a4, .int .i64 a5]) ((0+1+1)*1) (.int .i64 a2) rfl
 have hb2:=hp (#[.int .i64 b0, .int .i64 b1, .int .i64 b2, .int .i64 b3, .int .i64 b4, .int .i64 b5]) ((0+1+1)*1) (.int .i64 b2) rfl
 have ha3:=hp (#[.int .i64 a0, .int .i64 a1, .int .i64 a2, .int .i64 a3, .int .i64 a4, .int .i64 a5]) ((0+1+1+1)*1) (.int .i64 a3) rfl
 have hb3:=hp (#[.int .i64 b0, .int .i64 b1, .int .i64 b2, .int .i64 b3, .int .i64 b4, .int .i64 b5]) ((0+1+1+1)*1) (.int .i64 b3) rfl
 have ha4:=hp (#[.int .i64 a0, .int .i64 a1, .int .i64 a2, .int .i64 a3, .int .i64 a4, .int .i64 a5]) ((0+1+1+1+1)*1) (.int .i64 a4) rfl
 have hb4:=hp (#[.int .i64 b0, .int .i64 b1, .int .i64 b2, .int .i64 b3, .int .i64 b4, .int .i64 b5]) ((0+1+1+1+1)*1) (.int .i64 b4) rfl
 have ha5:=hp (#[.int .i64 a0, .int .i64 a1, .int .i64 a2, .int .i64 a3, .int .i64 a4, .int .i64 a5]) ((0+1+1+1+1+1)*1) (.int .i64 a5) rfl
 have hb5:=hp (#[.int .i64 b0, .int .i64 b1, .int .i64 b2, .int .i64 b3, .int .i64 b4, .int .i64 b5]) ((0+1+1+1+1+1)*1) (.int .i64 b5) rfl
 clear hp
 generalize hd:d+1=d1 at*
 generalize hA:(#[.int .i64 a0, .int .i64 a1, .int .i64 a2, .int .i64 a3, .int .i64 a4, .int .i64 a5]:Array Value)=A at*
 generalize hB:(#[.int .i64 b0, .int .i64 b1, .int .i64 b2, .int .i64 b3, .int .i64 b4, .int .i64 b5]:Array Value)=B at*
 unfold Op.equalIn
 simp only [Sem.run_bind,run_underlying Tryz.underlying24,Result.andThen_ok,sizeB.run Ey]
 simp only [Std.Legacy.Range.forIn_eq_forIn_range',Std.Legacy.Range.size,List.range',List.forIn_cons,List.forIn_nil]
 by_cases e0:a0=b0
 rotate_left
 ·simp_all
 by_cases e1:a1=b1
 rotate_left
 ·simp_all
 by_cases e2:a2=b2
 rotate_left
 ·simp_all
 by_cases e3:a3=b3
 rotate_left
 ·simp_all
 by_cases e4:a4=b4
 rotate_left
 ·simp_all
 by_cases e5:a5=b5
 rotate_left
 ·simp_all
 ·simp_all
theorem Anh {t':TypeId} {o:Oper} {e:Operand→S} {h:Xh} {x y:Operand} {a0:Int} {a1:Int} {a2:Int} {a3:Int} {a4:Int} {a5:Int} {b0:Int} {b1:Int} {b2:Int} {b3:Int} {b4:Int} {b5:Int} (ho:o.op= .binOp .eql 24 x y t') (hx:e x= .d (.agg [.v (.int .i64 a0), .v (.int .i64 a1), .v (.int .i64 a2), .v (.int .i64 a3), .v (.int .i64 a4), .v (.int .i64 a5)])) (hy:e y= .d (.agg [.v (.int .i64 b0), .v (.int .i64 b1), .v (.int .i64 b2), .v (.int .i64 b3), .v (.int .i64 b4), .v (.int .i64 b5)])):Ba Tryz.prog o e h (.d (.v (.bool (decide (a0=b0∧a1=b1∧a2=b2∧a3=b3∧a4=b4∧a5=b5))))):=by
 refine E2 ho hx hy rfl rfl (by kernel_rfl) fun w=> ?_
 refine (run_eql_struct w 24 #[.int .i64 a0, .int .i64 a1, .int .i64 a2, .int .i64 a3, .int .i64 a4, .int .i64 a5] #[.int .i64 b0, .int .i64 b1, .int .i64 b2, .int .i64 b3, .int .i64 b4, .int .i64 b5]).trans ?_
 have hq:=V5 9998 w a0 a1 a2 a3 a4 a5 b0 b1 b2 b3 b4 b5
 simp only [Nat.reduceAdd] at hq
 rw [hq]
 simp only [Result.andThen_ok]
theorem Anb {t':TypeId} {o:Oper} {e:Operand→S} {h:Xh} {x y:Operand} {a0:Int} {a1:Int} {a2:Int} {a3:Int} {a4:Int} {a5:Int} {b0:Int} {b1:Int} {b2:Int} {b3:Int} {b4:Int} {b5:Int} (ho:o.op= .binOp .neq 24 x y t') (hx:e x= .d (.agg [.v (.int .i64 a0), .v (.int .i64 a1), .v (.int .i64 a2), .v (.int .i64 a3), .v (.int .i64 a4), .v (.int .i64 a5)])) (hy:e y= .d (.agg [.v (.int .i64 b0), .v (.int .i64 b1), .v (.int .i64 b2), .v (.int .i64 b3), .v (.int .i64 b4), .v (.int .i64 b5)])):Ba Tryz.prog o e h (.d (.v (.bool (decide (¬(a0=b0∧a1=b1∧a2=b2∧a3=b3∧a4=b4∧a5=b5)))))):=by
 refine E2 ho hx hy rfl rfl (by kernel_rfl) fun w=> ?_
 refine (run_neq_struct w 24 #[.int .i64 a0, .int .i64 a1, .int .i64 a2, .int .i64 a3, .int .i64 a4, .int .i64 a5] #[.int .i64 b0, .int .i64 b1, .int .i64 b2, .int .i64 b3, .int .i64 b4, .int .i64 b5]).trans ?_
 have hq:=V5 9998 w a0 a1 a2 a3 a4 a5 b0 b1 b2 b3 b4 b5
 simp only [Nat.reduceAdd] at hq
 rw [hq]
 simp only [Result.andThen_ok,decide_not]
end Go.Proofs.YtaafemnkamfgnaaGreat
namespace Go.Proofs.YtaafemnkamfgnaaGreat
open Go.RowKit
theorem Atw {m:Me} {k:Nat} {g:Int} (h:m.gs[k]? =some g): [dI m.g0,dI m.g1,dI m.g2,dI m.g3,dI m.g4,dI m.g5][k]? =some (dI g):=by
 have:(m.gs.map dI)[k]? =some (dI g):=by rw [List.getElem?_map,h];rfl
 exact this
def Me.flat (m:Me):Prop:=m.g0=0∧m.g1=0∧m.g2=0∧m.g3=0∧m.g4=0∧m.g5=0
instance (m:Me):Decidable m.flat:=by unfold Me.flat;exact inferInstance
def gGo (k:Nat) (s n:Int):List Int→Option (Int × Int)
 | []=>some (s,n)
 |g::r=>if g<0∨64<g∨(0<g∧(k:Int)≠n) then none else if 0<g then gGo (k+1) (s+g) (n+1) r else gGo (k+1) s n r
def gOk (c:Int) (o:Option (Int × Int)):Prop:=match o with|some p=>p.1=c∧2≤p.2|none=>False
instance (c:Int) (o:Option (Int × Int)):Decidable (gOk c o):=by unfold gOk;cases o<;>exact inferInstance
def Me.grouped (m:Me):Prop:=m.flat∨gOk m.count (gGo 0 0 0 m.gs)
instance (m:Me):Decidable m.grouped:=by unfold Me.grouped;exact inferInstance
theorem T6 {m:Me} {k:Nat} {g s n:Int} (h:m.gs[k]? =some g) (hb:g<0∨64<g∨(0<g∧(k:Int)≠n)):gGo k s n (m.gs.drop k)=none:=by rw [Bw h,gGo,if_pos hb]
theorem Art {m:Me} {k:Nat} {g s n:Int} (h:m.gs[k]? =some g) (hb:¬(g<0∨64<g∨(0<g∧(k:Int)≠n))) (hg:0<g):gGo k s n (m.gs.drop k)=gGo (k+1) (s+g) (n+1) (m.gs.drop (k+1)):=by rw [Bw h,gGo,if_neg hb,if_pos hg]
theorem Aty {m:Me} {k:Nat} {g s n:Int} (h:m.gs[k]? =some g) (hb:¬(g<0∨64<g∨(0<g∧(k:Int)≠n))) (hg:¬0<g):gGo k s n (m.gs.drop k)=gGo (k+1) s n (m.gs.drop (k+1)):=by rw [Bw h,gGo,if_neg hb,if_neg hg]
theorem Arr {m:Me} (h:m.grouped):true=decide m.grouped:=by rw [decide_eq_true h]
theorem Aae {m:Me} (h1:¬m.flat) (h:gGo 0 0 0 m.gs=none):false=decide m.grouped:=by rw [decide_eq_false];exact fun k=>k.elim h1 (by rw [h];exact fun k=>k)
theorem Alc {m:Me} (h1:¬m.flat) {s n:Int} (h:gGo 0 0 0 m.gs=some (s,n)):m.grouped↔s=m.count∧2≤n:=by
 unfold Me.grouped
 rw [h]
 exact ⟨fun k=>k.elim (fun k=>absurd k h1) fun k=>k,fun k=> .inr k⟩
theorem Aii (m:Me):XC Tryz.prog 92 [.agg (Me.c m)] (fun r=>r=dB (decide m.grouped)):=by
 refine Am Ad5 Tryz.func92 R R lb<|zr<|XL.step R (An 1 (l:= [.d (dI m.count), .d (dI m.unit), .d (dI m.g0), .d (dI m.g1), .d (dI m.g2), .d (dI m.g3), .d (dI m.g4), .d (dI m.g5)]) R R (by kernel_rfl))<|za R R<|zn<|zs<|zr<|zp (Aa R R Px)<|?_
 refine zp (Ae (s':= .d (.agg [dI m.g0,dI m.g1,dI m.g2,dI m.g3,dI m.g4,dI m.g5])) (Ac (Ad R R R9 R lb)) (by kernel_rfl))<|zp (Ae (s':= .d (.agg [dI 0,dI 0,dI 0,dI 0,dI 0,dI 0])) (Ac (Pm R Tryz.underlying24 Ey Afl R)) (by kernel_rfl))<|zp (Anh R R R)<|zn<|?_
 refine zd R (fun c10=> ?_) (fun c10=> ?_)
 exact zr<|za R R<|zn<|zt<|z1 R R (rB (Arr (.inl c10)))
 refine zi<|zr<|za R R<|za R R<|zn<|zs<|zr<|zp (Aa R R Px)<|zp (Ae (s':= .d (.agg [dI m.g0,dI m.g1,dI m.g2,dI m.g3,dI m.g4,dI m.g5])) (Ac (Ad R R R9 R lb)) (by kernel_rfl))<|zm R R<|zn<|Ah<|?_
 refine Av (α:=Nat × Int × Int) (fun p=>p.1≤6∧gGo p.1 p.2.1 p.2.2 (m.gs.drop p.1)=gGo 0 0 0 m.gs∧0≤p.2.1∧p.2.1≤64*p.1∧0≤p.2.2∧p.2.2≤p.1) (fun p=>mkF [(1, .ptr 1 0 0),(3, .d (dI p.2.1)),(4, .d (dI p.2.2)),(12, .d (.agg [dI m.g0,dI m.g1,dI m.g2,dI m.g3,dI m.g4,dI m.g5])),(13, .d (dI p.1))]) (fun p=>mkH [(1, .box ((Me.c m).map S.d))]) (fun p=>6 - p.1) ((0,0,0)) (⟨Nat.zero_le _,R,by simp,by simp,by simp,by simp⟩) ?_ ?_ ?_
 exact fz ⟨sr,sr,sr,sr,sr,trivial⟩
 exact gz ⟨R,trivial⟩
 intro p hk0
 obtain ⟨hk,hgo,hs0,hs1,hn0,hn1⟩:=hk0
 refine zr<|zp (As R R R)<|zn<|zs<|?_
 refine zd R (fun c14=> ?_) (fun c14=> ?_)
 obtain ⟨g,hg⟩:∃g,m.gs[p.1]? =some g:=At (by show p.1<6;omega)
 refine zi<|zs<|Ah<|zr<|zm R R<|zp (Wx (k:=p.1) R R R R Tryz.underlying24 Ai Ey (by omega) (Atw hg))<|za R R<|za R R<|zn<|Ah<|zr<|zm R R<|zp (As R R R)<|zm R R<|?_
 refine XL.dec 20 R (fun g20=> ?_) (fun g20=> ?_)
 exact zk 2 R<|zq R R R<|zm R R<|zk 7 R<|zq R R R<|za R R<|zn<|A0 (by kernel_rfl) R<|zr<|za R R<|zn<|zt<|z1 R R (rB (Aae c10 (by rw [←hgo];exact T6 hg (by omega))))
 refine zm R R<|zp (Bg R R R)<|zq R R R<|zm R R<|?_
 refine XL.dec 24 R (fun g24=> ?_) (fun g24=> ?_)
 exact zk 7 R<|zq R R R<|za R R<|zn<|A0 (by kernel_rfl) R<|zr<|za R R<|zn<|zt<|z1 R R (rB (Aae c10 (by rw [←hgo];exact T6 hg (by omega))))
 refine zm R R<|zp (Bg R R R)<|zm R R<|?_
 refine XL.dec 27 R (fun g27=> ?_) (fun g27=> ?_)
 refine zm R R<|zm R R<|zp (A5 R R R)<|zq R R R<|zq R R R<|za R R<|zn<|?_
 refine zd R (fun c17=> ?_) (fun c17=> ?_)
 exact zr<|za R R<|zn<|zt<|z1 R R (rB (Aae c10 (by rw [←hgo];exact T6 hg (by omega))))
 refine zr<|zm R R<|zp (Bg R R R)<|za R R<|zn<|?_
 refine zd R (fun c33=> ?_) (fun c33=> ?_)
 refine Ag (by kernel_rfl)<|zm R R<|zm R R<|zp (Ak R R R (by omega) (by omega))<|zm R R<|zp (Ak R R R (by omega) (by omega))<|za R R<|za R R<|zn<|Ag (by kernel_rfl)<|zp (Ak R R R (by omega) (by omega))<|zm R R<|zn<|?_
 exact Al ((p.1+1,p.2.1+g,p.2.2+1)) (⟨by simp only;omega,by rw [←Art hg (by omega) c33];exact hgo,by simp only;omega,by simp only;omega,by simp only;omega,by simp only;omega⟩) (by simp only;omega) (fz ⟨sr,sr,sr,sr,sr,trivial⟩) (gz ⟨rfl,trivial⟩)
 refine zi<|Ag (by kernel_rfl)<|zp (Ak R R R (by omega) (by omega))<|zm R R<|zn<|?_
 exfalso;omega
 refine zk 3 R<|zq R R R<|zq R R R<|za R R<|zn<|A8 (by kernel_rfl) R<|zr<|zm R R<|zp (Bg R R R)<|za R R<|zn<|?_
 refine zd R (fun c33=> ?_) (fun c33=> ?_)
 refine Ag (by kernel_rfl)<|zm R R<|zm R R<|zp (Ak R R R (by omega) (by omega))<|zm R R<|zp (Ak R R R (by omega) (by omega))<|za R R<|za R R<|zn<|Ag (by kernel_rfl)<|zp (Ak R R R (by omega) (by omega))<|zm R R<|zn<|?_
 exfalso;omega
 refine zi<|Ag (by kernel_rfl)<|zp (Ak R R R (by omega) (by omega))<|zm R R<|zn<|?_
 exact Al ((p.1+1,p.2.1,p.2.2)) (⟨by simp only;omega,by rw [←Aty hg (by omega) c33];exact hgo,by simp only;omega,by simp only;omega,by simp only;omega,by simp only;omega⟩) (by simp only;omega) (fz ⟨sr,sr,sr,sr,sr,trivial⟩) (gz ⟨rfl,trivial⟩)
 have hke:p.1=6:=by omega
 have hend:gGo 0 0 0 m.gs=some (p.2.1,p.2.2):=by rw [←hgo,hke];rfl
 refine Aq<|zr<|zm R R<|zp (Aa R R I0)<|zp (Ab R R Ai R R)<|zp (Bh R R R)<|zm R R<|?_
 refine XL.dec 46 R (fun g46=> ?_) (fun g46=> ?_)
 exact zm R R<|zp (Fg R R R)<|zq R R R<|za R R<|zn<|zt<|z1 R R (rB (by rw [decide_eq_decide,Alc c10 hend];exact ⟨fun h=>⟨g46,h⟩,fun h=>h.2⟩))
 exact zk 2 R<|zq R R R<|za R R<|zn<|zt<|z1 R R (rB (by rw [eq_comm,decide_eq_false_iff_not,Alc c10 hend];exact fun h=>g46 h.1))
def Me.pow (m:Me):Prop:=((m.unit.toNat &&& (m.unit - 1).toNat:Nat):Int)=0
instance (m:Me):Decidable m.pow:=by unfold Me.pow;exact inferInstance
def Me.err (m:Me):Int:=if m.count<1∨64<m.count then 2 else if m.unit<1∨64<m.unit∨¬m.pow then 17 else if ¬m.grouped then 19 else 0
theorem Ato {m:Me} (h:m.count<1∨64<m.count):2=m.err:=by rw [Me.err,if_pos h]
theorem Ans {m:Me} (h:¬(m.count<1∨64<m.count)) (h2:m.unit<1∨64<m.unit∨¬m.pow):17=m.err:=by rw [Me.err,if_neg h,if_pos h2]
theorem Av3 {m:Me} (h:¬(m.count<1∨64<m.count)) (h2:¬(m.unit<1∨64<m.unit∨¬m.pow)) (h3:¬m.grouped):19=m.err:=by rw [Me.err,if_neg h,if_neg h2,if_pos h3]
theorem Av2 {m:Me} (h:¬(m.count<1∨64<m.count)) (h2:¬(m.unit<1∨64<m.unit∨¬m.pow)) (h3:m.grouped):0=m.err:=by rw [Me.err,if_neg h,if_neg h2,if_neg (fun k=>k h3)]
theorem Af6 {a b c:Prop} (h1:¬a) (h2:¬b) (h3:¬c):¬(a∨b∨c):=fun k=>k.elim h1 fun k=>k.elim h2 h3
theorem Oz {a b:Prop} (h1:¬a) (h2:¬b):¬(a∨b):=fun k=>k.elim h1 h2
theorem N5 (m:Me):XC Tryz.prog 53 [.agg (Me.c m)] (fun r=>r=dI m.err):=by
 refine Am Ae0 Tryz.func53 R R lb<|zr<|XL.step R (An 1 (l:= [.d (dI m.count), .d (dI m.unit), .d (dI m.g0), .d (dI m.g1), .d (dI m.g2), .d (dI m.g3), .d (dI m.g4), .d (dI m.g5)]) R R (by kernel_rfl))<|za R R<|zn<|zs<|Ah<|zr<|zp (Aa R R I0)<|zp (Ab R R Ai R R)<|zp (As R R R)<|zm R R<|?_
 refine XL.dec 7 R (fun g7=> ?_) (fun g7=> ?_)
 exact zk 3 R<|zq R R R<|za R R<|zn<|A0 (by kernel_rfl) R<|zr<|za R R<|zn<|zt<|z1 R R (rI (Ato (.inl g7)))
 refine zp (Aa R R I0)<|zp (Ab R R Ai R R)<|zp (Bg R R R)<|zq R R R<|za R R<|zn<|?_
 refine zd R (fun c3=> ?_) (fun c3=> ?_)
 exact zr<|za R R<|zn<|zt<|z1 R R (rI (Ato (.inr c3)))
 refine zr<|zp (Aa R R K6)<|zp (Ab R R Ai R R)<|zp (As R R R)<|zm R R<|?_
 refine XL.dec 16 R (fun g16=> ?_) (fun g16=> ?_)
 exact zk 3 R<|zq R R R<|zm R R<|zk 7 R<|zq R R R<|za R R<|zn<|A0 (by kernel_rfl) R<|zr<|za R R<|zn<|zt<|z1 R R (rI (Ans (Oz g7 c3) (.inl g16)))
 refine zp (Aa R R K6)<|zp (Ab R R Ai R R)<|zp (Bg R R R)<|zq R R R<|zm R R<|?_
 refine XL.dec 21 R (fun g21=> ?_) (fun g21=> ?_)
 exact zk 7 R<|zq R R R<|za R R<|zn<|A0 (by kernel_rfl) R<|zr<|za R R<|zn<|zt<|z1 R R (rI (Ans (Oz g7 c3) (.inr (.inl g21))))
 refine zp (Aa R R K6)<|zp (Ab R R Ai R R)<|zp (Aa R R K6)<|zp (Ab R R Ai R R)<|zp (Fq R R R (by omega) (by omega))<|zp (App R R R (by omega) (by omega) (by omega) (by omega))<|zp (A5 R R R)<|zq R R R<|za R R<|zn<|?_
 refine zd R (fun c12=> ?_) (fun c12=> ?_)
 exact zr<|za R R<|zn<|zt<|z1 R R (rI (Ans (Oz g7 c3) (.inr (.inr c12))))
 refine zr<|zp (Ae (s':= .d (.agg (Me.c m))) (Ac (Ad R R Bo R lb)) (by kernel_rfl))<|XL.call1 R R (Aii _) R<|zp (E0 R R)<|za R R<|zn<|?_
 refine zd R (fun c30=> ?_) (fun c30=> ?_)
 exact zr<|za R R<|zn<|zt<|z1 R R (rI (Av3 (Oz g7 c3) (Af6 g16 g21 c12) c30))
 exact zi<|zr<|za R R<|zn<|zt<|z1 R R (rI (Av2 (Oz g7 c3) (Af6 g16 g21 c12) (Decidable.not_not.1 c30)))
structure Mok (m:Me):Prop where
 count:1≤m.count∧m.count≤64
 unit:1≤m.unit∧m.unit≤64
 pow:m.pow
 grp:m.grouped
theorem Lr {m:Me} (h:¬m.err≠0):Mok m:=by
 have h0:m.err=0:=by omega
 unfold Me.err at h0
 split at h0
 ·omega
 ·split at h0
  ·omega
  ·rename_i h2
   split at h0
   ·omega
   ·rename_i h3
    exact ⟨by omega,⟨by omega,by omega⟩,Decidable.not_not.1 fun k=>h2 (.inr (.inr k)),Decidable.not_not.1 h3⟩
def Me.u (m:Me):Int:=1935360 / m.unit
def Me.len (m:Me):Int:=m.count*m.u
theorem Mok.u {m:Me} (h:Mok m):1≤m.u∧m.u≤1935360:=by
 have:=h.unit
 unfold Me.u
 exact ⟨(Int.le_ediv_iff_mul_le (by omega)).2 (by omega),Int.ediv_le_self _ (by omega)⟩
theorem Mok.len {m:Me} (h:Mok m):1≤m.len∧m.len≤123863040:=by
 have h1:=h.u
 have h2:=h.count
 unfold Me.len
 have h3:1*1≤m.count*m.u:=Int.mul_le_mul h2.1 h1.1 (by omega) (by omega)
 have h4:m.count*m.u≤64*1935360:=Int.mul_le_mul h2.2 h1.2 (by omega) (by omega)
 omega
theorem Ir (m:Me) (h:Mok m):XC Tryz.prog 93 [.agg (Me.c m)] (fun r=>r=dI m.u):=by
 have hu:=h.unit
 exact Am Ad4 Tryz.func93 R R lb<|zr<|XL.step R (An 1 (l:= [.d (dI m.count), .d (dI m.unit), .d (dI m.g0), .d (dI m.g1), .d (dI m.g2), .d (dI m.g3), .d (dI m.g4), .d (dI m.g5)]) R R (by kernel_rfl))<|za R R<|znr<|zp (Aa R R K6)<|zp (Ab R R Ai R R)<|zp (Jo R R R (by omega) (by omega) (by omega))<|za R R<|zn<|zt<|z1 R R (rI R)
theorem Md (m:Me) (h:Mok m):XC Tryz.prog 54 [.agg (Me.c m)] (fun r=>r=dI m.len):=by
 have hu:=h.u
 have hc:=h.count
 have hl:=h.len
 have hl2:m.count*m.u=m.len:=rfl
 refine Am Aez Tryz.func54 R R lb<|zr<|XL.step R (An 1 (l:= [.d (dI m.count), .d (dI m.unit), .d (dI m.g0), .d (dI m.g1), .d (dI m.g2), .d (dI m.g3), .d (dI m.g4), .d (dI m.g5)]) R R (by kernel_rfl))<|za R R<|zn<|zs<|B4 [] (by kernel_rfl) (by kernel_rfl) (by kernel_rfl) (by decide)<|yp (Aa R R I0)<|yp (Ab R R Ai R R)<|?_
 refine yp (Ae (s':= .d (.agg (Me.c m))) (Ac (Ad R R Bo R lb)) (by kernel_rfl))<|ChK.cons R (CStep.call R (Ir _ (by assumption)) R)<|yp (Mb R R R (by omega) (by omega))<|ya R R<|?_
 refine ChK.nil ⟨by kernel_rfl, ?_⟩
 exact zt<|z1 R R (rI R)
end Go.Proofs.YtaafemnkamfgnaaGreat
namespace Go.Proofs.YtaafemnkamfgnaaGreat
open Go.RowKit
def Jj:List Int→Int
 | []=>0
 |x::r=>r.foldl min x
def Jk:List Int→Int
 | []=>0
 |x::r=>r.foldl max x
theorem Akp {l:List Int} (h:l≠ []) (x:Int):Jj (l++ [x])=min (Jj l) x:=by
 cases l with
 |nil=>exact absurd rfl h
 |cons a r=>simp only [Jj,List.cons_append,List.foldl_append,List.foldl_cons,List.foldl_nil]
theorem Akr {l:List Int} (h:l≠ []) (x:Int):Jk (l++ [x])=max (Jk l) x:=by
 cases l with
 |nil=>exact absurd rfl h
 |cons a r=>simp only [Jk,List.cons_append,List.foldl_append,List.foldl_cons,List.foldl_nil]
theorem Afr {l:List Int} {k:Nat} (h:1≤k) (h2:0<l.length):l.take k≠ []:=fun e=>by
 have:=congrArg List.length e
 rw [List.length_take,List.length_nil] at this
 omega
theorem Ako {l:List Int} {k:Nat} {x:Int} (h:l[k]? =some x) (hk:1≤k):Jj (l.take (k+1))=min (Jj (l.take k)) x:=by
 rw [Bn h,Akp (Afr hk (by have:=(List.getElem?_eq_some_iff.1 h).1;omega))]
theorem Akq {l:List Int} {k:Nat} {x:Int} (h:l[k]? =some x) (hk:1≤k):Jk (l.take (k+1))=max (Jk (l.take k)) x:=by
 rw [Bn h,Akr (Afr hk (by have:=(List.getElem?_eq_some_iff.1 h).1;omega))]
theorem Zw {l:List Int} {x:Int} (h:l[0]? =some x):Jj (l.take 1)=x∧Jk (l.take 1)=x:=by
 cases l with
 |nil=>cases h
 |cons a r=>cases h;exact ⟨rfl,rfl⟩
theorem Aq1 (l:List Int) (h:0<l.length):XC Tryz.prog 181 [.sl 1 (Ci l)] (fun r=>r=dI (Jj l)):=by
 refine Am Abr Tryz.func181 R R lb<|zr<|za R R<|zn<|zs<|zr<|zm R R<|XL.len R R R Tryz.underlying45 fun hl6=>zp (As R R R)<|zn<|?_
 refine zd R (fun c7=> ?_) (fun c7=> ?_)
 exfalso;omega
 refine zi<|zs<|?_
 obtain ⟨x,hx⟩:∃x,l[0]? =some x:=At h
 refine Ag (by kernel_rfl)<|zm R R<|zp (Ao (k:=0) R R R Du (hx))<|zp (A3 R R Ai)<|za R R<|zn<|zs<|zr<|za R R<|zn<|Ah<|?_
 refine Av (α:=Nat) (fun k=>1≤k∧k≤l.length) (fun k=>mkF [(0, .d (.sl 1 (Ci l))),(2, .d (dI 0)),(3, .d (dI (Jj (l.take k)))),(4, .d (dI k))]) (fun k=>mkH []) (fun k=>l.length - k) (1) (⟨Nat.le_refl _,h⟩) ?_ ?_ ?_
 exact fz ⟨sr,sr, .same (sI (Zw hx).1.symm),sr,trivial⟩
 exact HSub.nil
 intro k hk0
 refine zs<|zr<|zm R R<|zm R R<|XL.len R R R Tryz.underlying45 fun hl14=>zp (As R R R)<|zn<|?_
 refine zd R (fun c15=> ?_) (fun c15=> ?_)
 obtain ⟨y,hy⟩:∃y,l[k]? =some y:=At (by omega)
 refine zi<|zs<|Ah<|Ag (by kernel_rfl)<|zm R R<|zm R R<|zm R R<|zp (Ao R R R Du (hy))<|zp (A3 R R Ai)<|zp (Fs R R R)<|za R R<|zn<|Ag (by kernel_rfl)<|zm R R<|?_
 refine zp (Ak R R R (by omega) (by omega))<|za R R<|zn<|?_
 exact Al (k+1) (by omega) (by omega) (fz ⟨sr,sr, .same (sI (by rw [Ako hy (by omega)])),sr,trivial⟩) (HSub.nil)
 have ht:l.take k=l:=List.take_of_length_le (by omega)
 exact Aq<|zr<|zm R R<|za R R<|zn<|zt<|z1 R R (rI (by rw [ht]))
theorem Aq2 (l:List Int) (h:0<l.length):XC Tryz.prog 182 [.sl 1 (Ci l)] (fun r=>r=dI (Jk l)):=by
 refine Am Abq Tryz.func182 R R lb<|zr<|za R R<|zn<|zs<|zr<|zm R R<|XL.len R R R Tryz.underlying45 fun hl6=>zp (As R R R)<|zn<|?_
 refine zd R (fun c7=> ?_) (fun c7=> ?_)
 exfalso;omega
 refine zi<|zs<|?_
 obtain ⟨x,hx⟩:∃x,l[0]? =some x:=At h
 refine Ag (by kernel_rfl)<|zm R R<|zp (Ao (k:=0) R R R Du (hx))<|zp (A3 R R Ai)<|za R R<|zn<|zs<|zr<|za R R<|zn<|Ah<|?_
 refine Av (α:=Nat) (fun k=>1≤k∧k≤l.length) (fun k=>mkF [(0, .d (.sl 1 (Ci l))),(2, .d (dI 0)),(3, .d (dI (Jk (l.take k)))),(4, .d (dI k))]) (fun k=>mkH []) (fun k=>l.length - k) (1) (⟨Nat.le_refl _,h⟩) ?_ ?_ ?_
 exact fz ⟨sr,sr, .same (sI (Zw hx).2.symm),sr,trivial⟩
 exact HSub.nil
 intro k hk0
 refine zs<|zr<|zm R R<|zm R R<|XL.len R R R Tryz.underlying45 fun hl14=>zp (As R R R)<|zn<|?_
 refine zd R (fun c15=> ?_) (fun c15=> ?_)
 obtain ⟨y,hy⟩:∃y,l[k]? =some y:=At (by omega)
 refine zi<|zs<|Ah<|Ag (by kernel_rfl)<|zm R R<|zm R R<|zm R R<|zp (Ao R R R Du (hy))<|zp (A3 R R Ai)<|zp (N3 R R R)<|za R R<|zn<|Ag (by kernel_rfl)<|zm R R<|?_
 refine zp (Ak R R R (by omega) (by omega))<|za R R<|zn<|?_
 exact Al (k+1) (by omega) (by omega) (fz ⟨sr,sr, .same (sI (by rw [Akq hy (by omega)])),sr,trivial⟩) (HSub.nil)
 have ht:l.take k=l:=List.take_of_length_le (by omega)
 exact Aq<|zr<|zm R R<|za R R<|zn<|zt<|z1 R R (rI (by rw [ht]))
def I9 (v:Int) (k:Nat):List Int→Int
 | []=> -1
 |x::r=>if v=x then k else I9 v (k+1) r
theorem Ak9 {v x:Int} {l:List Int} {k:Nat} (h:l[k]? =some x) (hv:v=x):I9 v k (l.drop k)=k:=by rw [Bw h,I9,if_pos hv]
theorem Aig {v x:Int} {l:List Int} {k:Nat} (h:l[k]? =some x) (hv:¬v=x):I9 v k (l.drop k)=I9 v (k+1) (l.drop (k+1)):=by rw [Bw h,I9,if_neg hv]
theorem Ak8 (v:Int) (l:List Int):∀k,0≤I9 v k l↔v∈l:=by
 induction l with
 |nil=>intro k;simp [I9]
 |cons x r ih=>
  intro k
  rw [I9]
  split
  ·rename_i h;simp [h]
  ·rename_i h;rw [ih,List.mem_cons];exact ⟨.inr,fun k=>k.elim (fun e=>absurd e h) fun e=>e⟩
theorem Ajx (l:List Int) (v:Int):XC Tryz.prog 203 [.sl 1 (Ci l), .v (.int .i64 v)] (fun r=>r=dI (I9 v 0 l)):=by
 refine Am Aa7 Tryz.func203 R R lb<|zr<|za R R<|zn<|zs<|zr<|zm R R<|XL.len R R R Tryz.underlying45 fun hl7=>zm R R<|zn<|Ah<|?_
 refine Av (α:=Nat) (fun k=>k≤l.length∧I9 v k (l.drop k)=I9 v 0 l) (fun k=>mkF [(0, .d (.sl 1 (Ci l))),(1, .d (dI v)),(7, .d (dI l.length)),(8, .d (dI k))]) (fun k=>mkH []) (fun k=>l.length - k) (0) (⟨Nat.zero_le _,by rw [List.drop_zero]⟩) ?_ ?_ ?_
 exact fz ⟨sr,sr,sr,sr,trivial⟩
 exact HSub.nil
 intro k hk0
 obtain ⟨hk,hgo⟩:=hk0
 refine zr<|zp (As R R R)<|zn<|zs<|?_
 refine zd R (fun c9=> ?_) (fun c9=> ?_)
 have hk0a:k<l.length:=by omega
 obtain ⟨x0,hx0⟩:=At hk0a
 refine zi<|zs<|Ah<|zr<|zm R R<|za R R<|znr<|zm R R<|zm R R<|zm R R<|zp (Ao R R R Du hx0)<|zp (A3 R R Ai)<|zp (Bh R R R)<|zn<|?_
 refine zd R (fun c16=> ?_) (fun c16=> ?_)
 exact zr<|zm R R<|za R R<|zn<|zt<|z1 R R (rI (by rw [←hgo,Ak9 hx0 c16]))
 refine zi<|Ag (by kernel_rfl)<|zp (Ak R R R (by omega) (by omega))<|zm R R<|zn<|?_
 exact Al (k+1) (⟨by omega,by rw [←Aig hx0 c16];exact hgo⟩) (by omega) (fz ⟨sr,sr,sr,sr,trivial⟩) (HSub.nil)
 have hk0b:k=l.length:=by omega
 have hz:I9 v 0 l= -1:=by rw [←hgo,hk0b,List.drop_length];rfl
 exact Aq<|zr<|za R R<|zn<|zt<|z1 R R (rI hz.symm)
theorem M7 (l:List Int) (v:Int):XC Tryz.prog 183 [.sl 1 (Ci l), .v (.int .i64 v)] (fun r=>r=dB (decide (v∈l))):=by
 exact Am Abp Tryz.func183 R R lb<|zr<|za R R<|znr<|zm R R<|zm R R<|XL.call1 R R (Ajx _ _) R<|zp (Fg R R R)<|za R R<|zn<|zt<|z1 R R (rB (by rw [decide_eq_decide];exact Ak8 v l 0))
end Go.Proofs.YtaafemnkamfgnaaGreat
namespace Go.Proofs.YtaafemnkamfgnaaGreat
open Go.RowKit
theorem Oq (l:List Hd) (h:l.length≤1000):XS Tryz.prog 140 [.sl 5 (l.map Hd.c)] (.own 5) [(5, .row 200 5 ((l).map Hd.c))]:=by
 refine D4 R4 Tryz.func140 R R lb (by kernel_rfl) (by kernel_rfl)<|zr<|za R R<|zn<|zs<|zr<|zm R R<|?_
 refine XL.eqnil R R R Tryz.underlying55 (fun hn4=> ?_) ?_
 refine zn<|A0 (by kernel_rfl) R<|zr<|za R R<|zn<|Dy 5 2 200 5 R<|zt<|?_
 exact ⟨Cv R (RVS.tmp R R),HSub.cons (by rw [hn4];rfl) (HSub.nil)⟩
 refine zn<|A8 (by kernel_rfl) R<|zi<|zr<|XL.step R (Bk 5 R Tryz.underlying55 Yx Tn R R (by omega) (by omega))<|zm R R<|XL.step R (A1 R Alw (.own R) (Src.sl (by omega)) (by unfold maxLen;simp;omega) (by simp;omega))<|zp (Au R (by conv=>lhs;whnf))<|?_
 refine zn<|zt<|?_
 exact ⟨Cv R (RVS.tmp R R),HSub.cons (R) (HSub.nil)⟩
theorem Adx (l:List Gr) (h:l.length≤1000):XS Tryz.prog 141 [.sl 5 (l.map Gr.c)] (.own 5) [(5, .row 203 5 ((l).map Gr.c))]:=by
 refine D4 R3 Tryz.func141 R R lb (by kernel_rfl) (by kernel_rfl)<|zr<|za R R<|zn<|zs<|zr<|zm R R<|?_
 refine XL.eqnil R R R Tryz.underlying56 (fun hn4=> ?_) ?_
 refine zn<|A0 (by kernel_rfl) R<|zr<|za R R<|zn<|Dy 5 2 203 5 R<|zt<|?_
 exact ⟨Cv R (RVS.tmp R R),HSub.cons (by rw [hn4];rfl) (HSub.nil)⟩
 refine zn<|A8 (by kernel_rfl) R<|zi<|zr<|XL.step R (Bk 5 R Tryz.underlying56 Yw Tl R R (by omega) (by omega))<|zm R R<|XL.step R (A1 R Alv (.own R) (Src.sl (by omega)) (by unfold maxLen;simp;omega) (by simp;omega))<|zp (Au R (by conv=>lhs;whnf))<|?_
 refine zn<|zt<|?_
 exact ⟨Cv R (RVS.tmp R R),HSub.cons (R) (HSub.nil)⟩
theorem Adu (l:List Sy) (h:l.length≤1000):XS Tryz.prog 142 [.sl 2 (l.map Sy.c)] (.own 5) [(5, .row 171 2 ((l).map Sy.c))]:=by
 refine D4 R2 Tryz.func142 R R lb (by kernel_rfl) (by kernel_rfl)<|zr<|za R R<|zn<|zs<|zr<|zm R R<|?_
 refine XL.eqnil R R R Tryz.underlying57 (fun hn4=> ?_) ?_
 refine zn<|A0 (by kernel_rfl) R<|zr<|za R R<|zn<|Dy 5 2 171 2 R<|zt<|?_
 exact ⟨Cv R (RVS.tmp R R),HSub.cons (by rw [hn4];rfl) (HSub.nil)⟩
 refine zn<|A8 (by kernel_rfl) R<|zi<|zr<|XL.step R (Bk 5 R Tryz.underlying57 Yy O8 R R (by omega) (by omega))<|zm R R<|XL.step R (A1 R Alu (.own R) (Src.sl (by omega)) (by unfold maxLen;simp;omega) (by simp;omega))<|zp (Au R (by conv=>lhs;whnf))<|?_
 refine zn<|zt<|?_
 exact ⟨Cv R (RVS.tmp R R),HSub.cons (R) (HSub.nil)⟩
theorem Aax (l:List Int) (h:l.length≤1000):XS Tryz.prog 200 [.sl 1 (l.map iv)] (.own 5) [(5, .row 3 1 ((l).map iv))]:=by
 refine D4 Aba Tryz.func200 R R lb (by kernel_rfl) (by kernel_rfl)<|zr<|za R R<|zn<|zs<|zr<|zm R R<|?_
 refine XL.eqnil R R R Tryz.underlying45 (fun hn4=> ?_) ?_
 refine zn<|A0 (by kernel_rfl) R<|zr<|za R R<|zn<|Dy 5 2 3 1 R<|zt<|?_
 exact ⟨Cv R (RVS.tmp R R),HSub.cons (by rw [hn4];rfl) (HSub.nil)⟩
 refine zn<|A8 (by kernel_rfl) R<|zi<|zr<|XL.step R (Bk 5 R Tryz.underlying45 Ey H7 R R (by omega) (by omega))<|zm R R<|XL.step R (A1 R Rv (.own R) (Src.sl (by omega)) (by unfold maxLen;simp;omega) (by simp;omega))<|zp (Au R (by conv=>lhs;whnf))<|?_
 refine zn<|zt<|?_
 exact ⟨Cv R (RVS.tmp R R),HSub.cons (R) (HSub.nil)⟩
def H1 {α:Type} (f:α→α) (l:List α) (k:Nat):List α:=(l.take k).map f++l.drop k
theorem Pr {α:Type} (f:α→α) (l:List α):l=H1 f l 0:=by simp [H1]
theorem Rg {α:Type} {f:α→α} {l:List α} {k:Nat} (h:l.length≤k):H1 f l k=l.map f:=by rw [H1,List.take_of_length_le h,List.drop_eq_nil_of_le h,List.append_nil]
theorem N6 {α:Type} (f:α→α) (l:List α) (k:Nat):(H1 f l k).length=l.length:=by rw [H1,List.length_append,List.length_map,List.length_take,List.length_drop];omega
theorem Rf {α:Type} {f:α→α} {l:List α} {k:Nat} {x:α} (h:l[k]? =some x):(H1 f l k)[k]? =some x:=by
 have hk:=(List.getElem?_eq_some_iff.1 h).1
 rw [H1,List.getElem?_append_right (by rw [List.length_map,List.length_take];omega),List.length_map,List.length_take,Nat.min_eq_left (by omega),Nat.sub_self,List.getElem?_drop]
 exact h
theorem Re {α:Type} {f:α→α} {l:List α} {k:Nat} {x:α} (h:l[k]? =some x):H1 f l (k+1)=(H1 f l k).set k (f x):=by
 have hk:=(List.getElem?_eq_some_iff.1 h).1
 have hl:((l.take k).map f).length=k:=by rw [List.length_map,List.length_take];omega
 rw [H1,H1,Bn h,List.map_append,List.set_append_right _ _ (by omega),hl,Nat.sub_self,Bw h,List.set_cons_zero,List.append_assoc]
 rfl
def Hd.tie (h:Hd):Hd:=⟨h.p,true,h.sh⟩
def Hd.plain (h:Hd):Hd:=⟨h.p,h.tied,0⟩
theorem Qb (l:List Hd) (h:l.length≤1000):XC Tryz.prog 136 [.sl 5 (l.map Hd.c)] (fun r=>r= .sl 5 ((l.map Hd.tie).map Hd.c)):=by
 refine Am Aco Tryz.func136 R R lb<|zr<|za R R<|znr<|zm R R<|XL.callS R R ((Oq _ (by omega)).lab 7001) R<|zp (Au R (by conv=>lhs;whnf))<|?_
 refine zn<|zs<|zr<|zp (Ar R (by conv=>lhs;whnf))<|?_
 refine zp (B5 R R R Tryz.underlying55)<|zm R R<|zn<|Ah<|?_
 refine Av (α:=Nat) (fun k=>k≤l.length) (fun k=>mkF [(0, .own 7001),(2, .d (.v (.slice none 0 0))),(6, .own 7001),(7, .d (dI l.length)),(8, .d (dI k))]) (fun k=>mkH [(7001, .row 200 5 ((H1 Hd.tie l k).map Hd.c))]) (fun k=>l.length - k) (0) (Nat.zero_le _) ?_ ?_ ?_
 exact fz ⟨sr,sr,sr,sr,sr,trivial⟩
 exact gz ⟨by rw [←Pr];rfl,trivial⟩
 intro k hk0
 refine zr<|zp (As R R R)<|zn<|zs<|?_
 refine zd R (fun c9=> ?_) (fun c9=> ?_)
 have hkl:k<l.length:=by omega
 obtain ⟨x,hx⟩:=At hkl
 have hml:=N6 Hd.tie l k
 have hg:=Rf (f:=Hd.tie) hx
 refine zi<|zs<|Ah<|zr<|zm R R<|za R R<|zng<|zp (Ar R (by conv=>lhs;whnf))<|?_
 refine zm R R<|zp (Ke R R R R Sr (by omega))<|zp (Aa R R Alg)<|XL.step R (Ek R R R (C4 hg) R R Avs R lb)<|zn<|Ag (by kernel_rfl)<|zp (Ak R R R (by omega) (by omega))<|zm R R<|zn<|?_
 exact Al (k+1) (by omega) (by omega) (fz ⟨sr,sr,sr,sr,sr,trivial⟩) (gz ⟨Og (a:=Hd.tie x) R (Re hx),trivial⟩)
 have he:=Rg (f:=Hd.tie) (l:=l) (k:=k) (by omega)
 refine Aq<|zr<|zp (Ar R (by conv=>lhs;whnf))<|?_
 refine zp (Au R (by conv=>lhs;whnf))<|?_
 exact zn<|zt<|Cb (i:=7001) R<|z1 R R (rSl he)
theorem P5 (l:List Hd) (h:l.length≤1000):XC Tryz.prog 135 [.sl 5 (l.map Hd.c)] (fun r=>r= .sl 5 ((l.map Hd.plain).map Hd.c)):=by
 refine Am Acp Tryz.func135 R R lb<|zr<|za R R<|znr<|zm R R<|XL.callS R R ((Oq _ (by omega)).lab 7001) R<|zp (Au R (by conv=>lhs;whnf))<|?_
 refine zn<|zs<|zr<|zp (Ar R (by conv=>lhs;whnf))<|?_
 refine zp (B5 R R R Tryz.underlying55)<|zm R R<|zn<|Ah<|?_
 refine Av (α:=Nat) (fun k=>k≤l.length) (fun k=>mkF [(0, .own 7001),(2, .d (.v (.slice none 0 0))),(6, .own 7001),(7, .d (dI l.length)),(8, .d (dI k))]) (fun k=>mkH [(7001, .row 200 5 ((H1 Hd.plain l k).map Hd.c))]) (fun k=>l.length - k) (0) (Nat.zero_le _) ?_ ?_ ?_
 exact fz ⟨sr,sr,sr,sr,sr,trivial⟩
 exact gz ⟨by rw [←Pr];rfl,trivial⟩
 intro k hk0
 refine zr<|zp (As R R R)<|zn<|zs<|?_
 refine zd R (fun c9=> ?_) (fun c9=> ?_)
 have hkl:k<l.length:=by omega
 obtain ⟨x,hx⟩:=At hkl
 have hml:=N6 Hd.plain l k
 have hg:=Rf (f:=Hd.plain) hx
 refine zi<|zs<|Ah<|zr<|zm R R<|za R R<|zng<|zp (Ar R (by conv=>lhs;whnf))<|?_
 refine zm R R<|zp (Ke R R R R Sr (by omega))<|zp (Aa R R Xq)<|XL.step R (Ek R R R (C4 hg) R R Ey R lb)<|zn<|Ag (by kernel_rfl)<|zp (Ak R R R (by omega) (by omega))<|zm R R<|zn<|?_
 exact Al (k+1) (by omega) (by omega) (fz ⟨sr,sr,sr,sr,sr,trivial⟩) (gz ⟨Og (a:=Hd.plain x) R (Re hx),trivial⟩)
 have he:=Rg (f:=Hd.plain) (l:=l) (k:=k) (by omega)
 refine Aq<|zr<|zp (Ar R (by conv=>lhs;whnf))<|?_
 refine zp (Au R (by conv=>lhs;whnf))<|?_
 exact zn<|zt<|Cb (i:=7001) R<|z1 R R (rSl he)
end Go.Proofs.YtaafemnkamfgnaaGreat
namespace Go.Proofs.YtaafemnkamfgnaaGreat
open Go.RowKit
def Ev.fit (e:Ev):Prop:=e.heads.length≤1000∧e.graces.length≤1000∧e.lyr.length≤1000
theorem Rw (e:Ev) (h:e.fit):XC Tryz.prog 111 [.agg (Ev.c e)] (fun r=>r= .agg (Ev.c e)):=by
 obtain ⟨h1,h2,h3⟩:=h
 refine Am R6 Tryz.func111 R R lb<|zr<|XL.step R (An 1 (l:= [.d (dI e.site), .d (dI e.num), .d (dI e.kind), .d (dI e.v.log), .d (dI e.v.dots), .d (.sl 5 (e.heads.map Hd.c)), .d (.sl 5 (e.graces.map Gr.c)), .d (dI e.art), .d (dI e.orn), .d (dI e.dyn), .d (.sl 2 (e.lyr.map Sy.c)), .d (dI e.stem), .d (dI e.beam)]) R R (by kernel_rfl))<|?_
 refine XL.step R (Ap 2 (l:= [.d (dI 0), .d (dI 0), .d (dI 0), .d (dI 0), .d (dI 0), .d (.v (.slice none 0 0)), .d (.v (.slice none 0 0)), .d (dI 0), .d (dI 0), .d (dI 0), .d (.v (.slice none 0 0)), .d (dI 0), .d (dI 0)]) R Cg (by kernel_rfl))<|zn<|zs<|Ct 10 [7001,7002,7003] (by kernel_rfl) (by kernel_rfl) (by kernel_rfl) (by kernel_rfl) (by decide)<|yp (Aa R R C5)<|?_
 refine yp (Ab R R Hc R R)<|ChK.cons R (CStep.callS R ((Oq _ (by omega)).lab 7001) R (Gy (by kernel_rfl)))<|yp (Aa R R Gg)<|yp (Ab R R N2 R R)<|ChK.cons R (CStep.callS R ((Adx _ (by omega)).lab 7002) R (Gy (by kernel_rfl)))<|yp (Aa R R Er)<|yp (Ab R R Jn R R)<|?_
 refine ChK.cons R (CStep.callS R ((Adu _ (by omega)).lab 7003) R (Gy (by kernel_rfl)))<|yp (Aa R R C5)<|?_
 refine ChK.nil ⟨by kernel_rfl, ?_⟩
 refine XL.step R (Af (l':= [.d (dI e.site), .d (dI e.num), .d (dI e.kind), .d (dI e.v.log), .d (dI e.v.dots), .own 7001, .d (.sl 5 (e.graces.map Gr.c)), .d (dI e.art), .d (dI e.orn), .d (dI e.dyn), .d (.sl 2 (e.lyr.map Sy.c)), .d (dI e.stem), .d (dI e.beam)]) R R R R Nx R lb (by kernel_rfl))<|zp (Aa R R Gg)<|?_
 refine XL.step R (Af (l':= [.d (dI e.site), .d (dI e.num), .d (dI e.kind), .d (dI e.v.log), .d (dI e.v.dots), .own 7001, .own 7002, .d (dI e.art), .d (dI e.orn), .d (dI e.dyn), .d (.sl 2 (e.lyr.map Sy.c)), .d (dI e.stem), .d (dI e.beam)]) R R R R Ahd R lb (by kernel_rfl))<|zp (Aa R R Er)<|?_
 refine XL.step R (Af (l':= [.d (dI e.site), .d (dI e.num), .d (dI e.kind), .d (dI e.v.log), .d (dI e.v.dots), .own 7001, .own 7002, .d (dI e.art), .d (dI e.orn), .d (dI e.dyn), .own 7003, .d (dI e.stem), .d (dI e.beam)]) R R R R Ahc R lb (by kernel_rfl))<|znr<|zp (Ac (Ad R R Bm R lb))<|?_
 refine XL.step R (Af (l':= [.d (dI e.site), .d (dI e.num), .d (dI e.kind), .d (dI e.v.log), .d (dI e.v.dots), .own 7001, .own 7002, .d (dI e.art), .d (dI e.orn), .d (dI e.dyn), .own 7003, .d (dI e.stem), .d (dI e.beam)]) R R R R C7 R lb (by kernel_rfl))<|zn<|zt<|Cb (i:=7001) R<|Cb (i:=7002) R<|Cb (i:=7003) R<|?_
 exact Kd R (RV.cells R R R Bm lb R) (R)
def Ev.eqv (a b:Ev):Prop:=(a.site=b.site∧a.num=b.num)∧a.same b
instance (a b:Ev):Decidable (a.eqv b):=by unfold Ev.eqv;exact inferInstance
theorem Alz (a b:Ev):XC Tryz.prog 109 [.agg (Ev.c a), .agg (Ev.c b)] (fun r=>r=dB (decide (a.eqv b))):=by
 refine Am Ac2 Tryz.func109 R R lb<|zr<|XL.step R (An 2 (l:= [.d (dI a.site), .d (dI a.num), .d (dI a.kind), .d (dI a.v.log), .d (dI a.v.dots), .d (.sl 5 (a.heads.map Hd.c)), .d (.sl 5 (a.graces.map Gr.c)), .d (dI a.art), .d (dI a.orn), .d (dI a.dyn), .d (.sl 2 (a.lyr.map Sy.c)), .d (dI a.stem), .d (dI a.beam)]) R R (by kernel_rfl))<|?_
 refine XL.step R (An 3 (l:= [.d (dI b.site), .d (dI b.num), .d (dI b.kind), .d (dI b.v.log), .d (dI b.v.dots), .d (.sl 5 (b.heads.map Hd.c)), .d (.sl 5 (b.graces.map Gr.c)), .d (dI b.art), .d (dI b.orn), .d (dI b.dyn), .d (.sl 2 (b.lyr.map Sy.c)), .d (dI b.stem), .d (dI b.beam)]) R R (by kernel_rfl))<|za R R<|znr<|zp (Aa R R Gh)<|?_
 refine zp (Ae (s':= .d (.agg [dI a.site,dI a.num])) (Ac (Ad R R Gi R lb)) (by kernel_rfl))<|zp (Aa R R Gh)<|zp (Ae (s':= .d (.agg [dI b.site,dI b.num])) (Ac (Ad R R Gi R lb)) (by kernel_rfl))<|zp (Tz R R R)<|zm R R<|?_
 refine XL.dec 10 R (fun g10=> ?_) (fun g10=> ?_)
 exact zp (Ae (s':= .d (.agg (Ev.c a))) (Ac (Ad R R Bm R lb)) (by kernel_rfl))<|zp (Ae (s':= .d (.agg (Ev.c b))) (Ac (Ad R R Bm R lb)) (by kernel_rfl))<|XL.call1 R R (Afz _ _) R<|zq R R R<|za R R<|zn<|zt<|z1 R R (rB (by rw [decide_eq_decide];exact ⟨fun h=>⟨g10,h⟩,fun h=>h.2⟩))
 exact zk 3 R<|zq R R R<|za R R<|zn<|zt<|z1 R R (rB (by rw [eq_comm,decide_eq_false_iff_not];exact fun h=>g10 h.1))
structure Vo.fit (v:Vo):Prop where
 evs:v.evs.length≤1000
 tups:v.tups.length≤1000
 ev:∀e∈v.evs,e.fit
theorem Lk (v:Vo) (h:v.fit):XC Tryz.prog 82 [.agg (Vo.c v)] (fun r=>r= .agg (Vo.c v)):=by
 have h1:=h.evs
 have h2:=h.tups
 refine Am Tg Tryz.func82 R R lb<|zr<|XL.step R (An 1 (l:= [.d (.sl 13 (v.evs.map Ev.c)), .d (.sl 4 (v.tups.map Tp.c))]) R R (by kernel_rfl))<|XL.step R (Ap 2 (l:= [.d (.v (.slice none 0 0)), .d (.v (.slice none 0 0))]) R Bf (by kernel_rfl))<|znr<|XL.step R (Ap 3 (l:= [.d (.v (.slice none 0 0)), .d (.v (.slice none 0 0))]) R Bf (by kernel_rfl))<|zn<|zs<|zr<|?_
 refine zp (Aa R R Bl)<|zp (Ab R R Cy R R)<|XL.len R R R Tryz.underlying79 fun hl8=>zm R R<|zn<|Ah<|Fc 900 3 0 59 13 (l':= [.own 900, .d (.v (.slice none 0 0))]) R R (by decide) (by kernel_rfl)<|?_
 refine Av (α:=Nat) (fun k=>k≤v.evs.length) (fun k=>mkF [(1, .ptr 1 0 0),(2, .ptr 2 0 0),(3, .ptr 3 0 0),(7, .d (.sl 13 (v.evs.map Ev.c))),(8, .d (dI v.evs.length)),(9, .d (dI k))]) (fun k=>mkH [(1, .box ((Vo.c v).map S.d)),(2, .box [.d (.v (.slice none 0 0)), .d (.v (.slice none 0 0))]),(3, .box [.own 900, .d (.v (.slice none 0 0))]),(900, .row 59 13 ((v.evs.take k).map Ev.c))]) (fun k=>v.evs.length - k) (0) (Nat.zero_le _) ?_ ?_ ?_
 exact fz ⟨sr,sr,sr,sr,sr,sr,trivial⟩
 exact gz ⟨R,R,R,R,trivial⟩
 intro k hk0
 refine zr<|zp (As R R R)<|zn<|zs<|?_
 refine zd R (fun c10=> ?_) (fun c10=> ?_)
 have hk0a:k<v.evs.length:=by omega
 obtain ⟨x0,hx0⟩:=At hk0a
 have hf:=h.ev x0 (List.mem_of_getElem? hx0)
 have htl:(v.evs.take k).length=k:=by rw [List.length_take];omega
 refine zi<|zs<|Ah<|zr<|zp (Ao R R R E8 hx0)<|zp (Ae (s':= .d (.agg (Ev.c x0))) (Az R R Bm lb) (by kernel_rfl))<|XL.step R (Ap 5 (l:= [.d (dI 0), .d (dI 0), .d (dI 0), .d (dI 0), .d (dI 0), .d (.v (.slice none 0 0)), .d (.v (.slice none 0 0)), .d (dI 0), .d (dI 0), .d (dI 0), .d (.v (.slice none 0 0)), .d (dI 0), .d (dI 0)]) R Cg (by kernel_rfl))<|?_
 refine XL.step R (Af (l':= [.d (dI x0.site), .d (dI x0.num), .d (dI x0.kind), .d (dI x0.v.log), .d (dI x0.v.dots), .d (.sl 5 (x0.heads.map Hd.c)), .d (.sl 5 (x0.graces.map Gr.c)), .d (dI x0.art), .d (dI x0.orn), .d (dI x0.dyn), .d (.sl 2 (x0.lyr.map Sy.c)), .d (dI x0.stem), .d (dI x0.beam)]) R R R R C7 R lb (by kernel_rfl))<|zn<|?_
 refine Ct 5 [] (by kernel_rfl) (by kernel_rfl) (by kernel_rfl) (by kernel_rfl) (by decide)<|yp (Aa R R Bl)<|yp (Ab R R Cy R R)<|yp (Ae (s':= .d (.agg (Ev.c x0))) (Ac (Ad R R Bm R lb)) (by kernel_rfl))<|ChK.cons R (CStep.call R (Rw _ (by assumption)) R)<|ChK.cons R (CStep.slice R Tryz.underlying79 C7 Cg R R (by omega) (by omega))<|?_
 refine ChK.nil ⟨by kernel_rfl, ?_⟩
 refine XL.step R (A1 R G0 (.own R) (Src.sl (by omega)) (by unfold maxLen;simp;omega) (by simp;omega))<|zp (Aa R R Bl)<|XL.step R (Af (l':= [.own 900, .d (.v (.slice none 0 0))]) R R R R Sc R lb (by kernel_rfl))<|zn<|Ag (by kernel_rfl)<|zp (Ak R R R (by omega) (by omega))<|zm R R<|zn<|?_
 exact Al (k+1) (by omega) (by omega) (fz ⟨sr,sr,sr,sr,sr,sr,trivial⟩) (gz ⟨R,R,R,Im R (Bn hx0),trivial⟩)
 have hk0b:k=v.evs.length:=by omega
 have ht:v.evs.take k=v.evs:=by rw [hk0b,List.take_length]
 refine Aq<|zr<|zp (Aa R R B7)<|zp (Ab R R B8 R R)<|zp (Aa R R B7)<|zp (Ab R R B8 R R)<|XL.step R (A1 R F7 (.nil 25 _ _) (Src.sl (by omega)) (by unfold maxLen;simp;omega) (by simp;omega))<|zp (Aa R R B7)<|XL.step R (Af (l':= [.own 900, .own 25]) R R R R Gl R lb (by kernel_rfl))<|znr<|?_
 refine zp (Ac (Ad R R Aw R lb))<|XL.step R (Af (l':= [.own 900, .own 25]) R R R R By R lb (by kernel_rfl))<|zn<|zt<|Cb (i:=900) R<|Cb (i:=25) R<|?_
 exact Kd R (RV.cells R R R Aw lb R) (by rw [ht];rfl)
end Go.Proofs.YtaafemnkamfgnaaGreat
namespace Go.Proofs.YtaafemnkamfgnaaGreat
open Go.RowKit
def Ev.further (x:Ev):Ev:=⟨0,0,x.kind,⟨0,0⟩,x.heads.map Hd.plain, [],0,0,0, [],x.stem,0⟩
def Ev.put (y:Ev) (v:Val) (t:Bool):Ev:=⟨y.site,y.num,y.kind,v,if t then y.heads.map Hd.tie else y.heads,y.graces,y.art,y.orn,y.dyn,y.lyr,y.stem,y.beam⟩
def Fu (x:Ev) (n:Nat) (fu:Bool) (i:Nat) (v:Val):Ev:=(if 0<(i:Int)∨fu=true then x.further else x).put v (decide ((i:Int)+1<(n:Int)))
def B1 (x:Ev) (vs:List Val) (fu:Bool):List Ev:=vs.mapIdx (Fu x vs.length fu)
def Kj (x:Ev) (vs:List Val) (fu:Bool) (k:Nat):List Ev:=(vs.take k).mapIdx (Fu x vs.length fu)
theorem Ic {x:Ev} {vs:List Val} {fu:Bool} {k:Nat} {v:Val} (h:vs[k]? =some v) {y:Ev} (hy:Fu x vs.length fu k v=y):Kj x vs fu (k+1)=Kj x vs fu k++ [y]:=by
 have hk:=(List.getElem?_eq_some_iff.1 h).1
 rw [Kj,Bn h,List.mapIdx_append, ←hy]
 simp [Kj,List.length_take,Nat.min_eq_left (Nat.le_of_lt hk)]
theorem Akl {x:Ev} {n i:Nat} {fu:Bool} {v:Val} (h:0<(i:Int)∨fu=true) (h2:(i:Int)+1<(n:Int)):Fu x n fu i v=x.further.put v true:=by rw [Fu,if_pos h,decide_eq_true h2]
theorem Akk {x:Ev} {n i:Nat} {fu:Bool} {v:Val} (h:0<(i:Int)∨fu=true) (h2:¬(i:Int)+1<(n:Int)):Fu x n fu i v=x.further.put v false:=by rw [Fu,if_pos h,decide_eq_false h2]
theorem Atk {x:Ev} {n i:Nat} {fu:Bool} {v:Val} (h:¬0<(i:Int)) (h':fu=false) (h2:(i:Int)+1<(n:Int)):Fu x n fu i v=x.put v true:=by rw [Fu,if_neg (by rw [h'];simp;omega),decide_eq_true h2]
theorem Atj {x:Ev} {n i:Nat} {fu:Bool} {v:Val} (h:¬0<(i:Int)) (h':fu=false) (h2:¬(i:Int)+1<(n:Int)):Fu x n fu i v=x.put v false:=by rw [Fu,if_neg (by rw [h'];simp;omega),decide_eq_false h2]
theorem Nd (x:Ev) (vs:List Val) (fu:Bool) (h:x.fit) (hv:vs.length≤3000):XS Tryz.prog 105 [.agg (Ev.c x), .sl 2 (vs.map Val.c), .v (.bool fu)] (.own 900) [(900, .row 59 13 ((B1 x vs fu).map Ev.c))]:=by
 have hf:=h
 have hf1:=h.1
 refine D4 Ac4 Tryz.func105 R R lb (by kernel_rfl) (by kernel_rfl)<|zr<|XL.step R (An 3 (l:= [.d (dI x.site), .d (dI x.num), .d (dI x.kind), .d (dI x.v.log), .d (dI x.v.dots), .d (.sl 5 (x.heads.map Hd.c)), .d (.sl 5 (x.graces.map Gr.c)), .d (dI x.art), .d (dI x.orn), .d (dI x.dyn), .d (.sl 2 (x.lyr.map Sy.c)), .d (dI x.stem), .d (dI x.beam)]) R R (by kernel_rfl))<|za R R<|znr<|?_
 refine za R R<|zn<|zs<|zr<|zm R R<|XL.len R R R Tryz.underlying159 fun hl12=>zm R R<|zn<|Ah<|Dy 900 7 59 13 R<|?_
 refine Av (α:=Nat) (fun k=>k≤vs.length) (fun k=>mkF [(1, .d (.sl 2 (vs.map Val.c))),(2, .d (dB fu)),(3, .ptr 3 0 0),(6, .d (.v (.slice none 0 0))),(7, .own 900),(11, .d (.sl 2 (vs.map Val.c))),(12, .d (dI vs.length)),(13, .d (dI k))]) (fun k=>mkH [(3, .box ((Ev.c x).map S.d)),(900, .row 59 13 ((Kj x vs fu k).map Ev.c))]) (fun k=>vs.length - k) (0) (Nat.zero_le _) ?_ ?_ ?_
 exact fz ⟨sr,sr,sr,sr,sr,sr,sr,sr,trivial⟩
 exact gz ⟨R,R,trivial⟩
 intro k hk0
 refine zr<|zp (As R R R)<|zn<|zs<|?_
 refine zd R (fun c14=> ?_) (fun c14=> ?_)
 have hk0a:k<vs.length:=by omega
 obtain ⟨x0,hx0⟩:=At hk0a
 have hnl:(Kj x vs fu k).length=k:=by rw [Kj,List.length_mapIdx,List.length_take];omega
 have hpl:(x.heads.map Hd.plain).length≤1000:=by rw [List.length_map];exact hf1
 refine zi<|zs<|Ah<|zr<|zm R R<|zp (Ao R R R At8 hx0)<|zp (Ae (s':= .d (.agg (Val.c x0))) (Az R R Eo lb) (by kernel_rfl))<|XL.step R (Ap 9 (l:= [.d (dI 0), .d (dI 0)]) R Fy (by kernel_rfl))<|za R R<|XL.step R (Af (l':= [.d (dI x0.log), .d (dI x0.dots)]) R R R R Hu R lb (by kernel_rfl))<|znr<|?_
 refine zp (Ae (s':= .d (.agg (Ev.c x))) (Ac (Ad R R Bm R lb)) (by kernel_rfl))<|XL.call1 R R (Rw _ (by assumption)) R<|XL.step R (Ap 10 (l:= [.d (dI 0), .d (dI 0), .d (dI 0), .d (dI 0), .d (dI 0), .d (.v (.slice none 0 0)), .d (.v (.slice none 0 0)), .d (dI 0), .d (dI 0), .d (dI 0), .d (.v (.slice none 0 0)), .d (dI 0), .d (dI 0)]) R Cg (by kernel_rfl))<|?_
 refine XL.step R (Af (l':= [.d (dI x.site), .d (dI x.num), .d (dI x.kind), .d (dI x.v.log), .d (dI x.v.dots), .d (.sl 5 (x.heads.map Hd.c)), .d (.sl 5 (x.graces.map Gr.c)), .d (dI x.art), .d (dI x.orn), .d (dI x.dyn), .d (.sl 2 (x.lyr.map Sy.c)), .d (dI x.stem), .d (dI x.beam)]) R R R R C7 R lb (by kernel_rfl))<|zn<|zs<|zr<|zm R R<|zp (Bg R R R)<|zm R R<|?_
 refine XL.dec 22 R (fun g22=> ?_) (fun g22=> ?_)
 refine XL.skip R<|zq R R R<|zn<|A0 (by kernel_rfl) R<|Ct 7 [] (by kernel_rfl) (by kernel_rfl) (by kernel_rfl) (by kernel_rfl) (by decide)<|yp (Aa R R Di)<|yp (Ab R R Ai R R)<|yp (Aa R R Ix)<|yp (Ab R R Ai R R)<|yp (Aa R R C5)<|yp (Ab R R Hc R R)<|ChK.cons R (CStep.call R (P5 _ (by omega)) R)<|?_
 refine ChK.nil ⟨by kernel_rfl, ?_⟩
 refine zp (Ae (s':= .d (.agg [dI 0,dI 0,dI x.kind,dI 0,dI 0, .sl 5 ((x.heads.map Hd.plain).map Hd.c), .v (.slice none 0 0),dI 0,dI 0,dI 0, .v (.slice none 0 0),dI x.stem,dI 0])) (Ac (A7 R Qd Cg R)) (by kernel_rfl))<|?_
 refine XL.step R (Af (l':= [.d (dI 0), .d (dI 0), .d (dI x.kind), .d (dI 0), .d (dI 0), .d (.sl 5 ((x.heads.map Hd.plain).map Hd.c)), .d (.v (.slice none 0 0)), .d (dI 0), .d (dI 0), .d (dI 0), .d (.v (.slice none 0 0)), .d (dI x.stem), .d (dI 0)]) R R R R C7 R lb (by kernel_rfl))<|znr<|zp (Ae (s':= .d (.agg (Val.c x0))) (Ac (Ad R R Eo R lb)) (by kernel_rfl))<|?_
 refine zp (Aa R R H4)<|XL.step R (Af (l':= [.d (dI 0), .d (dI 0), .d (dI x.kind), .d (dI x0.log), .d (dI x0.dots), .d (.sl 5 ((x.heads.map Hd.plain).map Hd.c)), .d (.v (.slice none 0 0)), .d (dI 0), .d (dI 0), .d (dI 0), .d (.v (.slice none 0 0)), .d (dI x.stem), .d (dI 0)]) R R R R Hu R lb (by kernel_rfl))<|zn<|zs<|zr<|zm R R<|zp (Ak R R R (by omega) (by omega))<|zm R R<|?_
 refine XL.len R R R Tryz.underlying159 fun hl38=>zp (As R R R)<|zn<|?_
 refine zd R (fun c39=> ?_) (fun c39=> ?_)
 refine Ag (by kernel_rfl)<|zp (Aa R R C5)<|zp (Ab R R Hc R R)<|XL.call1 R R (Qb _ (by omega)) R<|zp (Aa R R C5)<|?_
 refine XL.step R (Af (l':= [.d (dI 0), .d (dI 0), .d (dI x.kind), .d (dI x0.log), .d (dI x0.dots), .d (.sl 5 (((x.heads.map Hd.plain).map Hd.tie).map Hd.c)), .d (.v (.slice none 0 0)), .d (dI 0), .d (dI 0), .d (dI 0), .d (.v (.slice none 0 0)), .d (dI x.stem), .d (dI 0)]) R R R R Nx R lb (by kernel_rfl))<|zng<|zp (Ar R (by conv=>lhs;whnf))<|?_
 refine zp (Ae (s':= .d (.agg [dI 0,dI 0,dI x.kind,dI x0.log,dI x0.dots, .sl 5 (((x.heads.map Hd.plain).map Hd.tie).map Hd.c), .v (.slice none 0 0),dI 0,dI 0,dI 0, .v (.slice none 0 0),dI x.stem,dI 0])) (Ac (Ad R R Bm R lb)) (by kernel_rfl))<|XL.step R (Bk 46 R Tryz.underlying79 C7 Cg R R (by omega) (by omega))<|?_
 refine XL.row1 (i:=46) R (.cons (.same R) (.cons (.same R) (.cons (.same R) (.cons (.same R) (.cons (.same R) (.cons (.same R) (.cons (.nil 5) (.cons (.same R) (.cons (.same R) (.cons (.same R) (.cons (.nil 2) (.cons (.same R) (.cons (.same R) (.nil))))))))))))))<|XL.step R (A1 R G0 (.own R) (Src.own R) (by unfold maxLen;simp;omega) (by simp;omega))<|?_
 refine zp (Au R (by conv=>lhs;whnf))<|?_
 refine zn<|Ag (by kernel_rfl)<|zp (Ak R R R (by omega) (by omega))<|zm R R<|zn<|?_
 exact Al (k+1) (by omega) (by omega) (fz ⟨sr,sr,sr,sr,sr,sr,sr,sr,trivial⟩) (gz ⟨R,Im R (Ic hx0 (Akl (.inl g22) c39)),trivial⟩)
 refine zi<|Ag (by kernel_rfl)<|zp (Ar R (by conv=>lhs;whnf))<|?_
 refine zp (Ae (s':= .d (.agg [dI 0,dI 0,dI x.kind,dI x0.log,dI x0.dots, .sl 5 ((x.heads.map Hd.plain).map Hd.c), .v (.slice none 0 0),dI 0,dI 0,dI 0, .v (.slice none 0 0),dI x.stem,dI 0])) (Ac (Ad R R Bm R lb)) (by kernel_rfl))<|XL.step R (Bk 46 R Tryz.underlying79 C7 Cg R R (by omega) (by omega))<|?_
 refine XL.row1 (i:=46) R (.cons (.same R) (.cons (.same R) (.cons (.same R) (.cons (.same R) (.cons (.same R) (.cons (.same R) (.cons (.nil 5) (.cons (.same R) (.cons (.same R) (.cons (.same R) (.cons (.nil 2) (.cons (.same R) (.cons (.same R) (.nil))))))))))))))<|XL.step R (A1 R G0 (.own R) (Src.own R) (by unfold maxLen;simp;omega) (by simp;omega))<|?_
 refine zp (Au R (by conv=>lhs;whnf))<|?_
 refine zn<|Ag (by kernel_rfl)<|zp (Ak R R R (by omega) (by omega))<|zm R R<|zn<|?_
 exact Al (k+1) (by omega) (by omega) (fz ⟨sr,sr,sr,sr,sr,sr,sr,sr,trivial⟩) (gz ⟨R,Im R (Ic hx0 (Akk (.inl g22) c39)),trivial⟩)
 refine zm R R<|zq R R R<|zn<|?_
 refine Ej (by kernel_rfl) R (fun c24=> ?_) (fun c24=> ?_)
 refine Ct 7 [] (by kernel_rfl) (by kernel_rfl) (by kernel_rfl) (by kernel_rfl) (by decide)<|yp (Aa R R Di)<|yp (Ab R R Ai R R)<|yp (Aa R R Ix)<|yp (Ab R R Ai R R)<|yp (Aa R R C5)<|yp (Ab R R Hc R R)<|ChK.cons R (CStep.call R (P5 _ (by omega)) R)<|?_
 refine ChK.nil ⟨by kernel_rfl, ?_⟩
 refine zp (Ae (s':= .d (.agg [dI 0,dI 0,dI x.kind,dI 0,dI 0, .sl 5 ((x.heads.map Hd.plain).map Hd.c), .v (.slice none 0 0),dI 0,dI 0,dI 0, .v (.slice none 0 0),dI x.stem,dI 0])) (Ac (A7 R Qd Cg R)) (by kernel_rfl))<|?_
 refine XL.step R (Af (l':= [.d (dI 0), .d (dI 0), .d (dI x.kind), .d (dI 0), .d (dI 0), .d (.sl 5 ((x.heads.map Hd.plain).map Hd.c)), .d (.v (.slice none 0 0)), .d (dI 0), .d (dI 0), .d (dI 0), .d (.v (.slice none 0 0)), .d (dI x.stem), .d (dI 0)]) R R R R C7 R lb (by kernel_rfl))<|znr<|zp (Ae (s':= .d (.agg (Val.c x0))) (Ac (Ad R R Eo R lb)) (by kernel_rfl))<|?_
 refine zp (Aa R R H4)<|XL.step R (Af (l':= [.d (dI 0), .d (dI 0), .d (dI x.kind), .d (dI x0.log), .d (dI x0.dots), .d (.sl 5 ((x.heads.map Hd.plain).map Hd.c)), .d (.v (.slice none 0 0)), .d (dI 0), .d (dI 0), .d (dI 0), .d (.v (.slice none 0 0)), .d (dI x.stem), .d (dI 0)]) R R R R Hu R lb (by kernel_rfl))<|zn<|zs<|zr<|zm R R<|zp (Ak R R R (by omega) (by omega))<|zm R R<|?_
 refine XL.len R R R Tryz.underlying159 fun hl38=>zp (As R R R)<|zn<|?_
 refine zd R (fun c39=> ?_) (fun c39=> ?_)
 refine Ag (by kernel_rfl)<|zp (Aa R R C5)<|zp (Ab R R Hc R R)<|XL.call1 R R (Qb _ (by omega)) R<|zp (Aa R R C5)<|?_
 refine XL.step R (Af (l':= [.d (dI 0), .d (dI 0), .d (dI x.kind), .d (dI x0.log), .d (dI x0.dots), .d (.sl 5 (((x.heads.map Hd.plain).map Hd.tie).map Hd.c)), .d (.v (.slice none 0 0)), .d (dI 0), .d (dI 0), .d (dI 0), .d (.v (.slice none 0 0)), .d (dI x.stem), .d (dI 0)]) R R R R Nx R lb (by kernel_rfl))<|zng<|zp (Ar R (by conv=>lhs;whnf))<|?_
 refine zp (Ae (s':= .d (.agg [dI 0,dI 0,dI x.kind,dI x0.log,dI x0.dots, .sl 5 (((x.heads.map Hd.plain).map Hd.tie).map Hd.c), .v (.slice none 0 0),dI 0,dI 0,dI 0, .v (.slice none 0 0),dI x.stem,dI 0])) (Ac (Ad R R Bm R lb)) (by kernel_rfl))<|XL.step R (Bk 46 R Tryz.underlying79 C7 Cg R R (by omega) (by omega))<|?_
 refine XL.row1 (i:=46) R (.cons (.same R) (.cons (.same R) (.cons (.same R) (.cons (.same R) (.cons (.same R) (.cons (.same R) (.cons (.nil 5) (.cons (.same R) (.cons (.same R) (.cons (.same R) (.cons (.nil 2) (.cons (.same R) (.cons (.same R) (.nil))))))))))))))<|XL.step R (A1 R G0 (.own R) (Src.own R) (by unfold maxLen;simp;omega) (by simp;omega))<|?_
 refine zp (Au R (by conv=>lhs;whnf))<|?_
 refine zn<|Ag (by kernel_rfl)<|zp (Ak R R R (by omega) (by omega))<|zm R R<|zn<|?_
 exact Al (k+1) (by omega) (by omega) (fz ⟨sr,sr,sr,sr,sr,sr,sr,sr,trivial⟩) (gz ⟨R,Im R (Ic hx0 (Akl (.inr c24) c39)),trivial⟩)
 refine zi<|Ag (by kernel_rfl)<|zp (Ar R (by conv=>lhs;whnf))<|?_
 refine zp (Ae (s':= .d (.agg [dI 0,dI 0,dI x.kind,dI x0.log,dI x0.dots, .sl 5 ((x.heads.map Hd.plain).map Hd.c), .v (.slice none 0 0),dI 0,dI 0,dI 0, .v (.slice none 0 0),dI x.stem,dI 0])) (Ac (Ad R R Bm R lb)) (by kernel_rfl))<|XL.step R (Bk 46 R Tryz.underlying79 C7 Cg R R (by omega) (by omega))<|?_
 refine XL.row1 (i:=46) R (.cons (.same R) (.cons (.same R) (.cons (.same R) (.cons (.same R) (.cons (.same R) (.cons (.same R) (.cons (.nil 5) (.cons (.same R) (.cons (.same R) (.cons (.same R) (.cons (.nil 2) (.cons (.same R) (.cons (.same R) (.nil))))))))))))))<|XL.step R (A1 R G0 (.own R) (Src.own R) (by unfold maxLen;simp;omega) (by simp;omega))<|?_
 refine zp (Au R (by conv=>lhs;whnf))<|?_
 refine zn<|Ag (by kernel_rfl)<|zp (Ak R R R (by omega) (by omega))<|zm R R<|zn<|?_
 exact Al (k+1) (by omega) (by omega) (fz ⟨sr,sr,sr,sr,sr,sr,sr,sr,trivial⟩) (gz ⟨R,Im R (Ic hx0 (Akk (.inr c24) c39)),trivial⟩)
 refine zi<|zr<|zp (Ae (s':= .d (.agg (Val.c x0))) (Ac (Ad R R Eo R lb)) (by kernel_rfl))<|zp (Aa R R H4)<|?_
 refine XL.step R (Af (l':= [.d (dI x.site), .d (dI x.num), .d (dI x.kind), .d (dI x0.log), .d (dI x0.dots), .d (.sl 5 (x.heads.map Hd.c)), .d (.sl 5 (x.graces.map Gr.c)), .d (dI x.art), .d (dI x.orn), .d (dI x.dyn), .d (.sl 2 (x.lyr.map Sy.c)), .d (dI x.stem), .d (dI x.beam)]) R R R R Hu R lb (by kernel_rfl))<|zn<|zs<|zr<|zm R R<|zp (Ak R R R (by omega) (by omega))<|zm R R<|?_
 refine XL.len R R R Tryz.underlying159 fun hl38=>zp (As R R R)<|zn<|?_
 refine zd R (fun c39=> ?_) (fun c39=> ?_)
 refine Ag (by kernel_rfl)<|zp (Aa R R C5)<|zp (Ab R R Hc R R)<|XL.call1 R R (Qb _ (by omega)) R<|zp (Aa R R C5)<|?_
 refine XL.step R (Af (l':= [.d (dI x.site), .d (dI x.num), .d (dI x.kind), .d (dI x0.log), .d (dI x0.dots), .d (.sl 5 ((x.heads.map Hd.tie).map Hd.c)), .d (.sl 5 (x.graces.map Gr.c)), .d (dI x.art), .d (dI x.orn), .d (dI x.dyn), .d (.sl 2 (x.lyr.map Sy.c)), .d (dI x.stem), .d (dI x.beam)]) R R R R Nx R lb (by kernel_rfl))<|zng<|zp (Ar R (by conv=>lhs;whnf))<|?_
 refine zp (Ae (s':= .d (.agg [dI x.site,dI x.num,dI x.kind,dI x0.log,dI x0.dots, .sl 5 ((x.heads.map Hd.tie).map Hd.c), .sl 5 (x.graces.map Gr.c),dI x.art,dI x.orn,dI x.dyn, .sl 2 (x.lyr.map Sy.c),dI x.stem,dI x.beam])) (Ac (Ad R R Bm R lb)) (by kernel_rfl))<|XL.step R (Bk 46 R Tryz.underlying79 C7 Cg R R (by omega) (by omega))<|?_
 refine XL.step R (A1 R G0 (.own R) (Src.own R) (by unfold maxLen;simp;omega) (by simp;omega))<|zp (Au R (by conv=>lhs;whnf))<|?_
 refine zn<|Ag (by kernel_rfl)<|zp (Ak R R R (by omega) (by omega))<|zm R R<|zn<|?_
 exact Al (k+1) (by omega) (by omega) (fz ⟨sr,sr,sr,sr,sr,sr,sr,sr,trivial⟩) (gz ⟨R,Im R (Ic hx0 (Atk g22 c24 c39)),trivial⟩)
 refine zi<|Ag (by kernel_rfl)<|zp (Ar R (by conv=>lhs;whnf))<|?_
 refine zp (Ae (s':= .d (.agg [dI x.site,dI x.num,dI x.kind,dI x0.log,dI x0.dots, .sl 5 (x.heads.map Hd.c), .sl 5 (x.graces.map Gr.c),dI x.art,dI x.orn,dI x.dyn, .sl 2 (x.lyr.map Sy.c),dI x.stem,dI x.beam])) (Ac (Ad R R Bm R lb)) (by kernel_rfl))<|XL.step R (Bk 46 R Tryz.underlying79 C7 Cg R R (by omega) (by omega))<|?_
 refine XL.step R (A1 R G0 (.own R) (Src.own R) (by unfold maxLen;simp;omega) (by simp;omega))<|zp (Au R (by conv=>lhs;whnf))<|?_
 refine zn<|Ag (by kernel_rfl)<|zp (Ak R R R (by omega) (by omega))<|zm R R<|zn<|?_
 exact Al (k+1) (by omega) (by omega) (fz ⟨sr,sr,sr,sr,sr,sr,sr,sr,trivial⟩) (gz ⟨R,Im R (Ic hx0 (Atj g22 c24 c39)),trivial⟩)
 have hk0b:k=vs.length:=by omega
 have ht:Kj x vs fu k=B1 x vs fu:=by rw [Kj,hk0b,List.take_length];rfl
 refine Aq<|zr<|zp (Ar R (by conv=>lhs;whnf))<|?_
 refine zp (Au R (by conv=>lhs;whnf))<|?_
 refine zn<|zt<|?_
 exact ⟨Cv R (RVS.tmp R R),HSub.cons (by rw [ht];rfl) (HSub.nil)⟩
end Go.Proofs.YtaafemnkamfgnaaGreat
namespace Go.Proofs.YtaafemnkamfgnaaGreat
open Go.RowKit
def Ev.silent (e:Ev):Prop:=(e.kind=2∨e.kind=4)∧e.dyn=0∧e.art=0
instance (e:Ev):Decidable e.silent:=by unfold Ev.silent;exact inferInstance
def Ev.bare (y:Ev) (stem:Int):Ev:=⟨y.site,y.num,1,y.v,y.heads.map Hd.plain, [],0,0,0, [],stem,0⟩
def Yr (a b:List Hd):Prop:=∀(j:Nat) (x y:Hd),a[j]? =some x→b[j]? =some y→x.tied=true∧x.p=y.p
def Ev.conts (x y:Ev) (stem:Int):Prop:=x.kind=1∧x.heads.length=y.heads.length∧Yr x.heads y.heads∧y.eqv (y.bare stem)
open Classical in
noncomputable def Ev.contB (x y:Ev) (stem:Int):Bool:=decide (x.conts y stem)
def Pl.bad (p:Pl):Prop:=p.off<0∨15482880<p.off∨p.len<1∨15482880<p.len
instance (p:Pl):Decidable p.bad:=by unfold Pl.bad;exact inferInstance
def Pl.chk (p:Pl) (v:Vo):Int:=if p.m.err≠0 then p.m.err else if p.bad then 2 else ckE v p.len
theorem Avz {p:Pl} {v:Vo} (h:p.m.err≠0):p.m.err=p.chk v:=by rw [Pl.chk,if_pos h]
theorem Aht {p:Pl} {v:Vo} (h:¬p.m.err≠0) (h2:p.bad):2=p.chk v:=by rw [Pl.chk,if_neg h,if_pos h2]
theorem Avy {p:Pl} {v:Vo} (h:¬p.m.err≠0) (h2:¬p.bad):ckE v p.len=p.chk v:=by rw [Pl.chk,if_neg h,if_neg h2]
theorem Ahs (p:Pl) (v:Vo) (hE:Evs v.evs):XC Tryz.prog 128 [.agg (Pl.c p), .agg (Vo.c v)] (fun r=>r=dI (p.chk v)):=by
 refine Am Acw Tryz.func128 R R lb<|zr<|XL.step R (An 2 (l:= [.d (dI p.m.count), .d (dI p.m.unit), .d (dI p.m.g0), .d (dI p.m.g1), .d (dI p.m.g2), .d (dI p.m.g3), .d (dI p.m.g4), .d (dI p.m.g5), .d (dI p.off), .d (dI p.len)]) R R (by kernel_rfl))<|XL.step R (An 3 (l:= [.d (.sl 13 (v.evs.map Ev.c)), .d (.sl 4 (v.tups.map Tp.c))]) R R (by kernel_rfl))<|za R R<|zn<|zs<|zr<|?_
 refine zp (Aa R R Nm)<|zp (Ae (s':= .d (.agg (Me.c p.m))) (Ac (Ad R R Bo R lb)) (by kernel_rfl))<|XL.call1 R R (N5 _) R<|za R R<|znr<|zm R R<|zp (A5 R R R)<|zn<|?_
 refine zd R (fun c10=> ?_) (fun c10=> ?_)
 exact zr<|zm R R<|za R R<|zn<|zt<|z1 R R (rI (Avz c10))
 refine zi<|zs<|zr<|zp (Aa R R Hb)<|zp (Ab R R Ai R R)<|zp (As R R R)<|zm R R<|?_
 refine XL.dec 15 R (fun g15=> ?_) (fun g15=> ?_)
 exact zk 3 R<|zq R R R<|zm R R<|zk 3 R<|zq R R R<|zm R R<|zk 3 R<|zq R R R<|zn<|A0 (by kernel_rfl) R<|zr<|za R R<|zn<|zt<|z1 R R (rI (Aht c10 (by unfold Pl.bad;omega)))
 refine zp (Aa R R Hb)<|zp (Ab R R Ai R R)<|zp (Bg R R R)<|zq R R R<|zm R R<|?_
 refine XL.dec 20 R (fun g20=> ?_) (fun g20=> ?_)
 exact zk 3 R<|zq R R R<|zm R R<|zk 3 R<|zq R R R<|zn<|A0 (by kernel_rfl) R<|zr<|za R R<|zn<|zt<|z1 R R (rI (Aht c10 (by unfold Pl.bad;omega)))
 refine zp (Aa R R C0)<|zp (Ab R R Ai R R)<|zp (As R R R)<|zq R R R<|zm R R<|?_
 refine XL.dec 25 R (fun g25=> ?_) (fun g25=> ?_)
 exact zk 3 R<|zq R R R<|zn<|A0 (by kernel_rfl) R<|zr<|za R R<|zn<|zt<|z1 R R (rI (Aht c10 (by unfold Pl.bad;omega)))
 refine zp (Aa R R C0)<|zp (Ab R R Ai R R)<|zp (Bg R R R)<|zq R R R<|zn<|?_
 refine zd R (fun c29=> ?_) (fun c29=> ?_)
 exact zr<|za R R<|zn<|zt<|z1 R R (rI (Aht c10 (by unfold Pl.bad;omega)))
 exact zi<|zr<|zp (Ae (s':= .d (.agg (Vo.c v))) (Ac (Ad R R Aw R lb)) (by kernel_rfl))<|zp (Aa R R C0)<|zp (Ab R R Ai R R)<|XL.call1 R R (Nr _ _ (by assumption)) R<|za R R<|zn<|zt<|z1 R R (rI (Avy c10 (by unfold Pl.bad;omega)))
end Go.Proofs.YtaafemnkamfgnaaGreat
namespace Go.Proofs.YtaafemnkamfgnaaGreat
open Go.RowKit
theorem Ar6 (t:Tp) (a b:Int):XC Tryz.prog 103 [.agg (Tp.c t), .pt [dI a], .pt [dI b]] (fun r=>r=dB (decide (a≤t.first∧t.first<b))):=by
 refine Am Ac6 Tryz.func103 R R lb<|zr<|XL.step R (An 3 (l:= [.d (dI t.first), .d (dI t.count), .d (dI t.actual), .d (dI t.normal)]) R R (by kernel_rfl))<|za R R<|znr<|zp (Aa R R B0)<|zp (Ab R R Ai R R)<|zp (A3 R R Ai)<|zp (Fg R R R)<|zm R R<|?_
 refine XL.dec 9 R (fun g9=> ?_) (fun g9=> ?_)
 exact zp (Aa R R B0)<|zp (Ab R R Ai R R)<|zp (A3 R R Ai)<|zp (As R R R)<|zq R R R<|za R R<|zn<|zt<|z1 R R (rB (by rw [decide_eq_decide];omega))
 exact zk 4 R<|zq R R R<|za R R<|zn<|zt<|z1 R R (rB (by rw [eq_comm,decide_eq_false_iff_not];omega))
theorem Aq6 (t:Tp) (a:Int):XC Tryz.prog 175 [.agg (Tp.c t), .pt [dI a]] (fun r=>r=dB (decide (t.first<a))):=by
 exact Am Abw Tryz.func175 R R lb<|zr<|XL.step R (An 2 (l:= [.d (dI t.first), .d (dI t.count), .d (dI t.actual), .d (dI t.normal)]) R R (by kernel_rfl))<|za R R<|znr<|zp (Aa R R B0)<|zp (Ab R R Ai R R)<|zp (A3 R R Ai)<|zp (As R R R)<|za R R<|zn<|zt<|z1 R R (R)
theorem Aq5 (t:Tp) (a b:Int) (h0:0≤a∧a≤100000) (h1:0≤b∧b≤100000):XC Tryz.prog 176 [.agg (Tp.c t), .pt [dI a], .pt [dI b]] (fun r=>r=dB (decide (a+b≤t.first))):=by
 exact Am Abv Tryz.func176 R R lb<|zr<|XL.step R (An 3 (l:= [.d (dI t.first), .d (dI t.count), .d (dI t.actual), .d (dI t.normal)]) R R (by kernel_rfl))<|za R R<|znr<|zp (Aa R R B0)<|zp (Ab R R Ai R R)<|zp (A3 R R Ai)<|zp (A3 R R Ai)<|zp (Ak R R R (by omega) (by omega))<|zp (Fg R R R)<|za R R<|zn<|zt<|z1 R R (R)
theorem Aq4 (t:Tp):XC Tryz.prog 177 [.agg (Tp.c t)] (fun r=>r=dB true):=by
 exact Am Abu Tryz.func177 R R lb<|zr<|XL.step R (An 1 (l:= [.d (dI t.first), .d (dI t.count), .d (dI t.actual), .d (dI t.normal)]) R R (by kernel_rfl))<|za R R<|znr<|za R R<|zn<|zt<|z1 R R (R)
end Go.Proofs.YtaafemnkamfgnaaGreat
