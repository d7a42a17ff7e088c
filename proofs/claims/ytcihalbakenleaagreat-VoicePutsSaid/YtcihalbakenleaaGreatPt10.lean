/- Part 10 of what the statements need: lemmas and walks. -/
import Derived.Test.YtcihalbakenleaaGreatPt9
set_option linter.unusedVariables false
set_option linter.unusedSimpArgs false
set_option linter.unusedSectionVars false
set_option maxRecDepth 20000
set_option maxHeartbeats 8000000
namespace Go.Proofs.YtcihalbakenleaaGreat
open Go.RowKit
theorem Ajh (m:Me) (h:Mok m):XC Tryz.prog 179 [.agg (Me.c m)] (fun r=>r= .sl 1 (B8 m.beats)):=by
 have hg:=h.groups
 have hu:=h.u
 have hbl:=Sm m
 have hgl:=hg.len
 refine Ao Acq Tryz.func179 R R lb<|zr<|XL.step R (Au 1 (l:= [.d (dI m.count), .d (dI m.unit), .d (dI m.g0), .d (dI m.g1), .d (dI m.g2), .d (dI m.g3), .d (dI m.g4), .d (dI m.g5)]) R R (by kernel_rfl))<|za R R<|znr<|za R R<|znr<|zp (Ae (s':= .d (.agg (Me.c m))) (Ac (Ad R R Bq R lb)) (by kernel_rfl))<|XL.call1 R R (Tk _ (by assumption)) R<|za R R<|znr<|?_
 refine za R R<|zn<|zs<|zr<|za R R<|zn<|Ah<|Di 900 3 3 1 R<|?_
 refine Ax (α:=Nat) (fun k=>k≤m.groups.length) (fun k=>mkF [(1, .ptr 1 0 0),(2, .d (.v (.slice none 0 0))),(3, .own 900),(4, .d (.sl 1 (B8 m.groups))),(5, .d (dI (tot (m.groups.take k)*m.u))),(6, .d (dI k))]) (fun k=>mkH [(1, .box ((Me.c m).map S.d)),(900, .row 3 1 ((m.beats.take k).map iv))]) (fun k=>m.groups.length - k) (0) (Nat.zero_le _) ?_ ?_ ?_
 exact fz ⟨sr,sr,sr,sr, .same (sI (by rw [List.take_zero];show 0=0*m.u;omega)),sr,trivial⟩
 exact gz ⟨R,R,trivial⟩
 intro k hk0
 refine zs<|zr<|zm R R<|zm R R<|XL.len R R R Tryz.underlying64 fun hl11=>zp (Ar R R R)<|zn<|?_
 refine zd R (fun c12=> ?_) (fun c12=> ?_)
 have hk0a:k<m.groups.length:=by omega
 obtain ⟨x0,hx0⟩:=At hk0a
 have hx1:=hg.bd x0 (List.mem_of_getElem? hx0)
 have ht1:=hg.tot k
 have ht2:=hg.tot (k+1)
 have hb1:=P0 ht1.1 ht1.2 (by omega) hu.2
 have hb2:=P0 ht2.1 ht2.2 (by omega) hu.2
 have hb3:=P0 hx1.1 (by omega:x0≤4096) (by omega) hu.2
 have hst:tot (m.groups.take (k+1))*m.u=tot (m.groups.take k)*m.u+x0*m.u:=by rw [P9 hx0,Int.add_mul]
 have htl:(m.beats.take k).length=k:=by rw [List.length_take];omega
 refine zi<|zs<|Ah<|zr<|zp (Aw R (by conv=>lhs;whnf))<|?_
 refine zm R R<|XL.step R (Bj 17 R Tryz.underlying64 Dc E2 R R (by omega) (by omega))<|XL.step R (A3 R Hr (.own R) (Src.own R) (by unfold maxLen;simp;omega) (by simp;omega))<|zp (As R (by conv=>lhs;whnf))<|?_
 refine zn<|Bk [] (by kernel_rfl) (by kernel_rfl) (by kernel_rfl) (by decide)<|ym R R<|ym R R<|ym R R<|yp (Am R R R C4 hx0)<|yp (A0 R R Ai)<|yp (Ae (s':= .d (.agg (Me.c m))) (Ac (Ad R R Bq R lb)) (by kernel_rfl))<|ChK.cons R (CStep.call R (Hk _ (by assumption)) R)<|yp (Hv R R R (by omega) (by omega))<|yp (Aj R R R (by omega) (by omega))<|?_
 refine ya R R<|?_
 refine ChK.nil ⟨by kernel_rfl, ?_⟩
 refine Af (by kernel_rfl)<|zm R R<|zp (Aj R R R (by omega) (by omega))<|za R R<|zn<|?_
 exact Ak (k+1) (by omega) (by omega) (fz ⟨sr,sr,sr,sr, .same (sI hst.symm),sr,trivial⟩) (gz ⟨R,D5 R (Bo (Pd hk0a)),trivial⟩)
 have hk0b:k=m.groups.length:=by omega
 have ht:m.beats.take k=m.beats:=by rw [hk0b, ←hbl,List.take_length]
 refine An<|zr<|zp (Aw R (by conv=>lhs;whnf))<|?_
 refine zp (As R (by conv=>lhs;whnf))<|?_
 exact zn<|zt<|Bf (i:=900) R<|z1 R R (rSl ht)
def Z4 (l:List Int):Prop:=∀(j:Nat) x y,l[j]? =some x→l[0]? =some y→x=y
theorem At6 {l:List Int}:l≠ []→(∀x∈l,He l≤x∧x≤Hf l)∧(∀y,(∀x∈l,x=y)→He l=y∧Hf l=y):=by
 refine Lw (p:=fun l=>l≠ []→(∀x∈l,He l≤x∧x≤Hf l)∧(∀y,(∀x∈l,x=y)→He l=y∧Hf l=y)) (fun h=>absurd rfl h) (fun l a ih _=> ?_) l
 by_cases c:l= []
 ·subst c
  refine ⟨fun x hx=> ?_,fun y hy=> ?_⟩
  ·rw [List.nil_append] at hx;rw [List.mem_singleton.1 hx];exact ⟨Int.le_refl _,Int.le_refl _⟩
  ·have:=hy a (by simp);subst this;exact ⟨rfl,rfl⟩
 ·obtain ⟨h1,h2⟩:=ih c
  rw [Yu c,Yw c]
  refine ⟨fun x hx=> ?_,fun y hy=> ?_⟩
  ·rcases List.mem_append.1 hx with q|q
   ·have:=h1 x q;omega
   ·rw [List.mem_singleton.1 q];omega
  ·have h3:=h2 y fun x hx=>hy x (List.mem_append_left _ hx)
   have h4:=hy a (List.mem_append_right _ (List.mem_singleton.2 rfl))
   omega
theorem Zj {l:List Int} (hne:l≠ []):Z4 l↔He l=Hf l:=by
 obtain ⟨h1,h2⟩:=At6 hne
 obtain ⟨y,hy⟩:∃y,l[0]? =some y:=At (by cases l with|nil=>exact absurd rfl hne|cons a l=>simp)
 constructor
 ·intro h
  have:=h2 y fun x hx=>by
   obtain ⟨j,hj⟩:=List.getElem?_of_mem hx
   exact h j x y hj hy
  omega
 ·intro h j x z hx hz
  have h3:=h1 x (List.mem_of_getElem? hx)
  have h4:=h1 z (List.mem_of_getElem? hz)
  omega
instance (l:List Int):Decidable (Z4 l):=by
 cases l with
 |nil=>exact .isTrue fun j x y h=>by simp at h
 |cons a l=>exact decidable_of_iff _ (Zj (l:=a::l) (by simp)).symm
def leN (l:List Int) (t:Int):Nat:=(l.takeWhile fun x=>decide (x≤t)).length
def Abd (l:List Int) (t:Int) (n:Nat):Int:=if n=0 then 0 else t - l[n - 1]?.getD 0
def Akq (n:Nat):Int:=if n=0 then 0 else ((n - 1:Nat):Int)
theorem Amj {l:List Int} {t:Int} {k:Nat} (h1:k≤l.length) (h2:∀(j:Nat) x,j<k→l[j]? =some x→decide (x≤t)=true) (h3:k=l.length∨∃x,l[k]? =some x∧decide (x≤t)=false):leN l t=k:=by
 rw [leN,Zm h1 h2 h3,List.length_take];omega
theorem Aag {p:Int→Bool}:∀{l:List Int} {x:Int},x∈l.takeWhile p→p x=true
 | [],x,h=>by simp at h
 |a::l,x,h=>by
  by_cases c:p a=true
  ·rw [List.takeWhile_cons_of_pos c] at h
   rcases List.mem_cons.1 h with e|e
   ·rw [e];exact c
   ·exact Aag e
  ·rw [List.takeWhile_cons_of_neg c] at h;cases h
theorem Aox {l:List Int} {t:Int} (hinc:∀(i j:Nat) x y,i<j→l[i]? =some x→l[j]? =some y→x<y) (h0:l[0]? =some 0) (ht:0≤t):Abd l t (leN l t)=0↔t∈l:=by
 have hle:leN l t≤l.length:=(List.takeWhile_sublist _).length_le
 have hall:∀(j:Nat) x,j<leN l t→l[j]? =some x→x≤t:=fun j x hj hx=>by
  have hm:(l.takeWhile fun x=>decide (x≤t))[j]? =some x:=by
   have hp:=List.takeWhile_prefix (l:=l) fun x=>decide (x≤t)
   obtain ⟨s,hs⟩:=hp
   have:(l.takeWhile (fun x=>decide (x≤t))++s)[j]? =some x:=by rw [hs];exact hx
   rwa [List.getElem?_append_left hj] at this
  exact of_decide_eq_true (Aag (p:=fun x=>decide (x≤t)) (List.mem_of_getElem? hm))
 have hpos:leN l t≠0:=fun k=>by
  unfold leN at k
  cases hl:l with
  |nil=>rw [hl] at h0;cases h0
  |cons a r=>
   rw [hl] at h0 k
   cases h0
   rw [List.takeWhile_cons_of_pos (by simpa using ht)] at k
   cases k
 obtain ⟨y,hy⟩:∃y,l[leN l t - 1]? =some y:=At (by omega)
 rw [Abd,if_neg hpos,hy]
 show t - y=0↔t∈l
 constructor
 ·intro h;rw [show t=y by omega];exact List.mem_of_getElem? hy
 ·intro h
  obtain ⟨i,hi⟩:=List.getElem?_of_mem h
  have hyt:=hall _ y (by omega) hy
  by_cases c:i<leN l t - 1
  ·have:=hinc i _ t y c hi hy;omega
  ·by_cases c2:i=leN l t - 1
   ·rw [c2,hy] at hi;cases hi;omega
   ·have:=hinc _ i y t (by omega) hy hi
    have hil:=(List.getElem?_eq_some_iff.1 hi).1
    obtain ⟨z,hz⟩:∃z,l[leN l t]? =some z:=At (by omega)
    have hzt:t<z:=by
     refine Int.not_le.1 fun k=> ?_
     have e:leN l t=leN l t+1→False:=fun e=>by omega
     have hpre:∀(l:List Int) (n:Nat) (z:Int),n=(l.takeWhile fun x=>decide (x≤t)).length→l[n]? =some z→¬z≤t:=by
      intro l
      induction l with
      |nil=>intro n z _ h;simp at h
      |cons a r ih=>
       intro n z hn h
       by_cases c:a≤t
       ·rw [List.takeWhile_cons_of_pos (by simpa using c)] at hn
        subst hn
        exact ih _ z rfl (by simpa using h)
       ·rw [List.takeWhile_cons_of_neg (by simpa using c)] at hn
        subst hn
        cases h;exact c
     exact hpre l _ z rfl hz k
    by_cases c3:leN l t=i
    ·rw [c3,hi] at hz;cases hz;omega
    ·have:=hinc _ i z t (by omega) hz hi;omega
theorem Aj9 {m:Me} (h:Mok m):∀x∈m.groups,0<x:=by
 intro x hx
 by_cases c:m.flat
 ·by_cases c2:8≤m.unit∧m.count % 3=0
  ·rw [Aj8 (fun k=>k c) c2] at hx
   rw [List.eq_of_mem_replicate hx];decide
  ·rw [Z1 (fun k=>k c) c2] at hx
   rw [List.eq_of_mem_replicate hx];decide
 ·rw [Z2 c,Xl h.grp] at hx
  exact of_decide_eq_true (Aag (p:=fun g=>decide (0<g)) hx)
theorem Zi {m:Me} (h:Mok m):∀(i j:Nat) x y,i<j→m.beats[i]? =some x→m.beats[j]? =some y→x<y:=by
 intro i j x y hij hx hy
 have hu:=h.u
 have hg:=h.groups
 have hjl:=(List.getElem?_eq_some_iff.1 hy).1
 rw [Sm] at hjl
 rw [Pd (by omega)] at hx hy
 cases hx;cases hy
 have hpos:=Aj9 h
 have h1:=Nq hpos (j:=i+1) (k:=j) (by omega)
 obtain ⟨g,hgi⟩:∃g,m.groups[i]? =some g:=At (by omega)
 rw [Bo hgi,Hm] at h1
 have h2:=hpos g (List.mem_of_getElem? hgi)
 exact Int.mul_lt_mul_of_pos_right (by omega) (by omega)
theorem Aiu {m:Me} (h:Mok m):m.beats[0]? =some 0:=by
 have hg:=h.groups
 have:=hg.pos
 rw [Pd (by omega),List.take_zero,Kg,Int.zero_mul]
def rl (t u:Int):Nat→Nat→Int
 |0,_=>15
 |f+1,k=>if (u / 2 ^ k*2 ^ k=u∧7560≤u / 2 ^ k)∧t % (u / 2 ^ k)=0 then 3+(k:Int) else rl t u f (k+1)
theorem u_7 {m:Me} (h:Mok m):m.u=1935360∨m.u=967680∨m.u=483840∨m.u=241920∨m.u=120960∨m.u=60480∨m.u=30240:=by
 have hp:Mx m.unit 7=true:=pow_iff.2 fun k=>k.elim (fun k=>by have:=h.unit;omega) fun k=>k.elim (fun k=>by have:=h.unit;omega) fun k=>k h.pow
 unfold Mx at hp
 rw [List.any_eq_true] at hp
 obtain ⟨i,hi,hp⟩:=hp
 have hi:=List.mem_range.1 hi
 have hp:=of_decide_eq_true hp
 unfold Me.u
 rw [hp]
 match i,hi with
 |0,_=>decide
 |1,_=>decide
 |2,_=>decide
 |3,_=>decide
 |4,_=>decide
 |5,_=>decide
 |6,_=>decide
 |i+7,h=>omega
theorem Avd {t u:Int} (hu:u=1935360∨u=967680∨u=483840∨u=241920∨u=120960∨u=60480∨u=30240):rl t u 9 0=if t % u=0 then 3 else I9 t 9 1 u:=by
 rcases hu with rfl|rfl|rfl|rfl|rfl|rfl|rfl<;>simp [rl,I9]
theorem Als {t u:Int} {f k:Nat} (h:(u / 2 ^ k*2 ^ k=u∧7560≤u / 2 ^ k)∧t % (u / 2 ^ k)=0):rl t u (f+1) k=3+(k:Int):=by rw [rl,if_pos h]
theorem Ng {t u:Int} {f k:Nat} (h:¬((u / 2 ^ k*2 ^ k=u∧7560≤u / 2 ^ k)∧t % (u / 2 ^ k)=0)):rl t u (f+1) k=rl t u f (k+1):=by rw [rl,if_neg h]
theorem Aia {m:Me} {a:Int} (hm:Mok m) (h:¬a % m.len=0) (h1:¬((2*(a % m.len)=m.len∧(m.groups.length:Int) % 2=0)∧He m.groups=Hf m.groups)) (h2:¬a % m.len∈m.beats):rl (a % m.len) m.u 9 0=m.level a:=by
 rw [Avd (u_7 hm),Me.level,if_neg h,if_neg h1,if_neg h2]
theorem Att {k:Nat} (h:k≤9):1≤(2:Int) ^ k∧(2:Int) ^ k≤512:=by
 match k,h with
 |0,_=>decide
 |1,_=>decide
 |2,_=>decide
 |3,_=>decide
 |4,_=>decide
 |5,_=>decide
 |6,_=>decide
 |7,_=>decide
 |8,_=>decide
 |9,_=>decide
 |k+10,h=>omega
theorem Ajg (l:List Int):XC Tryz.prog 159 [.sl 1 (B8 l)] (fun r=>r=dB (decide (Z4 l∧(l.length:Int) % 2=0))):=by
 refine Ao Ac9 Tryz.func159 R R lb<|zr<|za R R<|zn<|zs<|zr<|za R R<|zn<|Ah<|?_
 refine Ax (α:=Nat) (fun k=>1≤k∧∀(j:Nat) x y,j<k→l[j]? =some x→l[0]? =some y→x=y) (fun k=>mkF [(0, .d (.sl 1 (B8 l))),(3, .d (dI (k:Nat)))]) (fun k=>mkH []) (fun k=>l.length+1 - k) (1) (⟨Nat.le_refl _,fun j x y hj hx hy=>by rw [show j=0 by omega,hy] at hx;cases hx;rfl⟩) ?_ ?_ ?_
 exact fz ⟨sr,sr,trivial⟩
 exact HSub.nil
 intro k hk0
 obtain ⟨hk,hall⟩:=hk0
 refine zs<|zr<|zm R R<|zm R R<|XL.len R R R Tryz.underlying64 fun hl6=>zp (Ar R R R)<|zn<|?_
 refine zd R (fun c7=> ?_) (fun c7=> ?_)
 have hkl:k<l.length:=by omega
 obtain ⟨x,hx⟩:=At hkl
 obtain ⟨y,hy⟩:∃y,l[0]? =some y:=At (by omega)
 refine zi<|zs<|Ah<|zs<|Bk [] (by kernel_rfl) (by kernel_rfl) (by kernel_rfl) (by decide)<|ym R R<|ym R R<|yp (Am R R R C4 (hx))<|yp (A0 R R Ai)<|ym R R<|yp (Am (k:=0) R R R C4 (hy))<|yp (A0 R R Ai)<|yp (Bg R R R)<|?_
 refine ChK.nil ⟨by kernel_rfl, ?_⟩
 refine zd R (fun c17=> ?_) (fun c17=> ?_)
 exact zr<|za R R<|zn<|zt<|z1 R R (rB (dno (fun h=>c17 (h.1 k x y hx hy))))
 refine zi<|Af (by kernel_rfl)<|zm R R<|zp (Aj R R R (by omega) (by omega))<|za R R<|zn<|?_
 exact Ak (k+1) (⟨by omega,fun j x2 y2 hj hx2 hy2=>by by_cases e:j=k;(· subst e;rw [hx] at hx2;rw [hy] at hy2;cases hx2;cases hy2;exact Decidable.not_not.1 c17);(· exact hall j x2 y2 (by omega) hx2 hy2)⟩) (by omega) (fz ⟨sr,sr,trivial⟩) (HSub.nil)
 have hae:Z4 l:=fun j x y hx hy=>hall j x y (by have:=(List.getElem?_eq_some_iff.1 hx).1;omega) hx hy
 exact An<|zr<|zm R R<|XL.len R R R Tryz.underlying64 fun hl19=>zp (Ek R R R (by omega) (by omega))<|zp (A1 R R R)<|za R R<|zn<|zt<|z1 R R (rB (by rw [decide_eq_decide];exact ⟨fun h=>⟨hae,h⟩,fun h=>h.2⟩))
theorem Ars (m:Me) (a:Int) (h:Mok m) (ha:0≤a∧a≤4398046511104):XC Tryz.prog 158 [.agg (Me.c m), .v (.int .i64 a)] (fun r=>r= .tup [dI (Akq (leN m.beats (a % m.len))),dI (Abd m.beats (a % m.len) (leN m.beats (a % m.len)))]):=by
 have hl:=h.len
 have ht0:=Int.emod_nonneg a (by omega:m.len≠0)
 have ht1:=Int.emod_lt_of_pos a (by omega:0<m.len)
 refine Ao Ada Tryz.func158 R R lb<|zr<|XL.step R (Au 2 (l:= [.d (dI m.count), .d (dI m.unit), .d (dI m.g0), .d (dI m.g1), .d (dI m.g2), .d (dI m.g3), .d (dI m.g4), .d (dI m.g5)]) R R (by kernel_rfl))<|za R R<|za R R<|znr<|zm R R<|zp (Ae (s':= .d (.agg (Me.c m))) (Ac (Ad R R Bq R lb)) (by kernel_rfl))<|XL.call1 R R (Uk _ (by assumption)) R<|?_
 refine zp (Ek R R R (by omega) (by omega))<|za R R<|znr<|zp (Ae (s':= .d (.agg (Me.c m))) (Ac (Ad R R Bq R lb)) (by kernel_rfl))<|XL.call1 R R (Ajh _ (by assumption)) R<|za R R<|zn<|zs<|zr<|za R R<|zn<|Ah<|?_
 refine Ax (α:=Nat) (fun j=>j≤m.beats.length∧∀(i:Nat) x,i<j→m.beats[i]? =some x→decide (x≤a % m.len)=true) (fun j=>mkF [(4, .d (dI (Akq j))),(5, .d (dI (Abd m.beats (a % m.len) j))),(6, .d (dI (a % m.len))),(7, .d (.sl 1 (B8 m.beats))),(8, .d (dI (j:Nat)))]) (fun j=>mkH []) (fun j=>m.beats.length - j) (0) (⟨Nat.zero_le _,fun i x h=>absurd h (Nat.not_lt_zero _)⟩) ?_ ?_ ?_
 exact fz ⟨sr,sr,sr,sr,sr,trivial⟩
 exact HSub.nil
 intro j hk0
 obtain ⟨hj,hall⟩:=hk0
 refine zs<|zr<|zm R R<|zm R R<|XL.len R R R Tryz.underlying64 fun hl17=>zp (Ar R R R)<|zm R R<|?_
 refine XL.dec 19 R (fun g19=> ?_) (fun g19=> ?_)
 obtain ⟨x,hx⟩:∃x,m.beats[j]? =some x:=At (by omega)
 have hx0:0≤x:=by have h1:=Aiu h;by_cases e:j=0;(· rw [e,h1] at hx;cases hx;omega);(· have:=Zi h 0 j 0 x (by omega) h1 hx;omega)
 refine zm R R<|zm R R<|zp (Am R R R C4 (hx))<|zp (A0 R R Ai)<|zm R R<|zp (Ft R R R)<|zq R R R<|zn<|?_
 refine zd R (fun c26=> ?_) (fun c26=> ?_)
 refine zi<|zs<|Ah<|Bk [] (by kernel_rfl) (by kernel_rfl) (by kernel_rfl) (by decide)<|ym R R<|ym R R<|ym R R<|ym R R<|yp (Am R R R C4 (hx))<|yp (A0 R R Ai)<|yp (C7 R R R (by omega) (by omega))<|ya R R<|ya R R<|?_
 refine ChK.nil ⟨by kernel_rfl, ?_⟩
 refine Af (by kernel_rfl)<|zm R R<|zp (Aj R R R (by omega) (by omega))<|za R R<|zn<|?_
 exact Ak (j+1) (⟨by have:=(List.getElem?_eq_some_iff.1 hx).1;omega,fun i x2 hi hx2=>by by_cases e:i=j;(· subst e;rw [hx] at hx2;cases hx2;exact decide_eq_true c26);(· exact hall i x2 (by omega) hx2)⟩) (by have:=(List.getElem?_eq_some_iff.1 hx).1;omega) (fz ⟨.same (sI (by rw [Akq,if_neg (by omega),Nat.add_sub_cancel])), .same (sI (by rw [Abd,if_neg (by omega),Nat.add_sub_cancel,hx];rfl)),sr,sr,sr,trivial⟩) (HSub.nil)
 have hn:=Amj (t:=a % m.len) hj hall (.inr ⟨x,hx,decide_eq_false c26⟩)
 refine An<|zr<|zm R R<|zm R R<|za R R<|za R R<|zn<|zt<|?_
 exact Bl R (RV.tmp R R) (RV.tmp R R) (r2 (rI (by rw [hn])) (rI (by rw [hn])))
 have hn:=Amj (t:=a % m.len) hj hall (.inl (by omega))
 refine zk 6 R<|zq R R R<|zn<|A7 (by kernel_rfl) R<|An<|zr<|zm R R<|zm R R<|za R R<|za R R<|zn<|zt<|?_
 exact Bl R (RV.tmp R R) (RV.tmp R R) (r2 (rI (by rw [hn])) (rI (by rw [hn])))
theorem Qn (m:Me) (a:Int) (h:Mok m) (ha:0≤a∧a≤4398046511104):XC Tryz.prog 126 [.agg (Me.c m), .v (.int .i64 a)] (fun r=>r=dI (m.level a)):=by
 have hl:=h.len
 have hg:=h.groups
 have hgp:=hg.pos
 have hu:=h.u
 have ht0:=Int.emod_nonneg a (by omega:m.len≠0)
 have ht1:=Int.emod_lt_of_pos a (by omega:0<m.len)
 have hof:=Aox (t:=a % m.len) (Zi h) (Aiu h) ht0
 have hne:m.groups≠ []:=fun k=>by rw [k] at hgp;exact absurd hgp (by decide)
 have hae:=Zj hne
 refine Ao Ad5 Tryz.func126 R R lb<|zr<|XL.step R (Au 2 (l:= [.d (dI m.count), .d (dI m.unit), .d (dI m.g0), .d (dI m.g1), .d (dI m.g2), .d (dI m.g3), .d (dI m.g4), .d (dI m.g5)]) R R (by kernel_rfl))<|za R R<|znr<|zm R R<|zp (Ae (s':= .d (.agg (Me.c m))) (Ac (Ad R R Bq R lb)) (by kernel_rfl))<|XL.call1 R R (Uk _ (by assumption)) R<|?_
 refine zp (Ek R R R (by omega) (by omega))<|za R R<|znr<|zp (Ae (s':= .d (.agg (Me.c m))) (Ac (Ad R R Bq R lb)) (by kernel_rfl))<|zm R R<|XL.call1 R R (Ars _ _ (by assumption) (by omega)) R<|zm R R<|zp (Bc R R R)<|zp (Bc R R R)<|za R R<|za R R<|zn<|zs<|Ah<|?_
 refine zr<|zm R R<|zp (A1 R R R)<|za R R<|zn<|?_
 refine zd R (fun c20=> ?_) (fun c20=> ?_)
 exact zr<|za R R<|zn<|zt<|z1 R R (rI (Aub c20))
 refine zr<|zm R R<|zp (Hv R R R (by omega) (by omega))<|zp (Ae (s':= .d (.agg (Me.c m))) (Ac (Ad R R Bq R lb)) (by kernel_rfl))<|XL.call1 R R (Uk _ (by assumption)) R<|zp (A1 R R R)<|zm R R<|?_
 refine XL.dec 29 R (fun g29=> ?_) (fun g29=> ?_)
 refine zp (Ae (s':= .d (.agg (Me.c m))) (Ac (Ad R R Bq R lb)) (by kernel_rfl))<|XL.call1 R R (Tk _ (by assumption)) R<|XL.call1 R R (Ajg _) R<|zq R R R<|za R R<|zn<|?_
 refine zd R (fun c23=> ?_) (fun c23=> ?_)
 exact zr<|za R R<|zn<|zt<|z1 R R (rI (Aua c20 ⟨⟨g29,c23.2⟩,hae.1 c23.1⟩))
 refine zs<|?_
 have hns:¬((2*(a % m.len)=m.len∧(m.groups.length:Int) % 2=0)∧He m.groups=Hf m.groups):=by first|exact fun k=>c23 ⟨hae.2 k.2,k.1.2⟩|exact fun k=>g29 k.1.1
 refine Af (by kernel_rfl)<|zm R R<|zp (A1 R R R)<|za R R<|zn<|?_
 refine zd R (fun c34=> ?_) (fun c34=> ?_)
 exact zr<|za R R<|zn<|zt<|z1 R R (rI (Abk c20 hns (hof.1 c34)))
 refine zi<|zs<|zr<|za R R<|zn<|Ah<|?_
 refine Ax (α:=Nat) (fun k=>k≤9∧rl (a % m.len) m.u (9 - k) k=m.level a) (fun k=>mkF [(2, .ptr 2 0 0),(5, .d (dI (a % m.len))),(8, .d (dI (k:Nat)))]) (fun k=>mkH [(2, .box ((Me.c m).map S.d))]) (fun k=>9 - k) (0) (⟨Nat.zero_le _,Aia h c20 hns (fun q=>c34 (hof.2 q))⟩) ?_ ?_ ?_
 exact fz ⟨sr,sr,sr,trivial⟩
 exact gz ⟨R,trivial⟩
 intro k hk1
 obtain ⟨hk,hgo⟩:=hk1
 have hp9:=Att hk
 have hq0:0≤m.u / 2 ^ k:=Int.ediv_nonneg (by omega) (by omega)
 have hq1:m.u / 2 ^ k≤m.u:=Int.ediv_le_self _ (by omega)
 have hq2:m.u / 2 ^ k*2 ^ k≤m.u:=Int.ediv_mul_le _ (by omega)
 have hq3:0≤m.u / 2 ^ k*2 ^ k:=Int.mul_nonneg hq0 (by omega)
 refine zs<|zr<|zm R R<|zp (Ft R R R)<|zn<|?_
 refine zd R (fun c38=> ?_) (fun c38=> ?_)
 obtain ⟨f,hf⟩:∃f,9 - k=f+1:=⟨8 - k,by omega⟩
 rw [hf] at hgo
 have hf2:9 - (k+1)=f:=by omega
 have hkn:(k:Int).toNat=k:=Int.toNat_natCast k
 refine zi<|zs<|Ah<|zr<|zp (Ae (s':= .d (.agg (Me.c m))) (Ac (Ad R R Bq R lb)) (by kernel_rfl))<|XL.call1 R R (Hk _ (by assumption)) R<|zm R R<|zp (Zv R R R (by omega) (by omega))<|za R R<|zn<|zs<|?_
 by_cases q50:m.u / 2 ^ k*2 ^ k=m.u
 by_cases q53:7560≤m.u / 2 ^ k
 refine Bk [] (by kernel_rfl) (by kernel_rfl) (by kernel_rfl) (by decide)<|ym R R<|ym R R<|yp (Sx R R R (by omega) (by omega) (by rw [hkn];omega) (by rw [hkn];omega))<|yp (Ae (s':= .d (.agg (Me.c m))) (Ac (Ad R R Bq R lb)) (by kernel_rfl))<|ChK.cons R (CStep.call R (Hk _ (by assumption)) R)<|yp (Dy (A1 R R R) (q50))<|ym R R<|ym R R<|?_
 refine yp (Dy (Dt R R R) (q53))<|yp (A6 R R (by conv=>lhs;whnf))<|?_
 refine ym R R<|ym R R<|ym R R<|yp (Ek R R R (by omega) (by rw [hkn];omega))<|yp (A1 R R R)<|yp (A6 R R (by conv=>lhs;whnf))<|?_
 refine ChK.nil ⟨by kernel_rfl, ?_⟩
 refine zd R (fun c60=> ?_) (fun c60=> ?_)
 exact zr<|zm R R<|zp (Aj R R R (by omega) (by omega))<|za R R<|zn<|zt<|z1 R R (rI ((Als ⟨⟨q50,q53⟩,c60⟩).symm.trans hgo))
 refine zi<|Af (by kernel_rfl)<|zm R R<|zp (Aj R R R (by omega) (by omega))<|za R R<|zn<|?_
 exact Ak (k+1) (⟨by omega,by rw [hf2, ←hgo];exact (Ng (by first|exact fun q=>c60 q.2|exact fun q=>q53 q.1.2|exact fun q=>q50 q.1.1)).symm⟩) (by omega) (fz ⟨sr,sr,sr,trivial⟩) (gz ⟨rfl,trivial⟩)
 refine Bk [] (by kernel_rfl) (by kernel_rfl) (by kernel_rfl) (by decide)<|ym R R<|ym R R<|yp (Sx R R R (by omega) (by omega) (by rw [hkn];omega) (by rw [hkn];omega))<|yp (Ae (s':= .d (.agg (Me.c m))) (Ac (Ad R R Bq R lb)) (by kernel_rfl))<|ChK.cons R (CStep.call R (Hk _ (by assumption)) R)<|yp (Dy (A1 R R R) (q50))<|ym R R<|ym R R<|?_
 refine yp (Gg (Dt R R R) (q53))<|yp (A6 R R (by conv=>lhs;whnf))<|?_
 refine ym R R<|ChK.skip R<|ChK.skip R<|ChK.skip R<|ChK.skip R<|yp (A6 R R (by conv=>lhs;whnf))<|?_
 refine ChK.nil ⟨by kernel_rfl, ?_⟩
 refine A7 (by kernel_rfl) R<|zi<|Af (by kernel_rfl)<|zm R R<|zp (Aj R R R (by omega) (by omega))<|za R R<|zn<|?_
 exact Ak (k+1) (⟨by omega,by rw [hf2, ←hgo];exact (Ng (by first|exact fun q=>c60 q.2|exact fun q=>q53 q.1.2|exact fun q=>q50 q.1.1)).symm⟩) (by omega) (fz ⟨sr,sr,sr,trivial⟩) (gz ⟨rfl,trivial⟩)
 refine Bk [] (by kernel_rfl) (by kernel_rfl) (by kernel_rfl) (by decide)<|ym R R<|ym R R<|yp (Sx R R R (by omega) (by omega) (by rw [hkn];omega) (by rw [hkn];omega))<|yp (Ae (s':= .d (.agg (Me.c m))) (Ac (Ad R R Bq R lb)) (by kernel_rfl))<|ChK.cons R (CStep.call R (Hk _ (by assumption)) R)<|yp (Gg (A1 R R R) (q50))<|ym R R<|ChK.skip R<|ChK.skip R<|?_
 refine yp (A6 R R (by conv=>lhs;whnf))<|?_
 refine ym R R<|ChK.skip R<|ChK.skip R<|ChK.skip R<|ChK.skip R<|yp (A6 R R (by conv=>lhs;whnf))<|?_
 refine ChK.nil ⟨by kernel_rfl, ?_⟩
 refine A7 (by kernel_rfl) R<|zi<|Af (by kernel_rfl)<|zm R R<|zp (Aj R R R (by omega) (by omega))<|za R R<|zn<|?_
 exact Ak (k+1) (⟨by omega,by rw [hf2, ←hgo];exact (Ng (by first|exact fun q=>c60 q.2|exact fun q=>q53 q.1.2|exact fun q=>q50 q.1.1)).symm⟩) (by omega) (fz ⟨sr,sr,sr,trivial⟩) (gz ⟨rfl,trivial⟩)
 have hk9:k=9:=by omega
 subst hk9
 exact An<|zr<|za R R<|zn<|zt<|z1 R R (rI hgo)
 refine zk 3 R<|zq R R R<|za R R<|zn<|A7 (by kernel_rfl) R<|zs<|?_
 have hns:¬((2*(a % m.len)=m.len∧(m.groups.length:Int) % 2=0)∧He m.groups=Hf m.groups):=by first|exact fun k=>c23 ⟨hae.2 k.2,k.1.2⟩|exact fun k=>g29 k.1.1
 refine Af (by kernel_rfl)<|zm R R<|zp (A1 R R R)<|za R R<|zn<|?_
 refine zd R (fun c34=> ?_) (fun c34=> ?_)
 exact zr<|za R R<|zn<|zt<|z1 R R (rI (Abk c20 hns (hof.1 c34)))
 refine zi<|zs<|zr<|za R R<|zn<|Ah<|?_
 refine Ax (α:=Nat) (fun k=>k≤9∧rl (a % m.len) m.u (9 - k) k=m.level a) (fun k=>mkF [(2, .ptr 2 0 0),(5, .d (dI (a % m.len))),(8, .d (dI (k:Nat)))]) (fun k=>mkH [(2, .box ((Me.c m).map S.d))]) (fun k=>9 - k) (0) (⟨Nat.zero_le _,Aia h c20 hns (fun q=>c34 (hof.2 q))⟩) ?_ ?_ ?_
 exact fz ⟨sr,sr,sr,trivial⟩
 exact gz ⟨R,trivial⟩
 intro k hk1
 obtain ⟨hk,hgo⟩:=hk1
 have hp9:=Att hk
 have hq0:0≤m.u / 2 ^ k:=Int.ediv_nonneg (by omega) (by omega)
 have hq1:m.u / 2 ^ k≤m.u:=Int.ediv_le_self _ (by omega)
 have hq2:m.u / 2 ^ k*2 ^ k≤m.u:=Int.ediv_mul_le _ (by omega)
 have hq3:0≤m.u / 2 ^ k*2 ^ k:=Int.mul_nonneg hq0 (by omega)
 refine zs<|zr<|zm R R<|zp (Ft R R R)<|zn<|?_
 refine zd R (fun c38=> ?_) (fun c38=> ?_)
 obtain ⟨f,hf⟩:∃f,9 - k=f+1:=⟨8 - k,by omega⟩
 rw [hf] at hgo
 have hf2:9 - (k+1)=f:=by omega
 have hkn:(k:Int).toNat=k:=Int.toNat_natCast k
 refine zi<|zs<|Ah<|zr<|zp (Ae (s':= .d (.agg (Me.c m))) (Ac (Ad R R Bq R lb)) (by kernel_rfl))<|XL.call1 R R (Hk _ (by assumption)) R<|zm R R<|zp (Zv R R R (by omega) (by omega))<|za R R<|zn<|zs<|?_
 by_cases q50:m.u / 2 ^ k*2 ^ k=m.u
 by_cases q53:7560≤m.u / 2 ^ k
 refine Bk [] (by kernel_rfl) (by kernel_rfl) (by kernel_rfl) (by decide)<|ym R R<|ym R R<|yp (Sx R R R (by omega) (by omega) (by rw [hkn];omega) (by rw [hkn];omega))<|yp (Ae (s':= .d (.agg (Me.c m))) (Ac (Ad R R Bq R lb)) (by kernel_rfl))<|ChK.cons R (CStep.call R (Hk _ (by assumption)) R)<|yp (Dy (A1 R R R) (q50))<|ym R R<|ym R R<|?_
 refine yp (Dy (Dt R R R) (q53))<|yp (A6 R R (by conv=>lhs;whnf))<|?_
 refine ym R R<|ym R R<|ym R R<|yp (Ek R R R (by omega) (by rw [hkn];omega))<|yp (A1 R R R)<|yp (A6 R R (by conv=>lhs;whnf))<|?_
 refine ChK.nil ⟨by kernel_rfl, ?_⟩
 refine zd R (fun c60=> ?_) (fun c60=> ?_)
 exact zr<|zm R R<|zp (Aj R R R (by omega) (by omega))<|za R R<|zn<|zt<|z1 R R (rI ((Als ⟨⟨q50,q53⟩,c60⟩).symm.trans hgo))
 refine zi<|Af (by kernel_rfl)<|zm R R<|zp (Aj R R R (by omega) (by omega))<|za R R<|zn<|?_
 exact Ak (k+1) (⟨by omega,by rw [hf2, ←hgo];exact (Ng (by first|exact fun q=>c60 q.2|exact fun q=>q53 q.1.2|exact fun q=>q50 q.1.1)).symm⟩) (by omega) (fz ⟨sr,sr,sr,trivial⟩) (gz ⟨rfl,trivial⟩)
 refine Bk [] (by kernel_rfl) (by kernel_rfl) (by kernel_rfl) (by decide)<|ym R R<|ym R R<|yp (Sx R R R (by omega) (by omega) (by rw [hkn];omega) (by rw [hkn];omega))<|yp (Ae (s':= .d (.agg (Me.c m))) (Ac (Ad R R Bq R lb)) (by kernel_rfl))<|ChK.cons R (CStep.call R (Hk _ (by assumption)) R)<|yp (Dy (A1 R R R) (q50))<|ym R R<|ym R R<|?_
 refine yp (Gg (Dt R R R) (q53))<|yp (A6 R R (by conv=>lhs;whnf))<|?_
 refine ym R R<|ChK.skip R<|ChK.skip R<|ChK.skip R<|ChK.skip R<|yp (A6 R R (by conv=>lhs;whnf))<|?_
 refine ChK.nil ⟨by kernel_rfl, ?_⟩
 refine A7 (by kernel_rfl) R<|zi<|Af (by kernel_rfl)<|zm R R<|zp (Aj R R R (by omega) (by omega))<|za R R<|zn<|?_
 exact Ak (k+1) (⟨by omega,by rw [hf2, ←hgo];exact (Ng (by first|exact fun q=>c60 q.2|exact fun q=>q53 q.1.2|exact fun q=>q50 q.1.1)).symm⟩) (by omega) (fz ⟨sr,sr,sr,trivial⟩) (gz ⟨rfl,trivial⟩)
 refine Bk [] (by kernel_rfl) (by kernel_rfl) (by kernel_rfl) (by decide)<|ym R R<|ym R R<|yp (Sx R R R (by omega) (by omega) (by rw [hkn];omega) (by rw [hkn];omega))<|yp (Ae (s':= .d (.agg (Me.c m))) (Ac (Ad R R Bq R lb)) (by kernel_rfl))<|ChK.cons R (CStep.call R (Hk _ (by assumption)) R)<|yp (Gg (A1 R R R) (q50))<|ym R R<|ChK.skip R<|ChK.skip R<|?_
 refine yp (A6 R R (by conv=>lhs;whnf))<|?_
 refine ym R R<|ChK.skip R<|ChK.skip R<|ChK.skip R<|ChK.skip R<|yp (A6 R R (by conv=>lhs;whnf))<|?_
 refine ChK.nil ⟨by kernel_rfl, ?_⟩
 refine A7 (by kernel_rfl) R<|zi<|Af (by kernel_rfl)<|zm R R<|zp (Aj R R R (by omega) (by omega))<|za R R<|zn<|?_
 exact Ak (k+1) (⟨by omega,by rw [hf2, ←hgo];exact (Ng (by first|exact fun q=>c60 q.2|exact fun q=>q53 q.1.2|exact fun q=>q50 q.1.1)).symm⟩) (by omega) (fz ⟨sr,sr,sr,trivial⟩) (gz ⟨rfl,trivial⟩)
 have hk9:k=9:=by omega
 subst hk9
 exact An<|zr<|za R R<|zn<|zt<|z1 R R (rI hgo)
end Go.Proofs.YtcihalbakenleaaGreat
namespace Go.Proofs.YtcihalbakenleaaGreat
open Go.RowKit
theorem Ajf (v:Val) (h:Dj v=0):XC Tryz.prog 156 [.agg (Val.c v)] (fun r=>r=dI (Cp v)):=by
 have hv:=Ot (v:=v) (by omega)
 have hp:=Mf v
 refine Ao Adc Tryz.func156 R R lb<|zr<|XL.step R (Au 1 (l:= [.d (dI v.log), .d (dI v.dots)]) R R (by kernel_rfl))<|za R R<|znr<|za R R<|zn<|zs<|zr<|za R R<|zn<|Ah<|?_
 refine Ax (α:=Nat) (fun k=>(k:Int)≤v.log+1) (fun k=>mkF [(1, .ptr 1 0 0),(2, .d (dI 0)),(3, .d (dI (Ji k))),(4, .d (dI ((k:Int) - 1)))]) (fun k=>mkH [(1, .box ((Val.c v).map S.d))]) (fun k=>(v.log+1).toNat - k) (0) (by omega) ?_ ?_ ?_
 exact fz ⟨sr,sr, .same (sI (by decide)), .same (sI (by decide)),trivial⟩
 exact gz ⟨R,trivial⟩
 intro k hk0
 have hh:=Sa k
 refine zs<|zr<|zm R R<|zp (Aa R R Mb)<|zp (Ab R R Ai R R)<|zp (Ar R R R)<|zn<|?_
 refine zd R (fun c10=> ?_) (fun c10=> ?_)
 refine zi<|zs<|Ah<|Af (by kernel_rfl)<|zm R R<|zp (Gs R R R (by omega) (by omega) (by omega))<|za R R<|zn<|Af (by kernel_rfl)<|zm R R<|zp (Aj R R R (by omega) (by omega))<|za R R<|zn<|?_
 exact Ak (k+1) (by omega) (by omega) (fz ⟨sr,sr, .same (sI (Pq k)), .same (sI (by omega)),trivial⟩) (gz ⟨R,trivial⟩)
 have hpl:=Wn (v:=v) (k:=k) (by omega)
 refine An<|zr<|zm R R<|za R R<|zn<|zs<|zr<|za R R<|zn<|Ah<|?_
 refine Ax (α:=Nat) (fun m=>(m:Int)≤v.dots) (fun m=>mkF [(1, .ptr 1 0 0),(2, .d (dI 0)),(3, .d (dI (E3 (Ej v) m).1)),(5, .d (dI (E3 (Ej v) m).2)),(6, .d (dI (m:Nat)))]) (fun m=>mkH [(1, .box ((Val.c v).map S.d))]) (fun m=>v.dots.toNat - m) (0) (hv.2.2.1) ?_ ?_ ?_
 exact fz ⟨sr,sr, .same (sI hpl), .same (sI hpl),sr,trivial⟩
 exact gz ⟨R,trivial⟩
 intro m hk2
 refine zs<|zr<|zm R R<|zp (Aa R R Ia)<|zp (Ab R R Ai R R)<|zp (Ar R R R)<|zn<|?_
 refine zd R (fun c19=> ?_) (fun c19=> ?_)
 have hb:=Ld hp.1 m
 have hb2:Ej v*((m:Int)+1)≤3870720*4:=Int.mul_le_mul hp.2 (by omega) (by omega) (by omega)
 refine zi<|zs<|Ah<|zr<|zm R R<|zp (Gs R R R (by omega) (by omega) (by omega))<|za R R<|zng<|zm R R<|zm R R<|zp (Aj R R R (by omega) (by omega))<|za R R<|zn<|Af (by kernel_rfl)<|?_
 refine zm R R<|zp (Aj R R R (by omega) (by omega))<|za R R<|zn<|?_
 exact Ak (m+1) (by omega) (by omega) (fz ⟨sr,sr,sr,sr,sr,trivial⟩) (gz ⟨R,trivial⟩)
 have hke:v.dots.toNat=m:=by omega
 exact An<|zr<|zm R R<|za R R<|zn<|zt<|z1 R R (rI (by rw [Cp,hke]))
theorem Aig {p:Val→Bool}:∀{l:List Val} {q:Nat} {x:Val},l[q]? =some x→p x=true→(∀(i:Nat) y,i<q→l[i]? =some y→p y=false)→l.find? p=some x
 | [],q,x,h,_,_=>by simp at h
 |a::l,0,x,h,hp,_=>by cases h;rw [List.find?_cons_of_pos hp]
 |a::l,q+1,x,h,hp,hb=>by
  rw [List.find?_cons_of_neg (by rw [hb 0 a (by omega) rfl];decide)]
  exact Aig (by simpa using h) hp fun i y hi hy=>hb (i+1) y (by omega) hy
theorem U3 {q:Nat} (h:q<40):allV[q]? =some (D8 q):=by rw [allV,List.getElem?_map,Ae0 h];rfl
theorem Apv:allV.length=40:=by rw [allV,List.length_map,allQ,List.length_ofFn]
theorem Ann (k j:Nat) (hj:j<4):D8 (4*k+j)=⟨(k:Int) - 1,(j:Int)⟩:=by
 unfold D8
 rw [show (4*k+j) / 4=k by omega,show (4*k+j) % 4=j by omega]
theorem Auk {d:Int} {q:Nat} (hq:q<40) (hall:∀i,i<q→Cp (D8 i)≠d) (h:Cp (D8 q)=d):Ck d=D8 q∧E1 d=0:=by
 have:Ih d allV=some (D8 q):=Aig (U3 hq) (by simpa using h) fun i y hi hy=>by
  rw [U3 (by omega)] at hy;cases hy;exact decide_eq_false (hall i hi)
 exact ⟨by rw [Ck,this];rfl,by rw [E1,this,if_neg (by simp)]⟩
theorem Aso {d:Int} (hall:∀i,i<40→Cp (D8 i)≠d):Ck d=⟨0,0⟩∧E1 d=17:=by
 have:Ih d allV=none:=by
  unfold Ih
  rw [List.find?_eq_none]
  intro x hx
  obtain ⟨i,hi⟩:=List.getElem?_of_mem hx
  have hl:=(List.getElem?_eq_some_iff.1 hi).1
  rw [Apv] at hl
  rw [U3 hl] at hi;cases hi
  simpa using hall i hl
 exact ⟨by rw [Ck,this];rfl,by rw [E1,this,if_pos rfl]⟩
theorem Aqy {d:Int} {v:Val} (h:Ck d=v∧E1 d=0):D.tup [.agg (Val.c v),dB true]= .tup [.agg (Val.c (Ck d)),dB (decide (E1 d=0))]:=by rw [h.1,h.2];rfl
theorem As5 {d:Int} (h:Ck d=⟨0,0⟩∧E1 d=17):D.tup [.agg (Val.c ⟨0,0⟩),dB false]= .tup [.agg (Val.c (Ck d)),dB (decide (E1 d=0))]:=by rw [h.1,h.2];rfl
theorem Aje (d:Int):XC Tryz.prog 125 [.v (.int .i64 d)] (fun r=>r= .tup [.agg (Val.c (Ck d)),dB (decide (E1 d=0))]):=by
 refine Ao Ad6 Tryz.func125 R R lb<|zr<|XL.step R (A4 2 (l:= [.d (dI 0), .d (dI 0)]) R Do (by kernel_rfl))<|za R R<|zn<|zs<|zr<|za R R<|zn<|Ah<|?_
 refine Ax (α:=Nat) (fun k=>k≤10∧∀i,i<4*k→Cp (D8 i)≠d) (fun k=>mkF [(0, .d (dI d)),(2, .ptr 2 0 0),(4, .d (dI ((k:Int) - 1)))]) (fun k=>mkH [(2, .box [.d (dI 0), .d (dI 0)])]) (fun k=>10 - k) (0) (⟨Nat.zero_le _,fun i h=>absurd h (Nat.not_lt_zero _)⟩) ?_ ?_ ?_
 exact fz ⟨sr,sr, .same (sI (by decide)),trivial⟩
 exact gz ⟨R,trivial⟩
 intro k hk0
 obtain ⟨hk,hall⟩:=hk0
 refine zs<|zr<|zm R R<|zp (Ft R R R)<|zn<|?_
 refine zd R (fun c8=> ?_) (fun c8=> ?_)
 refine zi<|zs<|Ah<|zr<|za R R<|zn<|Ah<|?_
 refine Ax (α:=Nat) (fun j=>j≤4∧∀i,i<4*k+j→Cp (D8 i)≠d) (fun j=>mkF [(0, .d (dI d)),(2, .ptr 2 0 0),(4, .d (dI ((k:Int) - 1))),(5, .d (dI (j:Nat)))]) (fun j=>mkH [(2, .box [.d (dI 0), .d (dI 0)])]) (fun j=>4 - j) (0) (⟨Nat.zero_le _,fun i h=>hall i (by omega)⟩) ?_ ?_ ?_
 exact fz ⟨sr,sr,sr,sr,trivial⟩
 exact gz ⟨R,trivial⟩
 intro j hk2
 obtain ⟨hj,hall2⟩:=hk2
 refine zs<|zr<|zm R R<|zp (Ft R R R)<|zn<|?_
 refine zd R (fun c12=> ?_) (fun c12=> ?_)
 have hj4:j<4:=by omega
 have hkj:=Ann k j hj4
 have hve:Dj ⟨(k:Int) - 1,(j:Int)⟩=0:=(Rn ⟨by show -1≤(k:Int) - 1;omega,by show (k:Int) - 1≤8;omega,by show (0:Int)≤(j:Int);omega,by show (j:Int)≤3;omega⟩).symm
 refine zi<|zs<|Ah<|zr<|zm R R<|zm R R<|zp (Ae (s':= .d (.agg [dI ((k:Int) - 1),dI (j:Nat)])) (Ac (Ba R Jw Do R)) (by kernel_rfl))<|XL.step R (A4 6 (l:= [.d (dI 0), .d (dI 0)]) R Do (by kernel_rfl))<|XL.step R (Ag (l':= [.d (dI ((k:Int) - 1)), .d (dI (j:Nat))]) R R R R Dw R lb (by kernel_rfl))<|znr<|?_
 refine zp (Ae (s':= .d (.agg [dI ((k:Int) - 1),dI (j:Nat)])) (Ac (Ad R R Cn R lb)) (by kernel_rfl))<|XL.call1 R R (Ajf ⟨(k:Int) - 1,(j:Int)⟩ hve) R<|zm R R<|zp (A1 R R R)<|zn<|?_
 refine zd R (fun c21=> ?_) (fun c21=> ?_)
 refine zr<|zp (Ae (s':= .d (.agg [dI ((k:Int) - 1),dI (j:Nat)])) (Ac (Ad R R Cn R lb)) (by kernel_rfl))<|XL.step R (Ag (l':= [.d (dI ((k:Int) - 1)), .d (dI (j:Nat))]) R R R R Dw R lb (by kernel_rfl))<|za R R<|zn<|zt<|?_
 exact Bl R (RV.cells R R R Cn lb R) (RV.tmp R R) (Aqy (v:=⟨(k:Int) - 1,(j:Int)⟩) (by rw [←hkj];exact Auk (by omega) hall2 (by rw [hkj];exact c21)))
 refine zi<|Af (by kernel_rfl)<|zm R R<|zp (Aj R R R (by omega) (by omega))<|za R R<|zn<|?_
 exact Ak (j+1) (⟨by omega,fun i hi=>by by_cases e:i=4*k+j;(· rw [e,hkj];exact c21);(· exact hall2 i (by omega))⟩) (by omega) (fz ⟨sr,sr,sr,sr,trivial⟩) (gz ⟨rfl,trivial⟩)
 refine An<|Af (by kernel_rfl)<|zm R R<|zp (Aj R R R (by omega) (by omega))<|za R R<|zn<|?_
 exact Ak (k+1) (⟨by omega,fun i hi=>hall2 i (by omega)⟩) (by omega) (fz ⟨sr,sr, .same (sI (by omega)),trivial⟩) (gz ⟨rfl,trivial⟩)
 refine An<|zr<|zp (Ae (s':= .d (.agg [dI 0,dI 0])) (Ac (Ba R Jw Do R)) (by kernel_rfl))<|XL.step R (Ag (l':= [.d (dI 0), .d (dI 0)]) R R R R Dw R lb (by kernel_rfl))<|za R R<|zn<|zt<|?_
 exact Bl R (RV.cells R R R Cn lb R) (RV.tmp R R) (As5 (Aso (fun i hi=>hall i (by omega))))
def stl (p:Int × Int × Bool):Int:=if p.2.2=true then p.2.1 else 99
theorem Zo {p:Int × Int × Bool} (h:p.2.2=true):stl p=p.2.1:=by rw [stl,if_pos h]
theorem Ap3 {p:Int × Int × Bool} (h:¬p.2.2=true):stl p=99:=by rw [stl,if_neg h]
theorem Ala {m:Me} {a:Int} {k:Nat} (h:m.level (a+7560*(k+1))<stl (El m a k)):El m a (k+1)=(a+7560*(k+1),m.level (a+7560*(k+1)),true):=by
 refine I2 ?_
 by_cases c:(El m a k).2.2=true
 ·rw [Zo c] at h;exact .inr h
 ·exact .inl (by simpa using c)
theorem Ap4 {m:Me} {a:Int} {k:Nat} (h:¬m.level (a+7560*(k+1))<stl (El m a k)):El m a (k+1)=El m a k:=by
 have hl:=Q0 m (a+7560*(k+1))
 by_cases c:(El m a k).2.2=true
 ·rw [Zo c] at h;exact Sr c h
 ·rw [Ap3 c] at h;omega
theorem Afd (m:Me) (a b:Int) (h:Mok m) (ha:0≤a∧a≤4398046511104) (hb:b≤4398046511104):XC Tryz.prog 124 [.agg (Me.c m), .v (.int .i64 a), .v (.int .i64 b)] (fun r=>r= .tup [dI (m.strong a b).1,dI (stl (m.strong a b))]):=by
 have hN:Dg a b=((b - a - 1) / 7560).toNat:=rfl
 refine Ao Ad7 Tryz.func124 R R lb<|zr<|XL.step R (Au 3 (l:= [.d (dI m.count), .d (dI m.unit), .d (dI m.g0), .d (dI m.g1), .d (dI m.g2), .d (dI m.g3), .d (dI m.g4), .d (dI m.g5)]) R R (by kernel_rfl))<|za R R<|za R R<|znr<|za R R<|zn<|zs<|zr<|zm R R<|zp (Aj R R R (by omega) (by omega))<|za R R<|zn<|?_
 refine Ah<|?_
 refine Ax (α:=Nat) (fun k=>k≤Dg a b) (fun k=>mkF [(2, .d (dI b)),(3, .ptr 3 0 0),(6, .d (dI (El m a k).1)),(7, .d (dI (stl (El m a k)))),(8, .d (dI (a+7560*(k+1))))]) (fun k=>mkH [(3, .box ((Me.c m).map S.d))]) (fun k=>Dg a b - k) (0) (Nat.zero_le _) ?_ ?_ ?_
 exact fz ⟨sr,sr,sr,sr, .same (sI (by omega)),trivial⟩
 exact gz ⟨R,trivial⟩
 intro k hk0
 refine zs<|zr<|zm R R<|zm R R<|zp (Ar R R R)<|zn<|?_
 refine zd R (fun c14=> ?_) (fun c14=> ?_)
 have hlt:k<Dg a b:=by omega
 refine zi<|zs<|Ah<|zr<|zp (Ae (s':= .d (.agg (Me.c m))) (Ac (Ad R R Bq R lb)) (by kernel_rfl))<|zm R R<|XL.call1 R R (Qn _ _ (by assumption) (by omega)) R<|za R R<|znr<|zm R R<|zm R R<|zp (Ar R R R)<|zn<|?_
 refine zd R (fun c22=> ?_) (fun c22=> ?_)
 refine Af (by kernel_rfl)<|zm R R<|zm R R<|za R R<|za R R<|zn<|Af (by kernel_rfl)<|zm R R<|zp (Aj R R R (by omega) (by omega))<|za R R<|zn<|?_
 exact Ak (k+1) (by omega) (by omega) (fz ⟨sr,sr, .same (sI (by rw [Ala c22])), .same (sI (by rw [Ala c22];rfl)), .same (sI (by omega)),trivial⟩) (gz ⟨R,trivial⟩)
 refine zi<|Af (by kernel_rfl)<|zm R R<|zp (Aj R R R (by omega) (by omega))<|za R R<|zn<|?_
 exact Ak (k+1) (by omega) (by omega) (fz ⟨sr,sr, .same (sI (by rw [Ap4 c22])), .same (sI (by rw [Ap4 c22])), .same (sI (by omega)),trivial⟩) (gz ⟨R,trivial⟩)
 have hk:k=Dg a b:=by omega
 refine An<|zr<|zm R R<|zm R R<|za R R<|za R R<|zn<|zt<|?_
 exact Bl R (RV.tmp R R) (RV.tmp R R) (by rw [hk];rfl)
theorem Ake:(Ck 7560).dots=0:=by decide+kernel
theorem Qo {m:Me} {a b:Int} (hab:a≤b) (hne:¬a=b) (ha:a % 7560=0) (hb:b % 7560=0) (h:¬((E1 (b - a)=0∧(Ck (b - a)).dots≤2)∧m.level a≤stl (m.strong a b)∧(0<(Ck (b - a)).dots∨m.level b≤stl (m.strong a b)))):(m.strong a b).2.2=true:=by
 refine Decidable.not_not.1 fun c=>h ?_
 have hn:=Th (m:=m) (a:=a) (b:=b) (by simpa using c)
 unfold Dg at hn
 have hd:b - a=7560:=by omega
 have h1:=Q0 m a
 have h2:=Q0 m b
 rw [hd,Ap3 c,Zb,Ake]
 omega
theorem N1 {m:Me} {a b:Int} (h:(E1 (b - a)=0∧(Ck (b - a)).dots≤2)∧m.level a≤stl (m.strong a b)∧(0<(Ck (b - a)).dots∨m.level b≤stl (m.strong a b))):m.simp a b∨(m.strong a b).2.2=false:=by
 by_cases c:(m.strong a b).2.2=true
 ·rw [Zo c] at h
  exact .inl ⟨h.1.1,h.1.2,fun _=>h.2⟩
 ·exact .inr (by simpa using c)
theorem N2 {m:Me} {a b:Int} (hw:(m.strong a b).2.2=true) (h:¬((E1 (b - a)=0∧(Ck (b - a)).dots≤2)∧m.level a≤stl (m.strong a b)∧(0<(Ck (b - a)).dots∨m.level b≤stl (m.strong a b)))):¬m.simp a b:=fun ⟨k1,k2,k3⟩=>h ⟨⟨k1,k2⟩,by rw [Zo hw];exact k3 hw⟩
theorem M3 {m:Me} {a b:Int} (ha:a % 7560=0) (hw:(m.strong a b).2.2=true):(m.strong a b).1 % 7560=0:=by
 obtain ⟨j,_,hj⟩:=Rq hw
 rw [hj];omega
theorem Aay (m:Me) (h:Mok m) (f:Nat) (ih:∀a b,SpP f a b→a % 7560=0→b % 7560=0→XS Tryz.prog 76 [.agg (Me.c m),dI a,dI b] (.own 7001) [(7001, .row 56 2 ((Em m f a b).map Val.c))]) (a b:Int) (hp:SpP (f+1) a b) (hma:a % 7560=0) (hmb:b % 7560=0):XS Tryz.prog 76 [.agg (Me.c m), .v (.int .i64 a), .v (.int .i64 b)] (.own 7001) [(7001, .row 56 2 ((Em m (f+1) a b).map Val.c))]:=by
 obtain ⟨ha,hab,hb,hd,hf⟩:=id hp
 refine Ij Af5 Tryz.func76 R R lb (by kernel_rfl) (by kernel_rfl)<|zr<|XL.step R (Au 3 (l:= [.d (dI m.count), .d (dI m.unit), .d (dI m.g0), .d (dI m.g1), .d (dI m.g2), .d (dI m.g3), .d (dI m.g4), .d (dI m.g5)]) R R (by kernel_rfl))<|za R R<|zn<|zs<|zr<|zm R R<|zm R R<|zp (A1 R R R)<|zn<|?_
 refine zd R (fun c13=> ?_) (fun c13=> ?_)
 refine zr<|za R R<|zn<|Di 7001 6 56 2 R<|zt<|?_
 exact ⟨Ec R (RVS.tmp R R),HSub.cons (by first|exact Dq (by rw [Cw c13];rfl)|exact Fs (Cx c13 (N2 hw hno) hw)|exact Dq (by rw [Cv c13 (N1 ⟨⟨by omega,by omega⟩,by omega,by omega⟩)];rfl)) (HSub.nil)⟩
 refine zi<|zr<|zp (Ae (s':= .d (.agg (Me.c m))) (Ac (Ad R R Bq R lb)) (by kernel_rfl))<|zm R R<|zm R R<|XL.call1 R R (Afd _ _ _ (by assumption) (by omega) (by omega)) R<|zm R R<|zp (Bc R R R)<|zp (Bc R R R)<|za R R<|za R R<|znr<|zm R R<|zm R R<|?_
 refine zp (C7 R R R (by omega) (by omega))<|XL.call1 R R (Aje _) R<|zm R R<|zp (Bc R R R)<|zp (Bc R R R)<|XL.step R (A4 9 (l:= [.d (dI 0), .d (dI 0)]) R Do (by kernel_rfl))<|XL.step R (Ag (l':= [.d (dI (Ck (b - a)).log), .d (dI (Ck (b - a)).dots)]) R R R R Dw R lb (by kernel_rfl))<|za R R<|zn<|zs<|zr<|zm R R<|zm R R<|?_
 refine XL.bool 29 R (fun g29=> ?_) (fun g29=> ?_)
 have g29:=of_decide_eq_true g29
 refine zp (Aa R R Ia)<|zp (Ab R R Ai R R)<|zp (Ft R R R)<|zq R R R<|zm R R<|?_
 refine XL.dec 34 R (fun g34=> ?_) (fun g34=> ?_)
 refine zm R R<|zp (Ae (s':= .d (.agg (Me.c m))) (Ac (Ad R R Bq R lb)) (by kernel_rfl))<|zm R R<|XL.call1 R R (Qn _ _ (by assumption) (by omega)) R<|zp (Dt R R R)<|zq R R R<|zm R R<|?_
 refine XL.dec 41 R (fun g41=> ?_) (fun g41=> ?_)
 refine zp (Aa R R Ia)<|zp (Ab R R Ai R R)<|zp (A8 R R R)<|zm R R<|?_
 refine XL.dec 45 R (fun g45=> ?_) (fun g45=> ?_)
 refine zk 5 R<|zq R R R<|zq R R R<|zn<|Aq (by kernel_rfl) R<|zr<|zp (Ae (s':= .d (.agg (Val.c (Ck (b - a))))) (Ac (Ad R R Cn R lb)) (by kernel_rfl))<|XL.step R (Bj 7001 R Tryz.underlying106 Dw Do R R (by omega) (by omega))<|zp (As R (by conv=>lhs;whnf))<|?_
 refine zn<|zt<|?_
 exact ⟨Ec R (RVS.tmp R R),HSub.cons (by first|exact Dq (by rw [Cw c13];rfl)|exact Fs (Cx c13 (N2 hw hno) hw)|exact Dq (by rw [Cv c13 (N1 ⟨⟨by omega,by omega⟩,by omega,by omega⟩)];rfl)) (HSub.nil)⟩
 refine zm R R<|zp (Ae (s':= .d (.agg (Me.c m))) (Ac (Ad R R Bq R lb)) (by kernel_rfl))<|zm R R<|XL.call1 R R (Qn _ _ (by assumption) (by omega)) R<|zp (Dt R R R)<|zq R R R<|zq R R R<|zn<|?_
 refine zd R (fun c52=> ?_) (fun c52=> ?_)
 refine zr<|zp (Ae (s':= .d (.agg (Val.c (Ck (b - a))))) (Ac (Ad R R Cn R lb)) (by kernel_rfl))<|XL.step R (Bj 7001 R Tryz.underlying106 Dw Do R R (by omega) (by omega))<|zp (As R (by conv=>lhs;whnf))<|?_
 refine zn<|zt<|?_
 exact ⟨Ec R (RVS.tmp R R),HSub.cons (by first|exact Dq (by rw [Cw c13];rfl)|exact Fs (Cx c13 (N2 hw hno) hw)|exact Dq (by rw [Cv c13 (N1 ⟨⟨by omega,by omega⟩,by omega,by omega⟩)];rfl)) (HSub.nil)⟩
 refine zi<|zs<|?_
 have hno:¬((E1 (b - a)=0∧(Ck (b - a)).dots≤2)∧m.level a≤stl (m.strong a b)∧(0<(Ck (b - a)).dots∨m.level b≤stl (m.strong a b))):=by omega
 have hw:=Qo hab c13 hma hmb hno
 have hmc:=M3 hma hw
 obtain ⟨hp1,hp2,hp3⟩:=F7 hp hw
 have hl1:=C1 (m:=m) f _ _ hp1
 have hl2:=C1 (m:=m) f _ _ hp2
 have hN:Dg a b≤2048:=by unfold Dg;omega
 refine Ci 7 [7001] (by kernel_rfl) (by kernel_rfl) (by kernel_rfl) (by kernel_rfl) (by decide)<|yp (Ae (s':= .d (.agg (Me.c m))) (Ac (Ad R R Bq R lb)) (by kernel_rfl))<|ym R R<|ym R R<|ChK.cons R (CStep.callS R ((ih _ _ hp1 hma hmc).lab 7001) R (Er (by kernel_rfl)))<|yp (Ae (s':= .d (.agg (Me.c m))) (Ac (Ad R R Bq R lb)) (by kernel_rfl))<|?_
 refine ym R R<|ym R R<|?_
 refine ChK.nil ⟨by kernel_rfl, ?_⟩
 refine XL.callS R R ((ih _ _ hp2 hmc hmb).lab 7002) R<|XL.step R (A3 R Jm (.own R) (Src.own R) (by simp only [List.length_map];unfold maxLen;omega) (by simp only [List.length_map];omega))<|zp (As R (by conv=>lhs;whnf))<|?_
 refine zn<|zt<|?_
 exact ⟨Ec R (RVS.tmp R R),HSub.cons (by first|exact Dq (by rw [Cw c13];rfl)|exact Fs (Cx c13 (N2 hw hno) hw)|exact Dq (by rw [Cv c13 (N1 ⟨⟨by omega,by omega⟩,by omega,by omega⟩)];rfl)) (HSub.nil)⟩
 refine zk 10 R<|zq R R R<|zn<|A7 (by kernel_rfl) R<|zi<|zs<|?_
 have hno:¬((E1 (b - a)=0∧(Ck (b - a)).dots≤2)∧m.level a≤stl (m.strong a b)∧(0<(Ck (b - a)).dots∨m.level b≤stl (m.strong a b))):=by omega
 have hw:=Qo hab c13 hma hmb hno
 have hmc:=M3 hma hw
 obtain ⟨hp1,hp2,hp3⟩:=F7 hp hw
 have hl1:=C1 (m:=m) f _ _ hp1
 have hl2:=C1 (m:=m) f _ _ hp2
 have hN:Dg a b≤2048:=by unfold Dg;omega
 refine Ci 7 [7001] (by kernel_rfl) (by kernel_rfl) (by kernel_rfl) (by kernel_rfl) (by decide)<|yp (Ae (s':= .d (.agg (Me.c m))) (Ac (Ad R R Bq R lb)) (by kernel_rfl))<|ym R R<|ym R R<|ChK.cons R (CStep.callS R ((ih _ _ hp1 hma hmc).lab 7001) R (Er (by kernel_rfl)))<|yp (Ae (s':= .d (.agg (Me.c m))) (Ac (Ad R R Bq R lb)) (by kernel_rfl))<|?_
 refine ym R R<|ym R R<|?_
 refine ChK.nil ⟨by kernel_rfl, ?_⟩
 refine XL.callS R R ((ih _ _ hp2 hmc hmb).lab 7003) R<|XL.step R (A3 R Jm (.own R) (Src.own R) (by simp only [List.length_map];unfold maxLen;omega) (by simp only [List.length_map];omega))<|zp (As R (by conv=>lhs;whnf))<|?_
 refine zn<|zt<|?_
 exact ⟨Ec R (RVS.tmp R R),HSub.cons (by first|exact Dq (by rw [Cw c13];rfl)|exact Fs (Cx c13 (N2 hw hno) hw)|exact Dq (by rw [Cv c13 (N1 ⟨⟨by omega,by omega⟩,by omega,by omega⟩)];rfl)) (HSub.nil)⟩
 refine zk 5 R<|zq R R R<|zm R R<|zk 10 R<|zq R R R<|zn<|A7 (by kernel_rfl) R<|zi<|zs<|?_
 have hno:¬((E1 (b - a)=0∧(Ck (b - a)).dots≤2)∧m.level a≤stl (m.strong a b)∧(0<(Ck (b - a)).dots∨m.level b≤stl (m.strong a b))):=by omega
 have hw:=Qo hab c13 hma hmb hno
 have hmc:=M3 hma hw
 obtain ⟨hp1,hp2,hp3⟩:=F7 hp hw
 have hl1:=C1 (m:=m) f _ _ hp1
 have hl2:=C1 (m:=m) f _ _ hp2
 have hN:Dg a b≤2048:=by unfold Dg;omega
 refine Ci 7 [7001] (by kernel_rfl) (by kernel_rfl) (by kernel_rfl) (by kernel_rfl) (by decide)<|yp (Ae (s':= .d (.agg (Me.c m))) (Ac (Ad R R Bq R lb)) (by kernel_rfl))<|ym R R<|ym R R<|ChK.cons R (CStep.callS R ((ih _ _ hp1 hma hmc).lab 7001) R (Er (by kernel_rfl)))<|yp (Ae (s':= .d (.agg (Me.c m))) (Ac (Ad R R Bq R lb)) (by kernel_rfl))<|?_
 refine ym R R<|ym R R<|?_
 refine ChK.nil ⟨by kernel_rfl, ?_⟩
 refine XL.callS R R ((ih _ _ hp2 hmc hmb).lab 7004) R<|XL.step R (A3 R Jm (.own R) (Src.own R) (by simp only [List.length_map];unfold maxLen;omega) (by simp only [List.length_map];omega))<|zp (As R (by conv=>lhs;whnf))<|?_
 refine zn<|zt<|?_
 exact ⟨Ec R (RVS.tmp R R),HSub.cons (by first|exact Dq (by rw [Cw c13];rfl)|exact Fs (Cx c13 (N2 hw hno) hw)|exact Dq (by rw [Cv c13 (N1 ⟨⟨by omega,by omega⟩,by omega,by omega⟩)];rfl)) (HSub.nil)⟩
 have g29:=of_decide_eq_false g29
 refine zk 3 R<|zq R R R<|zm R R<|zk 5 R<|zq R R R<|zm R R<|zk 10 R<|zq R R R<|zn<|A7 (by kernel_rfl) R<|zi<|zs<|?_
 have hno:¬((E1 (b - a)=0∧(Ck (b - a)).dots≤2)∧m.level a≤stl (m.strong a b)∧(0<(Ck (b - a)).dots∨m.level b≤stl (m.strong a b))):=by omega
 have hw:=Qo hab c13 hma hmb hno
 have hmc:=M3 hma hw
 obtain ⟨hp1,hp2,hp3⟩:=F7 hp hw
 have hl1:=C1 (m:=m) f _ _ hp1
 have hl2:=C1 (m:=m) f _ _ hp2
 have hN:Dg a b≤2048:=by unfold Dg;omega
 refine Ci 7 [7001] (by kernel_rfl) (by kernel_rfl) (by kernel_rfl) (by kernel_rfl) (by decide)<|yp (Ae (s':= .d (.agg (Me.c m))) (Ac (Ad R R Bq R lb)) (by kernel_rfl))<|ym R R<|ym R R<|ChK.cons R (CStep.callS R ((ih _ _ hp1 hma hmc).lab 7001) R (Er (by kernel_rfl)))<|yp (Ae (s':= .d (.agg (Me.c m))) (Ac (Ad R R Bq R lb)) (by kernel_rfl))<|?_
 refine ym R R<|ym R R<|?_
 refine ChK.nil ⟨by kernel_rfl, ?_⟩
 refine XL.callS R R ((ih _ _ hp2 hmc hmb).lab 7005) R<|XL.step R (A3 R Jm (.own R) (Src.own R) (by simp only [List.length_map];unfold maxLen;omega) (by simp only [List.length_map];omega))<|zp (As R (by conv=>lhs;whnf))<|?_
 refine zn<|zt<|?_
 exact ⟨Ec R (RVS.tmp R R),HSub.cons (by first|exact Dq (by rw [Cw c13];rfl)|exact Fs (Cx c13 (N2 hw hno) hw)|exact Dq (by rw [Cv c13 (N1 ⟨⟨by omega,by omega⟩,by omega,by omega⟩)];rfl)) (HSub.nil)⟩
theorem V0 (m:Me) (h:Mok m):∀(f:Nat) (a b:Int),SpP f a b→a % 7560=0→b % 7560=0→XS Tryz.prog 76 [.agg (Me.c m),dI a,dI b] (.own 7001) [(7001, .row 56 2 ((Em m f a b).map Val.c))]
 |0,a,b,hp,_,_=>by have:=hp.2.2.2.2;omega
 |f+1,a,b,hp,h1,h2=>Aay m h f (V0 m h f) a b hp h1 h2
theorem Tj (m:Me) (a b:Int) (h:m.splitE a b=0):XS Tryz.prog 76 [.agg (Me.c m),dI a,dI b] (.own 7001) [(7001, .row 56 2 ((m.split a b).map Val.c))]:=by
 obtain ⟨h0,h1,h2,h3,h4,h5,h6,h7⟩:=X4 h
 rw [h7]
 exact V0 m (Amb (by omega)) _ a b ⟨h1,h2,h3,h6,Nat.le_refl _⟩ h4 h5
end Go.Proofs.YtcihalbakenleaaGreat
namespace Go.Proofs.YtcihalbakenleaaGreat
open Go.RowKit
theorem Kh (l:List Hd) (h:l.length≤1000):XC Tryz.prog 51 [.sl 5 (l.map Hd.c)] (fun r=>r= .sl 5 ((l.map Hd.tie).map Hd.c)):=by
 refine Ao Agq Tryz.func51 R R lb<|zr<|za R R<|znr<|za R R<|zn<|zs<|zr<|za R R<|zn<|Ah<|Di 900 3 91 5 R<|?_
 refine Ax (α:=Nat) (fun k=>k≤l.length) (fun k=>mkF [(0, .d (.sl 5 (l.map Hd.c))),(2, .d (.v (.slice none 0 0))),(3, .own 900),(4, .d (dI k))]) (fun k=>mkH [(900, .row 91 5 (((l.take k).map Hd.tie).map Hd.c))]) (fun k=>l.length - k) (0) (Nat.zero_le _) ?_ ?_ ?_
 exact fz ⟨sr,sr,sr,sr,trivial⟩
 exact gz ⟨R,trivial⟩
 intro k hk0
 refine zs<|zr<|zm R R<|zm R R<|XL.len R R R Tryz.underlying48 fun hl7=>zp (Ar R R R)<|zn<|?_
 refine zd R (fun c8=> ?_) (fun c8=> ?_)
 have hk0a:k<l.length:=by omega
 obtain ⟨x0,hx0⟩:=At hk0a
 have htl:((l.take k).map Hd.tie).length=k:=by rw [List.length_map,List.length_take];omega
 refine zi<|zs<|Ah<|Ci 13 [] (by kernel_rfl) (by kernel_rfl) (by kernel_rfl) (by kernel_rfl) (by decide)<|yp (Aw R (by conv=>lhs;whnf))<|?_
 refine ym R R<|ym R R<|yp (Am R R R Fg hx0)<|yp (Bp R R Gi)<|yp (Ae (s':= .d (.agg (Pit.c x0.p))) (Av R R Eu lb) (by kernel_rfl))<|ym R R<|ym R R<|yp (Am R R R Fg hx0)<|yp (Bp R R Q7)<|yp (A0 R R Ai)<|?_
 refine yp (Ae (s':= .d (.agg [dI x0.p.step,dI x0.p.alter,dI x0.p.oct,dB true,dI x0.sh])) (Ac (Ba R Aaj Hy R)) (by kernel_rfl))<|ChK.cons R (CStep.slice R Tryz.underlying48 M2 Hy R R (by omega) (by omega))<|?_
 refine ChK.nil ⟨by kernel_rfl, ?_⟩
 refine XL.step R (A3 R Sc (.own R) (Src.sl (by omega)) (by unfold maxLen;simp;omega) (by simp;omega))<|zp (As R (by conv=>lhs;whnf))<|?_
 refine zn<|Af (by kernel_rfl)<|zm R R<|zp (Aj R R R (by omega) (by omega))<|za R R<|zn<|?_
 exact Ak (k+1) (by omega) (by omega) (fz ⟨sr,sr,sr,sr,trivial⟩) (gz ⟨D5 (a:=Hd.tie x0) R (by rw [Bo hx0,List.map_append];rfl),trivial⟩)
 have hk0b:k=l.length:=by omega
 have ht:l.take k=l:=by rw [hk0b,List.take_length]
 refine An<|zr<|zp (Aw R (by conv=>lhs;whnf))<|?_
 refine zp (As R (by conv=>lhs;whnf))<|?_
 exact zn<|zt<|Bf (i:=900) R<|z1 R R (rSl (by rw [ht]))
theorem Afe (l:List Hd) (h:l.length≤1000):XC Tryz.prog 96 [.sl 5 (l.map Hd.c)] (fun r=>r= .sl 5 ((l.map Hd.plain).map Hd.c)):=by
 refine Ao Afo Tryz.func96 R R lb<|zr<|za R R<|znr<|za R R<|zn<|zs<|zr<|za R R<|zn<|Ah<|Di 900 3 91 5 R<|?_
 refine Ax (α:=Nat) (fun k=>k≤l.length) (fun k=>mkF [(0, .d (.sl 5 (l.map Hd.c))),(2, .d (.v (.slice none 0 0))),(3, .own 900),(4, .d (dI k))]) (fun k=>mkH [(900, .row 91 5 (((l.take k).map Hd.plain).map Hd.c))]) (fun k=>l.length - k) (0) (Nat.zero_le _) ?_ ?_ ?_
 exact fz ⟨sr,sr,sr,sr,trivial⟩
 exact gz ⟨R,trivial⟩
 intro k hk0
 refine zs<|zr<|zm R R<|zm R R<|XL.len R R R Tryz.underlying48 fun hl7=>zp (Ar R R R)<|zn<|?_
 refine zd R (fun c8=> ?_) (fun c8=> ?_)
 have hk0a:k<l.length:=by omega
 obtain ⟨x0,hx0⟩:=At hk0a
 have htl:((l.take k).map Hd.plain).length=k:=by rw [List.length_map,List.length_take];omega
 refine zi<|zs<|Ah<|Ci 13 [] (by kernel_rfl) (by kernel_rfl) (by kernel_rfl) (by kernel_rfl) (by decide)<|yp (Aw R (by conv=>lhs;whnf))<|?_
 refine ym R R<|ym R R<|yp (Am R R R Fg hx0)<|yp (Bp R R Gi)<|yp (Ae (s':= .d (.agg (Pit.c x0.p))) (Av R R Eu lb) (by kernel_rfl))<|ym R R<|ym R R<|yp (Am R R R Fg hx0)<|yp (Bp R R Du)<|yp (A0 R R Kq)<|?_
 refine yp (Ae (s':= .d (.agg [dI x0.p.step,dI x0.p.alter,dI x0.p.oct,dB x0.tied,dI 0])) (Ac (Ba R Aaj Hy R)) (by kernel_rfl))<|ChK.cons R (CStep.slice R Tryz.underlying48 M2 Hy R R (by omega) (by omega))<|?_
 refine ChK.nil ⟨by kernel_rfl, ?_⟩
 refine XL.step R (A3 R Sc (.own R) (Src.sl (by omega)) (by unfold maxLen;simp;omega) (by simp;omega))<|zp (As R (by conv=>lhs;whnf))<|?_
 refine zn<|Af (by kernel_rfl)<|zm R R<|zp (Aj R R R (by omega) (by omega))<|za R R<|zn<|?_
 exact Ak (k+1) (by omega) (by omega) (fz ⟨sr,sr,sr,sr,trivial⟩) (gz ⟨D5 (a:=Hd.plain x0) R (by rw [Bo hx0,List.map_append];rfl),trivial⟩)
 have hk0b:k=l.length:=by omega
 have ht:l.take k=l:=by rw [hk0b,List.take_length]
 refine An<|zr<|zp (Aw R (by conv=>lhs;whnf))<|?_
 refine zp (As R (by conv=>lhs;whnf))<|?_
 exact zn<|zt<|Bf (i:=900) R<|z1 R R (rSl (by rw [ht]))
def Ev.furV (x:Ev):Ev:=⟨0,0,x.kind,x.v,x.heads.map Hd.plain, [],0,0,0, [],x.stem,0⟩
theorem Oo (x:Ev) (h:x.fit):XC Tryz.prog 52 [.agg (Ev.c x)] (fun r=>r= .agg (Ev.c x.furV)):=by
 have h1:=h.1
 refine Ao Agp Tryz.func52 R R lb<|zr<|XL.step R (Au 1 (l:= [.d (dI x.site), .d (dI x.num), .d (dI x.kind), .d (dI x.v.log), .d (dI x.v.dots), .d (.sl 5 (x.heads.map Hd.c)), .d (.sl 5 (x.graces.map Gr.c)), .d (dI x.art), .d (dI x.orn), .d (dI x.dyn), .d (.sl 2 (x.lyr.map Sy.c)), .d (dI x.stem), .d (dI x.beam)]) R R (by kernel_rfl))<|?_
 refine XL.step R (A4 2 (l:= [.d (dI 0), .d (dI 0), .d (dI 0), .d (dI 0), .d (dI 0), .d (.v (.slice none 0 0)), .d (.v (.slice none 0 0)), .d (dI 0), .d (dI 0), .d (dI 0), .d (.v (.slice none 0 0)), .d (dI 0), .d (dI 0)]) R B3 (by kernel_rfl))<|zn<|zs<|Ci 9 [] (by kernel_rfl) (by kernel_rfl) (by kernel_rfl) (by kernel_rfl) (by decide)<|yp (Aa R R Bz)<|?_
 refine yp (Ab R R Ai R R)<|yp (Aa R R Cm)<|yp (Ae (s':= .d (.agg (Val.c x.v))) (Ac (Ad R R Cn R lb)) (by kernel_rfl))<|yp (Aa R R Be)<|yp (Ab R R Cu R R)<|ChK.cons R (CStep.call R (Afe _ (by omega)) R)<|yp (Aa R R Ep)<|yp (Ab R R Ai R R)<|?_
 refine ChK.nil ⟨by kernel_rfl, ?_⟩
 refine zp (Ae (s':= .d (.agg [dI 0,dI 0,dI x.kind,dI x.v.log,dI x.v.dots, .sl 5 ((x.heads.map Hd.plain).map Hd.c), .v (.slice none 0 0),dI 0,dI 0,dI 0, .v (.slice none 0 0),dI x.stem,dI 0])) (Ac (Ba R Nr B3 R)) (by kernel_rfl))<|?_
 refine XL.step R (Ag (l':= [.d (dI 0), .d (dI 0), .d (dI x.kind), .d (dI x.v.log), .d (dI x.v.dots), .d (.sl 5 ((x.heads.map Hd.plain).map Hd.c)), .d (.v (.slice none 0 0)), .d (dI 0), .d (dI 0), .d (dI 0), .d (.v (.slice none 0 0)), .d (dI x.stem), .d (dI 0)]) R R R R B4 R lb (by kernel_rfl))<|zn<|zt<|?_
 exact Gb R (RV.sub (RV.cells R R R Az lb R) (.agg (.cons (.same R) (.cons (.same R) (.cons (.same R) (.cons (.same R) (.cons (.same R) (.cons (.same R) (.cons (.nil 5) (.cons (.same R) (.cons (.same R) (.cons (.same R) (.cons (.nil 2) (.cons (.same R) (.cons (.same R) (.nil)))))))))))))))) (R)
theorem Yf (x:Ev) (m:Me) (a b:Int) (h:x.fit) (hs:m.splitE a b=0):XC Tryz.prog 37 [.agg (Ev.c x), .agg (Me.c m), .v (.int .i64 a), .v (.int .i64 b)] (fun r=>r= .sl 13 ((Bs x (m.split a b) false).map Ev.c)):=by
 have hf1:=h.1
 have hsl:=Jy m a b
 refine Ao Tz Tryz.func37 R R lb<|zr<|XL.step R (Au 4 (l:= [.d (dI x.site), .d (dI x.num), .d (dI x.kind), .d (dI x.v.log), .d (dI x.v.dots), .d (.sl 5 (x.heads.map Hd.c)), .d (.sl 5 (x.graces.map Gr.c)), .d (dI x.art), .d (dI x.orn), .d (dI x.dyn), .d (.sl 2 (x.lyr.map Sy.c)), .d (dI x.stem), .d (dI x.beam)]) R R (by kernel_rfl))<|?_
 refine XL.step R (Au 5 (l:= [.d (dI m.count), .d (dI m.unit), .d (dI m.g0), .d (dI m.g1), .d (dI m.g2), .d (dI m.g3), .d (dI m.g4), .d (dI m.g5)]) R R (by kernel_rfl))<|za R R<|znr<|zp (Ae (s':= .d (.agg (Me.c m))) (Ac (Ad R R Bq R lb)) (by kernel_rfl))<|zm R R<|zm R R<|XL.callS R R ((Tj _ _ _ (by assumption)).lab 7001) R<|zp (As R (by conv=>lhs;whnf))<|?_
 refine znr<|XL.freeze (i:=7001) R<|za R R<|zn<|zs<|zr<|za R R<|zn<|Ah<|Di 900 10 60 13 R<|?_
 refine Ax (α:=Nat) (fun k=>k≤(m.split a b).length) (fun k=>mkF [(4, .ptr 4 0 0),(8, .d (.v (.slice none 0 0))),(9, .d (.sl 2 ((m.split a b).map Val.c))),(10, .own 900),(11, .d (dI k))]) (fun k=>mkH [(4, .box ((Ev.c x).map S.d)),(900, .row 60 13 ((F4 x (m.split a b) false k).map Ev.c))]) (fun k=>(m.split a b).length - k) (0) (Nat.zero_le _) ?_ ?_ ?_
 exact fz ⟨sr,sr,sr,sr,sr,trivial⟩
 exact gz ⟨R,R,trivial⟩
 intro k hk0
 refine zs<|zr<|zm R R<|zm R R<|XL.len R R R Tryz.underlying106 fun hl19=>zp (Ar R R R)<|zn<|?_
 refine zd R (fun c20=> ?_) (fun c20=> ?_)
 have hk0a:k<(m.split a b).length:=by omega
 obtain ⟨x0,hx0⟩:=At hk0a
 have hnl:(F4 x (m.split a b) false k).length=k:=by rw [F4,List.length_mapIdx,List.length_take];omega
 have hpl:(x.heads.map Hd.plain).length≤1000:=by rw [List.length_map];exact hf1
 have hpl2:x.furV.heads.length≤1000:=hpl
 refine zi<|zs<|Ah<|zr<|zp (Ae (s':= .d (.agg (Ev.c x))) (Ac (Ad R R Az R lb)) (by kernel_rfl))<|XL.step R (A4 12 (l:= [.d (dI 0), .d (dI 0), .d (dI 0), .d (dI 0), .d (dI 0), .d (.v (.slice none 0 0)), .d (.v (.slice none 0 0)), .d (dI 0), .d (dI 0), .d (dI 0), .d (.v (.slice none 0 0)), .d (dI 0), .d (dI 0)]) R B3 (by kernel_rfl))<|?_
 refine XL.step R (Ag (l':= [.d (dI x.site), .d (dI x.num), .d (dI x.kind), .d (dI x.v.log), .d (dI x.v.dots), .d (.sl 5 (x.heads.map Hd.c)), .d (.sl 5 (x.graces.map Gr.c)), .d (dI x.art), .d (dI x.orn), .d (dI x.dyn), .d (.sl 2 (x.lyr.map Sy.c)), .d (dI x.stem), .d (dI x.beam)]) R R R R B4 R lb (by kernel_rfl))<|zn<|zs<|zr<|zm R R<|zp (A8 R R R)<|zn<|?_
 refine zd R (fun c25=> ?_) (fun c25=> ?_)
 refine Af (by kernel_rfl)<|zp (Ae (s':= .d (.agg (Ev.c x))) (Ac (Ad R R Az R lb)) (by kernel_rfl))<|XL.call1 R R (Oo _ (by assumption)) R<|?_
 refine XL.step R (Ag (l':= [.d (dI x.furV.site), .d (dI x.furV.num), .d (dI x.furV.kind), .d (dI x.furV.v.log), .d (dI x.furV.v.dots), .d (.sl 5 (x.furV.heads.map Hd.c)), .d (.sl 5 (x.furV.graces.map Gr.c)), .d (dI x.furV.art), .d (dI x.furV.orn), .d (dI x.furV.dyn), .d (.sl 2 (x.furV.lyr.map Sy.c)), .d (dI x.furV.stem), .d (dI x.furV.beam)]) R R R R B4 R lb (by kernel_rfl))<|zn<|zs<|zr<|?_
 refine zm R R<|zp (Aj R R R (by omega) (by omega))<|zm R R<|XL.len R R R Tryz.underlying106 fun hl31=>zp (Ar R R R)<|zn<|?_
 refine zd R (fun c32=> ?_) (fun c32=> ?_)
 refine Af (by kernel_rfl)<|zp (Aa R R Be)<|zp (Ab R R Cu R R)<|XL.call1 R R (Kh _ (by omega)) R<|zp (Aa R R Be)<|?_
 refine XL.step R (Ag (l':= [.d (dI x.furV.site), .d (dI x.furV.num), .d (dI x.furV.kind), .d (dI x.furV.v.log), .d (dI x.furV.v.dots), .d (.sl 5 ((x.furV.heads.map Hd.tie).map Hd.c)), .d (.sl 5 (x.furV.graces.map Gr.c)), .d (dI x.furV.art), .d (dI x.furV.orn), .d (dI x.furV.dyn), .d (.sl 2 (x.furV.lyr.map Sy.c)), .d (dI x.furV.stem), .d (dI x.furV.beam)]) R R R R Hs R lb (by kernel_rfl))<|?_
 refine znr<|zm R R<|zm R R<|zp (Am R R R Lq hx0)<|zp (Ae (s':= .d (.agg (Val.c x0))) (Av R R Cn lb) (by kernel_rfl))<|zp (Aa R R Cm)<|?_
 refine XL.step R (Ag (l':= [.d (dI x.furV.site), .d (dI x.furV.num), .d (dI x.furV.kind), .d (dI x0.log), .d (dI x0.dots), .d (.sl 5 ((x.furV.heads.map Hd.tie).map Hd.c)), .d (.sl 5 (x.furV.graces.map Gr.c)), .d (dI x.furV.art), .d (dI x.furV.orn), .d (dI x.furV.dyn), .d (.sl 2 (x.furV.lyr.map Sy.c)), .d (dI x.furV.stem), .d (dI x.furV.beam)]) R R R R Dw R lb (by kernel_rfl))<|zng<|?_
 refine zp (Aw R (by conv=>lhs;whnf))<|?_
 refine zp (Ae (s':= .d (.agg [dI x.furV.site,dI x.furV.num,dI x.furV.kind,dI x0.log,dI x0.dots, .sl 5 ((x.furV.heads.map Hd.tie).map Hd.c), .sl 5 (x.furV.graces.map Gr.c),dI x.furV.art,dI x.furV.orn,dI x.furV.dyn, .sl 2 (x.furV.lyr.map Sy.c),dI x.furV.stem,dI x.furV.beam])) (Ac (Ad R R Az R lb)) (by kernel_rfl))<|?_
 refine XL.step R (Bj 44 R Tryz.underlying22 B4 B3 R R (by omega) (by omega))<|XL.step R (A3 R Dz (.own R) (Src.own R) (by unfold maxLen;simp;omega) (by simp;omega))<|zp (As R (by conv=>lhs;whnf))<|?_
 refine zn<|Af (by kernel_rfl)<|zm R R<|zp (Aj R R R (by omega) (by omega))<|za R R<|zn<|?_
 exact Ak (k+1) (by omega) (by omega) (fz ⟨sr,sr,sr,sr,sr,trivial⟩) (gz ⟨R,D5 R (Ea hx0 (Wb (.inl c25) c32)),trivial⟩)
 refine zi<|zr<|zm R R<|zm R R<|zp (Am R R R Lq hx0)<|zp (Ae (s':= .d (.agg (Val.c x0))) (Av R R Cn lb) (by kernel_rfl))<|zp (Aa R R Cm)<|?_
 refine XL.step R (Ag (l':= [.d (dI x.furV.site), .d (dI x.furV.num), .d (dI x.furV.kind), .d (dI x0.log), .d (dI x0.dots), .d (.sl 5 (x.furV.heads.map Hd.c)), .d (.sl 5 (x.furV.graces.map Gr.c)), .d (dI x.furV.art), .d (dI x.furV.orn), .d (dI x.furV.dyn), .d (.sl 2 (x.furV.lyr.map Sy.c)), .d (dI x.furV.stem), .d (dI x.furV.beam)]) R R R R Dw R lb (by kernel_rfl))<|zng<|?_
 refine zp (Aw R (by conv=>lhs;whnf))<|?_
 refine zp (Ae (s':= .d (.agg [dI x.furV.site,dI x.furV.num,dI x.furV.kind,dI x0.log,dI x0.dots, .sl 5 (x.furV.heads.map Hd.c), .sl 5 (x.furV.graces.map Gr.c),dI x.furV.art,dI x.furV.orn,dI x.furV.dyn, .sl 2 (x.furV.lyr.map Sy.c),dI x.furV.stem,dI x.furV.beam])) (Ac (Ad R R Az R lb)) (by kernel_rfl))<|?_
 refine XL.step R (Bj 44 R Tryz.underlying22 B4 B3 R R (by omega) (by omega))<|XL.step R (A3 R Dz (.own R) (Src.own R) (by unfold maxLen;simp;omega) (by simp;omega))<|zp (As R (by conv=>lhs;whnf))<|?_
 refine zn<|Af (by kernel_rfl)<|zm R R<|zp (Aj R R R (by omega) (by omega))<|za R R<|zn<|?_
 exact Ak (k+1) (by omega) (by omega) (fz ⟨sr,sr,sr,sr,sr,trivial⟩) (gz ⟨R,D5 R (Ea hx0 (Wa (.inl c25) c32)),trivial⟩)
 refine zi<|zs<|zr<|zm R R<|zp (Aj R R R (by omega) (by omega))<|zm R R<|XL.len R R R Tryz.underlying106 fun hl31=>zp (Ar R R R)<|zn<|?_
 refine zd R (fun c32=> ?_) (fun c32=> ?_)
 refine Af (by kernel_rfl)<|zp (Aa R R Be)<|zp (Ab R R Cu R R)<|XL.call1 R R (Kh _ (by omega)) R<|zp (Aa R R Be)<|?_
 refine XL.step R (Ag (l':= [.d (dI x.site), .d (dI x.num), .d (dI x.kind), .d (dI x.v.log), .d (dI x.v.dots), .d (.sl 5 ((x.heads.map Hd.tie).map Hd.c)), .d (.sl 5 (x.graces.map Gr.c)), .d (dI x.art), .d (dI x.orn), .d (dI x.dyn), .d (.sl 2 (x.lyr.map Sy.c)), .d (dI x.stem), .d (dI x.beam)]) R R R R Hs R lb (by kernel_rfl))<|znr<|zm R R<|zm R R<|zp (Am R R R Lq hx0)<|?_
 refine zp (Ae (s':= .d (.agg (Val.c x0))) (Av R R Cn lb) (by kernel_rfl))<|zp (Aa R R Cm)<|?_
 refine XL.step R (Ag (l':= [.d (dI x.site), .d (dI x.num), .d (dI x.kind), .d (dI x0.log), .d (dI x0.dots), .d (.sl 5 ((x.heads.map Hd.tie).map Hd.c)), .d (.sl 5 (x.graces.map Gr.c)), .d (dI x.art), .d (dI x.orn), .d (dI x.dyn), .d (.sl 2 (x.lyr.map Sy.c)), .d (dI x.stem), .d (dI x.beam)]) R R R R Dw R lb (by kernel_rfl))<|zng<|zp (Aw R (by conv=>lhs;whnf))<|?_
 refine zp (Ae (s':= .d (.agg [dI x.site,dI x.num,dI x.kind,dI x0.log,dI x0.dots, .sl 5 ((x.heads.map Hd.tie).map Hd.c), .sl 5 (x.graces.map Gr.c),dI x.art,dI x.orn,dI x.dyn, .sl 2 (x.lyr.map Sy.c),dI x.stem,dI x.beam])) (Ac (Ad R R Az R lb)) (by kernel_rfl))<|XL.step R (Bj 44 R Tryz.underlying22 B4 B3 R R (by omega) (by omega))<|?_
 refine XL.step R (A3 R Dz (.own R) (Src.own R) (by unfold maxLen;simp;omega) (by simp;omega))<|zp (As R (by conv=>lhs;whnf))<|?_
 refine zn<|Af (by kernel_rfl)<|zm R R<|zp (Aj R R R (by omega) (by omega))<|za R R<|zn<|?_
 exact Ak (k+1) (by omega) (by omega) (fz ⟨sr,sr,sr,sr,sr,trivial⟩) (gz ⟨R,D5 R (Ea hx0 (Abf c25 R c32)),trivial⟩)
 refine zi<|zr<|zm R R<|zm R R<|zp (Am R R R Lq hx0)<|zp (Ae (s':= .d (.agg (Val.c x0))) (Av R R Cn lb) (by kernel_rfl))<|zp (Aa R R Cm)<|?_
 refine XL.step R (Ag (l':= [.d (dI x.site), .d (dI x.num), .d (dI x.kind), .d (dI x0.log), .d (dI x0.dots), .d (.sl 5 (x.heads.map Hd.c)), .d (.sl 5 (x.graces.map Gr.c)), .d (dI x.art), .d (dI x.orn), .d (dI x.dyn), .d (.sl 2 (x.lyr.map Sy.c)), .d (dI x.stem), .d (dI x.beam)]) R R R R Dw R lb (by kernel_rfl))<|zng<|zp (Aw R (by conv=>lhs;whnf))<|?_
 refine zp (Ae (s':= .d (.agg [dI x.site,dI x.num,dI x.kind,dI x0.log,dI x0.dots, .sl 5 (x.heads.map Hd.c), .sl 5 (x.graces.map Gr.c),dI x.art,dI x.orn,dI x.dyn, .sl 2 (x.lyr.map Sy.c),dI x.stem,dI x.beam])) (Ac (Ad R R Az R lb)) (by kernel_rfl))<|XL.step R (Bj 44 R Tryz.underlying22 B4 B3 R R (by omega) (by omega))<|?_
 refine XL.step R (A3 R Dz (.own R) (Src.own R) (by unfold maxLen;simp;omega) (by simp;omega))<|zp (As R (by conv=>lhs;whnf))<|?_
 refine zn<|Af (by kernel_rfl)<|zm R R<|zp (Aj R R R (by omega) (by omega))<|za R R<|zn<|?_
 exact Ak (k+1) (by omega) (by omega) (fz ⟨sr,sr,sr,sr,sr,trivial⟩) (gz ⟨R,D5 R (Ea hx0 (Abe c25 R c32)),trivial⟩)
 have hk0b:k=(m.split a b).length:=by omega
 have ht:F4 x (m.split a b) false k=Bs x (m.split a b) false:=by rw [F4,hk0b,List.take_length];rfl
 refine An<|zr<|zp (Aw R (by conv=>lhs;whnf))<|?_
 refine zp (As R (by conv=>lhs;whnf))<|?_
 exact zn<|zt<|Bf (i:=900) R<|z1 R R (rSl ht)
def evV (l:List Ev):Vo:=⟨l, []⟩
theorem Alc (m:Me) (a b:Int):(m.err≠0→m.splitE a b=m.err)∧(m.err=0→(a<0∨b<a∨4398046511104<b)→m.splitE a b=2)∧(m.err=0→¬(a<0∨b<a∨4398046511104<b)→(a % 7560≠0∨b % 7560≠0)→m.splitE a b=16)∧(m.err=0→¬(a<0∨b<a∨4398046511104<b)→¬(a % 7560≠0∨b % 7560≠0)→15482880<b - a→m.splitE a b=5)∧(m.err=0→¬(a<0∨b<a∨4398046511104<b)→¬(a % 7560≠0∨b % 7560≠0)→¬15482880<b - a→m.splitE a b=0):=
 ⟨fun h=>(Qg h).1,fun h h2=>(Qf (fun k=>k h) h2).1,fun h h2 h3=>(Qe (fun k=>k h) h2 h3).1,fun h h2 h3 h4=>(Qd (fun k=>k h) h2 h3 h4).1,fun h h2 h3 h4=>(Qc (fun k=>k h) h2 h3 h4).1⟩
end Go.Proofs.YtcihalbakenleaaGreat
namespace Go.Proofs.YtcihalbakenleaaGreat
open Go.RowKit
def Q2 (l:List Tp) (n:Int):Bool:=l.any fun t=>decide (t.has n)
theorem Abp {l:List Tp} {k:Nat} {t:Tp} {n:Int} (h:l[k]? =some t) (ht:t.has n):true=Q2 l n:=by
 symm;rw [Q2,List.any_eq_true];exact ⟨t,List.mem_of_getElem? h,by simpa using ht⟩
theorem Asf {l:List Tp} {n:Int} (h:∀t∈l,¬t.has n):false=Q2 l n:=by
 symm;rw [Q2,List.any_eq_false];exact fun t ht=>by simpa using h t ht
theorem Amp {l:List Tp} {n:Int}:Q2 l n=true↔hits l n≠0:=by
 rw [Q2,List.any_eq_true,hits, ←List.countP_eq_length_filter, ←Nat.pos_iff_ne_zero,List.countP_pos_iff]
def Jd (a c:Int) (t:Tp):Tp:=if a≤t.first then ⟨t.first+c,t.count,t.actual,t.normal⟩ else if t.has a then ⟨t.first,t.count+c,t.actual,t.normal⟩ else t
theorem Amo {a c:Int} {t:Tp} (h:a≤t.first):Jd a c t=⟨t.first+c,t.count,t.actual,t.normal⟩:=by rw [Jd,if_pos h]
theorem Aug {a c:Int} {t:Tp} (h:¬a≤t.first) (h2:t.has a):Jd a c t=⟨t.first,t.count+c,t.actual,t.normal⟩:=by rw [Jd,if_neg h,if_pos h2]
theorem Amn {a c:Int} {t:Tp} (h:¬a≤t.first) (h2:¬t.has a):Jd a c t=t:=by rw [Jd,if_neg h,if_neg h2]
theorem R8 {a c:Int} {l:List Tp} {k:Nat} {t u:Tp} (h:l[k]? =some t) (hu:Jd a c t=u):(l.take (k+1)).map (Jd a c)=(l.take k).map (Jd a c)++ [u]:=by
 rw [Bo h,List.map_append, ←hu];rfl
theorem Arh (l:List Tp) (n:Int) (hl:∀t∈l,t.ok):XC Tryz.prog 50 [.sl 4 (l.map Tp.c), .v (.int .i64 n)] (fun r=>r=dB (Q2 l n)):=by
 refine Ao Agr Tryz.func50 R R lb<|zr<|za R R<|zn<|zs<|zr<|za R R<|zn<|Ah<|?_
 refine Ax (α:=Nat) (fun k=>k≤l.length∧∀t∈l.take k,¬t.has n) (fun k=>mkF [(0, .d (.sl 4 (l.map Tp.c))),(1, .d (dI n)),(5, .d (dI k))]) (fun k=>mkH []) (fun k=>l.length - k) (0) (⟨Nat.zero_le _,fun t ht=>(by cases ht)⟩) ?_ ?_ ?_
 exact fz ⟨sr,sr,sr,trivial⟩
 exact HSub.nil
 intro k hk0
 obtain ⟨hk,hall⟩:=hk0
 refine zs<|zr<|zm R R<|zm R R<|XL.len R R R Tryz.underlying23 fun hl8=>zp (Ar R R R)<|zn<|?_
 refine zd R (fun c9=> ?_) (fun c9=> ?_)
 have hk0a:k<l.length:=by omega
 obtain ⟨x0,hx0⟩:=At hk0a
 have hok:=hl x0 (List.mem_of_getElem? hx0)
 simp only [Tp.ok] at hok
 refine zi<|zs<|Ah<|zs<|?_
 by_cases q18:(x0.first:Int)≤(n:Int)
 refine Bk [] (by kernel_rfl) (by kernel_rfl) (by kernel_rfl) (by decide)<|ym R R<|ym R R<|ym R R<|yp (Am R R R D4 hx0)<|yp (Bp R R By)<|yp (A0 R R Ai)<|yp (Dy (Dt R R R) (q18))<|ym R R<|ym R R<|ym R R<|ym R R<|yp (Am R R R D4 hx0)<|yp (Bp R R By)<|?_
 refine yp (A0 R R Ai)<|ym R R<|ym R R<|yp (Am R R R D4 hx0)<|yp (Bp R R Dm)<|yp (A0 R R Ai)<|yp (Aj R R R (by omega) (by omega))<|yp (Ar R R R)<|yp (A6 R R (by conv=>lhs;whnf))<|?_
 refine ChK.nil ⟨by kernel_rfl, ?_⟩
 refine zd R (fun c33=> ?_) (fun c33=> ?_)
 exact zr<|za R R<|zn<|zt<|z1 R R (rB (Abp hx0 (by unfold Tp.has;omega)))
 refine zi<|Af (by kernel_rfl)<|zm R R<|zp (Aj R R R (by omega) (by omega))<|za R R<|zn<|?_
 exact Ak (k+1) (⟨by omega,fun t ht=>by rw [Bo hx0] at ht;rcases List.mem_append.1 ht with q|q;(· exact hall t q);(· rw [List.mem_singleton.1 q];unfold Tp.has;omega)⟩) (by omega) (fz ⟨sr,sr,sr,trivial⟩) (HSub.nil)
 refine Bk [] (by kernel_rfl) (by kernel_rfl) (by kernel_rfl) (by decide)<|ym R R<|ym R R<|ym R R<|yp (Am R R R D4 hx0)<|yp (Bp R R By)<|yp (A0 R R Ai)<|yp (Gg (Dt R R R) (q18))<|ym R R<|ChK.skip R<|ChK.skip R<|ChK.skip R<|ChK.skip R<|ChK.skip R<|?_
 refine ChK.skip R<|ChK.skip R<|ChK.skip R<|ChK.skip R<|ChK.skip R<|ChK.skip R<|ChK.skip R<|ChK.skip R<|yp (A6 R R (by conv=>lhs;whnf))<|?_
 refine ChK.nil ⟨by kernel_rfl, ?_⟩
 refine A7 (by kernel_rfl) R<|zi<|Af (by kernel_rfl)<|zm R R<|zp (Aj R R R (by omega) (by omega))<|za R R<|zn<|?_
 exact Ak (k+1) (⟨by omega,fun t ht=>by rw [Bo hx0] at ht;rcases List.mem_append.1 ht with q|q;(· exact hall t q);(· rw [List.mem_singleton.1 q];unfold Tp.has;omega)⟩) (by omega) (fz ⟨sr,sr,sr,trivial⟩) (HSub.nil)
 have hk0b:k=l.length:=by omega
 have ht:l.take k=l:=by rw [hk0b,List.take_length]
 rw [ht] at hall
 exact An<|zr<|za R R<|zn<|zt<|z1 R R (rB (Asf hall))
theorem Aau (l:List Tp) (h:l.length≤1000):XC Tryz.prog 53 [.sl 4 (l.map Tp.c)] (fun r=>r= .sl 4 (l.map Tp.c)):=by
 refine Ao Ago Tryz.func53 R R lb<|zr<|za R R<|znr<|za R R<|zn<|zs<|zr<|za R R<|zn<|Ah<|Di 900 3 102 4 R<|?_
 refine Ax (α:=Nat) (fun k=>k≤l.length) (fun k=>mkF [(0, .d (.sl 4 (l.map Tp.c))),(2, .d (.v (.slice none 0 0))),(3, .own 900),(4, .d (dI k))]) (fun k=>mkH [(900, .row 102 4 ((l.take k).map Tp.c))]) (fun k=>l.length - k) (0) (Nat.zero_le _) ?_ ?_ ?_
 exact fz ⟨sr,sr,sr,sr,trivial⟩
 exact gz ⟨R,trivial⟩
 intro k hk0
 refine zs<|zr<|zm R R<|zm R R<|XL.len R R R Tryz.underlying98 fun hl7=>zp (Ar R R R)<|zn<|?_
 refine zd R (fun c8=> ?_) (fun c8=> ?_)
 have hk0a:k<l.length:=by omega
 obtain ⟨x0,hx0⟩:=At hk0a
 have htl:(l.take k).length=k:=by rw [List.length_take];omega
 refine zi<|zs<|Ah<|Ci 23 [] (by kernel_rfl) (by kernel_rfl) (by kernel_rfl) (by kernel_rfl) (by decide)<|yp (Aw R (by conv=>lhs;whnf))<|?_
 refine ym R R<|ym R R<|yp (Am R R R Ii hx0)<|yp (Bp R R Eo)<|yp (A0 R R Ai)<|ym R R<|ym R R<|yp (Am R R R Ii hx0)<|yp (Bp R R Gx)<|yp (A0 R R Ai)<|ym R R<|ym R R<|yp (Am R R R Ii hx0)<|yp (Bp R R Lc)<|?_
 refine yp (A0 R R Ai)<|ym R R<|ym R R<|yp (Am R R R Ii hx0)<|yp (Bp R R Mq)<|yp (A0 R R Ai)<|yp (Ae (s':= .d (.agg [dI x0.first,dI x0.count,dI x0.actual,dI x0.normal])) (Ac (Ba R Arb C9 R)) (by kernel_rfl))<|ChK.cons R (CStep.slice R Tryz.underlying23 Ef C9 R R (by omega) (by omega))<|?_
 refine ChK.nil ⟨by kernel_rfl, ?_⟩
 refine XL.step R (A3 R Gy (.own R) (Src.sl (by omega)) (by unfold maxLen;simp;omega) (by simp;omega))<|zp (As R (by conv=>lhs;whnf))<|?_
 refine zn<|Af (by kernel_rfl)<|zm R R<|zp (Aj R R R (by omega) (by omega))<|za R R<|zn<|?_
 exact Ak (k+1) (by omega) (by omega) (fz ⟨sr,sr,sr,sr,trivial⟩) (gz ⟨D5 R (Bo hx0),trivial⟩)
 have hk0b:k=l.length:=by omega
 have ht:l.take k=l:=by rw [hk0b,List.take_length]
 refine An<|zr<|zp (Aw R (by conv=>lhs;whnf))<|?_
 refine zp (As R (by conv=>lhs;whnf))<|?_
 exact zn<|zt<|Bf (i:=900) R<|z1 R R (rSl (by rw [ht]))
theorem Vz (l:List Tp) (a c:Int) (hl:∀t∈l,t.ok) (h:l.length≤1000) (hc: -1≤c∧c≤100000):XC Tryz.prog 54 [.sl 4 (l.map Tp.c), .v (.int .i64 a), .v (.int .i64 c)] (fun r=>r= .sl 4 ((l.map (Jd a c)).map Tp.c)):=by
 refine Ao Agn Tryz.func54 R R lb<|zr<|za R R<|znr<|za R R<|zn<|zs<|zr<|za R R<|zn<|Ah<|Di 900 7 135 4 R<|?_
 refine Ax (α:=Nat) (fun k=>k≤l.length) (fun k=>mkF [(0, .d (.sl 4 (l.map Tp.c))),(1, .d (dI a)),(2, .d (dI c)),(6, .d (.v (.slice none 0 0))),(7, .own 900),(8, .d (dI k))]) (fun k=>mkH [(900, .row 135 4 (((l.take k).map (Jd a c)).map Tp.c))]) (fun k=>l.length - k) (0) (Nat.zero_le _) ?_ ?_ ?_
 exact fz ⟨sr,sr,sr,sr,sr,sr,trivial⟩
 exact gz ⟨R,trivial⟩
 intro k hk0
 refine zs<|zr<|zm R R<|zm R R<|XL.len R R R Tryz.underlying98 fun hl12=>zp (Ar R R R)<|zn<|?_
 refine zd R (fun c13=> ?_) (fun c13=> ?_)
 have hk0a:k<l.length:=by omega
 obtain ⟨x0,hx0⟩:=At hk0a
 have htl:((l.take k).map (Jd a c)).length=k:=by rw [List.length_map,List.length_take];omega
 have hok:=hl x0 (List.mem_of_getElem? hx0)
 have hok2:=hok
 simp only [Tp.ok] at hok2
 refine zi<|zs<|Ah<|zr<|zm R R<|zm R R<|zp (Am R R R Ii hx0)<|zp (Ae (s':= .d (.agg (Tp.c x0))) (Av R R Fa lb) (by kernel_rfl))<|XL.step R (A4 9 (l:= [.d (dI 0), .d (dI 0), .d (dI 0), .d (dI 0)]) R Ky (by kernel_rfl))<|?_
 refine XL.step R (Ag (l':= [.d (dI x0.first), .d (dI x0.count), .d (dI x0.actual), .d (dI x0.normal)]) R R R R Pw R lb (by kernel_rfl))<|zn<|zs<|zr<|zp (Aa R R Eo)<|zp (Ab R R Ai R R)<|zm R R<|zp (Dt R R R)<|zn<|?_
 refine zd R (fun c23=> ?_) (fun c23=> ?_)
 refine Af (by kernel_rfl)<|zp (Aa R R Eo)<|zp (Ab R R Ai R R)<|zm R R<|zp (Aj R R R (by omega) (by omega))<|zp (Aa R R Eo)<|XL.step R (Ag (l':= [.d (dI (x0.first+c)), .d (dI x0.count), .d (dI x0.actual), .d (dI x0.normal)]) R R R R Dc R lb (by kernel_rfl))<|zng<|zp (Aw R (by conv=>lhs;whnf))<|?_
 refine zp (Ae (s':= .d (.agg [dI (x0.first+c),dI x0.count,dI x0.actual,dI x0.normal])) (Ac (Ad R R Fa R lb)) (by kernel_rfl))<|XL.step R (Bj 39 R Tryz.underlying98 Pw Ky R R (by omega) (by omega))<|XL.step R (A3 R Ws (.own R) (Src.own R) (by unfold maxLen;simp;omega) (by simp;omega))<|zp (As R (by conv=>lhs;whnf))<|?_
 refine zn<|Af (by kernel_rfl)<|zm R R<|zp (Aj R R R (by omega) (by omega))<|za R R<|zn<|?_
 exact Ak (k+1) (by omega) (by omega) (fz ⟨sr,sr,sr,sr,sr,sr,trivial⟩) (gz ⟨D5 R (R8 hx0 (Amo (by omega))),trivial⟩)
 refine zr<|zp (Ae (s':= .d (.agg (Tp.c x0))) (Ac (Ad R R Fa R lb)) (by kernel_rfl))<|zm R R<|XL.call1 R R (N0 _ _ (by assumption)) R<|zn<|?_
 refine zd R (fun c31=> ?_) (fun c31=> ?_)
 refine Af (by kernel_rfl)<|zp (Aa R R Gx)<|zp (Ab R R Ai R R)<|zm R R<|zp (Aj R R R (by omega) (by omega))<|zp (Aa R R Gx)<|XL.step R (Ag (l':= [.d (dI x0.first), .d (dI (x0.count+c)), .d (dI x0.actual), .d (dI x0.normal)]) R R R R Dc R lb (by kernel_rfl))<|zng<|zp (Aw R (by conv=>lhs;whnf))<|?_
 refine zp (Ae (s':= .d (.agg [dI x0.first,dI (x0.count+c),dI x0.actual,dI x0.normal])) (Ac (Ad R R Fa R lb)) (by kernel_rfl))<|XL.step R (Bj 39 R Tryz.underlying98 Pw Ky R R (by omega) (by omega))<|XL.step R (A3 R Ws (.own R) (Src.own R) (by unfold maxLen;simp;omega) (by simp;omega))<|zp (As R (by conv=>lhs;whnf))<|?_
 refine zn<|Af (by kernel_rfl)<|zm R R<|zp (Aj R R R (by omega) (by omega))<|za R R<|zn<|?_
 exact Ak (k+1) (by omega) (by omega) (fz ⟨sr,sr,sr,sr,sr,sr,trivial⟩) (gz ⟨D5 R (R8 hx0 (Aug (by omega) c31)),trivial⟩)
 refine zi<|Af (by kernel_rfl)<|zp (Aw R (by conv=>lhs;whnf))<|?_
 refine zp (Ae (s':= .d (.agg (Tp.c x0))) (Ac (Ad R R Fa R lb)) (by kernel_rfl))<|XL.step R (Bj 39 R Tryz.underlying98 Pw Ky R R (by omega) (by omega))<|XL.step R (A3 R Ws (.own R) (Src.own R) (by unfold maxLen;simp;omega) (by simp;omega))<|zp (As R (by conv=>lhs;whnf))<|?_
 refine zn<|Af (by kernel_rfl)<|zm R R<|zp (Aj R R R (by omega) (by omega))<|za R R<|zn<|?_
 exact Ak (k+1) (by omega) (by omega) (fz ⟨sr,sr,sr,sr,sr,sr,trivial⟩) (gz ⟨D5 R (R8 hx0 (Amn (by omega) c31)),trivial⟩)
 have hk0b:k=l.length:=by omega
 have ht:l.take k=l:=by rw [hk0b,List.take_length]
 refine An<|zr<|zp (Aw R (by conv=>lhs;whnf))<|?_
 refine zp (As R (by conv=>lhs;whnf))<|?_
 exact zn<|zt<|Bf (i:=900) R<|z1 R R (rSl (by rw [ht]))
theorem Ye (x:Ev) (m:Me) (a b:Int) (h:x.fit) (hs:m.splitE a b=0):XS Tryz.prog 37 [.agg (Ev.c x), .agg (Me.c m), .v (.int .i64 a), .v (.int .i64 b)] (.own 900) [(900, .row 60 13 ((Bs x (m.split a b) false).map Ev.c))]:=by
 have hf1:=h.1
 have hsl:=Jy m a b
 refine Ij Tz Tryz.func37 R R lb (by kernel_rfl) (by kernel_rfl)<|zr<|XL.step R (Au 4 (l:= [.d (dI x.site), .d (dI x.num), .d (dI x.kind), .d (dI x.v.log), .d (dI x.v.dots), .d (.sl 5 (x.heads.map Hd.c)), .d (.sl 5 (x.graces.map Gr.c)), .d (dI x.art), .d (dI x.orn), .d (dI x.dyn), .d (.sl 2 (x.lyr.map Sy.c)), .d (dI x.stem), .d (dI x.beam)]) R R (by kernel_rfl))<|?_
 refine XL.step R (Au 5 (l:= [.d (dI m.count), .d (dI m.unit), .d (dI m.g0), .d (dI m.g1), .d (dI m.g2), .d (dI m.g3), .d (dI m.g4), .d (dI m.g5)]) R R (by kernel_rfl))<|za R R<|znr<|zp (Ae (s':= .d (.agg (Me.c m))) (Ac (Ad R R Bq R lb)) (by kernel_rfl))<|zm R R<|zm R R<|XL.callS R R ((Tj _ _ _ (by assumption)).lab 7001) R<|zp (As R (by conv=>lhs;whnf))<|?_
 refine znr<|XL.freeze (i:=7001) R<|za R R<|zn<|zs<|zr<|za R R<|zn<|Ah<|Di 900 10 60 13 R<|?_
 refine Ax (α:=Nat) (fun k=>k≤(m.split a b).length) (fun k=>mkF [(4, .ptr 4 0 0),(8, .d (.v (.slice none 0 0))),(9, .d (.sl 2 ((m.split a b).map Val.c))),(10, .own 900),(11, .d (dI k))]) (fun k=>mkH [(4, .box ((Ev.c x).map S.d)),(900, .row 60 13 ((F4 x (m.split a b) false k).map Ev.c))]) (fun k=>(m.split a b).length - k) (0) (Nat.zero_le _) ?_ ?_ ?_
 exact fz ⟨sr,sr,sr,sr,sr,trivial⟩
 exact gz ⟨R,R,trivial⟩
 intro k hk0
 refine zs<|zr<|zm R R<|zm R R<|XL.len R R R Tryz.underlying106 fun hl19=>zp (Ar R R R)<|zn<|?_
 refine zd R (fun c20=> ?_) (fun c20=> ?_)
 have hk0a:k<(m.split a b).length:=by omega
 obtain ⟨x0,hx0⟩:=At hk0a
 have hnl:(F4 x (m.split a b) false k).length=k:=by rw [F4,List.length_mapIdx,List.length_take];omega
 have hpl:(x.heads.map Hd.plain).length≤1000:=by rw [List.length_map];exact hf1
 have hpl2:x.furV.heads.length≤1000:=hpl
 refine zi<|zs<|Ah<|zr<|zp (Ae (s':= .d (.agg (Ev.c x))) (Ac (Ad R R Az R lb)) (by kernel_rfl))<|XL.step R (A4 12 (l:= [.d (dI 0), .d (dI 0), .d (dI 0), .d (dI 0), .d (dI 0), .d (.v (.slice none 0 0)), .d (.v (.slice none 0 0)), .d (dI 0), .d (dI 0), .d (dI 0), .d (.v (.slice none 0 0)), .d (dI 0), .d (dI 0)]) R B3 (by kernel_rfl))<|?_
 refine XL.step R (Ag (l':= [.d (dI x.site), .d (dI x.num), .d (dI x.kind), .d (dI x.v.log), .d (dI x.v.dots), .d (.sl 5 (x.heads.map Hd.c)), .d (.sl 5 (x.graces.map Gr.c)), .d (dI x.art), .d (dI x.orn), .d (dI x.dyn), .d (.sl 2 (x.lyr.map Sy.c)), .d (dI x.stem), .d (dI x.beam)]) R R R R B4 R lb (by kernel_rfl))<|zn<|zs<|zr<|zm R R<|zp (A8 R R R)<|zn<|?_
 refine zd R (fun c25=> ?_) (fun c25=> ?_)
 refine Af (by kernel_rfl)<|zp (Ae (s':= .d (.agg (Ev.c x))) (Ac (Ad R R Az R lb)) (by kernel_rfl))<|XL.call1 R R (Oo _ (by assumption)) R<|?_
 refine XL.step R (Ag (l':= [.d (dI x.furV.site), .d (dI x.furV.num), .d (dI x.furV.kind), .d (dI x.furV.v.log), .d (dI x.furV.v.dots), .d (.sl 5 (x.furV.heads.map Hd.c)), .d (.sl 5 (x.furV.graces.map Gr.c)), .d (dI x.furV.art), .d (dI x.furV.orn), .d (dI x.furV.dyn), .d (.sl 2 (x.furV.lyr.map Sy.c)), .d (dI x.furV.stem), .d (dI x.furV.beam)]) R R R R B4 R lb (by kernel_rfl))<|zn<|zs<|zr<|?_
 refine zm R R<|zp (Aj R R R (by omega) (by omega))<|zm R R<|XL.len R R R Tryz.underlying106 fun hl31=>zp (Ar R R R)<|zn<|?_
 refine zd R (fun c32=> ?_) (fun c32=> ?_)
 refine Af (by kernel_rfl)<|zp (Aa R R Be)<|zp (Ab R R Cu R R)<|XL.call1 R R (Kh _ (by omega)) R<|zp (Aa R R Be)<|?_
 refine XL.step R (Ag (l':= [.d (dI x.furV.site), .d (dI x.furV.num), .d (dI x.furV.kind), .d (dI x.furV.v.log), .d (dI x.furV.v.dots), .d (.sl 5 ((x.furV.heads.map Hd.tie).map Hd.c)), .d (.sl 5 (x.furV.graces.map Gr.c)), .d (dI x.furV.art), .d (dI x.furV.orn), .d (dI x.furV.dyn), .d (.sl 2 (x.furV.lyr.map Sy.c)), .d (dI x.furV.stem), .d (dI x.furV.beam)]) R R R R Hs R lb (by kernel_rfl))<|?_
 refine znr<|zm R R<|zm R R<|zp (Am R R R Lq hx0)<|zp (Ae (s':= .d (.agg (Val.c x0))) (Av R R Cn lb) (by kernel_rfl))<|zp (Aa R R Cm)<|?_
 refine XL.step R (Ag (l':= [.d (dI x.furV.site), .d (dI x.furV.num), .d (dI x.furV.kind), .d (dI x0.log), .d (dI x0.dots), .d (.sl 5 ((x.furV.heads.map Hd.tie).map Hd.c)), .d (.sl 5 (x.furV.graces.map Gr.c)), .d (dI x.furV.art), .d (dI x.furV.orn), .d (dI x.furV.dyn), .d (.sl 2 (x.furV.lyr.map Sy.c)), .d (dI x.furV.stem), .d (dI x.furV.beam)]) R R R R Dw R lb (by kernel_rfl))<|zng<|?_
 refine zp (Aw R (by conv=>lhs;whnf))<|?_
 refine zp (Ae (s':= .d (.agg [dI x.furV.site,dI x.furV.num,dI x.furV.kind,dI x0.log,dI x0.dots, .sl 5 ((x.furV.heads.map Hd.tie).map Hd.c), .sl 5 (x.furV.graces.map Gr.c),dI x.furV.art,dI x.furV.orn,dI x.furV.dyn, .sl 2 (x.furV.lyr.map Sy.c),dI x.furV.stem,dI x.furV.beam])) (Ac (Ad R R Az R lb)) (by kernel_rfl))<|?_
 refine XL.step R (Bj 44 R Tryz.underlying22 B4 B3 R R (by omega) (by omega))<|XL.step R (A3 R Dz (.own R) (Src.own R) (by unfold maxLen;simp;omega) (by simp;omega))<|zp (As R (by conv=>lhs;whnf))<|?_
 refine zn<|Af (by kernel_rfl)<|zm R R<|zp (Aj R R R (by omega) (by omega))<|za R R<|zn<|?_
 exact Ak (k+1) (by omega) (by omega) (fz ⟨sr,sr,sr,sr,sr,trivial⟩) (gz ⟨R,D5 R (Ea hx0 (Wb (.inl c25) c32)),trivial⟩)
 refine zi<|zr<|zm R R<|zm R R<|zp (Am R R R Lq hx0)<|zp (Ae (s':= .d (.agg (Val.c x0))) (Av R R Cn lb) (by kernel_rfl))<|zp (Aa R R Cm)<|?_
 refine XL.step R (Ag (l':= [.d (dI x.furV.site), .d (dI x.furV.num), .d (dI x.furV.kind), .d (dI x0.log), .d (dI x0.dots), .d (.sl 5 (x.furV.heads.map Hd.c)), .d (.sl 5 (x.furV.graces.map Gr.c)), .d (dI x.furV.art), .d (dI x.furV.orn), .d (dI x.furV.dyn), .d (.sl 2 (x.furV.lyr.map Sy.c)), .d (dI x.furV.stem), .d (dI x.furV.beam)]) R R R R Dw R lb (by kernel_rfl))<|zng<|?_
 refine zp (Aw R (by conv=>lhs;whnf))<|?_
 refine zp (Ae (s':= .d (.agg [dI x.furV.site,dI x.furV.num,dI x.furV.kind,dI x0.log,dI x0.dots, .sl 5 (x.furV.heads.map Hd.c), .sl 5 (x.furV.graces.map Gr.c),dI x.furV.art,dI x.furV.orn,dI x.furV.dyn, .sl 2 (x.furV.lyr.map Sy.c),dI x.furV.stem,dI x.furV.beam])) (Ac (Ad R R Az R lb)) (by kernel_rfl))<|?_
 refine XL.step R (Bj 44 R Tryz.underlying22 B4 B3 R R (by omega) (by omega))<|XL.step R (A3 R Dz (.own R) (Src.own R) (by unfold maxLen;simp;omega) (by simp;omega))<|zp (As R (by conv=>lhs;whnf))<|?_
 refine zn<|Af (by kernel_rfl)<|zm R R<|zp (Aj R R R (by omega) (by omega))<|za R R<|zn<|?_
 exact Ak (k+1) (by omega) (by omega) (fz ⟨sr,sr,sr,sr,sr,trivial⟩) (gz ⟨R,D5 R (Ea hx0 (Wa (.inl c25) c32)),trivial⟩)
 refine zi<|zs<|zr<|zm R R<|zp (Aj R R R (by omega) (by omega))<|zm R R<|XL.len R R R Tryz.underlying106 fun hl31=>zp (Ar R R R)<|zn<|?_
 refine zd R (fun c32=> ?_) (fun c32=> ?_)
 refine Af (by kernel_rfl)<|zp (Aa R R Be)<|zp (Ab R R Cu R R)<|XL.call1 R R (Kh _ (by omega)) R<|zp (Aa R R Be)<|?_
 refine XL.step R (Ag (l':= [.d (dI x.site), .d (dI x.num), .d (dI x.kind), .d (dI x.v.log), .d (dI x.v.dots), .d (.sl 5 ((x.heads.map Hd.tie).map Hd.c)), .d (.sl 5 (x.graces.map Gr.c)), .d (dI x.art), .d (dI x.orn), .d (dI x.dyn), .d (.sl 2 (x.lyr.map Sy.c)), .d (dI x.stem), .d (dI x.beam)]) R R R R Hs R lb (by kernel_rfl))<|znr<|zm R R<|zm R R<|zp (Am R R R Lq hx0)<|?_
 refine zp (Ae (s':= .d (.agg (Val.c x0))) (Av R R Cn lb) (by kernel_rfl))<|zp (Aa R R Cm)<|?_
 refine XL.step R (Ag (l':= [.d (dI x.site), .d (dI x.num), .d (dI x.kind), .d (dI x0.log), .d (dI x0.dots), .d (.sl 5 ((x.heads.map Hd.tie).map Hd.c)), .d (.sl 5 (x.graces.map Gr.c)), .d (dI x.art), .d (dI x.orn), .d (dI x.dyn), .d (.sl 2 (x.lyr.map Sy.c)), .d (dI x.stem), .d (dI x.beam)]) R R R R Dw R lb (by kernel_rfl))<|zng<|zp (Aw R (by conv=>lhs;whnf))<|?_
 refine zp (Ae (s':= .d (.agg [dI x.site,dI x.num,dI x.kind,dI x0.log,dI x0.dots, .sl 5 ((x.heads.map Hd.tie).map Hd.c), .sl 5 (x.graces.map Gr.c),dI x.art,dI x.orn,dI x.dyn, .sl 2 (x.lyr.map Sy.c),dI x.stem,dI x.beam])) (Ac (Ad R R Az R lb)) (by kernel_rfl))<|XL.step R (Bj 44 R Tryz.underlying22 B4 B3 R R (by omega) (by omega))<|?_
 refine XL.step R (A3 R Dz (.own R) (Src.own R) (by unfold maxLen;simp;omega) (by simp;omega))<|zp (As R (by conv=>lhs;whnf))<|?_
 refine zn<|Af (by kernel_rfl)<|zm R R<|zp (Aj R R R (by omega) (by omega))<|za R R<|zn<|?_
 exact Ak (k+1) (by omega) (by omega) (fz ⟨sr,sr,sr,sr,sr,trivial⟩) (gz ⟨R,D5 R (Ea hx0 (Abf c25 R c32)),trivial⟩)
 refine zi<|zr<|zm R R<|zm R R<|zp (Am R R R Lq hx0)<|zp (Ae (s':= .d (.agg (Val.c x0))) (Av R R Cn lb) (by kernel_rfl))<|zp (Aa R R Cm)<|?_
 refine XL.step R (Ag (l':= [.d (dI x.site), .d (dI x.num), .d (dI x.kind), .d (dI x0.log), .d (dI x0.dots), .d (.sl 5 (x.heads.map Hd.c)), .d (.sl 5 (x.graces.map Gr.c)), .d (dI x.art), .d (dI x.orn), .d (dI x.dyn), .d (.sl 2 (x.lyr.map Sy.c)), .d (dI x.stem), .d (dI x.beam)]) R R R R Dw R lb (by kernel_rfl))<|zng<|zp (Aw R (by conv=>lhs;whnf))<|?_
 refine zp (Ae (s':= .d (.agg [dI x.site,dI x.num,dI x.kind,dI x0.log,dI x0.dots, .sl 5 (x.heads.map Hd.c), .sl 5 (x.graces.map Gr.c),dI x.art,dI x.orn,dI x.dyn, .sl 2 (x.lyr.map Sy.c),dI x.stem,dI x.beam])) (Ac (Ad R R Az R lb)) (by kernel_rfl))<|XL.step R (Bj 44 R Tryz.underlying22 B4 B3 R R (by omega) (by omega))<|?_
 refine XL.step R (A3 R Dz (.own R) (Src.own R) (by unfold maxLen;simp;omega) (by simp;omega))<|zp (As R (by conv=>lhs;whnf))<|?_
 refine zn<|Af (by kernel_rfl)<|zm R R<|zp (Aj R R R (by omega) (by omega))<|za R R<|zn<|?_
 exact Ak (k+1) (by omega) (by omega) (fz ⟨sr,sr,sr,sr,sr,trivial⟩) (gz ⟨R,D5 R (Ea hx0 (Abe c25 R c32)),trivial⟩)
 have hk0b:k=(m.split a b).length:=by omega
 have ht:F4 x (m.split a b) false k=Bs x (m.split a b) false:=by rw [F4,hk0b,List.take_length];rfl
 refine An<|zr<|zp (Aw R (by conv=>lhs;whnf))<|?_
 refine zp (As R (by conv=>lhs;whnf))<|?_
 refine zn<|zt<|?_
 exact ⟨Ec R (RVS.tmp R R),HSub.cons (by rw [ht];rfl) (HSub.nil)⟩
theorem Atm {v:Vo} {L t a:Int} {k:Nat} (h:ckE v L=0) (hat:atS (ckL v L) t (ckL v L).length=((k:Int),a)):XC Tryz.prog 24 [.agg (Vo.c v),dI L,dI t] (fun r=>r= .tup [dI k,dI a]):=by
 have:=Atl v L t h
 rw [hat] at this
 exact this
theorem Arr {v:Vo} {L:Int} (h:ckE v L=0):XC Tryz.prog 32 [.agg (Vo.c v),dI L] (fun r=>r= .sl 1 (B8 (ckL v L))):=by
 obtain ⟨h1,h2,h3⟩:=Tb h
 have:=Mw v L h2 h3
 rw [h1] at this
 exact this
theorem Au4 {v:Vo} {L t a:Int} {k:Nat} (h:ckE v L=0) (hne:v.evs.length≠0) (h0:0≤t) (h1:t<L) (hat:atS (ckL v L) t (ckL v L).length=((k:Int),a)):∃w,(ckL v L)[k]? =some w∧a≤t∧t<a+w∧a+w≤L:=by
 have hne2:v.evs≠ []:=fun k=>hne (by rw [k];rfl)
 obtain ⟨j,w,hw,k1,k2⟩:=Ald h0 (by rw [Wu h hne2];exact h1)
 have hp:=Nl h
 have hjl:=(List.getElem?_eq_some_iff.1 hw).1
 have hj:=Akt hp (t:=t) (j:=j+1) (by omega) (fun i hi=>by have:=Nq hp (j:=i) (k:=j) (by omega);omega) (.inr (by rw [Bo hw,Hm];omega)) (ckL v L).length (by omega) (Nat.le_refl _)
 rw [hj] at hat
 have e1:((j:Nat):Int)=k:=congrArg Prod.fst hat
 have e2:tot ((ckL v L).take j)=a:=congrArg Prod.snd hat
 have e3:j=k:=by omega
 subst e3
 have hm:=Nq hp (j:=j+1) (k:=(ckL v L).length) (by omega)
 rw [Bo hw,Hm,List.take_length,Wu h hne2] at hm
 exact ⟨w,hw,by omega,by omega,by omega⟩
theorem Xr {v:Vo} {L:Int} (h:ckE v L=0) (h0:v.evs.length=0):v.tups= []:=by
 obtain ⟨ws,ls,hT⟩:=Pc h
 by_cases c:v.rest
 ·exact absurd c.2 (by omega)
 ·have hv:=((Kx c).1 ⟨h,rfl⟩).2.2.1
  cases ht:v.tups with
  |nil=>rfl
  |cons t l=>
   have:=hv.tl.tv.inR t (by rw [ht];exact List.mem_cons_self)
   have h2:(wrS v.evs).length=v.evs.length:=Hl _
   unfold Tp.inR at this
   omega
theorem Aio {v:Vo} {L:Int} (h:ckE v L=0):∀t∈v.tups,t.ok:=by
 obtain ⟨ws,ls,hT⟩:=Pc h
 exact fun t ht=>(hT.tv.inR t ht).ok (by have:=hT.wl;omega)
theorem Acc {v:Vo} {L:Int} (h:ckE v L=0) (k:Int):Q2 v.tups k=true↔0<Gz v.tups k:=by
 obtain ⟨ws,ls,hT⟩:=Pc h
 rw [Lr hT,Amp];omega
theorem Amy (x:Ev) (n i:Nat) (v:Val):Fl x.furV n false i v=Fl x n true i v:=by
 have e:x.furV.further=x.further:=by
  have hp:(x.heads.map Hd.plain).map Hd.plain=x.heads.map Hd.plain:=by rw [List.map_map];exact List.map_congr_left fun h _=>rfl
  unfold Ev.further Ev.furV
  simp only [hp]
 have e2:∀t,x.furV.put v t=x.further.put v t:=fun t=>rfl
 unfold Fl
 rw [e,if_pos (show 0<(i:Int)∨true=true from .inr rfl)]
 split
 ·rfl
 ·exact e2 _
theorem Wp (x:Ev) (vs:List Val):Bs x.furV vs false=Bs x vs true:=by
 unfold Bs
 refine List.ext_getElem? fun i=> ?_
 rw [List.getElem?_mapIdx,List.getElem?_mapIdx]
 cases vs[i]? with
 |none=>rfl
 |some v=>exact congrArg some (Amy x _ i v)
theorem Abx {x:Ev} (h:x.fit):x.furV.fit:=⟨by show (x.heads.map Hd.plain).length≤1000;rw [List.length_map];exact h.1,Nat.zero_le _,Nat.zero_le _⟩
theorem Zq {p:Pl} {t a w:Int} {x:Ev} (h:x.kind=3):Bs x.asRest.tiedE (p.m.split (p.off+a) (p.off+t)) false++Bs x.asRest.furV (p.m.split (p.off+t) (p.off+(a+w))) false=C5 p t a w x:=by rw [Wp,Rc h]
theorem Zr {p:Pl} {t a w:Int} {x:Ev} (h:¬x.kind=3):Bs x.tiedE (p.m.split (p.off+a) (p.off+t)) false++Bs x.furV (p.m.split (p.off+t) (p.off+(a+w))) false=C5 p t a w x:=by rw [Wp,Rd h]
theorem Apa {l:List Tp} {k:Nat} {c:Int} (ho:l.Pairwise Tp.bef) (hok:∀t∈l,t.ok) (hd:∀t∈l,¬t.has k):
  l.map (Jd ((k:Int)+1) c)=Cg (fun t=>decide (t.first<(k:Int))) 0 l++Cg (fun t=>decide ((k:Int)+1≤t.first)) c l:=by
 induction l with
 |nil=>rfl
 |cons t l ih=>
  have h1:=ih (List.pairwise_cons.1 ho).2 (fun u hu=>hok u (List.mem_cons_of_mem _ hu)) (fun u hu=>hd u (List.mem_cons_of_mem _ hu))
  have h2:=hd t List.mem_cons_self
  have h3:=hok t List.mem_cons_self
  have h4:=(List.pairwise_cons.1 ho).1
  unfold Tp.has at h2
  unfold Tp.ok at h3
  unfold Cg at h1 ⊢
  by_cases q:t.first<(k:Int)
  ·rw [List.map_cons,h1,List.filter_cons_of_pos (by simpa using q),List.filter_cons_of_neg (by simp;omega),List.map_cons,List.cons_append,Amn (by omega) (by unfold Tp.has;omega)]
   have:Tp.mv 0 t=t:=by unfold Tp.mv;rw [Int.add_zero]
   rw [this]
  ·have e:l.filter (fun t=>decide (t.first<(k:Int)))= []:=by
    rw [List.filter_eq_nil_iff]
    intro u hu
    have:=(h4 u hu).first
    simp;omega
   rw [e] at h1
   rw [List.map_cons,h1,List.filter_cons_of_neg (by simpa using q),List.filter_cons_of_pos (by simp;omega),e,Amo (by omega)]
   rfl
theorem An5 {v:Vo} {L:Int} {k:Nat} {l:List Ev} (h:ckE v L=0) (hd:¬Q2 v.tups k=true):A5 v k 1 ⟨l, []⟩=⟨v.evs.take k++l++v.evs.drop (k+1),v.tups.map (Jd ((k:Int)+1) ((l.length:Int) - 1))⟩:=by
 obtain ⟨ws,ls,hT⟩:=Pc h
 have hd2:∀t∈v.tups,¬t.has k:=fun t ht hh=>hd (by obtain ⟨j,hj⟩:=List.getElem?_of_mem ht;exact (Abp hj hh).symm)
 rw [Apa hT.tv.ord (Aio h) hd2]
 unfold A5
 rw [H7,List.append_nil];rfl
theorem Zx {m:Me} {a b:Int} (hm:m.err=0) (h1:0≤a) (h2:a≤b) (h3:b≤30965760) (h4:b - a≤15482880):m.splitE a b=if a % 7560≠0∨b % 7560≠0 then 16 else 0:=by
 obtain ⟨_,_,hS3,_,hS5⟩:=Alc m a b
 split
 ·exact hS3 hm (by omega) (by assumption)
 ·exact hS5 hm (by omega) (by assumption) (by omega)
end Go.Proofs.YtcihalbakenleaaGreat
namespace Go.Proofs.YtcihalbakenleaaGreat
open Go.RowKit
theorem Avf {v:Vo} {p:Pl} {t:Int} (hc:p.chk v=0) (h:(v.evs.length:Int)=0):It v p t=(⟨[], []⟩,10):=Au8 (by omega) ⟨by omega,by rw [Xr (Dn hc).2.2 (by omega)];rfl⟩
theorem Ap8 {v:Vo} {p:Pl} {t:Int} (hc:p.chk v=0) (h0:¬(v.evs.length:Int)=0) (h:t<0∨p.len<t):It v p t=(⟨[], []⟩,2):=Apw (by omega) (fun k=>h0 (by have:=k.1;omega)) h
theorem Lk {v:Vo} {p:Pl} {t:Int} (hc:p.chk v=0) (h0:¬(v.evs.length:Int)=0) (h:¬(t<0∨p.len<t)):It v p t=Al v p t:=Au7 (by omega) (fun k=>h0 (by have:=k.1;omega)) h
theorem Ap7 {v:Vo} {p:Pl} {t:Int} {k:Nat} {a:Int} (hc:p.chk v=0) (h0:¬(v.evs.length:Int)=0) (h:¬(t<0∨p.len<t)) (hat:atS (ckL v p.len) t (ckL v p.len).length=((k:Int),a)) (h2:t=p.len∨a=t):It v p t=(v,0):=by
 rw [Lk hc h0 h]
 obtain ⟨hA1,hA2,hA3,hA4⟩:=Aew v p.len t
 have hck:=(Dn hc).2.2
 by_cases c:t=p.len
 ·unfold Al
  rw [if_pos (.inl (by rw [hA3 hck (by omega) (by omega)];decide))]
 ·have he:=hA4 hck (by omega) (by omega)
  exact Mt (by rw [Au3 he];exact hat) (.inr (by omega))
theorem Sw {v:Vo} {L:Int} {k k1:Nat} {l:List Ev} (hck:ckE v L=0) (hnd:¬0<Gz v.tups k) (hk1:k1=k+1):A5 v k 1 ⟨l, []⟩=⟨v.evs.take k++l++v.evs.drop k1,v.tups.map (Jd ((k:Int)+1) ((l.length:Int) - 1))⟩:=by
 subst hk1;exact An5 hck fun h=>hnd ((Acc hck k).1 h)
theorem Aji {v:Vo} {p:Pl} {t a w:Int} {k:Nat} {x:Ev} (hme:p.m.err=0) (h0:0≤p.off+a) (h1:a≤t) (h2:t≤a+w) (h3:p.off+(a+w)≤30965760) (h4:w≤15482880) (hd:¬0<Gz v.tups k) (h:(p.off+a) % 7560≠0∨(p.off+t) % 7560≠0∨(p.off+(a+w)) % 7560≠0):K3 v p t k a w x=(⟨[], []⟩,16):=by
 have e1:=Zx hme h0 (show p.off+a≤p.off+t by omega) (by omega) (by omega)
 have e2:=Zx hme (show 0≤p.off+t by omega) (show p.off+t≤p.off+(a+w) by omega) h3 (by omega)
 by_cases c:(p.off+a) % 7560≠0∨(p.off+t) % 7560≠0
 ·rw [if_pos c] at e1
  rw [Auw hd (by rw [e1];decide),e1]
 ·rw [if_neg c] at e1
  rw [if_pos (by omega)] at e2
  rw [Auv hd (by omega) (by rw [e2];decide),e2]
theorem Ajd (v:Vo) (p:Pl) (t:Int) (hF:v.fit) (hc:p.chk v=0):XC Tryz.prog 17 [.agg (Vo.c v), .agg (Pl.c p), .v (.int .i64 t)] (fun r=>r= .tup [.agg (Vo.c (It v p t).1),dI (It v p t).2]):=by
 obtain ⟨k,hat0,hk0⟩:=Xt (ckL v p.len) t (ckL v p.len).length
 obtain ⟨a,ha⟩:∃a,a=tot ((ckL v p.len).take k):=⟨_,rfl⟩
 have hat1:=hat0
 rw [←ha] at hat1
 obtain ⟨hme,hpb,hck⟩:=Dn hc
 obtain ⟨hsv,hev⟩:=Kr hck
 have hcl:=H1 hck
 have hN:=I8 v p.len
 unfold Pl.bad at hpb
 have htok:=Aio hck
 obtain ⟨hA1,hA2,hA3,hA4⟩:=Aew v p.len t
 obtain ⟨hlL,hl0,hl1⟩:=Tb hck
 refine Ao Ag9 Tryz.func17 R R lb<|zr<|XL.step R (Au 3 (l:= [.d (.sl 13 (v.evs.map Ev.c)), .d (.sl 4 (v.tups.map Tp.c))]) R R (by kernel_rfl))<|XL.step R (Au 4 (l:= [.d (dI p.m.count), .d (dI p.m.unit), .d (dI p.m.g0), .d (dI p.m.g1), .d (dI p.m.g2), .d (dI p.m.g3), .d (dI p.m.g4), .d (dI p.m.g5), .d (dI p.off), .d (dI p.len)]) R R (by kernel_rfl))<|?_
 refine XL.step R (A4 6 (l:= [.d (.v (.slice none 0 0)), .d (.v (.slice none 0 0))]) R A9 (by kernel_rfl))<|za R R<|zn<|zs<|zr<|zp (Aa R R Ay)<|zp (Ab R R Bi R R)<|XL.len R R R Tryz.underlying22 fun hl17=>zp (A1 R R R)<|zn<|?_
 refine zd R (fun c18=> ?_) (fun c18=> ?_)
 refine zr<|zp (Ae (s':= .d (.agg [.v (.slice none 0 0), .v (.slice none 0 0)])) (Ac (Ba R B7 A9 R)) (by kernel_rfl))<|XL.step R (Ag (l':= [.d (.v (.slice none 0 0)), .d (.v (.slice none 0 0))]) R R R R Bm R lb (by kernel_rfl))<|za R R<|zn<|zt<|?_
 exact Bl R (RV.sub (RV.cells R R R Ap lb R) (.agg (.cons (.nil 13) (.cons (.nil 4) (.nil))))) (RV.tmp R R) (r2v (Avf hc c18))
 refine zi<|zs<|zr<|zm R R<|zp (Ar R R R)<|zm R R<|?_
 refine XL.dec 22 R (fun g22=> ?_) (fun g22=> ?_)
 refine zk 4 R<|zq R R R<|zn<|Aq (by kernel_rfl) R<|zr<|zp (Ae (s':= .d (.agg [.v (.slice none 0 0), .v (.slice none 0 0)])) (Ac (Ba R B7 A9 R)) (by kernel_rfl))<|XL.step R (Ag (l':= [.d (.v (.slice none 0 0)), .d (.v (.slice none 0 0))]) R R R R Bm R lb (by kernel_rfl))<|za R R<|zn<|zt<|?_
 exact Bl R (RV.sub (RV.cells R R R Ap lb R) (.agg (.cons (.nil 13) (.cons (.nil 4) (.nil))))) (RV.tmp R R) (r2v (Ap8 hc c18 (by omega)))
 refine zm R R<|zp (Aa R R J9)<|zp (Ab R R Ai R R)<|zp (A8 R R R)<|zq R R R<|zn<|?_
 refine zd R (fun c27=> ?_) (fun c27=> ?_)
 refine zr<|zp (Ae (s':= .d (.agg [.v (.slice none 0 0), .v (.slice none 0 0)])) (Ac (Ba R B7 A9 R)) (by kernel_rfl))<|XL.step R (Ag (l':= [.d (.v (.slice none 0 0)), .d (.v (.slice none 0 0))]) R R R R Bm R lb (by kernel_rfl))<|za R R<|zn<|zt<|?_
 exact Bl R (RV.sub (RV.cells R R R Ap lb R) (.agg (.cons (.nil 13) (.cons (.nil 4) (.nil))))) (RV.tmp R R) (r2v (Ap8 hc c18 (by omega)))
 refine zi<|zr<|zp (Ae (s':= .d (.agg (Vo.c v))) (Ac (Ad R R Ap R lb)) (by kernel_rfl))<|zp (Aa R R J9)<|zp (Ab R R Ai R R)<|zm R R<|XL.call1 R R (Atm hck hat1) R<|zm R R<|zp (Bc R R R)<|zp (Bc R R R)<|za R R<|za R R<|zn<|zs<|?_
 refine zr<|zm R R<|zp (Aa R R J9)<|zp (Ab R R Ai R R)<|zp (A1 R R R)<|zm R R<|?_
 refine XL.dec 41 R (fun g41=> ?_) (fun g41=> ?_)
 refine zk 3 R<|zq R R R<|zn<|Aq (by kernel_rfl) R<|zr<|zp (Ae (s':= .d (.agg (Vo.c v))) (Ac (Ad R R Ap R lb)) (by kernel_rfl))<|XL.step R (Ag (l':= [.d (.sl 13 (v.evs.map Ev.c)), .d (.sl 4 (v.tups.map Tp.c))]) R R R R Bm R lb (by kernel_rfl))<|za R R<|zn<|zt<|?_
 exact Bl R (RV.cells R R R Ap lb R) (RV.tmp R R) (r2v (Ap7 hc c18 (by omega) hat1 (by omega)))
 refine zm R R<|zm R R<|zp (A1 R R R)<|zq R R R<|zn<|?_
 refine zd R (fun c45=> ?_) (fun c45=> ?_)
 refine zr<|zp (Ae (s':= .d (.agg (Vo.c v))) (Ac (Ad R R Ap R lb)) (by kernel_rfl))<|XL.step R (Ag (l':= [.d (.sl 13 (v.evs.map Ev.c)), .d (.sl 4 (v.tups.map Tp.c))]) R R R R Bm R lb (by kernel_rfl))<|za R R<|zn<|zt<|?_
 exact Bl R (RV.cells R R R Ap lb R) (RV.tmp R R) (r2v (Ap7 hc c18 (by omega) hat1 (by omega)))
 refine zi<|zs<|?_
 have he0:=hA4 hck (by omega) (by omega)
 have hat:atV v p.len t=((k:Int),a):=by rw [Au3 he0];exact hat1
 have hne:¬(atE v p.len t≠0∨a=t):=by omega
 have hkl:k<(ckL v p.len).length:=by omega
 obtain ⟨w,hw,hat3,hat4,hat5⟩:=Au4 hck (by omega) (by omega) (by omega) hat1
 obtain ⟨x,hx⟩:∃x,v.evs[k]? =some x:=At (by omega)
 have hwb:=hN.bd w (List.mem_of_getElem? hw)
 have hxf:x.fit:=hF.ev x (List.mem_of_getElem? hx)
 have hxh:=hxf.1
 have hab:=hN.take k
 have hab2:=hab.tot
 refine Af (by kernel_rfl)<|zm R R<|zp (Ae (s':= .d (.agg (Vo.c v))) (Ac (Ad R R Ap R lb)) (by kernel_rfl))<|zp (Aa R R J9)<|zp (Ab R R Ai R R)<|XL.call1 R R (Arr hck) R<|zm R R<|zp (Am R R R C4 (hw))<|zp (A0 R R Ai)<|zp (Aj R R R (by omega) (by omega))<|za R R<|zn<|zs<|zr<|?_
 refine zp (Aa R R Bn)<|zp (Ab R R B0 R R)<|zm R R<|XL.call1 R R (Arh _ _ (by assumption)) R<|zn<|?_
 refine Dv (by kernel_rfl) R (fun c59=> ?_) (fun c59=> ?_)
 refine zr<|zp (Ae (s':= .d (.agg [.v (.slice none 0 0), .v (.slice none 0 0)])) (Ac (Ba R B7 A9 R)) (by kernel_rfl))<|XL.step R (Ag (l':= [.d (.v (.slice none 0 0)), .d (.v (.slice none 0 0))]) R R R R Bm R lb (by kernel_rfl))<|za R R<|zn<|zt<|?_
 exact Bl R (RV.sub (RV.cells R R R Ap lb R) (.agg (.cons (.nil 13) (.cons (.nil 4) (.nil))))) (RV.tmp R R) (r2v ((Lk hc c18 (by omega)).trans ((Fo hat hne hx hw).trans (Aux ((Acc hck k).1 c59)))))
 have hnd:¬0<Gz v.tups k:=fun h=>Ait c59 ((Acc hck k).2 h)
 refine zi<|zs<|zr<|zp (Aa R R Gj)<|zp (Ab R R Ai R R)<|zm R R<|zp (Aj R R R (by omega) (by omega))<|zp (Ek R R R (by omega) (by omega))<|zp (Bg R R R)<|zm R R<|?_
 refine XL.dec 67 R (fun g67=> ?_) (fun g67=> ?_)
 refine zk 6 R<|zq R R R<|zm R R<|zk 6 R<|zq R R R<|zn<|Aq (by kernel_rfl) R<|zr<|zp (Ae (s':= .d (.agg [.v (.slice none 0 0), .v (.slice none 0 0)])) (Ac (Ba R B7 A9 R)) (by kernel_rfl))<|XL.step R (Ag (l':= [.d (.v (.slice none 0 0)), .d (.v (.slice none 0 0))]) R R R R Bm R lb (by kernel_rfl))<|za R R<|zn<|zt<|?_
 exact Bl R (RV.sub (RV.cells R R R Ap lb R) (.agg (.cons (.nil 13) (.cons (.nil 4) (.nil))))) (RV.tmp R R) (r2v ((Lk hc c18 (by omega)).trans ((Fo hat hne hx hw).trans (Aji hme (by omega) (by omega) (by omega) (by omega) (by omega) hnd (by omega)))))
 refine zp (Aa R R Gj)<|zp (Ab R R Ai R R)<|zm R R<|zp (Aj R R R (by omega) (by omega))<|zp (Ek R R R (by omega) (by omega))<|zp (Bg R R R)<|zq R R R<|zm R R<|?_
 refine XL.dec 75 R (fun g75=> ?_) (fun g75=> ?_)
 refine zk 6 R<|zq R R R<|zn<|Aq (by kernel_rfl) R<|zr<|zp (Ae (s':= .d (.agg [.v (.slice none 0 0), .v (.slice none 0 0)])) (Ac (Ba R B7 A9 R)) (by kernel_rfl))<|XL.step R (Ag (l':= [.d (.v (.slice none 0 0)), .d (.v (.slice none 0 0))]) R R R R Bm R lb (by kernel_rfl))<|za R R<|zn<|zt<|?_
 exact Bl R (RV.sub (RV.cells R R R Ap lb R) (.agg (.cons (.nil 13) (.cons (.nil 4) (.nil))))) (RV.tmp R R) (r2v ((Lk hc c18 (by omega)).trans ((Fo hat hne hx hw).trans (Aji hme (by omega) (by omega) (by omega) (by omega) (by omega) hnd (by omega)))))
 refine zp (Aa R R Gj)<|zp (Ab R R Ai R R)<|zm R R<|zp (Aj R R R (by omega) (by omega))<|zp (Ek R R R (by omega) (by omega))<|zp (Bg R R R)<|zq R R R<|zn<|?_
 refine zd R (fun c82=> ?_) (fun c82=> ?_)
 refine zr<|zp (Ae (s':= .d (.agg [.v (.slice none 0 0), .v (.slice none 0 0)])) (Ac (Ba R B7 A9 R)) (by kernel_rfl))<|XL.step R (Ag (l':= [.d (.v (.slice none 0 0)), .d (.v (.slice none 0 0))]) R R R R Bm R lb (by kernel_rfl))<|za R R<|zn<|zt<|?_
 exact Bl R (RV.sub (RV.cells R R R Ap lb R) (.agg (.cons (.nil 13) (.cons (.nil 4) (.nil))))) (RV.tmp R R) (r2v ((Lk hc c18 (by omega)).trans ((Fo hat hne hx hw).trans (Aji hme (by omega) (by omega) (by omega) (by omega) (by omega) hnd (by omega)))))
 refine zi<|zs<|?_
 have hs1:p.m.splitE (p.off+a) (p.off+t)=0:=by rw [Zx hme (by omega) (by omega) (by omega) (by omega),if_neg (by omega)]
 have hs2:p.m.splitE (p.off+t) (p.off+(a+w))=0:=by rw [Zx hme (by omega) (by omega) (by omega) (by omega),if_neg (by omega)]
 have hq1:=Jy p.m (p.off+a) (p.off+t)
 have hq2:=Jy p.m (p.off+t) (p.off+(a+w))
 have hdl:(C5 p t a w x).length=(p.m.split (p.off+a) (p.off+t)).length+(p.m.split (p.off+t) (p.off+(a+w))).length:=by rw [C5,List.length_append,Cs,Cs]
 have htl:=hsv.tups
 obtain ⟨k1,hk1⟩:∃k1:Nat,k1=k+1:=⟨_,rfl⟩
 refine Af (by kernel_rfl)<|zp (Aa R R Ay)<|zp (Ab R R Bi R R)<|zm R R<|zp (Am R R R B6 (hx))<|zp (Ae (s':= .d (.agg (Ev.c x))) (Av R R Az lb) (by kernel_rfl))<|?_
 refine XL.step R (A4 11 (l:= [.d (dI 0), .d (dI 0), .d (dI 0), .d (dI 0), .d (dI 0), .d (.v (.slice none 0 0)), .d (.v (.slice none 0 0)), .d (dI 0), .d (dI 0), .d (dI 0), .d (.v (.slice none 0 0)), .d (dI 0), .d (dI 0)]) R B3 (by kernel_rfl))<|?_
 refine XL.step R (Ag (l':= [.d (dI x.site), .d (dI x.num), .d (dI x.kind), .d (dI x.v.log), .d (dI x.v.dots), .d (.sl 5 (x.heads.map Hd.c)), .d (.sl 5 (x.graces.map Gr.c)), .d (dI x.art), .d (dI x.orn), .d (dI x.dyn), .d (.sl 2 (x.lyr.map Sy.c)), .d (dI x.stem), .d (dI x.beam)]) R R R R B4 R lb (by kernel_rfl))<|zn<|zs<|zr<|zp (Aa R R Bz)<|zp (Ab R R Ai R R)<|?_
 refine zp (A1 R R R)<|zn<|?_
 refine zd R (fun c91=> ?_) (fun c91=> ?_)
 refine Af (by kernel_rfl)<|zp (Aa R R Bz)<|XL.step R (Ag (l':= [.d (dI x.site), .d (dI x.num), .d (dI 2), .d (dI x.v.log), .d (dI x.v.dots), .d (.sl 5 (x.heads.map Hd.c)), .d (.sl 5 (x.graces.map Gr.c)), .d (dI x.art), .d (dI x.orn), .d (dI x.dyn), .d (.sl 2 (x.lyr.map Sy.c)), .d (dI x.stem), .d (dI x.beam)]) R R R R Dc R lb (by kernel_rfl))<|znr<|?_
 refine zp (Ae (s':= .d (.agg [dI x.site,dI x.num,dI 2,dI x.v.log,dI x.v.dots, .sl 5 (x.heads.map Hd.c), .sl 5 (x.graces.map Gr.c),dI x.art,dI x.orn,dI x.dyn, .sl 2 (x.lyr.map Sy.c),dI x.stem,dI x.beam])) (Ac (Ad R R Az R lb)) (by kernel_rfl))<|?_
 refine XL.step R (A4 12 (l:= [.d (dI 0), .d (dI 0), .d (dI 0), .d (dI 0), .d (dI 0), .d (.v (.slice none 0 0)), .d (.v (.slice none 0 0)), .d (dI 0), .d (dI 0), .d (dI 0), .d (.v (.slice none 0 0)), .d (dI 0), .d (dI 0)]) R B3 (by kernel_rfl))<|?_
 refine XL.step R (Ag (l':= [.d (dI x.site), .d (dI x.num), .d (dI 2), .d (dI x.v.log), .d (dI x.v.dots), .d (.sl 5 (x.heads.map Hd.c)), .d (.sl 5 (x.graces.map Gr.c)), .d (dI x.art), .d (dI x.orn), .d (dI x.dyn), .d (.sl 2 (x.lyr.map Sy.c)), .d (dI x.stem), .d (dI x.beam)]) R R R R B4 R lb (by kernel_rfl))<|znr<|zp (Aa R R Be)<|zp (Ab R R Cu R R)<|?_
 refine XL.call1 R R (Kh _ (by omega)) R<|zp (Aa R R Be)<|XL.step R (Ag (l':= [.d (dI x.site), .d (dI x.num), .d (dI 2), .d (dI x.v.log), .d (dI x.v.dots), .d (.sl 5 ((x.heads.map Hd.tie).map Hd.c)), .d (.sl 5 (x.graces.map Gr.c)), .d (dI x.art), .d (dI x.orn), .d (dI x.dyn), .d (.sl 2 (x.lyr.map Sy.c)), .d (dI x.stem), .d (dI x.beam)]) R R R R Hs R lb (by kernel_rfl))<|?_
 refine zn<|zs<|Ci 24 [7001] (by kernel_rfl) (by kernel_rfl) (by kernel_rfl) (by kernel_rfl) (by decide)<|yp (Ae (s':= .d (.agg [dI x.site,dI x.num,dI 2,dI x.v.log,dI x.v.dots, .sl 5 ((x.heads.map Hd.tie).map Hd.c), .sl 5 (x.graces.map Gr.c),dI x.art,dI x.orn,dI x.dyn, .sl 2 (x.lyr.map Sy.c),dI x.stem,dI x.beam])) (Ac (Ad R R Az R lb)) (by kernel_rfl))<|?_
 refine yp (Aa R R Oc)<|yp (Ae (s':= .d (.agg (Me.c p.m))) (Ac (Ad R R Bq R lb)) (by kernel_rfl))<|yp (Aa R R Gj)<|yp (Ab R R Ai R R)<|ym R R<|yp (Aj R R R (by omega) (by omega))<|yp (Aa R R Gj)<|yp (Ab R R Ai R R)<|ym R R<|yp (Aj R R R (by omega) (by omega))<|?_
 refine ChK.cons R (CStep.callS R ((Ye (x.asRest.tiedE) p.m (p.off+a) (p.off+t) hxf.rest.tied hs1).lab 7001) R (Er (by kernel_rfl)))<|?_
 refine yp (Ae (s':= .d (.agg [dI x.site,dI x.num,dI 2,dI x.v.log,dI x.v.dots, .sl 5 (x.heads.map Hd.c), .sl 5 (x.graces.map Gr.c),dI x.art,dI x.orn,dI x.dyn, .sl 2 (x.lyr.map Sy.c),dI x.stem,dI x.beam])) (Ac (Ad R R Az R lb)) (by kernel_rfl))<|ChK.cons R (CStep.call R (Oo x.asRest hxf.rest) R)<|yp (Aa R R Oc)<|?_
 refine yp (Ae (s':= .d (.agg (Me.c p.m))) (Ac (Ad R R Bq R lb)) (by kernel_rfl))<|yp (Aa R R Gj)<|yp (Ab R R Ai R R)<|ym R R<|yp (Aj R R R (by omega) (by omega))<|yp (Aa R R Gj)<|yp (Ab R R Ai R R)<|ym R R<|yp (Aj R R R (by omega) (by omega))<|?_
 refine ChK.nil ⟨by kernel_rfl, ?_⟩
 refine XL.call1 R R (Yf (x.asRest.furV) p.m (p.off+t) (p.off+(a+w)) (Abx hxf.rest) hs2) R<|?_
 refine XL.step R (A3 R Dz (.own R) (Src.sl (by omega)) (by simp only [List.length_append,List.length_map,Cs,List.length_take,List.length_drop,List.length_nil];unfold maxLen;omega) (by simp only [List.length_append,List.length_map,Cs,List.length_take,List.length_drop,List.length_nil];omega))<|zp (As R (by conv=>lhs;whnf))<|?_
 refine znr<|XL.step R (Bj 124 R Tryz.underlying22 B4 B3 R R (by omega) (by omega))<|zp (Aa R R Ay)<|zp (Ab R R Bi R R)<|zm R R<|zp (En R R B6 Bd.no (Bd.at R) (by omega) (by omega))<|XL.step R (A3 R Dz (.own R) (Src.sl (by omega)) (by unfold maxLen;simp;omega) (by simp;omega))<|zp (Ac (Ba R B7 A9 R))<|?_
 refine XL.step R (A4 14 (l:= [.d (.v (.slice none 0 0)), .d (.v (.slice none 0 0))]) R A9 (by kernel_rfl))<|XL.step R (Ag (l':= [.own 124, .d (.v (.slice none 0 0))]) R R R R Bm R lb (by kernel_rfl))<|zn<|zs<|?_
 refine Js 3 9 [] (S.kill 124) 124 (R4 124 (.row 60 13 ((v.evs.take k++C5 p t a w x).map Ev.c))) (by kernel_rfl) (by kernel_rfl) (by kernel_rfl) (by kernel_rfl) (by decide)<|ChMK.bf R (CStep.pure (Aa R R Ay)) (by conv=>lhs;whnf)<|?_
 refine ChMK.bf R (CStep.pure (Ab R R Bi R R)) (by conv=>lhs;whnf)<|?_
 refine ChMK.bf R (CStep.pure (Aw R (by conv=>lhs;whnf))) (by conv=>lhs;whnf)<|?_
 refine ChMK.mu R (N6 (l2:=(v.evs.take k++C5 p t a w x).map Ev.c) R Dz (.own R) (Src.own R) (by simp only [List.length_append,List.length_map,Cs,List.length_take,List.length_drop,List.length_nil];unfold maxLen;omega) (by simp only [List.length_append,List.length_map,Cs,List.length_take,List.length_drop,List.length_nil];omega) (by first|(rw [←Zq c91];simp only [List.map_append,List.nil_append,List.drop_zero])|(rw [←Zr c91];simp only [List.map_append,List.nil_append,List.drop_zero])))<|?_
 refine ChMK.fr R R (CStep.pure (Aa R R Ay)) (CStep.pure (Aa R R Ay)) (by exact rfl)<|ChMK.fr R R (CStep.pure (Ab R R Bi R R)) (CStep.pure (Ab R R Bi R R)) (by exact rfl)<|ChMK.fr R R (CStep.pure (Aw R (by conv=>lhs;whnf))) (CStep.pure (Aw R (by conv=>lhs;whnf))) (by exact rfl)<|?_
 refine ChMK.fr R R (CStep.pure (Ae (s':= .d (dI (k1:Nat))) (Aj R R R (by omega) (by omega)) (sI (by omega)))) (CStep.pure (Ae (s':= .d (dI (k1:Nat))) (Aj R R R (by omega) (by omega)) (sI (by omega)))) (by exact rfl)<|?_
 refine ChMK.fr R R (CStep.pure (En R R B6 (Bd.at R) Bd.no (by omega) (Nat.le_refl _))) (CStep.pure (En R R B6 (Bd.at R) Bd.no (by omega) (Nat.le_refl _))) (by exact rfl)<|?_
 refine ChMK.nil ⟨⟨by kernel_rfl,by kernel_rfl,by kernel_rfl⟩, ?_⟩
 refine XL.step R (A3 R Dz (.own R) (Src.sl (by omega)) (by simp only [List.length_append,List.length_map,Cs,List.length_take,List.length_drop,List.length_nil];unfold maxLen;omega) (by simp only [List.length_append,List.length_map,Cs,List.length_take,List.length_drop,List.length_nil];omega))<|zp (Aa R R Ay)<|?_
 refine XL.step R (Ag (l':= [.own 124, .d (.v (.slice none 0 0))]) R R R R Vi R lb (by kernel_rfl))<|znr<|zp (Aa R R Bn)<|zp (Ab R R B0 R R)<|XL.call1 R R (J2 _ (by omega)) R<|zm R R<|zp (Aj R R R (by omega) (by omega))<|zp (Aw R (by conv=>lhs;whnf))<|?_
 refine zp (Ae (s':= .d (dI ((C5 p t a w x).length:Nat))) (Mm R R R Tryz.underlying22) (by first|(rw [←Zq c91];simp only [List.length_append,List.length_map])|(rw [←Zr c91];simp only [List.length_append,List.length_map])))<|zp (C7 R R R (by omega) (by omega))<|XL.call1 R R (Vz _ _ _ (by assumption) (by omega) (by omega)) R<|?_
 refine XL.call1 R R (Aau _ (by rw [List.length_map];omega)) R<|zp (Aa R R Bn)<|XL.step R (Ag (l':= [.own 124, .d (.sl 4 ((v.tups.map (Jd ((k:Nat)+1) (((C5 p t a w x).length:Nat) - 1))).map Tp.c))]) R R R R Hb R lb (by kernel_rfl))<|zn<|zs<|zr<|zp (Aa R R Ay)<|zp (Ab R R Bi R R)<|?_
 refine zp (Ae (s':= .d (dI ((v.evs.take k++C5 p t a w x++v.evs.drop k1).length:Nat))) (Mm R R R Tryz.underlying22) (by simp only [List.length_append,List.length_map,List.take_length]))<|zp (A8 R R R)<|zn<|?_
 refine zd R (fun c156=> ?_) (fun c156=> ?_)
 refine zr<|zp (Ae (s':= .d (.agg [.v (.slice none 0 0), .v (.slice none 0 0)])) (Ac (Ba R B7 A9 R)) (by kernel_rfl))<|XL.step R (Ag (l':= [.d (.v (.slice none 0 0)), .d (.v (.slice none 0 0))]) R R R R Bm R lb (by kernel_rfl))<|za R R<|zn<|zt<|?_
 exact Bl R (RV.sub (RV.cells R R R Ap lb R) (.agg (.cons (.nil 13) (.cons (.nil 4) (.nil))))) (RV.tmp R R) (r2v ((Lk hc c18 (by omega)).trans ((Fo hat hne hx hw).trans (Akk hnd (by omega) (by omega) R (by rw [Sw hck hnd hk1];exact c156)))))
 refine zi<|zr<|zp (Ac (Ad R R Ap R lb))<|XL.step R (Ag (l':= [.own 124, .d (.sl 4 ((v.tups.map (Jd ((k:Nat)+1) (((C5 p t a w x).length:Nat) - 1))).map Tp.c))]) R R R R Bm R lb (by kernel_rfl))<|za R R<|zn<|zt<|Bf (i:=124) R<|?_
 exact Bl R (RV.cells R R R Ap lb R) (RV.tmp R R) (by rw [Lk hc c18 (by omega),Fo hat hne hx hw,Akj hnd (by omega) (by omega) rfl (by rw [Sw hck hnd hk1];exact c156),Sw hck hnd hk1];simp only [Vo.c,List.map_append,List.take_length];rfl)
 refine zi<|zr<|zp (Ae (s':= .d (.agg (Ev.c x))) (Ac (Ad R R Az R lb)) (by kernel_rfl))<|XL.step R (A4 12 (l:= [.d (dI 0), .d (dI 0), .d (dI 0), .d (dI 0), .d (dI 0), .d (.v (.slice none 0 0)), .d (.v (.slice none 0 0)), .d (dI 0), .d (dI 0), .d (dI 0), .d (.v (.slice none 0 0)), .d (dI 0), .d (dI 0)]) R B3 (by kernel_rfl))<|?_
 refine XL.step R (Ag (l':= [.d (dI x.site), .d (dI x.num), .d (dI x.kind), .d (dI x.v.log), .d (dI x.v.dots), .d (.sl 5 (x.heads.map Hd.c)), .d (.sl 5 (x.graces.map Gr.c)), .d (dI x.art), .d (dI x.orn), .d (dI x.dyn), .d (.sl 2 (x.lyr.map Sy.c)), .d (dI x.stem), .d (dI x.beam)]) R R R R B4 R lb (by kernel_rfl))<|znr<|zp (Aa R R Be)<|zp (Ab R R Cu R R)<|?_
 refine XL.call1 R R (Kh _ (by omega)) R<|zp (Aa R R Be)<|?_
 refine XL.step R (Ag (l':= [.d (dI x.site), .d (dI x.num), .d (dI x.kind), .d (dI x.v.log), .d (dI x.v.dots), .d (.sl 5 ((x.heads.map Hd.tie).map Hd.c)), .d (.sl 5 (x.graces.map Gr.c)), .d (dI x.art), .d (dI x.orn), .d (dI x.dyn), .d (.sl 2 (x.lyr.map Sy.c)), .d (dI x.stem), .d (dI x.beam)]) R R R R Hs R lb (by kernel_rfl))<|zn<|zs<|?_
 refine Ci 24 [7001] (by kernel_rfl) (by kernel_rfl) (by kernel_rfl) (by kernel_rfl) (by decide)<|yp (Ae (s':= .d (.agg [dI x.site,dI x.num,dI x.kind,dI x.v.log,dI x.v.dots, .sl 5 ((x.heads.map Hd.tie).map Hd.c), .sl 5 (x.graces.map Gr.c),dI x.art,dI x.orn,dI x.dyn, .sl 2 (x.lyr.map Sy.c),dI x.stem,dI x.beam])) (Ac (Ad R R Az R lb)) (by kernel_rfl))<|?_
 refine yp (Aa R R Oc)<|yp (Ae (s':= .d (.agg (Me.c p.m))) (Ac (Ad R R Bq R lb)) (by kernel_rfl))<|yp (Aa R R Gj)<|yp (Ab R R Ai R R)<|ym R R<|yp (Aj R R R (by omega) (by omega))<|yp (Aa R R Gj)<|yp (Ab R R Ai R R)<|ym R R<|yp (Aj R R R (by omega) (by omega))<|?_
 refine ChK.cons R (CStep.callS R ((Ye (x.tiedE) p.m (p.off+a) (p.off+t) hxf.tied hs1).lab 7001) R (Er (by kernel_rfl)))<|yp (Ae (s':= .d (.agg (Ev.c x))) (Ac (Ad R R Az R lb)) (by kernel_rfl))<|ChK.cons R (CStep.call R (Oo x hxf) R)<|yp (Aa R R Oc)<|?_
 refine yp (Ae (s':= .d (.agg (Me.c p.m))) (Ac (Ad R R Bq R lb)) (by kernel_rfl))<|yp (Aa R R Gj)<|yp (Ab R R Ai R R)<|ym R R<|yp (Aj R R R (by omega) (by omega))<|yp (Aa R R Gj)<|yp (Ab R R Ai R R)<|ym R R<|yp (Aj R R R (by omega) (by omega))<|?_
 refine ChK.nil ⟨by kernel_rfl, ?_⟩
 refine XL.call1 R R (Yf (x.furV) p.m (p.off+t) (p.off+(a+w)) (Abx hxf) hs2) R<|?_
 refine XL.step R (A3 R Dz (.own R) (Src.sl (by omega)) (by simp only [List.length_append,List.length_map,Cs,List.length_take,List.length_drop,List.length_nil];unfold maxLen;omega) (by simp only [List.length_append,List.length_map,Cs,List.length_take,List.length_drop,List.length_nil];omega))<|zp (As R (by conv=>lhs;whnf))<|?_
 refine znr<|XL.step R (Bj 124 R Tryz.underlying22 B4 B3 R R (by omega) (by omega))<|zp (Aa R R Ay)<|zp (Ab R R Bi R R)<|zm R R<|zp (En R R B6 Bd.no (Bd.at R) (by omega) (by omega))<|XL.step R (A3 R Dz (.own R) (Src.sl (by omega)) (by unfold maxLen;simp;omega) (by simp;omega))<|zp (Ac (Ba R B7 A9 R))<|?_
 refine XL.step R (A4 14 (l:= [.d (.v (.slice none 0 0)), .d (.v (.slice none 0 0))]) R A9 (by kernel_rfl))<|XL.step R (Ag (l':= [.own 124, .d (.v (.slice none 0 0))]) R R R R Bm R lb (by kernel_rfl))<|zn<|zs<|?_
 refine Js 3 9 [] (S.kill 124) 124 (R4 124 (.row 60 13 ((v.evs.take k++C5 p t a w x).map Ev.c))) (by kernel_rfl) (by kernel_rfl) (by kernel_rfl) (by kernel_rfl) (by decide)<|ChMK.bf R (CStep.pure (Aa R R Ay)) (by conv=>lhs;whnf)<|?_
 refine ChMK.bf R (CStep.pure (Ab R R Bi R R)) (by conv=>lhs;whnf)<|?_
 refine ChMK.bf R (CStep.pure (Aw R (by conv=>lhs;whnf))) (by conv=>lhs;whnf)<|?_
 refine ChMK.mu R (N6 (l2:=(v.evs.take k++C5 p t a w x).map Ev.c) R Dz (.own R) (Src.own R) (by simp only [List.length_append,List.length_map,Cs,List.length_take,List.length_drop,List.length_nil];unfold maxLen;omega) (by simp only [List.length_append,List.length_map,Cs,List.length_take,List.length_drop,List.length_nil];omega) (by first|(rw [←Zq c91];simp only [List.map_append,List.nil_append,List.drop_zero])|(rw [←Zr c91];simp only [List.map_append,List.nil_append,List.drop_zero])))<|?_
 refine ChMK.fr R R (CStep.pure (Aa R R Ay)) (CStep.pure (Aa R R Ay)) (by exact rfl)<|ChMK.fr R R (CStep.pure (Ab R R Bi R R)) (CStep.pure (Ab R R Bi R R)) (by exact rfl)<|ChMK.fr R R (CStep.pure (Aw R (by conv=>lhs;whnf))) (CStep.pure (Aw R (by conv=>lhs;whnf))) (by exact rfl)<|?_
 refine ChMK.fr R R (CStep.pure (Ae (s':= .d (dI (k1:Nat))) (Aj R R R (by omega) (by omega)) (sI (by omega)))) (CStep.pure (Ae (s':= .d (dI (k1:Nat))) (Aj R R R (by omega) (by omega)) (sI (by omega)))) (by exact rfl)<|?_
 refine ChMK.fr R R (CStep.pure (En R R B6 (Bd.at R) Bd.no (by omega) (Nat.le_refl _))) (CStep.pure (En R R B6 (Bd.at R) Bd.no (by omega) (Nat.le_refl _))) (by exact rfl)<|?_
 refine ChMK.nil ⟨⟨by kernel_rfl,by kernel_rfl,by kernel_rfl⟩, ?_⟩
 refine XL.step R (A3 R Dz (.own R) (Src.sl (by omega)) (by simp only [List.length_append,List.length_map,Cs,List.length_take,List.length_drop,List.length_nil];unfold maxLen;omega) (by simp only [List.length_append,List.length_map,Cs,List.length_take,List.length_drop,List.length_nil];omega))<|zp (Aa R R Ay)<|?_
 refine XL.step R (Ag (l':= [.own 124, .d (.v (.slice none 0 0))]) R R R R Vi R lb (by kernel_rfl))<|znr<|zp (Aa R R Bn)<|zp (Ab R R B0 R R)<|XL.call1 R R (J2 _ (by omega)) R<|zm R R<|zp (Aj R R R (by omega) (by omega))<|zp (Aw R (by conv=>lhs;whnf))<|?_
 refine zp (Ae (s':= .d (dI ((C5 p t a w x).length:Nat))) (Mm R R R Tryz.underlying22) (by first|(rw [←Zq c91];simp only [List.length_append,List.length_map])|(rw [←Zr c91];simp only [List.length_append,List.length_map])))<|zp (C7 R R R (by omega) (by omega))<|XL.call1 R R (Vz _ _ _ (by assumption) (by omega) (by omega)) R<|?_
 refine XL.call1 R R (Aau _ (by rw [List.length_map];omega)) R<|zp (Aa R R Bn)<|XL.step R (Ag (l':= [.own 124, .d (.sl 4 ((v.tups.map (Jd ((k:Nat)+1) (((C5 p t a w x).length:Nat) - 1))).map Tp.c))]) R R R R Hb R lb (by kernel_rfl))<|zn<|zs<|zr<|zp (Aa R R Ay)<|zp (Ab R R Bi R R)<|?_
 refine zp (Ae (s':= .d (dI ((v.evs.take k++C5 p t a w x++v.evs.drop k1).length:Nat))) (Mm R R R Tryz.underlying22) (by simp only [List.length_append,List.length_map,List.take_length]))<|zp (A8 R R R)<|zn<|?_
 refine zd R (fun c156=> ?_) (fun c156=> ?_)
 refine zr<|zp (Ae (s':= .d (.agg [.v (.slice none 0 0), .v (.slice none 0 0)])) (Ac (Ba R B7 A9 R)) (by kernel_rfl))<|XL.step R (Ag (l':= [.d (.v (.slice none 0 0)), .d (.v (.slice none 0 0))]) R R R R Bm R lb (by kernel_rfl))<|za R R<|zn<|zt<|?_
 exact Bl R (RV.sub (RV.cells R R R Ap lb R) (.agg (.cons (.nil 13) (.cons (.nil 4) (.nil))))) (RV.tmp R R) (r2v ((Lk hc c18 (by omega)).trans ((Fo hat hne hx hw).trans (Akk hnd (by omega) (by omega) R (by rw [Sw hck hnd hk1];exact c156)))))
 refine zi<|zr<|zp (Ac (Ad R R Ap R lb))<|XL.step R (Ag (l':= [.own 124, .d (.sl 4 ((v.tups.map (Jd ((k:Nat)+1) (((C5 p t a w x).length:Nat) - 1))).map Tp.c))]) R R R R Bm R lb (by kernel_rfl))<|za R R<|zn<|zt<|Bf (i:=124) R<|?_
 exact Bl R (RV.cells R R R Ap lb R) (RV.tmp R R) (by rw [Lk hc c18 (by omega),Fo hat hne hx hw,Akj hnd (by omega) (by omega) rfl (by rw [Sw hck hnd hk1];exact c156),Sw hck hnd hk1];simp only [Vo.c,List.map_append,List.take_length];rfl)
end Go.Proofs.YtcihalbakenleaaGreat
namespace Go.Proofs.YtcihalbakenleaaGreat
open Go.RowKit
theorem Ain {v:Vo} {L:Int} (h:ckE v L=0):v.tups.length≤1000:=by have:=(Kr h).1.tups;omega
end Go.Proofs.YtcihalbakenleaaGreat
namespace Go.Proofs.YtcihalbakenleaaGreat
open Go.RowKit
theorem At2 {l:List Int} (hp:∀x∈l,0<x) {j k:Nat} {x y:Int} (hjk:j<k) (hx:(Bh l)[j]? =some x) (hy:(Bh l)[k]? =some y):x<y:=by
 have h1:=G3 hx
 have h2:=G3 hy
 have hjl:j<l.length:=by have:=(List.getElem?_eq_some_iff.1 hx).1;rwa [I7] at this
 obtain ⟨w,hw⟩:=At hjl
 have h3:=Nq hp (j:=j+1) (k:=k) (by omega)
 rw [Bo hw,Hm] at h3
 have:=hp w (List.mem_of_getElem? hw)
 omega
theorem Jf {l:List Int} (hp:∀x∈l,0<x) {j:Nat} {x a:Int} (hx:(Bh l)[j]? =some x):x<a↔j<Bu (Bh l) a:=by
 have e:=(List.getElem?_eq_some_iff.1 hx).2
 constructor
 ·intro h
  rw [←Nat.not_le];intro hle
  have hjl:=(List.getElem?_eq_some_iff.1 hx).1
  have hlt:Bu (Bh l) a<(Bh l).length:=by omega
  have h1:decide (a≤(Bh l)[Bu (Bh l) a])=true:=List.findIdx_getElem (w:=hlt)
  obtain ⟨y,hy⟩:=At hlt
  have hy2:(Bh l)[Bu (Bh l) a]=y:=(List.getElem?_eq_some_iff.1 hy).2
  rw [hy2] at h1
  have h1:=of_decide_eq_true h1
  rcases Nat.lt_or_eq_of_le hle with k|k
  ·have:=At2 hp k hy hx;omega
  ·rw [k,hx] at hy;cases hy;omega
 ·intro h
  have:=List.not_of_lt_findIdx (p:=fun x=>decide (a≤x)) h
  rw [e] at this
  simpa using this
theorem Wq {l:List Int} (hp:∀x∈l,0<x) {a b:Int} (hab:a≤b):Bu (Bh l) a≤Bu (Bh l) b:=by
 rw [←Nat.not_lt];intro h
 obtain ⟨y,hy⟩:=At (show Bu (Bh l) b<(Bh l).length from Nat.lt_of_lt_of_le h (Ix _ _))
 have h1:=(Jf hp hy (a:=a)).2 h
 have h2:=(Jf hp hy (a:=b)).1 (by omega)
 omega
theorem Wk {l:List Int} (hp:∀x∈l,0<x) {a b:Int} (hab:a≤b):Gu (Bh l) a b=Bu (Bh l) b:=by
 refine N8 (Wq hp hab) (Ix _ _) (fun j x h1 h2 hx=> ?_) ?_
 ·have h3:=(Jf hp hx (a:=b)).2 h2
  have h4:¬x<a:=fun h=>by have:=(Jf hp hx (a:=a)).1 h;omega
  exact decide_eq_true ⟨by omega,h3⟩
 ·by_cases c:Bu (Bh l) b=(Bh l).length
  ·exact .inl c
  ·obtain ⟨y,hy⟩:=At (show Bu (Bh l) b<(Bh l).length by have:=Ix (Bh l) b;omega)
   refine .inr ⟨y,hy,decide_eq_false fun h=> ?_⟩
   have:=(Jf hp hy (a:=b)).1 h.2;omega
theorem Xp {v:Vo} {p:Pl} {t:Int} (hc:p.chk v=0) (hn:v.evs≠ []) (h:(Al v p t).2=0):(Al v p t).1.evs≠ []:=by
 obtain ⟨hme,hpb,hck⟩:=Dn hc
 rcases Apq hc t with h|⟨h',_⟩|⟨k,a,w,x,hk,hw,ha,hat,hat2,hne,hd,h1,h2,hl,he⟩
 ·rw [h];exact hn
 ·exact absurd h h'
 ·rw [he]
  intro e
  have e2:v.evs.take k++C5 p t a w x++v.evs.drop (k+1)= []:=e
  have e3:C5 p t a w x= []:=by
   have:=List.append_eq_nil_iff.1 e2
   exact (List.append_eq_nil_iff.1 this.1).2
  have hxe:=(Ip hck).1 x (List.mem_of_getElem? hk)
  obtain ⟨_,q⟩:=Xq hxe h1 h2 (by rw [e3];exact Nat.zero_le _)
  have:=Nl hck w (List.mem_of_getElem? hw)
  rw [e3] at q
  have q2:(0:Int)=w:=q
  omega
structure RegOk (v:Vo) (p:Pl) (a b:Int) (d:Vo) (f l:Nat):Prop where
 hc:p.chk v=0
 ne:v.evs≠ []
 d2:d=(Al (Al v p a).1 p b).1
 e1:(Al v p a).2=0
 e2:(Al (Al v p a).1 p b).2=0
 c1:p.chk (Al v p a).1=0
 n1:(Al v p a).1.evs≠ []
 chk:p.chk d=0
 dne:d.evs≠ []
 fit:v.fit→d.fit
 fl:f≤l
 ll:l≤d.evs.length
 fe:f=Bu (Bh (ckL d p.len)) a
 le:l=Bu (Bh (ckL d p.len)) b
 no:∀t∈d.tups,¬Ds t f l
 rng:0≤a∧a≤b∧b≤p.len
theorem Asz {v:Vo} {p:Pl} (hc:p.chk v=0) (h:¬v.absent):v.evs≠ []:=fun e=>h ⟨by rw [e];rfl,by rw [Xr (Dn hc).2.2 (by rw [e];rfl)];rfl⟩
theorem Ui (v:Vo) (p:Pl) (a b:Int):∃(d:Vo) (f l:Nat) (e:Int),Fh v p a b=(d,(f:Int),(l:Int),e)∧(e=0→RegOk v p a b d f l):=by
 by_cases c1:p.chk v≠0
 ·exact ⟨_,0,0,_,An3 c1,fun h=>absurd h c1⟩
 by_cases c2:v.absent
 ·exact ⟨_,0,0,_,An2 c1 c2,fun h=>by cases h⟩
 by_cases c3:a<0∨b<a∨p.len<b
 ·exact ⟨_,0,0,_,Ue c1 c2 c3,fun h=>by cases h⟩
 rw [E4 c1 c2 c3]
 by_cases c4:(Al v p a).2≠0
 ·exact ⟨_,0,0,_,An1 c4,fun h=>absurd h c4⟩
 by_cases c5:(Al (Al v p a).1 p b).2≠0
 ·exact ⟨_,0,0,_,An0 c4 c5,fun h=>absurd h c5⟩
 rw [F2 c4 c5]
 have hc0:p.chk v=0:=by omega
 have hn0:=Asz hc0 c2
 have hc1:=Md (t:=a) hc0 (by omega)
 have hn1:=Xp (t:=a) hc0 hn0 (by omega)
 have hc2:=Md (t:=b) hc1 (by omega)
 have hn2:=Xp (t:=b) hc1 hn1 (by omega)
 obtain ⟨d,hd⟩:∃d,d=(Al (Al v p a).1 p b).1:=⟨_,rfl⟩
 rw [←hd] at hc2 hn2 ⊢
 have hp:=Nl (Dn hc2).2.2
 have hl:=Wk hp (show a≤b by omega)
 by_cases c6:∃t∈d.tups,Ds t (Bu (Bh (ckL d p.len)) a) (Gu (Bh (ckL d p.len)) a b)
 ·exact ⟨_,0,0,_,by rw [Rw,if_pos c6];rfl,fun h=>by cases h⟩
 ·refine ⟨d,Bu (Bh (ckL d p.len)) a,Gu (Bh (ckL d p.len)) a b,0,by rw [Rw,if_neg c6],fun _=> ?_⟩
  exact ⟨hc0, hn0, hd, by omega, by omega, hc1, hn1, hc2, hn2, fun hF => by rw [hd]; exact Od hc1 (Od hc0 hF (by omega)) (by omega), by rw [hl]; exact Wq hp (by omega),
   by have := Abo (Bh (ckL d p.len)) a b; rw [I7, H1 (Dn hc2).2.2] at this; exact this.2, rfl, hl, fun t ht hs => c6 ⟨t, ht, hs⟩, by omega⟩
theorem Atk {v:Vo} {p:Pl} {a b:Int} {d:Vo} {f l:Nat} {e:Int} (hE:Evs v.evs) (hF:v.fit) (h:Fh v p a b=(d,(f:Int),(l:Int),e)):XC Tryz.prog 83 [.agg (Vo.c v), .agg (Pl.c p),dI a,dI b] (fun r=>r= .tup [.agg (Vo.c d),dI (f:Nat),dI (l:Nat),dI e]):=by
 have:=Alw v p a b hE hF
 rw [h] at this
 exact this
def Awk (d:Vo) (f l:Nat):Vo:=⟨(d.evs.take l).drop f,Cg (fun t=>decide ((f:Int)≤t.first∧t.first<l)) (-f) d.tups⟩
def CutS (v:Vo) (p:Pl) (a b:Int):Vo × Int:=if (Fh v p a b).2.2.2≠0 then (⟨[], []⟩,(Fh v p a b).2.2.2) else (Awk (Fh v p a b).1 (Fh v p a b).2.1.toNat (Fh v p a b).2.2.1.toNat,0)
end Go.Proofs.YtcihalbakenleaaGreat
namespace Go.Proofs.YtcihalbakenleaaGreat
open Go.RowKit
theorem Ahz {v:Vo} {p:Pl} {t:Int} {q:Vo × Int} (hF:v.fit) (hc:p.chk v=0) (h:It v p t=q):XC Tryz.prog 17 [.agg (Vo.c v), .agg (Pl.c p),dI t] (fun r=>r= .tup [.agg (Vo.c q.1),dI q.2]):=by
 subst h;exact Ajd v p t hF hc
theorem Arg {v:Vo} {L:Int} (h:ckE v L=0):XC Tryz.prog 33 [.agg (Vo.c v),dI L] (fun r=>r= .sl 1 (B8 (Bh (ckL v L)))):=by
 obtain ⟨h1,h2,h3⟩:=Tb h
 have:=Vy v L h2 h3
 rw [h1] at this
 exact this
def mn (k F:Nat):Int:=min (k:Int) (F:Int)
theorem Wd {k F:Nat} (h:k<F):mn k F+1=mn (k+1) F:=by unfold mn;omega
theorem Zy {k F:Nat} (h:¬k<F):mn k F=mn (k+1) F:=by unfold mn;omega
theorem Aqc (k F:Nat):0≤mn k F∧mn k F≤k:=by unfold mn;omega
def inC (a f l m:Int):Int:=max 0 (min (a+m) l - max a f)
theorem Asg {a f l m:Int} (h:f≤a+m) (h2:a+m<l) (h0:0≤m):inC a f l m+1=inC a f l (m+1):=by unfold inC;omega
theorem Amt {a f l m:Int} (h:¬(f≤a+m∧a+m<l)) (h0:0≤m):inC a f l m=inC a f l (m+1):=by unfold inC;omega
theorem Auh (a f l m:Int) (h:0≤m):0≤inC a f l m∧inC a f l m≤m:=by unfold inC;omega
theorem Ams {t:Tp} {f l:Int} (h:1≤t.count):Ds t f l↔0<inC t.first f l t.count∧inC t.first f l t.count<t.count:=by unfold Ds inC;omega
theorem Ai8 (v:Vo) (p:Pl) (a b:Int) (hF:v.fit) (hc:p.chk v=0):XC Tryz.prog 86 [.agg (Vo.c v), .agg (Pl.c p), .v (.int .i64 a), .v (.int .i64 b)] (fun r=>r= .tup [.agg (Vo.c (Fh v p a b).1),dI (Fh v p a b).2.1,dI (Fh v p a b).2.2.1,dI (Fh v p a b).2.2.2]):=by
 refine Ao Afw Tryz.func86 R R lb<|zr<|XL.step R (Au 4 (l:= [.d (.sl 13 (v.evs.map Ev.c)), .d (.sl 4 (v.tups.map Tp.c))]) R R (by kernel_rfl))<|XL.step R (Au 5 (l:= [.d (dI p.m.count), .d (dI p.m.unit), .d (dI p.m.g0), .d (dI p.m.g1), .d (dI p.m.g2), .d (dI p.m.g3), .d (dI p.m.g4), .d (dI p.m.g5), .d (dI p.off), .d (dI p.len)]) R R (by kernel_rfl))<|?_
 refine XL.step R (A4 8 (l:= [.d (.v (.slice none 0 0)), .d (.v (.slice none 0 0))]) R A9 (by kernel_rfl))<|za R R<|za R R<|za R R<|zn<|zs<|zr<|zp (Aa R R Ay)<|zp (Ab R R Bi R R)<|XL.len R R R Tryz.underlying22 fun hl20=>zp (A1 R R R)<|zn<|?_
 refine zd R (fun c21=> ?_) (fun c21=> ?_)
 refine zr<|zp (Ae (s':= .d (.agg [.v (.slice none 0 0), .v (.slice none 0 0)])) (Ac (Ad R R Ap R lb)) (by kernel_rfl))<|XL.step R (Ag (l':= [.d (.v (.slice none 0 0)), .d (.v (.slice none 0 0))]) R R R R Bm R lb (by kernel_rfl))<|za R R<|za R R<|za R R<|zn<|zt<|?_
 exact Ge R (RV.sub (RV.cells R R R Ap lb R) (.agg (.cons (.nil 13) (.cons (.nil 4) (.nil))))) (RV.tmp R R) (RV.tmp R R) (RV.tmp R R) (r4v (An2 (by omega) ⟨by omega,by rw [Xr (Dn hc).2.2 (by omega)];rfl⟩))
 have hn0:v.evs≠ []:=fun h=>c21 (by rw [h];rfl)
 have hna:¬v.absent:=fun h=>hn0 (List.eq_nil_of_length_eq_zero (by have:=h.1;omega))
 refine zi<|zs<|zr<|zm R R<|zp (Ar R R R)<|zm R R<|?_
 refine XL.dec 25 R (fun g25=> ?_) (fun g25=> ?_)
 refine zk 3 R<|zq R R R<|zm R R<|zk 4 R<|zq R R R<|zn<|Aq (by kernel_rfl) R<|zr<|zp (Ae (s':= .d (.agg [.v (.slice none 0 0), .v (.slice none 0 0)])) (Ac (Ad R R Ap R lb)) (by kernel_rfl))<|XL.step R (Ag (l':= [.d (.v (.slice none 0 0)), .d (.v (.slice none 0 0))]) R R R R Bm R lb (by kernel_rfl))<|za R R<|za R R<|za R R<|zn<|?_
 refine zt<|?_
 exact Ge R (RV.sub (RV.cells R R R Ap lb R) (.agg (.cons (.nil 13) (.cons (.nil 4) (.nil))))) (RV.tmp R R) (RV.tmp R R) (RV.tmp R R) (r4v (Ue (by omega) hna (by omega)))
 refine zm R R<|zm R R<|zp (Ar R R R)<|zq R R R<|zm R R<|?_
 refine XL.dec 30 R (fun g30=> ?_) (fun g30=> ?_)
 refine zk 4 R<|zq R R R<|zn<|Aq (by kernel_rfl) R<|zr<|zp (Ae (s':= .d (.agg [.v (.slice none 0 0), .v (.slice none 0 0)])) (Ac (Ad R R Ap R lb)) (by kernel_rfl))<|XL.step R (Ag (l':= [.d (.v (.slice none 0 0)), .d (.v (.slice none 0 0))]) R R R R Bm R lb (by kernel_rfl))<|za R R<|za R R<|za R R<|zn<|zt<|?_
 exact Ge R (RV.sub (RV.cells R R R Ap lb R) (.agg (.cons (.nil 13) (.cons (.nil 4) (.nil))))) (RV.tmp R R) (RV.tmp R R) (RV.tmp R R) (r4v (Ue (by omega) hna (by omega)))
 refine zm R R<|zp (Aa R R J9)<|zp (Ab R R Ai R R)<|zp (A8 R R R)<|zq R R R<|zn<|?_
 refine zd R (fun c35=> ?_) (fun c35=> ?_)
 refine zr<|zp (Ae (s':= .d (.agg [.v (.slice none 0 0), .v (.slice none 0 0)])) (Ac (Ad R R Ap R lb)) (by kernel_rfl))<|XL.step R (Ag (l':= [.d (.v (.slice none 0 0)), .d (.v (.slice none 0 0))]) R R R R Bm R lb (by kernel_rfl))<|za R R<|za R R<|za R R<|zn<|zt<|?_
 exact Ge R (RV.sub (RV.cells R R R Ap lb R) (.agg (.cons (.nil 13) (.cons (.nil 4) (.nil))))) (RV.tmp R R) (RV.tmp R R) (RV.tmp R R) (r4v (Ue (by omega) hna (by omega)))
 refine zi<|zs<|zs<|?_
 have hD1:It v p a=Al v p a:=Lk hc c21 (by omega)
 refine Af (by kernel_rfl)<|zp (Ae (s':= .d (.agg (Vo.c v))) (Ac (Ad R R Ap R lb)) (by kernel_rfl))<|zp (Ae (s':= .d (.agg (Pl.c p))) (Ac (Ad R R Ae1 R lb)) (by kernel_rfl))<|zm R R<|XL.call1 R R (Ahz hF hc hD1) R<|zm R R<|zp (Bc R R R)<|zp (Bc R R R)<|?_
 refine XL.step R (Ag (l':= [.d (.sl 13 (((Al v p a).1).evs.map Ev.c)), .d (.sl 4 (((Al v p a).1).tups.map Tp.c))]) R R R R Bm R lb (by kernel_rfl))<|za R R<|znr<|zm R R<|zp (Bg R R R)<|zn<|?_
 refine zd R (fun c45=> ?_) (fun c45=> ?_)
 refine zr<|zp (Ae (s':= .d (.agg [.v (.slice none 0 0), .v (.slice none 0 0)])) (Ac (Ba R B7 A9 R)) (by kernel_rfl))<|zm R R<|XL.step R (Ag (l':= [.d (.v (.slice none 0 0)), .d (.v (.slice none 0 0))]) R R R R Bm R lb (by kernel_rfl))<|za R R<|za R R<|za R R<|zn<|zt<|?_
 exact Ge R (RV.sub (RV.cells R R R Ap lb R) (.agg (.cons (.nil 13) (.cons (.nil 4) (.nil))))) (RV.tmp R R) (RV.tmp R R) (RV.tmp R R) (r4v ((E4 (by omega) hna (by omega)).trans (An1 c45)))
 refine zi<|zs<|zs<|?_
 have hc1:=Md (t:=a) hc (by omega)
 have hF1:=Od (t:=a) hc hF (by omega)
 have hn1:=Xp (t:=a) hc hn0 (by omega)
 have hD2:It (Al v p a).1 p b=Al (Al v p a).1 p b:=Lk hc1 (fun h=>hn1 (List.eq_nil_of_length_eq_zero (by omega))) (by omega)
 refine Af (by kernel_rfl)<|zp (Ae (s':= .d (.agg (Vo.c (Al v p a).1))) (Ac (Ad R R Ap R lb)) (by kernel_rfl))<|zp (Ae (s':= .d (.agg (Pl.c p))) (Ac (Ad R R Ae1 R lb)) (by kernel_rfl))<|zm R R<|XL.call1 R R (Ahz hF1 hc1 hD2) R<|zm R R<|zp (Bc R R R)<|zp (Bc R R R)<|?_
 refine XL.step R (Ag (l':= [.d (.sl 13 (((Al (Al v p a).1 p b).1).evs.map Ev.c)), .d (.sl 4 (((Al (Al v p a).1 p b).1).tups.map Tp.c))]) R R R R Bm R lb (by kernel_rfl))<|za R R<|znr<|zm R R<|zp (Bg R R R)<|zn<|?_
 refine zd R (fun c56=> ?_) (fun c56=> ?_)
 refine zr<|zp (Ae (s':= .d (.agg [.v (.slice none 0 0), .v (.slice none 0 0)])) (Ac (Ba R B7 A9 R)) (by kernel_rfl))<|zm R R<|XL.step R (Ag (l':= [.d (.v (.slice none 0 0)), .d (.v (.slice none 0 0))]) R R R R Bm R lb (by kernel_rfl))<|za R R<|za R R<|za R R<|zn<|zt<|?_
 exact Ge R (RV.sub (RV.cells R R R Ap lb R) (.agg (.cons (.nil 13) (.cons (.nil 4) (.nil))))) (RV.tmp R R) (RV.tmp R R) (RV.tmp R R) (r4v ((E4 (by omega) hna (by omega)).trans (An0 c45 c56)))
 refine zi<|zs<|?_
 have hc2:=Md (t:=b) hc1 (by omega)
 have hck2:=(Dn hc2).2.2
 have hol:=I7 (ckL (Al (Al v p a).1 p b).1 p.len)
 have hN:=I8 (Al (Al v p a).1 p b).1 p.len
 have hNl:=hN.len
 have hpp:=Nl hck2
 have hfa:=Ix (Bh (ckL (Al (Al v p a).1 p b).1 p.len)) a
 have hfb:=Ix (Bh (ckL (Al (Al v p a).1 p b).1 p.len)) b
 have hlf:=Wk hpp (show a≤b by omega)
 obtain ⟨hs2,_⟩:=Kr hck2
 have htl:=hs2.tups
 have hT2:=Ahj hck2
 refine Af (by kernel_rfl)<|zp (Ae (s':= .d (.agg (Vo.c (Al (Al v p a).1 p b).1))) (Ac (Ad R R Ap R lb)) (by kernel_rfl))<|zp (Aa R R J9)<|zp (Ab R R Ai R R)<|XL.call1 R R (Arg hck2) R<|za R R<|zn<|zs<|zr<|za R R<|zn<|Ah<|?_
 refine Ax (α:=Nat) (fun k=>k≤(Bh (ckL (Al (Al v p a).1 p b).1 p.len)).length) (fun k=>mkF [(2, .d (dI a)),(3, .d (dI b)),(8, .ptr 8 0 0),(9, .d (dI (mn k (Bu (Bh (ckL (Al (Al v p a).1 p b).1 p.len)) a)))),(10, .d (dI (mn k (Bu (Bh (ckL (Al (Al v p a).1 p b).1 p.len)) b)))),(11, .d (dI (Al (Al v p a).1 p b).2)),(12, .d (.sl 1 (B8 (Bh (ckL (Al (Al v p a).1 p b).1 p.len))))),(13, .d (dI k))]) (fun k=>mkH [(8, .box ((Vo.c (Al (Al v p a).1 p b).1).map S.d))]) (fun k=>(Bh (ckL (Al (Al v p a).1 p b).1 p.len)).length - k) (0) (Nat.zero_le _) ?_ ?_ ?_
 exact fz ⟨sr,sr,sr, .same (sI (by unfold mn;omega)), .same (sI (by unfold mn;omega)),sr,sr,sr,trivial⟩
 exact gz ⟨R,trivial⟩
 intro k hk0
 refine zs<|zr<|zm R R<|zm R R<|XL.len R R R Tryz.underlying64 fun hl65=>zp (Ar R R R)<|zn<|?_
 refine zd R (fun c66=> ?_) (fun c66=> ?_)
 have hk0a:k<(Bh (ckL (Al (Al v p a).1 p b).1 p.len)).length:=by omega
 obtain ⟨x0,hx0⟩:=At hk0a
 have hqa:=Jf hpp hx0 (a:=a)
 have hqb:=Jf hpp hx0 (a:=b)
 have hma:=Aqc k (Bu (Bh (ckL (Al (Al v p a).1 p b).1 p.len)) a)
 have hmb:=Aqc k (Bu (Bh (ckL (Al (Al v p a).1 p b).1 p.len)) b)
 refine zi<|zs<|Ah<|zs<|zr<|zm R R<|zm R R<|zp (Am R R R C4 (hx0))<|zp (A0 R R Ai)<|zm R R<|zp (Ar R R R)<|zn<|?_
 refine zd R (fun c74=> ?_) (fun c74=> ?_)
 refine Af (by kernel_rfl)<|zm R R<|zp (Aj R R R (by omega) (by omega))<|za R R<|znr<|zm R R<|zm R R<|zp (Am R R R C4 (hx0))<|zp (A0 R R Ai)<|zm R R<|zp (Ar R R R)<|zn<|?_
 refine zd R (fun c82=> ?_) (fun c82=> ?_)
 refine Af (by kernel_rfl)<|zm R R<|zp (Aj R R R (by omega) (by omega))<|za R R<|zn<|Af (by kernel_rfl)<|zm R R<|zp (Aj R R R (by omega) (by omega))<|za R R<|zn<|?_
 exact Ak (k+1) (by omega) (by omega) (fz ⟨sr,sr,sr, .same (sI (Wd (hqa.1 c74))), .same (sI (Wd (hqb.1 c82))),sr,sr,sr,trivial⟩) (gz ⟨R,trivial⟩)
 refine zi<|Af (by kernel_rfl)<|zm R R<|zp (Aj R R R (by omega) (by omega))<|za R R<|zn<|?_
 exact Ak (k+1) (by omega) (by omega) (fz ⟨sr,sr,sr, .same (sI (Wd (hqa.1 c74))), .same (sI (Zy (fun h=>c82 (hqb.2 h)))),sr,sr,sr,trivial⟩) (gz ⟨R,trivial⟩)
 refine zi<|zr<|zm R R<|zm R R<|zp (Am R R R C4 (hx0))<|zp (A0 R R Ai)<|zm R R<|zp (Ar R R R)<|zn<|?_
 refine zd R (fun c82=> ?_) (fun c82=> ?_)
 refine Af (by kernel_rfl)<|zm R R<|zp (Aj R R R (by omega) (by omega))<|za R R<|zn<|Af (by kernel_rfl)<|zm R R<|zp (Aj R R R (by omega) (by omega))<|za R R<|zn<|?_
 exact Ak (k+1) (by omega) (by omega) (fz ⟨sr,sr,sr, .same (sI (Zy (fun h=>c74 (hqa.2 h)))), .same (sI (Wd (hqb.1 c82))),sr,sr,sr,trivial⟩) (gz ⟨R,trivial⟩)
 refine zi<|Af (by kernel_rfl)<|zm R R<|zp (Aj R R R (by omega) (by omega))<|za R R<|zn<|?_
 exact Ak (k+1) (by omega) (by omega) (fz ⟨sr,sr,sr, .same (sI (Zy (fun h=>c74 (hqa.2 h)))), .same (sI (Zy (fun h=>c82 (hqb.2 h)))),sr,sr,sr,trivial⟩) (gz ⟨R,trivial⟩)
 have hk0b:k=(Bh (ckL (Al (Al v p a).1 p b).1 p.len)).length:=by omega
 have hke:k=(Bh (ckL (Al (Al v p a).1 p b).1 p.len)).length:=by omega
 refine An<|zs<|zr<|za R R<|zn<|Ah<|?_
 refine Ax (α:=Nat) (fun j=>j≤(Al (Al v p a).1 p b).1.tups.length∧∀(i:Nat) t,i<j→(Al (Al v p a).1 p b).1.tups[i]? =some t→¬Ds t (Bu (Bh (ckL (Al (Al v p a).1 p b).1 p.len)) a) (Bu (Bh (ckL (Al (Al v p a).1 p b).1 p.len)) b)) (fun j=>mkF [(8, .ptr 8 0 0),(9, .d (dI ((Bu (Bh (ckL (Al (Al v p a).1 p b).1 p.len)) a):Nat))),(10, .d (dI ((Bu (Bh (ckL (Al (Al v p a).1 p b).1 p.len)) b):Nat))),(14, .d (dI j))]) (fun j=>mkH [(8, .box ((Vo.c (Al (Al v p a).1 p b).1).map S.d))]) (fun j=>(((Al (Al v p a).1 p b).1).tups).length - j) (0) (⟨Nat.zero_le _,fun i t hi=>absurd hi (Nat.not_lt_zero _)⟩) ?_ ?_ ?_
 exact fz ⟨sr, .same (sI (by unfold mn;omega)), .same (sI (by unfold mn;omega)),sr,trivial⟩
 exact gz ⟨R,trivial⟩
 intro j hk2
 obtain ⟨hk,hno⟩:=hk2
 refine zs<|zr<|zm R R<|zp (Aa R R Bn)<|zp (Ab R R B0 R R)<|XL.len R R R Tryz.underlying23 fun hl88=>zp (Ar R R R)<|zn<|?_
 refine zd R (fun c89=> ?_) (fun c89=> ?_)
 have hk2a:j<(((Al (Al v p a).1 p b).1).tups).length:=by omega
 obtain ⟨x2,hx2⟩:=At hk2a
 have hok:=hT2 x2 (List.mem_of_getElem? hx2)
 unfold Tp.ok at hok
 have hst:=Ams (t:=x2) (f:=(Bu (Bh (ckL (Al (Al v p a).1 p b).1 p.len)) a)) (l:=(Bu (Bh (ckL (Al (Al v p a).1 p b).1 p.len)) b)) (by omega)
 refine zi<|zs<|Ah<|zr<|za R R<|znr<|zp (Aa R R Bn)<|zp (Ab R R B0 R R)<|zm R R<|zp (Am R R R D4 (hx2))<|zp (Ae (s':= .d (.agg (Tp.c x2))) (Av R R Cb lb) (by kernel_rfl))<|XL.step R (A4 16 (l:= [.d (dI 0), .d (dI 0), .d (dI 0), .d (dI 0)]) R C9 (by kernel_rfl))<|?_
 refine XL.step R (Ag (l':= [.d (dI x2.first), .d (dI x2.count), .d (dI x2.actual), .d (dI x2.normal)]) R R R R Ef R lb (by kernel_rfl))<|zn<|zs<|zr<|zp (Aa R R By)<|zp (Ab R R Ai R R)<|za R R<|zn<|Ah<|?_
 refine Ax (α:=Nat) (fun m=>(m:Int)≤x2.count) (fun m=>mkF [(8, .ptr 8 0 0),(9, .d (dI ((Bu (Bh (ckL (Al (Al v p a).1 p b).1 p.len)) a):Nat))),(10, .d (dI ((Bu (Bh (ckL (Al (Al v p a).1 p b).1 p.len)) b):Nat))),(14, .d (dI j)),(15, .d (dI (inC x2.first (Bu (Bh (ckL (Al (Al v p a).1 p b).1 p.len)) a) (Bu (Bh (ckL (Al (Al v p a).1 p b).1 p.len)) b) (m:Nat)))),(16, .ptr 16 0 0),(17, .d (dI (x2.first+(m:Nat))))]) (fun m=>mkH [(8, .box ((Vo.c (Al (Al v p a).1 p b).1).map S.d)),(16, .box ((Tp.c x2).map S.d))]) (fun m=>x2.count.toNat - m) (0) (by omega) ?_ ?_ ?_
 exact fz ⟨sr,sr,sr,sr, .same (sI (by unfold inC;omega)),sr, .same (sI (by omega)),trivial⟩
 exact gz ⟨R,R,trivial⟩
 intro m hk4
 have hib:=Auh x2.first (Bu (Bh (ckL (Al (Al v p a).1 p b).1 p.len)) a) (Bu (Bh (ckL (Al (Al v p a).1 p b).1 p.len)) b) m (by omega)
 refine zs<|zr<|zm R R<|zp (Aa R R By)<|zp (Ab R R Ai R R)<|zp (Aa R R Dm)<|zp (Ab R R Ai R R)<|zp (Aj R R R (by omega) (by omega))<|zp (Ar R R R)<|zn<|?_
 refine zd R (fun c105=> ?_) (fun c105=> ?_)
 refine zi<|zs<|Ah<|zr<|zm R R<|zm R R<|zp (Dt R R R)<|zm R R<|?_
 refine XL.dec 111 R (fun g111=> ?_) (fun g111=> ?_)
 refine zm R R<|zm R R<|zp (Ar R R R)<|zq R R R<|zn<|?_
 refine zd R (fun c115=> ?_) (fun c115=> ?_)
 refine Af (by kernel_rfl)<|zm R R<|zp (Aj R R R (by omega) (by omega))<|za R R<|zn<|Af (by kernel_rfl)<|zm R R<|zp (Aj R R R (by omega) (by omega))<|za R R<|zn<|?_
 exact Ak (m+1) (by omega) (by omega) (fz ⟨sr,sr,sr,sr, .same (sI (Asg (by omega) (by omega) (by omega))),sr, .same (sI (by omega)),trivial⟩) (gz ⟨R,R,trivial⟩)
 refine zi<|Af (by kernel_rfl)<|zm R R<|zp (Aj R R R (by omega) (by omega))<|za R R<|zn<|?_
 exact Ak (m+1) (by omega) (by omega) (fz ⟨sr,sr,sr,sr, .same (sI (Amt (by omega) (by omega))),sr, .same (sI (by omega)),trivial⟩) (gz ⟨R,R,trivial⟩)
 refine zk 3 R<|zq R R R<|zn<|A7 (by kernel_rfl) R<|zi<|Af (by kernel_rfl)<|zm R R<|zp (Aj R R R (by omega) (by omega))<|za R R<|zn<|?_
 exact Ak (m+1) (by omega) (by omega) (fz ⟨sr,sr,sr,sr, .same (sI (Amt (by omega) (by omega))),sr, .same (sI (by omega)),trivial⟩) (gz ⟨R,R,trivial⟩)
 have hme:(m:Int)=x2.count:=by omega
 rw [hme] at hib
 rw [hme]
 refine An<|zr<|zm R R<|zp (A8 R R R)<|zm R R<|?_
 refine XL.dec 120 R (fun g120=> ?_) (fun g120=> ?_)
 refine zm R R<|zp (Aa R R Dm)<|zp (Ab R R Ai R R)<|zp (Ar R R R)<|zq R R R<|zn<|?_
 refine zd R (fun c125=> ?_) (fun c125=> ?_)
 refine zr<|zp (Ae (s':= .d (.agg [.v (.slice none 0 0), .v (.slice none 0 0)])) (Ac (Ba R B7 A9 R)) (by kernel_rfl))<|XL.step R (Ag (l':= [.d (.v (.slice none 0 0)), .d (.v (.slice none 0 0))]) R R R R Bm R lb (by kernel_rfl))<|za R R<|za R R<|za R R<|zn<|zt<|?_
 exact Ge R (RV.sub (RV.cells R R R Ap lb R) (.agg (.cons (.nil 13) (.cons (.nil 4) (.nil))))) (RV.tmp R R) (RV.tmp R R) (RV.tmp R R) (by first|exact r4v ((E4 (by omega) hna (by omega)).trans ((F2 c45 c56).trans (Lj hx2 (by rw [hlf];rw [hst];omega))))|exact r4v ((E4 (by omega) hna (by omega)).trans ((F2 c45 c56).trans ((Li (fun i t ht=>by rw [hlf];exact hno i t (by have:=(List.getElem?_eq_some_iff.1 ht).1;omega) ht)).trans (by rw [hlf])))))
 refine zi<|Af (by kernel_rfl)<|zm R R<|zp (Aj R R R (by omega) (by omega))<|za R R<|zn<|?_
 exact Ak (j+1) (⟨by omega,fun i t hi ht=>by by_cases e:i=j;(· subst e;rw [hx2] at ht;cases ht;rw [hst];omega);(· exact hno i t (by omega) ht)⟩) (by omega) (fz ⟨sr,sr,sr,sr,trivial⟩) (gz ⟨rfl,trivial⟩)
 refine zk 4 R<|zq R R R<|zn<|A7 (by kernel_rfl) R<|zi<|Af (by kernel_rfl)<|zm R R<|zp (Aj R R R (by omega) (by omega))<|za R R<|zn<|?_
 exact Ak (j+1) (⟨by omega,fun i t hi ht=>by by_cases e:i=j;(· subst e;rw [hx2] at ht;cases ht;rw [hst];omega);(· exact hno i t (by omega) ht)⟩) (by omega) (fz ⟨sr,sr,sr,sr,trivial⟩) (gz ⟨rfl,trivial⟩)
 have hk2b:j=(((Al (Al v p a).1 p b).1).tups).length:=by omega
 refine An<|zr<|zp (Ae (s':= .d (.agg (Vo.c (Al (Al v p a).1 p b).1))) (Ac (Ad R R Ap R lb)) (by kernel_rfl))<|zm R R<|zm R R<|XL.step R (Ag (l':= [.d (.sl 13 (((Al (Al v p a).1 p b).1).evs.map Ev.c)), .d (.sl 4 (((Al (Al v p a).1 p b).1).tups.map Tp.c))]) R R R R Bm R lb (by kernel_rfl))<|za R R<|za R R<|za R R<|zn<|zt<|?_
 exact Ge R (RV.cells R R R Ap lb R) (RV.tmp R R) (RV.tmp R R) (RV.tmp R R) (by first|exact r4v ((E4 (by omega) hna (by omega)).trans ((F2 c45 c56).trans (Lj hx2 (by rw [hlf];rw [hst];omega))))|exact r4v ((E4 (by omega) hna (by omega)).trans ((F2 c45 c56).trans ((Li (fun i t ht=>by rw [hlf];exact hno i t (by have:=(List.getElem?_eq_some_iff.1 ht).1;omega) ht)).trans (by rw [hlf])))))
end Go.Proofs.YtcihalbakenleaaGreat
namespace Go.Proofs.YtcihalbakenleaaGreat
open Go.RowKit
theorem Arf {v:Vo} {p:Pl} {a b:Int} {d:Vo} {f l:Nat} {e:Int} (hF:v.fit) (hc:p.chk v=0) (h:Fh v p a b=(d,(f:Int),(l:Int),e)):XC Tryz.prog 86 [.agg (Vo.c v), .agg (Pl.c p),dI a,dI b] (fun r=>r= .tup [.agg (Vo.c d),dI (f:Nat),dI (l:Nat),dI e]):=by
 have:=Ai8 v p a b hF hc
 rw [h] at this
 exact this
end Go.Proofs.YtcihalbakenleaaGreat
namespace Go.Proofs.YtcihalbakenleaaGreat
def Ev.plainR (y:Ev) (s:Int):Prop:=y.kind=1∧(∀h∈y.heads,h.sh=0)∧y.graces= []∧y.art=0∧y.orn=0∧y.dyn=0∧y.lyr= []∧y.stem=s∧y.beam=0
def Aqb (h:Hd):Pit × Bool:=(h.p,h.tied)
def pSh (h:Hd):Pit × Int:=(h.p,h.sh)
structure LikeY (y y':Ev):Prop where
 kind:y'.kind=y.kind
 heads:y.heads.map pSh=y'.heads.map pSh
 graces:y'.graces=y.graces
 art:y'.art=y.art
 orn:y'.orn=y.orn
 dyn:y'.dyn=y.dyn
 lyr:y'.lyr=y.lyr
 stem:y'.stem=y.stem
 beam:y'.beam=y.beam
section
variable {v:Vo} {i n:Nat} {l:List Ev} (hok:∀t∈v.tups,t.ok) (hn:0<n) (hf:∀m,i≤m→m<i+n→∀t∈v.tups,¬t.has m)
include hok hn hf
end
def bd (v:Vo):Nat→Nat
 |0=>0
 |k+1=>Br v (bd v k)
def Bnd (v:Vo) (p:Pl) (i:Nat):Prop:=∃K,bd v K=i∧∀k,k<K→bd v k<v.evs.length∧¬smJ p (smA v p (bd v k)) (smA v p (bd v (k+1))) (bd v (k+1) - bd v k)
structure RunJ (v:Vo) (p:Pl) (i:Nat) (x y:Ev) (vs:List Val) (js:List Ev) (w:Vo):Prop where
 we:w=A5 v i (Br v i - i) ⟨js, []⟩
 n1:i+1<Br v i
 nl:Br v i≤v.evs.length
 jl:js.length=vs.length
 j0:0<js.length
 jn:js.length<Br v i - i
 jg:∀m,m<js.length→∃a o,vs[m]? =some a∧js[m]? =some ((Fl (x.reh (Gp x.heads y.heads)) vs.length false m a).reid o)
 sil:x.kind=1∨x.silent
 ks:y.kind=x.kind
 ys:x.kind≠1→y.silent
 hs:(Gp x.heads y.heads).map Aqb=y.heads.map Aqb
 fr:∀m,i≤m→m<Br v i→∀t∈v.tups,¬t.has m
 ok:∀t∈v.tups,t.ok
 ck:ckE w p.len=0
 vk:ckE v p.len=0
 lo:∀m,m≤i→smA w p m=smA v p m
 hi:smA w p (i+js.length)=smA v p (Br v i)
section
variable {v w:Vo} {p:Pl} {i:Nat} {x y:Ev} {vs:List Val} {js:List Ev} (hx:v.evs[i]? =some x) (h:RunJ v p i x y vs js w)
include hx h
variable (hy:v.evs[Br v i - 1]? =some y)
include hy
end
end Go.Proofs.YtcihalbakenleaaGreat
namespace Go.Proofs.YtcihalbakenleaaGreat
open Go.RowKit
def delT (a c:Int) (t:Tp):Tp:=if a+c≤t.first then t.mv (-c) else t
def delN (a c e:Int):Int:=if e≤a then e else if e≤a+c then a else e - c
def delC (t:Tp) (e:Int):Int:=max 0 (min (e - t.first) t.count)
def delF (a c:Int) (t:Tp) (e:Int):Int:=if t.first<e then (if a+c≤t.first then t.first - c else t.first) else 0
end Go.Proofs.YtcihalbakenleaaGreat
namespace Go.Proofs.YtcihalbakenleaaGreat
open Go.RowKit
def Ev.folC (a b:Ev) (s:Int):Prop:=a.heads.length=b.heads.length∧b.graces= []∧b.lyr= []∧b.art=0∧b.orn=0∧b.dyn=0∧b.beam=0∧b.stem=s∧∀(j:Nat) (x y:Hd),a.heads[j]? =some x→b.heads[j]? =some y→x.tied=true∧x.p=y.p∧y.sh=0
def Ev.fol (a b:Ev) (s:Int):Prop:=a.kind=b.kind∧a.kind≠3∧(a.kind≠1→a.dyn=0∧a.art=0∧b.dyn=0∧b.art=0)∧(a.kind=1→a.folC b s)
open Classical in
noncomputable def Ev.folB (a b:Ev) (s:Int):Bool:=decide (a.fol b s)
end Go.Proofs.YtcihalbakenleaaGreat
namespace Go.Proofs.YtcihalbakenleaaGreat
open Go.RowKit
structure SimR (v:Vo) (p:Pl) (z:(Vo × Nat) × Nat):Prop where
 smi:SmI v p z.1
 k:z.2≤v.evs.length
 ev:z.1.1.evs.drop z.1.2=v.evs.drop z.2
 ls:(ckL z.1.1 p.len).drop z.1.2=(ckL v p.len).drop z.2
 at0:smA z.1.1 p z.1.2=smA v p z.2
 fr:∀m:Nat,(∀t∈z.1.1.tups,¬t.has ((z.1.2+m:Nat):Int))↔∀t∈v.tups,¬t.has ((z.2+m:Nat):Int)
section
variable {v:Vo} {p:Pl} {z:(Vo × Nat) × Nat} (h:SimR v p z)
include h
end
theorem Al7 {l:List Int} {k:Nat} (h:k<l.length):(Bh l)[k]? =some (tot (l.take k)):=by
 obtain ⟨x,hx⟩:∃x,(Bh l)[k]? =some x:=At (by rw [I7];exact h)
 rw [hx,G3 hx]
end Go.Proofs.YtcihalbakenleaaGreat
namespace Go.Proofs.YtcihalbakenleaaGreat
open Go.RowKit
def Lo (l:List Hd) (q:Pit):Bool:=l.any fun o=>decide (o.p=q)
def Hc (y:Ev) (h:Hd):Hd:=⟨h.p,h.tied && (decide (y.kind=1) && Lo y.heads h.p),h.sh⟩
def Nt (x y:Ev):Ev:=x.reh (x.heads.map (Hc y))
def Ca (l:List Ev) (i:Int):List Ev:=if i<0 then l else match l[i.toNat]?,l[i.toNat+1]? with
 |some x,some y=>l.set i.toNat (Nt x y)
 |_,_=>l
theorem Jz {l:List Ev} {i:Int} (h:i<0∨(l.length:Int)≤i+1):Ca l i=l:=by
 unfold Ca
 split
 ·rfl
 ·rw [List.getElem?_eq_none (show l.length≤i.toNat+1 by omega)]
  cases l[i.toNat]? <;>rfl
theorem Rr {l:List Ev} {i:Nat} {x y:Ev} (hx:l[i]? =some x) (hy:l[i+1]? =some y):Ca l i=l.set i (Nt x y):=by
 unfold Ca
 rw [if_neg (by omega)]
 simp only [Int.toNat_natCast,hx,hy]
theorem Lf (l:List Ev) (i:Int):(Ca l i).length=l.length:=by
 unfold Ca
 split
 ·rfl
 ·split
  ·rw [List.length_set]
  ·rfl
theorem Anv {x y:Ev} (h:x.fit):(Nt x y).fit:=⟨by show (x.heads.map (Hc y)).length≤1000;rw [List.length_map];exact h.1,h.2⟩
theorem Lg {l:List Ev} (h:∀e∈l,e.fit) (i:Int):∀e∈Ca l i,e.fit:=by
 unfold Ca
 split
 ·exact h
 ·split
  ·rename_i x y hx hy
   intro e he
   rcases List.mem_or_eq_of_mem_set he with k|k
   ·exact h e k
   ·rw [k];exact Anv (h x (List.mem_of_getElem? hx))
  ·exact h
def evS (x:Ev):List S:=(Ev.c x).map S.d
def F1 (l:List Ev):List (List S):=(l.map Ev.c).map (·.map S.d)
theorem Rt (l:List Ev):(F1 l).length=l.length:=by rw [F1,List.length_map,List.length_map]
theorem Ru {l:List Ev} {k:Nat} {x:Ev} (h:l[k]? =some x):(F1 l)[k]? =some (evS x):=by rw [F1,List.getElem?_map,List.getElem?_map,h];rfl
def evO (x:Ev) (j:Nat):List S:=(evS x).set 5 (.own j)
theorem Qj {l:List Ev} {k j:Nat} {x:Ev} (h:l[k]? =some x):((F1 l).set k (evO x j))[k]? =some (evO x j):=List.getElem?_set_self (by rw [Rt];exact (List.getElem?_eq_some_iff.1 h).1)
theorem K6 {l:List Ev} {k j:Nat} {x y:Ev} (h:l[k+1]? =some y):((F1 l).set k (evO x j))[k+1]? =some (evS y):=by
 rw [List.getElem?_set_ne (by omega)];exact Ru h
theorem Asp (j:Nat) (d:D) (l:List Ev):(F1 l).map (S.frzL j d)=F1 l:=by
 unfold F1
 simp only [List.map_map]
 exact List.map_congr_left fun x _=>Aul j d (Ev.c x)
theorem Aat {l:List Ev} {m:Nat} (h:m<l.length):m<(F1 l).length:=by rw [Rt];exact h
theorem Jl {l:List Ev} {m k:Nat} {c:List S} (h:m<l.length):m<((F1 l).set k c).length:=by rw [List.length_set,Rt];exact h
theorem Ao8 (j:Nat) (l:List Ev):(F1 l).map (S.killL j)=F1 l:=by
 unfold F1
 simp only [List.map_map]
 exact List.map_congr_left fun x _=>Asa j (Ev.c x)
theorem X9 {l:List Ev} {k i j:Nat} {x:Ev} (h:i≠j):((F1 l).set k (evO x j)).map (S.killL i)=(F1 l).set k (evO x j):=by
 rw [List.map_set,Ao8]
 have:S.killL i (evO x j)=evO x j:=by
  show [_,_,_,_,_,S.kill i (.own j),_,_,_,_,_,_,_]=_
  unfold S.kill
  rw [Co h];rfl
 rw [this]
theorem No {x:Vo} (h:x.whole):∃e,x.evs[0]? =some e:=by
 unfold Vo.whole at h
 cases hx:x.evs with
 |nil=>rw [hx] at h;exact h.elim
 |cons e l=>exact ⟨e,rfl⟩
theorem Vr {l:List Ev} {k j:Nat} {x:Ev} {hs:List Hd}:((F1 l).set k (evO x j)).map (S.frzL j (.sl 5 (hs.map Hd.c)))=F1 (l.set k (x.reh hs)):=by
 rw [List.map_set,Asp]
 have:S.frzL j (.sl 5 (hs.map Hd.c)) (evO x j)=evS (x.reh hs):=by
  show [_,_,_,_,_,S.frz j _ (.own j),_,_,_,_,_,_,_]=_
  unfold S.frz
  rw [Cc];rfl
 rw [this]
 unfold F1
 rw [List.map_set,List.map_set];rfl
theorem Aho (o x:Hd):XC Tryz.prog 135 [.agg (Hd.c o), .pt [.pt (Hd.c x)]] (fun r=>r=dB (decide (o.p=x.p))):=by
 refine Ao Adx Tryz.func135 R R lb<|zr<|XL.step R (Au 2 (l:= [.d (dI o.p.step), .d (dI o.p.alter), .d (dI o.p.oct), .d (dB o.tied), .d (dI o.sh)]) R R (by kernel_rfl))<|za R R<|zn<|zs<|Bk [] (by kernel_rfl) (by kernel_rfl) (by kernel_rfl) (by decide)<|yp (Aa R R Gi)<|yp (Ae (s':= .d (.agg (Pit.c o.p))) (Ac (Ad R R Eu R lb)) (by kernel_rfl))<|?_
 refine yp (A0 R R Im)<|yp (Aoj R R)<|yp (Bp R R Gi)<|yp (Av R R Eu lb)<|yp (Aa8 R R R)<|ya R R<|?_
 refine ChK.nil ⟨by kernel_rfl, ?_⟩
 exact zt<|z1 R R (rB (decide_eq_decide.2 ⟨fun h=>Pit.eq_of h,fun h=>by rw [h];exact ⟨rfl,rfl,rfl⟩⟩))
def Uv (p:Hd→Bool) (l:List Hd):Int:=match l.findIdx? p with|some k=>k|none=> -1
theorem Apd {p:Hd→Bool} {l:List Hd} {k:Nat} {x:Hd} (h:l[k]? =some x) (hx:p x=true) (hb:∀j y,j<k→l[j]? =some y→p y=false):Uv p l=k:=by
 have:l.findIdx? p=some k:=by
  rw [List.findIdx?_eq_some_iff_getElem]
  obtain ⟨h1,h2⟩:=List.getElem?_eq_some_iff.1 h
  exact ⟨h1,by rw [h2];exact hx,fun j hj=>by rw [hb j _ hj (List.getElem?_eq_getElem (by omega))];decide⟩
 rw [Uv,this]
theorem Amu {p:Hd→Bool} {l:List Hd} (hb:∀(j:Nat) y,l[j]? =some y→p y=false):Uv p l= -1:=by
 have:l.findIdx? p=none:=by
  rw [List.findIdx?_eq_none_iff]
  intro x hx
  obtain ⟨j,hj⟩:=List.getElem?_of_mem hx
  exact hb j x hj
 rw [Uv,this]
theorem Ape {p:Hd→Bool} {l:List Hd}:decide (0≤Uv p l)=l.any p:=by
 unfold Uv
 cases hf:l.findIdx? p with
 |none=>
  rw [List.findIdx?_eq_none_iff] at hf
  have:l.any p=false:=by rw [List.any_eq_false];exact fun x hx=>by rw [hf x hx];decide
  rw [this];decide
 |some k=>
  rw [List.findIdx?_eq_some_iff_getElem] at hf
  obtain ⟨h1,h2,_⟩:=hf
  have:l.any p=true:=by rw [List.any_eq_true];exact ⟨_,List.getElem_mem h1,h2⟩
  rw [this]
  exact decide_eq_true (show (0:Int)≤(k:Nat) by omega)
theorem Amq (l:List Hd) (F:Nat) (cs:List D) (p:Hd→Bool) (hF:∀x∈l,XC Tryz.prog F (.agg (Hd.c x)::cs) (fun r=>r=dB (p x))):XC Tryz.prog 137 [.sl 5 (l.map Hd.c), .fn F [] cs] (fun r=>r=dI (Uv p l)):=by
 refine Ao Adv Tryz.func137 R R lb<|zr<|za R R<|zn<|zs<|zr<|zm R R<|XL.len R R R Tryz.underlying48 fun hl7=>zm R R<|zn<|Ah<|?_
 refine Ax (α:=Nat) (fun k=>k≤l.length∧∀j y,j<k→l[j]? =some y→p y=false) (fun k=>mkF [(0, .d (.sl 5 (l.map Hd.c))),(1, .d (.fn F [] cs)),(7, .d (dI l.length)),(8, .d (dI k))]) (fun k=>mkH []) (fun k=>l.length - k) (0) (⟨Nat.zero_le _,fun j y hj=>absurd hj (Nat.not_lt_zero _)⟩) ?_ ?_ ?_
 exact fz ⟨sr,sr,sr,sr,trivial⟩
 exact HSub.nil
 intro k hk0
 obtain ⟨hk,hb⟩:=hk0
 refine zr<|zp (Ar R R R)<|zn<|zs<|?_
 refine zd R (fun c9=> ?_) (fun c9=> ?_)
 have hk0a:k<l.length:=by omega
 obtain ⟨x0,hx0⟩:=At hk0a
 refine zi<|zs<|Ah<|zr<|zm R R<|za R R<|znr<|zm R R<|zm R R<|zm R R<|zp (Am R R R Fg hx0)<|zp (Ae (s':= .d (.agg (Hd.c x0))) (Av R R Kd lb) (by kernel_rfl))<|XL.callv1 (ds:= [_]) R R R (hF x0 (List.mem_of_getElem? hx0)) R<|zn<|?_
 refine Dv (by kernel_rfl) R (fun c16=> ?_) (fun c16=> ?_)
 exact zr<|zm R R<|za R R<|zn<|zt<|z1 R R (rI (Apd hx0 c16 hb).symm)
 refine zi<|Af (by kernel_rfl)<|zp (Aj R R R (by omega) (by omega))<|zm R R<|zn<|?_
 exact Ak (k+1) (⟨by omega,fun j y hj hy=>by by_cases e:j=k;(· subst e;rw [hx0] at hy;cases hy;exact c16);(· exact hb j y (by omega) hy)⟩) (by omega) (fz ⟨sr,sr,sr,sr,trivial⟩) (HSub.nil)
 have hk0b:k=l.length:=by omega
 exact An<|zr<|za R R<|zn<|zt<|z1 R R (rI (Amu (fun j y hy=>hb j y (by have:=(List.getElem?_eq_some_iff.1 hy).1;omega) hy)).symm)
theorem Se (l:List Hd) (F:Nat) (cs:List D) (p:Hd→Bool) (hF:∀x∈l,XC Tryz.prog F (.agg (Hd.c x)::cs) (fun r=>r=dB (p x))):XC Tryz.prog 91 [.sl 5 (l.map Hd.c), .fn F [] cs] (fun r=>r=dB (l.any p)):=by
 exact Ao Afs Tryz.func91 R R lb<|zr<|za R R<|znr<|zm R R<|zm R R<|XL.call1 R R (Amq _ _ _ p hF) R<|zp (Dt R R R)<|za R R<|zn<|zt<|z1 R R (rB Ape)
end Go.Proofs.YtcihalbakenleaaGreat
namespace Go.Proofs.YtcihalbakenleaaGreat
open Go.RowKit
structure Vo.fit3 (v:Vo):Prop where
 evs:v.evs.length≤3000
 tups:v.tups.length≤1000
 ev:∀e∈v.evs,e.fit
theorem Vo.fit.f3 {v:Vo} (h:v.fit):v.fit3:=⟨Nat.le_trans h.evs (by decide),h.tups,h.ev⟩
theorem Alj {y:Ev} {x:Hd} (h:x.tied=true) (k:y.kind=1):Hc y x=⟨x.p,Lo y.heads x.p,x.sh⟩:=by unfold Hc;rw [h,decide_eq_true k];rfl
theorem Ali {y:Ev} {x:Hd} (k:¬y.kind=1):Hc y x=⟨x.p,false,x.sh⟩:=by unfold Hc;rw [decide_eq_false k,Bool.false_and,Bool.and_false]
theorem Alh {y:Ev} {x:Hd} (h:¬x.tied=true):Hc y x=⟨x.p,false,x.sh⟩:=by
 have:x.tied=false:=by simpa using h
 unfold Hc;rw [this,Bool.false_and]
theorem Xi {x:Vo} (h:Dp x=0) (hl:x.evs.length≤128):Sml x:=by
 have h2:=(S5 h).2
 have hT:=Iu (fun k=>k h2)
 refine ⟨by omega,by have:=hT.len;omega,fun t ht=> ?_⟩
 have:=hT.ok t ht
 unfold Tp.ok at this
 omega
def Vo.err0 (x:Vo):Int:=match x.evs[0]? with|some e=>e.err|none=>0
theorem Aij {x:Vo} {e:Ev} (h:x.evs[0]? =some e):x.err0=e.err:=by unfold Vo.err0;rw [h]
def Pm (d:Vo) (f l:Nat) (x:Vo):Vo:=⟨Ca (Ca (A5 d f (l - f) x).evs ((f:Nat) - 1)) ((f:Nat)+x.evs.length - 1),(A5 d f (l - f) x).tups⟩
def Jg (v:Vo) (a b:Int) (d:Vo) (f l:Nat) (x:Vo):Vo × Int:=
 if 128<(x.evs.length:Int) then (⟨[], []⟩,9) else if x.whole then (⟨[], []⟩,if x.err0≠0 then x.err0 else 11) else if Dp x≠0 then (⟨[], []⟩,Dp x) else if tot (Ed x)≠b - a then (⟨[], []⟩,20) else if a=b then (v,0) else
 if 128<((A5 d f (l - f) x).evs.length:Int)∨16<((A5 d f (l - f) x).tups.length:Int) then (⟨[], []⟩,9) else (Pm d f l x,0)
def Ke (v:Vo) (p:Pl) (a b:Int) (x:Vo):Vo × Int:=if (Fh v p a b).2.2.2≠0 then (⟨[], []⟩,(Fh v p a b).2.2.2) else Jg v a b (Fh v p a b).1 (Fh v p a b).2.1.toNat (Fh v p a b).2.2.1.toNat x
theorem Aog {v:Vo} {p:Pl} {a b:Int} {d x:Vo} {f l:Nat} {e:Int} (h:Fh v p a b=(d,(f:Int),(l:Int),e)) (he:e≠0):Ke v p a b x=(⟨[], []⟩,e):=by rw [Ke,h,if_pos he]
theorem I5 {v:Vo} {p:Pl} {a b:Int} {d x:Vo} {f l:Nat} {e:Int} (h:Fh v p a b=(d,(f:Int),(l:Int),e)) (he:¬e≠0):Ke v p a b x=Jg v a b d f l x:=by rw [Ke,h,if_neg he];rfl
section
variable {v d x:Vo} {a b:Int} {f l:Nat}
theorem Aoe (h:128<(x.evs.length:Int)):Jg v a b d f l x=(⟨[], []⟩,9):=by rw [Jg,if_pos h]
theorem Aod {e:Ev} (h:¬128<(x.evs.length:Int)) (h2:x.whole) (he:x.evs[0]? =some e) (h3:e.err≠0):Jg v a b d f l x=(⟨[], []⟩,e.err):=by rw [Jg,if_neg h,if_pos h2,Aij he,if_pos h3]
theorem Aoc {e:Ev} (h:¬128<(x.evs.length:Int)) (h2:x.whole) (he:x.evs[0]? =some e) (h3:¬e.err≠0):Jg v a b d f l x=(⟨[], []⟩,11):=by rw [Jg,if_neg h,if_pos h2,Aij he,if_neg h3]
theorem Aob (h:¬128<(x.evs.length:Int)) (h2:¬x.whole) (h3:Dp x≠0):Jg v a b d f l x=(⟨[], []⟩,Dp x):=by rw [Jg,if_neg h,if_neg h2,if_pos h3]
theorem Aoa (h:¬128<(x.evs.length:Int)) (h2:¬x.whole) (h3:¬Dp x≠0) (h4:tot (Ed x)≠b - a):Jg v a b d f l x=(⟨[], []⟩,20):=by rw [Jg,if_neg h,if_neg h2,if_neg h3,if_pos h4]
theorem An9 (h:¬128<(x.evs.length:Int)) (h2:¬x.whole) (h3:¬Dp x≠0) (h4:¬tot (Ed x)≠b - a) (h5:a=b):Jg v a b d f l x=(v,0):=by rw [Jg,if_neg h,if_neg h2,if_neg h3,if_neg h4,if_pos h5]
theorem Aaz (h:¬128<(x.evs.length:Int)) (h2:¬x.whole) (h3:¬Dp x≠0) (h4:¬tot (Ed x)≠b - a) (h5:¬a=b) (h6:128<((A5 d f (l - f) x).evs.length:Int)∨16<((A5 d f (l - f) x).tups.length:Int)):Jg v a b d f l x=(⟨[], []⟩,9):=by rw [Jg,if_neg h,if_neg h2,if_neg h3,if_neg h4,if_neg h5,if_pos h6]
theorem W7 (h:¬128<(x.evs.length:Int)) (h2:¬x.whole) (h3:¬Dp x≠0) (h4:¬tot (Ed x)≠b - a) (h5:¬a=b) (h6:¬(128<((A5 d f (l - f) x).evs.length:Int)∨16<((A5 d f (l - f) x).tups.length:Int))):Jg v a b d f l x=(Pm d f l x,0):=by rw [Jg,if_neg h,if_neg h2,if_neg h3,if_neg h4,if_neg h5,if_neg h6]
end
theorem Nz {d x:Vo} {f n:Nat} (hd:∀e∈d.evs,e.fit) (hx:∀e∈x.evs,e.fit):∀e∈(A5 d f n x).evs,e.fit:=by
 intro e he
 simp only [A5] at he
 rcases List.mem_append.1 he with he|he
 ·rcases List.mem_append.1 he with he|he
  ·exact hd e (List.mem_of_mem_take he)
  ·exact hx e he
 ·exact hd e (List.mem_of_mem_drop he)
theorem Aof {d x:Vo} {f l:Nat} (hd:d.fit) (hx:x.fit3) (h:¬(128<((A5 d f (l - f) x).evs.length:Int)∨16<((A5 d f (l - f) x).tups.length:Int))):(Pm d f l x).fit:=by
 refine ⟨?_, ?_,fun e he=>Lg (Lg (Nz hd.ev hx.ev) _) _ e he⟩
 ·show (Ca (Ca (A5 d f (l - f) x).evs ((f:Nat) - 1)) ((f:Nat)+x.evs.length - 1)).length≤1000
  rw [Lf,Lf];omega
 ·show (A5 d f (l - f) x).tups.length≤1000
  omega
theorem Atn (v:Vo) (p:Pl) (a b:Int) (z:Vo) (hE:Evs v.evs) (hF:v.fit) (hEx:Evs z.evs) (hFx:z.fit3):XC Tryz.prog 41 [.agg (Vo.c v), .agg (Pl.c p), .v (.int .i64 a), .v (.int .i64 b), .agg (Vo.c z)] (fun r=>r= .tup [.agg (Vo.c (Ke v p a b z).1),dI (Ke v p a b z).2]):=by
 obtain ⟨d,f,l,e,hreg,hok⟩:=Ui v p a b
 refine Ao Agx Tryz.func41 R R lb<|zr<|XL.step R (Au 5 (l:= [.d (.sl 13 (v.evs.map Ev.c)), .d (.sl 4 (v.tups.map Tp.c))]) R R (by kernel_rfl))<|XL.step R (Au 6 (l:= [.d (dI p.m.count), .d (dI p.m.unit), .d (dI p.m.g0), .d (dI p.m.g1), .d (dI p.m.g2), .d (dI p.m.g3), .d (dI p.m.g4), .d (dI p.m.g5), .d (dI p.off), .d (dI p.len)]) R R (by kernel_rfl))<|?_
 refine XL.step R (Au 9 (l:= [.d (.sl 13 (z.evs.map Ev.c)), .d (.sl 4 (z.tups.map Tp.c))]) R R (by kernel_rfl))<|XL.step R (A4 10 (l:= [.d (.v (.slice none 0 0)), .d (.v (.slice none 0 0))]) R A9 (by kernel_rfl))<|za R R<|znr<|zp (Ae (s':= .d (.agg (Vo.c v))) (Ac (Ad R R Ap R lb)) (by kernel_rfl))<|?_
 refine zp (Ae (s':= .d (.agg (Pl.c p))) (Ac (Ad R R Ir R lb)) (by kernel_rfl))<|zm R R<|zm R R<|XL.call1 R R (Atk hE hF hreg) R<|zm R R<|zp (Bc R R R)<|zp (Bc R R R)<|zp (Bc R R R)<|zp (Bc R R R)<|XL.step R (A4 12 (l:= [.d (.v (.slice none 0 0)), .d (.v (.slice none 0 0))]) R A9 (by kernel_rfl))<|?_
 refine XL.step R (Ag (l':= [.d (.sl 13 (d.evs.map Ev.c)), .d (.sl 4 (d.tups.map Tp.c))]) R R R R Bm R lb (by kernel_rfl))<|za R R<|za R R<|za R R<|zn<|zs<|zr<|zm R R<|zp (Bg R R R)<|zn<|?_
 refine zd R (fun c30=> ?_) (fun c30=> ?_)
 refine zr<|zp (Ae (s':= .d (.agg [.v (.slice none 0 0), .v (.slice none 0 0)])) (Ac (Ba R B7 A9 R)) (by kernel_rfl))<|zm R R<|XL.step R (Ag (l':= [.d (.v (.slice none 0 0)), .d (.v (.slice none 0 0))]) R R R R Bm R lb (by kernel_rfl))<|za R R<|zn<|zt<|?_
 exact Bl R (RV.sub (RV.cells R R R Ap lb R) (.agg (.cons (.nil 13) (.cons (.nil 4) (.nil))))) (RV.tmp R R) (r2v (Aog hreg c30))
 refine zi<|zs<|zs<|?_
 have hO:=hok (by omega)
 have hFd:=hO.fit hF
 obtain ⟨hsd,hdl⟩:=Kr (Dn hO.chk).2.2
 have hfl:=hO.fl
 have hll:=hO.ll
 have hab:=hO.rng
 have hpb:=(Dn hO.hc).2.1
 unfold Pl.bad at hpb
 refine Af (by kernel_rfl)<|zp (Aa R R Ay)<|zp (Ab R R Bi R R)<|XL.len R R R Tryz.underlying22 fun hl35=>zp (A8 R R R)<|zn<|?_
 refine zd R (fun c36=> ?_) (fun c36=> ?_)
 refine zr<|zp (Ae (s':= .d (.agg [.v (.slice none 0 0), .v (.slice none 0 0)])) (Ac (Ba R B7 A9 R)) (by kernel_rfl))<|XL.step R (Ag (l':= [.d (.v (.slice none 0 0)), .d (.v (.slice none 0 0))]) R R R R Bm R lb (by kernel_rfl))<|za R R<|zn<|zt<|?_
 exact Bl R (RV.sub (RV.cells R R R Ap lb R) (.agg (.cons (.nil 13) (.cons (.nil 4) (.nil))))) (RV.tmp R R) (r2v ((I5 hreg c30).trans (Aoe c36)))
 refine zi<|zs<|zr<|zp (Ae (s':= .d (.agg (Vo.c z))) (Ac (Ad R R Ap R lb)) (by kernel_rfl))<|XL.call1 R R (Z9 _) R<|zn<|?_
 refine zd R (fun c39=> ?_) (fun c39=> ?_)
 refine zs<|zs<|?_
 obtain ⟨e0,he0⟩:=No c39
 have he0a:=hEx e0 (List.mem_of_getElem? he0)
 refine Af (by kernel_rfl)<|zp (Aa R R Ay)<|zp (Ab R R Bi R R)<|zp (Am (k:=0) R R R B6 (he0))<|zp (Ae (s':= .d (.agg (Ev.c e0))) (Av R R Az lb) (by kernel_rfl))<|XL.call1 R R (O9 _ (by assumption)) R<|za R R<|znr<|zm R R<|zp (Bg R R R)<|zn<|?_
 refine zd R (fun c46=> ?_) (fun c46=> ?_)
 refine zr<|zp (Ae (s':= .d (.agg [.v (.slice none 0 0), .v (.slice none 0 0)])) (Ac (Ba R B7 A9 R)) (by kernel_rfl))<|zm R R<|XL.step R (Ag (l':= [.d (.v (.slice none 0 0)), .d (.v (.slice none 0 0))]) R R R R Bm R lb (by kernel_rfl))<|za R R<|zn<|zt<|?_
 exact Bl R (RV.sub (RV.cells R R R Ap lb R) (.agg (.cons (.nil 13) (.cons (.nil 4) (.nil))))) (RV.tmp R R) (r2v ((I5 hreg c30).trans (Aod c36 c39 he0 c46)))
 refine zi<|zr<|zp (Ae (s':= .d (.agg [.v (.slice none 0 0), .v (.slice none 0 0)])) (Ac (Ba R B7 A9 R)) (by kernel_rfl))<|XL.step R (Ag (l':= [.d (.v (.slice none 0 0)), .d (.v (.slice none 0 0))]) R R R R Bm R lb (by kernel_rfl))<|za R R<|zn<|zt<|?_
 exact Bl R (RV.sub (RV.cells R R R Ap lb R) (.agg (.cons (.nil 13) (.cons (.nil 4) (.nil))))) (RV.tmp R R) (r2v ((I5 hreg c30).trans (Aoc c36 c39 he0 c46)))
 refine zi<|zr<|zp (Ae (s':= .d (.agg (Vo.c z))) (Ac (Ad R R Ap R lb)) (by kernel_rfl))<|XL.call1 R R (Uu _ (by assumption) (by omega)) R<|zm R R<|zp (Bc R R R)<|zp (Bc R R R)<|za R R<|za R R<|zn<|zs<|Ah<|zr<|zm R R<|?_
 refine zp (Bg R R R)<|za R R<|zn<|?_
 refine zd R (fun c55=> ?_) (fun c55=> ?_)
 refine zr<|zp (Ae (s':= .d (.agg [.v (.slice none 0 0), .v (.slice none 0 0)])) (Ac (Ba R B7 A9 R)) (by kernel_rfl))<|zm R R<|XL.step R (Ag (l':= [.d (.v (.slice none 0 0)), .d (.v (.slice none 0 0))]) R R R R Bm R lb (by kernel_rfl))<|za R R<|zn<|zt<|?_
 exact Bl R (RV.sub (RV.cells R R R Ap lb R) (.agg (.cons (.nil 13) (.cons (.nil 4) (.nil))))) (RV.tmp R R) (r2v ((I5 hreg c30).trans (Aob c36 c39 c55)))
 refine zs<|?_
 have hNx:=R0 z
 refine Af (by kernel_rfl)<|zm R R<|XL.call1 R R (T5 _ (by assumption)) R<|zm R R<|zm R R<|zp (C7 R R R (by omega) (by omega))<|zp (Bg R R R)<|za R R<|zn<|?_
 refine zd R (fun c60=> ?_) (fun c60=> ?_)
 refine zr<|zp (Ae (s':= .d (.agg [.v (.slice none 0 0), .v (.slice none 0 0)])) (Ac (Ba R B7 A9 R)) (by kernel_rfl))<|XL.step R (Ag (l':= [.d (.v (.slice none 0 0)), .d (.v (.slice none 0 0))]) R R R R Bm R lb (by kernel_rfl))<|za R R<|zn<|zt<|?_
 exact Bl R (RV.sub (RV.cells R R R Ap lb R) (.agg (.cons (.nil 13) (.cons (.nil 4) (.nil))))) (RV.tmp R R) (r2v ((I5 hreg c30).trans (Aoa c36 c39 c55 c60)))
 refine zr<|zm R R<|zm R R<|zp (A1 R R R)<|za R R<|zn<|?_
 refine zd R (fun c68=> ?_) (fun c68=> ?_)
 refine zr<|zp (Ae (s':= .d (.agg (Vo.c v))) (Ac (Ad R R Ap R lb)) (by kernel_rfl))<|XL.call1 R R (H4 _ (by assumption)) R<|XL.step R (Ag (l':= [.d (.sl 13 (v.evs.map Ev.c)), .d (.sl 4 (v.tups.map Tp.c))]) R R R R Bm R lb (by kernel_rfl))<|za R R<|zn<|zt<|?_
 exact Bl R (RV.cells R R R Ap lb R) (RV.tmp R R) (r2v ((I5 hreg c30).trans (An9 c36 c39 c55 c60 c68)))
 refine zi<|zs<|?_
 have hFz:z.fit:=⟨by omega,hFx.tups,hFx.ev⟩
 have hsx:=Xi (x:=z) (by omega) (by omega)
 refine Ci 9 [7001,18] (by kernel_rfl) (by kernel_rfl) (by kernel_rfl) (by kernel_rfl) (by decide)<|yp (Ae (s':= .d (.agg (Vo.c d))) (Ac (Ad R R Ap R lb)) (by kernel_rfl))<|ym R R<|ym R R<|ym R R<|yp (Ae (s':= .d (dI (l - f:Nat))) (C7 R R R (by omega) (by omega)) (sI (by omega)))<|?_
 refine yp (Ae (s':= .d (.agg (Vo.c z))) (Ac (Ad R R Ap R lb)) (by kernel_rfl))<|ChK.cons R (CStep.call R (H4 _ (by assumption)) R)<|ChK.cons R (CStep.callS R (Vv d f (l - f) z hsd hsx (by omega)) R (Er (by kernel_rfl)))<|ChK.cons R (CStep.allocN 18 (l:= [.d (.v (.slice none 0 0)), .d (.v (.slice none 0 0))]) R A9 R R)<|?_
 refine ChK.nil ⟨by kernel_rfl, ?_⟩
 refine XL.step R (Ag (l':= [.own 7001, .d (.sl 4 ((A5 d f (l - f) z).tups.map Tp.c))]) R R R R Bm R lb (by kernel_rfl))<|zn<|zs<|zr<|zp (Aa R R Ay)<|zp (Ab R R Bi R R)<|zp (Cf R R R Tryz.underlying22)<|zp (A8 R R R)<|zm R R<|?_
 refine XL.dec 86 R (fun g86=> ?_) (fun g86=> ?_)
 refine zk 4 R<|zq R R R<|zn<|Aq (by kernel_rfl) R<|zr<|zp (Ae (s':= .d (.agg [.v (.slice none 0 0), .v (.slice none 0 0)])) (Ac (Ba R B7 A9 R)) (by kernel_rfl))<|XL.step R (Ag (l':= [.d (.v (.slice none 0 0)), .d (.v (.slice none 0 0))]) R R R R Bm R lb (by kernel_rfl))<|za R R<|zn<|zt<|?_
 exact Bl R (RV.sub (RV.cells R R R Ap lb R) (.agg (.cons (.nil 13) (.cons (.nil 4) (.nil))))) (RV.tmp R R) (r2v ((I5 hreg c30).trans (Aaz c36 c39 c55 c60 c68 (by omega))))
 refine zp (Aa R R Bn)<|zp (Ab R R B0 R R)<|XL.len R R R Tryz.underlying23 fun hl89=>zp (A8 R R R)<|zq R R R<|zn<|?_
 refine zd R (fun c91=> ?_) (fun c91=> ?_)
 refine zr<|zp (Ae (s':= .d (.agg [.v (.slice none 0 0), .v (.slice none 0 0)])) (Ac (Ba R B7 A9 R)) (by kernel_rfl))<|XL.step R (Ag (l':= [.d (.v (.slice none 0 0)), .d (.v (.slice none 0 0))]) R R R R Bm R lb (by kernel_rfl))<|za R R<|zn<|zt<|?_
 exact Bl R (RV.sub (RV.cells R R R Ap lb R) (.agg (.cons (.nil 13) (.cons (.nil 4) (.nil))))) (RV.tmp R R) (r2v ((I5 hreg c30).trans (Aaz c36 c39 c55 c60 c68 (by omega))))
 refine zi<|zs<|?_
 have hfe:=Nz (f:=f) (n:=l - f) hFd.ev hFx.ev
 refine Af (by kernel_rfl)<|zp (Aa R R Ay)<|zp (Ab R R Bi R R)<|zm R R<|zp (C7 R R R (by omega) (by omega))<|?_
 refine XL.inlM 900001 [(9, .ptr 9 0 0),(10, .ptr 10 0 0),(11, .d (dI 0)),(13, .d (dI (f:Nat))),(18, .ptr 18 0 0)] (mkF [(9, .ptr 9 0 0),(10, .ptr 10 0 0),(11, .d (dI 0)),(13, .d (dI (f:Nat))),(18, .ptr 18 0 0)]) (mkH [(9, .box ((Vo.c z).map S.d)),(10, .box [.d (.v (.slice none 0 0)), .d (.v (.slice none 0 0))]),(18, .box [.own 7001, .d (.sl 4 ((A5 d f (l - f) z).tups.map Tp.c))]),(7001, .row 60 13 ((Ca ((A5 d f (l - f) z).evs) (((f:Nat) - 1))).map Ev.c))]) R R .d Tw Tryz.func89 R R lb (by simp only [List.forall_mem_cons];exact ⟨⟨Nat.le_of_ble_eq_true rfl,rfl⟩,⟨⟨Nat.le_of_ble_eq_true rfl,rfl⟩,⟨⟨Nat.le_of_ble_eq_true rfl,rfl⟩,⟨⟨Nat.le_of_ble_eq_true rfl,rfl⟩,⟨⟨Nat.le_of_ble_eq_true rfl,rfl⟩,fun p hp=>(by cases hp)⟩⟩⟩⟩⟩) ?_ (fun u1=> ?_)
 refine zn<|zs<|?_
 have hfe2:=Lg hfe ((f:Nat) - 1)
 have hsl:=Lf ((A5 d f (l - f) z).evs) ((f:Nat) - 1)
 refine Af (by kernel_rfl)<|zp (Aa R R Ay)<|zp (Ab R R Bi R R)<|zm R R<|zp (Aa R R Ay)<|zp (Ab R R Bi R R)<|XL.len R R R Tryz.underlying22 fun hl103=>zp (Aj R R R (by omega) (by omega))<|zp (C7 R R R (by omega) (by omega))<|?_
 refine XL.inlM 900002 [(10, .ptr 10 0 0),(11, .d (dI 0)),(18, .ptr 18 0 0)] (mkF [(10, .ptr 10 0 0),(11, .d (dI 0)),(18, .ptr 18 0 0)]) (mkH [(10, .box [.d (.v (.slice none 0 0)), .d (.v (.slice none 0 0))]),(18, .box [.own 7001, .d (.sl 4 ((A5 d f (l - f) z).tups.map Tp.c))]),(7001, .row 60 13 ((Ca (Ca ((A5 d f (l - f) z).evs) (((f:Nat) - 1))) (((f:Nat)+z.evs.length - 1))).map Ev.c))]) R R .d Tw Tryz.func89 R R lb (by simp only [List.forall_mem_cons];exact ⟨⟨Nat.le_of_ble_eq_true rfl,rfl⟩,⟨⟨Nat.le_of_ble_eq_true rfl,rfl⟩,⟨⟨Nat.le_of_ble_eq_true rfl,rfl⟩,fun p hp=>(by cases hp)⟩⟩⟩) ?_ (fun u2=> ?_)
 refine zn<|zs<|?_
 have hpf:=Aof (f:=f) (l:=l) hFd hFx (by omega)
 refine Af (by kernel_rfl)<|XL.freeze (i:=7001) R<|zp (Ae (s':= .d (.agg (Vo.c (Pm d f l z)))) (Ac (Ad R R Ap R lb)) (by kernel_rfl))<|XL.call1 R R (H4 _ (by assumption)) R<|XL.step R (Ag (l':= [.d (.sl 13 ((Pm d f l z).evs.map Ev.c)), .d (.sl 4 ((Pm d f l z).tups.map Tp.c))]) R R R R Bm R lb (by kernel_rfl))<|za R R<|zn<|zt<|?_
 exact Bl R (RV.cells R R R Ap lb R) (RV.tmp R R) (r2v ((I5 hreg c30).trans (W7 c36 c39 c55 c60 c68 (by omega))))
 refine zs<|zr<|zm R R<|zp (Ar R R R)<|zm R R<|?_
 refine XL.dec 8 R (fun g8t=> ?_) (fun g8t=> ?_)
 refine zk 5 R<|zq R R R<|zn<|Aq (by kernel_rfl) R<|zt<|?_
 exact S3 (l:= [(10, .ptr 10 0 0),(11, .d (dI 0)),(18, .ptr 18 0 0)]) (by kernel_rfl) (rs0 R R) (fz ⟨sr,sr,sr,trivial⟩) (gz ⟨R,R,Pi (Jz (.inl g8t)).symm,trivial⟩)
 refine zm R R<|zp (Aj R R R (by omega) (by omega))<|zp (Aw R (by conv=>lhs;whnf))<|?_
 refine zp (Cf R R R Tryz.underlying22)<|zp (Dt R R R)<|zq R R R<|zn<|?_
 refine zd R (fun c14t=> ?_) (fun c14t=> ?_)
 refine zt<|?_
 exact S3 (l:= [(10, .ptr 10 0 0),(11, .d (dI 0)),(18, .ptr 18 0 0)]) (by kernel_rfl) (rs0 R R) (fz ⟨sr,sr,sr,trivial⟩) (gz ⟨R,R,Pi (Jz (.inr (by omega))).symm,trivial⟩)
 refine zi<|zs<|?_
 obtain ⟨m,hm⟩:∃m:Nat,(((f:Nat)+z.evs.length - 1):Int)=m:=⟨(((f:Nat)+z.evs.length - 1):Int).toNat,by omega⟩
 obtain ⟨x,hx⟩:∃x,(Ca ((A5 d f (l - f) z).evs) (((f:Nat) - 1)))[m]? =some x:=At (by omega)
 obtain ⟨y,hy⟩:∃y,(Ca ((A5 d f (l - f) z).evs) (((f:Nat) - 1)))[m+1]? =some y:=At (by omega)
 have hxf:x.fit:=hfe2 x (List.mem_of_getElem? hx)
 have hxh:=hxf.1
 refine Af (by kernel_rfl)<|zp (Aw R (by conv=>lhs;whnf))<|?_
 refine zm R R<|zp (Aw R (by conv=>lhs;whnf))<|?_
 refine zm R R<|zp (Cr R R R (hm) R B6 (by omega))<|zp (Aa R R Be)<|zp (F3 R R Cu R (Ce hx) R)<|XL.callS R R ((Jn _ (by omega)).lab 7002) R<|XL.toS (i:=7001) R<|zp (Ff R R R (hm) R B6 (Aat (by omega)))<|zp (Aa R R Be)<|XL.step R (Rk R R R (Ru hx) R Hs R lb)<|znr<|zp (Aw R (by conv=>lhs;whnf))<|?_
 refine zm R R<|zp (Ff R R R (hm) R B6 (Jl (by omega)))<|zp (Aa R R Be)<|zp (Fx R R Cu R (Qj hx) R)<|zp (Cf R R R Tryz.underlying48)<|zm R R<|zn<|Ah<|?_
 refine Ax (α:=Nat) (fun j=>j≤x.heads.length) (fun j=>mkF [(0, .own 7001),(1, .d (dI (((f:Nat)+z.evs.length) - 1))),(30, .d (dI x.heads.length)),(31, .d (dI (j:Nat)))]) (fun j=>mkH [(10, .box [.d (.v (.slice none 0 0)), .d (.v (.slice none 0 0))]),(18, .box [.own 7001, .d (.sl 4 ((A5 d f (l - f) z).tups.map Tp.c))]),(7001, .rowS 60 13 ((F1 (Ca ((A5 d f (l - f) z).evs) (((f:Nat) - 1)))).set m (evO x 7002))),(7002, .row 91 5 ((If (Hc y) x.heads j).map Hd.c)),(900002, .ghost u2 [(10, .ptr 10 0 0),(11, .d (dI 0)),(18, .ptr 18 0 0)])]) (fun j=>x.heads.length - j) (0) (Nat.zero_le _) ?_ ?_ ?_
 exact fz ⟨sr,sr,sr,sr,trivial⟩
 exact gz ⟨R,R,R,by rw [←M6];rfl,rfl,trivial⟩
 intro j hk0t
 refine zr<|zp (Ar R R R)<|zn<|zs<|?_
 refine zd R (fun c32t=> ?_) (fun c32t=> ?_)
 have hjl:j<x.heads.length:=by omega
 obtain ⟨hd,hh⟩:=At hjl
 have hml:=K8 (Hc y) x.heads j
 have hg:=Ow (f:=Hc y) hh
 refine zi<|zs<|Ah<|zr<|zm R R<|za R R<|znr<|zp (Aw R (by conv=>lhs;whnf))<|?_
 refine zm R R<|zp (Ff R R R (hm) R B6 (Jl (by omega)))<|zp (Aa R R Be)<|zp (Fx R R Cu R (Qj hx) R)<|zm R R<|zp (Cr R R R (R) R Fg (by rw [K8];omega))<|XL.step R (A4 2005 (l:= [.d (.v (.pointer none))]) R Z6 (by kernel_rfl))<|XL.step R (Ag (l':= [.ptr 7002 _ _]) R R R R Ak7 R lb R)<|zn<|?_
 refine Z8 (i:=7001) (l':=(F1 (Ca ((A5 d f (l - f) z).evs) (((f:Nat) - 1)))).set m (evO x 7002)) R (X9 (by decide))<|?_
 by_cases q45:hd.tied=true
 by_cases q53t:(y.kind:Int)=(1:Int)
 refine Ci 24 [] (by kernel_rfl) (by kernel_rfl) (by kernel_rfl) (by kernel_rfl) (by decide)<|yp (Ab R R Im R R)<|yp (Ab R R Im R R)<|yp (F8 R R)<|yp (Aa R R Du)<|yp (Aa9 (F3 R R Kq R (Ce hg) R) q45)<|ym R R<|yp (Aw R (by conv=>lhs;whnf))<|?_
 refine ym R R<|yp (Aj R R R (by omega) (by omega))<|yp (Ff R R R (show _=((m+1:Nat):Int) by omega) rfl B6 (Jl (by omega)))<|yp (Aa R R Bz)<|yp (Fx R R Ai R (K6 hy) R)<|yp (Dy (A1 R R R) (q53t))<|yp (A6 R R (by conv=>lhs;whnf))<|?_
 refine ym R R<|yp (Aw R (by conv=>lhs;whnf))<|?_
 refine ym R R<|yp (Aj R R R (by omega) (by omega))<|yp (Ff R R R (show _=((m+1:Nat):Int) by omega) rfl B6 (Jl (by omega)))<|yp (Aa R R Be)<|yp (Fx R R Cu R (K6 hy) R)<|yp (Ajp R)<|?_
 refine ChK.cons R (CStep.lend R (Se y.heads 135 [.pt [.pt (Hd.c hd)]] (fun o=>decide (o.p=hd.p)) (fun o _=>Aho o hd)) (.cons (.d _) (.cons (.fn .nil (.cons (.pbox R R (.cons (.prow R (Ce hg)) .nil)) .nil)) .nil)))<|yp (A6 R R (by conv=>lhs;whnf))<|?_
 refine ChK.nil ⟨by kernel_rfl, ?_⟩
 refine zp (F8 R R)<|zp (Aa R R Du)<|XL.step R (Dk R R R (Ce hg) R R Pf R lb)<|zn<|Af (by kernel_rfl)<|zp (Aj R R R (by omega) (by omega))<|zm R R<|zn<|?_
 exact Ak (j+1) (by omega) (by omega) (fz ⟨sr,sr,sr,sr,trivial⟩) (gz ⟨R,R,R,Ly (a:=Hc y hd) (by rw [Alj q45 q53t];rfl) (Iv hh),R,trivial⟩)
 refine Ci 24 [] (by kernel_rfl) (by kernel_rfl) (by kernel_rfl) (by kernel_rfl) (by decide)<|yp (Ab R R Im R R)<|yp (Ab R R Im R R)<|yp (F8 R R)<|yp (Aa R R Du)<|yp (Aa9 (F3 R R Kq R (Ce hg) R) q45)<|ym R R<|yp (Aw R (by conv=>lhs;whnf))<|?_
 refine ym R R<|yp (Aj R R R (by omega) (by omega))<|yp (Ff R R R (show _=((m+1:Nat):Int) by omega) rfl B6 (Jl (by omega)))<|yp (Aa R R Bz)<|yp (Fx R R Ai R (K6 hy) R)<|yp (Gg (A1 R R R) (q53t))<|yp (A6 R R (by conv=>lhs;whnf))<|?_
 refine ym R R<|ChK.skip R<|ChK.skip R<|ChK.skip R<|ChK.skip R<|ChK.skip R<|ChK.skip R<|ChK.skip R<|ChK.skip R<|yp (A6 R R (by conv=>lhs;whnf))<|?_
 refine ChK.nil ⟨by kernel_rfl, ?_⟩
 refine zp (F8 R R)<|zp (Aa R R Du)<|XL.step R (Dk R R R (Ce hg) R R Pf R lb)<|zn<|Af (by kernel_rfl)<|zp (Aj R R R (by omega) (by omega))<|zm R R<|zn<|?_
 exact Ak (j+1) (by omega) (by omega) (fz ⟨sr,sr,sr,sr,trivial⟩) (gz ⟨R,R,R,Ly (a:=Hc y hd) (by rw [Ali q53t];rfl) (Iv hh),R,trivial⟩)
 refine Ci 24 [] (by kernel_rfl) (by kernel_rfl) (by kernel_rfl) (by kernel_rfl) (by decide)<|yp (Ab R R Im R R)<|yp (Ab R R Im R R)<|yp (F8 R R)<|yp (Aa R R Du)<|yp (Aor (F3 R R Kq R (Ce hg) R) q45)<|ym R R<|ChK.skip R<|ChK.skip R<|ChK.skip R<|ChK.skip R<|ChK.skip R<|ChK.skip R<|ChK.skip R<|?_
 refine yp (A6 R R (by conv=>lhs;whnf))<|?_
 refine ym R R<|ChK.skip R<|ChK.skip R<|ChK.skip R<|ChK.skip R<|ChK.skip R<|ChK.skip R<|ChK.skip R<|ChK.skip R<|yp (A6 R R (by conv=>lhs;whnf))<|?_
 refine ChK.nil ⟨by kernel_rfl, ?_⟩
 refine zp (F8 R R)<|zp (Aa R R Du)<|XL.step R (Dk R R R (Ce hg) R R Pf R lb)<|zn<|Af (by kernel_rfl)<|zp (Aj R R R (by omega) (by omega))<|zm R R<|zn<|?_
 exact Ak (j+1) (by omega) (by omega) (fz ⟨sr,sr,sr,sr,trivial⟩) (gz ⟨R,R,R,Ly (a:=Hc y hd) (by rw [Alh q45];rfl) (Iv hh),R,trivial⟩)
 have he:=Ox (f:=Hc y) (l:=x.heads) (k:=j) (by omega)
 refine Xv (i:=7002) R<|Akz (i:=7001) (l:=(Ca (Ca ((A5 d f (l - f) z).evs) (((f:Nat) - 1))) (((f:Nat)+z.evs.length - 1))).map Ev.c) R (by rw [he,hm,Rr hx hy];exact Vr)<|An<|?_
 exact Aib (l:= [(10, .ptr 10 0 0),(11, .d (dI 0)),(18, .ptr 18 0 0)]) (by kernel_rfl) (rs0 R R) (fz ⟨sr,sr,sr,trivial⟩) (gz ⟨R,R,R,trivial⟩)
 refine zs<|zr<|zm R R<|zp (Ar R R R)<|zm R R<|?_
 refine XL.dec 8 R (fun g8s=> ?_) (fun g8s=> ?_)
 refine zk 5 R<|zq R R R<|zn<|Aq (by kernel_rfl) R<|zt<|?_
 exact S3 (l:= [(9, .ptr 9 0 0),(10, .ptr 10 0 0),(11, .d (dI 0)),(13, .d (dI (f:Nat))),(18, .ptr 18 0 0)]) (by kernel_rfl) (rs0 R R) (fz ⟨sr,sr,sr,sr,sr,trivial⟩) (gz ⟨R,R,R,Pi (Jz (.inl g8s)).symm,trivial⟩)
 refine zm R R<|zp (Aj R R R (by omega) (by omega))<|zp (Aw R (by conv=>lhs;whnf))<|?_
 refine zp (Cf R R R Tryz.underlying22)<|zp (Dt R R R)<|zq R R R<|zn<|?_
 refine zd R (fun c14s=> ?_) (fun c14s=> ?_)
 refine zt<|?_
 exact S3 (l:= [(9, .ptr 9 0 0),(10, .ptr 10 0 0),(11, .d (dI 0)),(13, .d (dI (f:Nat))),(18, .ptr 18 0 0)]) (by kernel_rfl) (rs0 R R) (fz ⟨sr,sr,sr,sr,sr,trivial⟩) (gz ⟨R,R,R,Pi (Jz (.inr (by omega))).symm,trivial⟩)
 refine zi<|zs<|?_
 obtain ⟨m,hm⟩:∃m:Nat,(((f:Nat) - 1):Int)=m:=⟨(((f:Nat) - 1):Int).toNat,by omega⟩
 obtain ⟨x,hx⟩:∃x,((A5 d f (l - f) z).evs)[m]? =some x:=At (by omega)
 obtain ⟨y,hy⟩:∃y,((A5 d f (l - f) z).evs)[m+1]? =some y:=At (by omega)
 have hxf:x.fit:=hfe x (List.mem_of_getElem? hx)
 have hxh:=hxf.1
 refine Af (by kernel_rfl)<|zp (Aw R (by conv=>lhs;whnf))<|?_
 refine zm R R<|zp (Aw R (by conv=>lhs;whnf))<|?_
 refine zm R R<|zp (Cr R R R (hm) R B6 (by omega))<|zp (Aa R R Be)<|zp (F3 R R Cu R (Ce hx) R)<|XL.callS R R ((Jn _ (by omega)).lab 7003) R<|XL.toS (i:=7001) R<|zp (Ff R R R (hm) R B6 (Aat (by omega)))<|zp (Aa R R Be)<|XL.step R (Rk R R R (Ru hx) R Hs R lb)<|znr<|zp (Aw R (by conv=>lhs;whnf))<|?_
 refine zm R R<|zp (Ff R R R (hm) R B6 (Jl (by omega)))<|zp (Aa R R Be)<|zp (Fx R R Cu R (Qj hx) R)<|zp (Cf R R R Tryz.underlying48)<|zm R R<|zn<|Ah<|?_
 refine Ax (α:=Nat) (fun j=>j≤x.heads.length) (fun j=>mkF [(0, .own 7001),(1, .d (dI ((f:Nat) - 1))),(30, .d (dI x.heads.length)),(31, .d (dI (j:Nat)))]) (fun j=>mkH [(9, .box ((Vo.c z).map S.d)),(10, .box [.d (.v (.slice none 0 0)), .d (.v (.slice none 0 0))]),(18, .box [.own 7001, .d (.sl 4 ((A5 d f (l - f) z).tups.map Tp.c))]),(7001, .rowS 60 13 ((F1 ((A5 d f (l - f) z).evs)).set m (evO x 7003))),(7003, .row 91 5 ((If (Hc y) x.heads j).map Hd.c)),(900001, .ghost u1 [(9, .ptr 9 0 0),(10, .ptr 10 0 0),(11, .d (dI 0)),(13, .d (dI (f:Nat))),(18, .ptr 18 0 0)])]) (fun j=>x.heads.length - j) (0) (Nat.zero_le _) ?_ ?_ ?_
 exact fz ⟨sr,sr,sr,sr,trivial⟩
 exact gz ⟨R,R,R,R,by rw [←M6];rfl,rfl,trivial⟩
 intro j hk0s
 refine zr<|zp (Ar R R R)<|zn<|zs<|?_
 refine zd R (fun c32s=> ?_) (fun c32s=> ?_)
 have hjl:j<x.heads.length:=by omega
 obtain ⟨hd,hh⟩:=At hjl
 have hml:=K8 (Hc y) x.heads j
 have hg:=Ow (f:=Hc y) hh
 refine zi<|zs<|Ah<|zr<|zm R R<|za R R<|znr<|zp (Aw R (by conv=>lhs;whnf))<|?_
 refine zm R R<|zp (Ff R R R (hm) R B6 (Jl (by omega)))<|zp (Aa R R Be)<|zp (Fx R R Cu R (Qj hx) R)<|zm R R<|zp (Cr R R R (R) R Fg (by rw [K8];omega))<|XL.step R (A4 2005 (l:= [.d (.v (.pointer none))]) R Z6 (by kernel_rfl))<|XL.step R (Ag (l':= [.ptr 7003 _ _]) R R R R Ak7 R lb R)<|zn<|?_
 refine Z8 (i:=7001) (l':=(F1 ((A5 d f (l - f) z).evs)).set m (evO x 7003)) R (X9 (by decide))<|?_
 by_cases q45:hd.tied=true
 by_cases q53s:(y.kind:Int)=(1:Int)
 refine Ci 24 [] (by kernel_rfl) (by kernel_rfl) (by kernel_rfl) (by kernel_rfl) (by decide)<|yp (Ab R R Im R R)<|yp (Ab R R Im R R)<|yp (F8 R R)<|yp (Aa R R Du)<|yp (Aa9 (F3 R R Kq R (Ce hg) R) q45)<|ym R R<|yp (Aw R (by conv=>lhs;whnf))<|?_
 refine ym R R<|yp (Aj R R R (by omega) (by omega))<|yp (Ff R R R (show _=((m+1:Nat):Int) by omega) rfl B6 (Jl (by omega)))<|yp (Aa R R Bz)<|yp (Fx R R Ai R (K6 hy) R)<|yp (Dy (A1 R R R) (q53s))<|yp (A6 R R (by conv=>lhs;whnf))<|?_
 refine ym R R<|yp (Aw R (by conv=>lhs;whnf))<|?_
 refine ym R R<|yp (Aj R R R (by omega) (by omega))<|yp (Ff R R R (show _=((m+1:Nat):Int) by omega) rfl B6 (Jl (by omega)))<|yp (Aa R R Be)<|yp (Fx R R Cu R (K6 hy) R)<|yp (Ajp R)<|?_
 refine ChK.cons R (CStep.lend R (Se y.heads 135 [.pt [.pt (Hd.c hd)]] (fun o=>decide (o.p=hd.p)) (fun o _=>Aho o hd)) (.cons (.d _) (.cons (.fn .nil (.cons (.pbox R R (.cons (.prow R (Ce hg)) .nil)) .nil)) .nil)))<|yp (A6 R R (by conv=>lhs;whnf))<|?_
 refine ChK.nil ⟨by kernel_rfl, ?_⟩
 refine zp (F8 R R)<|zp (Aa R R Du)<|XL.step R (Dk R R R (Ce hg) R R Pf R lb)<|zn<|Af (by kernel_rfl)<|zp (Aj R R R (by omega) (by omega))<|zm R R<|zn<|?_
 exact Ak (j+1) (by omega) (by omega) (fz ⟨sr,sr,sr,sr,trivial⟩) (gz ⟨R,R,R,R,Ly (a:=Hc y hd) (by rw [Alj q45 q53s];rfl) (Iv hh),R,trivial⟩)
 refine Ci 24 [] (by kernel_rfl) (by kernel_rfl) (by kernel_rfl) (by kernel_rfl) (by decide)<|yp (Ab R R Im R R)<|yp (Ab R R Im R R)<|yp (F8 R R)<|yp (Aa R R Du)<|yp (Aa9 (F3 R R Kq R (Ce hg) R) q45)<|ym R R<|yp (Aw R (by conv=>lhs;whnf))<|?_
 refine ym R R<|yp (Aj R R R (by omega) (by omega))<|yp (Ff R R R (show _=((m+1:Nat):Int) by omega) rfl B6 (Jl (by omega)))<|yp (Aa R R Bz)<|yp (Fx R R Ai R (K6 hy) R)<|yp (Gg (A1 R R R) (q53s))<|yp (A6 R R (by conv=>lhs;whnf))<|?_
 refine ym R R<|ChK.skip R<|ChK.skip R<|ChK.skip R<|ChK.skip R<|ChK.skip R<|ChK.skip R<|ChK.skip R<|ChK.skip R<|yp (A6 R R (by conv=>lhs;whnf))<|?_
 refine ChK.nil ⟨by kernel_rfl, ?_⟩
 refine zp (F8 R R)<|zp (Aa R R Du)<|XL.step R (Dk R R R (Ce hg) R R Pf R lb)<|zn<|Af (by kernel_rfl)<|zp (Aj R R R (by omega) (by omega))<|zm R R<|zn<|?_
 exact Ak (j+1) (by omega) (by omega) (fz ⟨sr,sr,sr,sr,trivial⟩) (gz ⟨R,R,R,R,Ly (a:=Hc y hd) (by rw [Ali q53s];rfl) (Iv hh),R,trivial⟩)
 refine Ci 24 [] (by kernel_rfl) (by kernel_rfl) (by kernel_rfl) (by kernel_rfl) (by decide)<|yp (Ab R R Im R R)<|yp (Ab R R Im R R)<|yp (F8 R R)<|yp (Aa R R Du)<|yp (Aor (F3 R R Kq R (Ce hg) R) q45)<|ym R R<|ChK.skip R<|ChK.skip R<|ChK.skip R<|ChK.skip R<|ChK.skip R<|ChK.skip R<|ChK.skip R<|?_
 refine yp (A6 R R (by conv=>lhs;whnf))<|?_
 refine ym R R<|ChK.skip R<|ChK.skip R<|ChK.skip R<|ChK.skip R<|ChK.skip R<|ChK.skip R<|ChK.skip R<|ChK.skip R<|yp (A6 R R (by conv=>lhs;whnf))<|?_
 refine ChK.nil ⟨by kernel_rfl, ?_⟩
 refine zp (F8 R R)<|zp (Aa R R Du)<|XL.step R (Dk R R R (Ce hg) R R Pf R lb)<|zn<|Af (by kernel_rfl)<|zp (Aj R R R (by omega) (by omega))<|zm R R<|zn<|?_
 exact Ak (j+1) (by omega) (by omega) (fz ⟨sr,sr,sr,sr,trivial⟩) (gz ⟨R,R,R,R,Ly (a:=Hc y hd) (by rw [Alh q45];rfl) (Iv hh),R,trivial⟩)
 have he:=Ox (f:=Hc y) (l:=x.heads) (k:=j) (by omega)
 refine Xv (i:=7003) R<|Akz (i:=7001) (l:=(Ca ((A5 d f (l - f) z).evs) (((f:Nat) - 1))).map Ev.c) R (by rw [he,hm,Rr hx hy];exact Vr)<|An<|?_
 exact Aib (l:= [(9, .ptr 9 0 0),(10, .ptr 10 0 0),(11, .d (dI 0)),(13, .d (dI (f:Nat))),(18, .ptr 18 0 0)]) (by kernel_rfl) (rs0 R R) (fz ⟨sr,sr,sr,sr,sr,trivial⟩) (gz ⟨R,R,R,R,trivial⟩)
end Go.Proofs.YtcihalbakenleaaGreat
namespace Go.Proofs.YtcihalbakenleaaGreat
open Go.RowKit
theorem Ao0 {l:List Hd} {k:Nat} {x:Hd} {q:Pit} (h:l[k]? =some x) (e:x.p=q):true=Lo l q:=by
 symm;rw [Lo,List.any_eq_true];exact ⟨x,List.mem_of_getElem? h,decide_eq_true e⟩
theorem Ar2 {l:List Hd} {q:Pit} (h:∀(j:Nat) x,l[j]? =some x→x.p≠q):false=Lo l q:=by
 symm;rw [Lo,List.any_eq_false]
 intro x hx
 obtain ⟨j,hj⟩:=List.getElem?_of_mem hx
 simpa using h j x hj
def O0 (y:Ev) (h:Hd):Hd:=⟨h.p,h.tied && Lo y.heads h.p,h.sh⟩
def Z0 (x y:Ev):Ev:=x.reh (x.heads.map (O0 y))
theorem Ase {y:Ev} {x:Hd} (h:x.tied=true):O0 y x=⟨x.p,Lo y.heads x.p,x.sh⟩:=by unfold O0;rw [h];rfl
theorem Asd {y:Ev} {x:Hd} (h:x.tied=false):O0 y x=⟨x.p,false,x.sh⟩:=by unfold O0;rw [h,Bool.false_and]
theorem Abj {α β:Type} {f:α→β} {l:List α} {k:Nat} {x:α} {y:β} (h:l[k]? =some x) (hy:f x=y):(l.take (k+1)).map f=(l.take k).map f++ [y]:=by
 rw [Bo h,List.map_append, ←hy];rfl
theorem Alk {x y:Ev} (h:y.err=0):Nt x y=Z0 x y:=by
 unfold Nt Z0
 congr 1
 refine List.map_congr_left fun g _=> ?_
 unfold Hc O0
 by_cases c:y.kind=1
 ·rw [decide_eq_true c];rfl
 ·rw [Ev.no_heads h c,decide_eq_false c];rfl
theorem Aoz (x:Ev) (q:Pit):XC Tryz.prog 136 [.agg (Ev.c x), .agg (Pit.c q)] (fun r=>r=dB (Lo x.heads q)):=by
 refine Ao Adw Tryz.func136 R R lb<|zr<|XL.step R (Au 2 (l:= [.d (dI x.site), .d (dI x.num), .d (dI x.kind), .d (dI x.v.log), .d (dI x.v.dots), .d (.sl 5 (x.heads.map Hd.c)), .d (.sl 5 (x.graces.map Gr.c)), .d (dI x.art), .d (dI x.orn), .d (dI x.dyn), .d (.sl 2 (x.lyr.map Sy.c)), .d (dI x.stem), .d (dI x.beam)]) R R (by kernel_rfl))<|?_
 refine XL.step R (Au 3 (l:= [.d (dI q.step), .d (dI q.alter), .d (dI q.oct)]) R R (by kernel_rfl))<|za R R<|zn<|zs<|zr<|za R R<|zn<|Ah<|?_
 refine Ax (α:=Nat) (fun k=>k≤x.heads.length∧∀(j:Nat) z,j<k→x.heads[j]? =some z→z.p≠q) (fun k=>mkF [(2, .ptr 2 0 0),(3, .ptr 3 0 0),(5, .d (dI k))]) (fun k=>mkH [(2, .box ((Ev.c x).map S.d)),(3, .box ((Pit.c q).map S.d))]) (fun k=>x.heads.length - k) (0) (⟨Nat.zero_le _,fun j z hj=>absurd hj (Nat.not_lt_zero _)⟩) ?_ ?_ ?_
 exact fz ⟨sr,sr,sr,trivial⟩
 exact gz ⟨R,R,trivial⟩
 intro k hk0
 obtain ⟨hk,hall⟩:=hk0
 refine zs<|zr<|zm R R<|zp (Aa R R Be)<|zp (Ab R R Cu R R)<|XL.len R R R Tryz.underlying48 fun hl9=>zp (Ar R R R)<|zn<|?_
 refine zd R (fun c10=> ?_) (fun c10=> ?_)
 have hk0a:k<x.heads.length:=by omega
 obtain ⟨x0,hx0⟩:=At hk0a
 refine zi<|zs<|Ah<|zs<|Bk [] (by kernel_rfl) (by kernel_rfl) (by kernel_rfl) (by decide)<|yp (Aa R R Be)<|yp (Ab R R Cu R R)<|ym R R<|yp (Am R R R Fg hx0)<|yp (Bp R R Gi)<|yp (Ae (s':= .d (.agg (Pit.c x0.p))) (Av R R Eu lb) (by kernel_rfl))<|?_
 refine yp (Ae (s':= .d (.agg (Pit.c q))) (Ac (Ad R R Eu R lb)) (by kernel_rfl))<|yp (Aa8 R R R)<|?_
 refine ChK.nil ⟨by kernel_rfl, ?_⟩
 refine zd R (fun c20=> ?_) (fun c20=> ?_)
 exact zr<|za R R<|zn<|zt<|z1 R R (rB (Ao0 hx0 (Pit.eq_of c20)))
 refine zi<|Af (by kernel_rfl)<|zm R R<|zp (Aj R R R (by omega) (by omega))<|za R R<|zn<|?_
 exact Ak (k+1) (⟨by omega,fun j z hj hz=>by by_cases e:j=k;(· subst e;rw [hx0] at hz;cases hz;exact fun e=>c20 (by rw [e];exact ⟨rfl,rfl,rfl⟩));(· exact hall j z (by omega) hz)⟩) (by omega) (fz ⟨sr,sr,sr,trivial⟩) (gz ⟨rfl,rfl,trivial⟩)
 have hk0b:k=x.heads.length:=by omega
 exact An<|zr<|za R R<|zn<|zt<|z1 R R (rB (Ar2 (fun j z hz=>hall j z (by have:=(List.getElem?_eq_some_iff.1 hz).1;omega) hz)))
theorem Xg (x y:Ev) (h:x.heads.length≤1000):XC Tryz.prog 90 [.agg (Ev.c x), .agg (Ev.c y)] (fun r=>r= .agg (Ev.c (Z0 x y))):=by
 refine Ao Aft Tryz.func90 R R lb<|zr<|XL.step R (Au 2 (l:= [.d (dI x.site), .d (dI x.num), .d (dI x.kind), .d (dI x.v.log), .d (dI x.v.dots), .d (.sl 5 (x.heads.map Hd.c)), .d (.sl 5 (x.graces.map Gr.c)), .d (dI x.art), .d (dI x.orn), .d (dI x.dyn), .d (.sl 2 (x.lyr.map Sy.c)), .d (dI x.stem), .d (dI x.beam)]) R R (by kernel_rfl))<|?_
 refine XL.step R (Au 3 (l:= [.d (dI y.site), .d (dI y.num), .d (dI y.kind), .d (dI y.v.log), .d (dI y.v.dots), .d (.sl 5 (y.heads.map Hd.c)), .d (.sl 5 (y.graces.map Gr.c)), .d (dI y.art), .d (dI y.orn), .d (dI y.dyn), .d (.sl 2 (y.lyr.map Sy.c)), .d (dI y.stem), .d (dI y.beam)]) R R (by kernel_rfl))<|?_
 refine XL.step R (A4 4 (l:= [.d (dI 0), .d (dI 0), .d (dI 0), .d (dI 0), .d (dI 0), .d (.v (.slice none 0 0)), .d (.v (.slice none 0 0)), .d (dI 0), .d (dI 0), .d (dI 0), .d (.v (.slice none 0 0)), .d (dI 0), .d (dI 0)]) R B3 (by kernel_rfl))<|znr<|zp (Aa R R Be)<|zp (Ab R R Cu R R)<|za R R<|znr<|zp (Aa R R Be)<|?_
 refine XL.step R (Ag (l':= [.d (dI x.site), .d (dI x.num), .d (dI x.kind), .d (dI x.v.log), .d (dI x.v.dots),_, .d (.sl 5 (x.graces.map Gr.c)), .d (dI x.art), .d (dI x.orn), .d (dI x.dyn), .d (.sl 2 (x.lyr.map Sy.c)), .d (dI x.stem), .d (dI x.beam)]) R R R R Hs R lb R)<|zn<|zs<|zr<|za R R<|zn<|Ah<|?_
 refine Kt 901 2 5 91 5 (l':= [.d (dI x.site), .d (dI x.num), .d (dI x.kind), .d (dI x.v.log), .d (dI x.v.dots), .own 901, .d (.sl 5 (x.graces.map Gr.c)), .d (dI x.art), .d (dI x.orn), .d (dI x.dyn), .d (.sl 2 (x.lyr.map Sy.c)), .d (dI x.stem), .d (dI x.beam)]) R R (by decide) (by kernel_rfl)<|?_
 refine Ax (α:=Nat) (fun k=>k≤x.heads.length) (fun k=>mkF [(2, .ptr 2 0 0),(3, .ptr 3 0 0),(4, .ptr 4 0 0),(5, .d (.sl 5 (x.heads.map Hd.c))),(6, .d (dI k))]) (fun k=>mkH [(2, .box [.d (dI x.site), .d (dI x.num), .d (dI x.kind), .d (dI x.v.log), .d (dI x.v.dots), .own 901, .d (.sl 5 (x.graces.map Gr.c)), .d (dI x.art), .d (dI x.orn), .d (dI x.dyn), .d (.sl 2 (x.lyr.map Sy.c)), .d (dI x.stem), .d (dI x.beam)]),(3, .box ((Ev.c y).map S.d)),(4, .box [.d (dI 0), .d (dI 0), .d (dI 0), .d (dI 0), .d (dI 0), .d (.v (.slice none 0 0)), .d (.v (.slice none 0 0)), .d (dI 0), .d (dI 0), .d (dI 0), .d (.v (.slice none 0 0)), .d (dI 0), .d (dI 0)]),(901, .row 91 5 (((x.heads.take k).map (O0 y)).map Hd.c))]) (fun k=>x.heads.length - k) (0) (Nat.zero_le _) ?_ ?_ ?_
 exact fz ⟨sr,sr,sr,sr,sr,trivial⟩
 exact gz ⟨R,R,R,R,trivial⟩
 intro k hk0
 refine zs<|zr<|zm R R<|zm R R<|XL.len R R R Tryz.underlying48 fun hl13=>zp (Ar R R R)<|zn<|?_
 refine zd R (fun c14=> ?_) (fun c14=> ?_)
 have hk0a:k<x.heads.length:=by omega
 obtain ⟨x0,hx0⟩:=At hk0a
 have htl:((x.heads.take k).map (O0 y)).length=k:=by rw [List.length_map,List.length_take];omega
 refine zi<|zs<|Ah<|zr<|zm R R<|zm R R<|zp (Am R R R Fg hx0)<|zp (Ae (s':= .d (.agg (Hd.c x0))) (Av R R Kd lb) (by kernel_rfl))<|XL.step R (A4 7 (l:= [.d (dI 0), .d (dI 0), .d (dI 0), .d (dB false), .d (dI 0)]) R Hy (by kernel_rfl))<|?_
 refine XL.step R (Ag (l':= [.d (dI x0.p.step), .d (dI x0.p.alter), .d (dI x0.p.oct), .d (dB x0.tied), .d (dI x0.sh)]) R R R R M2 R lb (by kernel_rfl))<|znr<|zp (Aa R R Du)<|zp (Ab R R Kq R R)<|zm R R<|?_
 refine XL.bool 23 R (fun g23=> ?_) (fun g23=> ?_)
 refine zp (Ae (s':= .d (.agg (Ev.c y))) (Ac (Ad R R Az R lb)) (by kernel_rfl))<|zp (Aa R R Gi)<|zp (Ae (s':= .d (.agg (Pit.c x0.p))) (Ac (Ad R R Eu R lb)) (by kernel_rfl))<|XL.call1 R R (Aoz _ _) R<|zq R R R<|zp (Aa R R Du)<|?_
 refine XL.step R (Ag (l':= [.d (dI x0.p.step), .d (dI x0.p.alter), .d (dI x0.p.oct), .d (dB (Lo y.heads x0.p)), .d (dI x0.sh)]) R R R R Pf R lb (by kernel_rfl))<|zng<|zp (Aa R R Be)<|zp (Ab R R Cu R R)<|?_
 refine zp (Ae (s':= .d (.agg [dI x0.p.step,dI x0.p.alter,dI x0.p.oct,dB (Lo y.heads x0.p),dI x0.sh])) (Ac (Ad R R Kd R lb)) (by kernel_rfl))<|XL.step R (Bj 33 R Tryz.underlying48 M2 Hy R R (by omega) (by omega))<|XL.step R (A3 R Sc (.own R) (Src.own R) (by unfold maxLen;simp;omega) (by simp;omega))<|zp (Aa R R Be)<|?_
 refine XL.step R (Ag (l':= [.d (dI x.site), .d (dI x.num), .d (dI x.kind), .d (dI x.v.log), .d (dI x.v.dots), .own 901, .d (.sl 5 (x.graces.map Gr.c)), .d (dI x.art), .d (dI x.orn), .d (dI x.dyn), .d (.sl 2 (x.lyr.map Sy.c)), .d (dI x.stem), .d (dI x.beam)]) R R R R Hs R lb (by kernel_rfl))<|zn<|Af (by kernel_rfl)<|zm R R<|zp (Aj R R R (by omega) (by omega))<|za R R<|zn<|?_
 exact Ak (k+1) (by omega) (by omega) (fz ⟨sr,sr,sr,sr,sr,trivial⟩) (gz ⟨R,R,R,D5 (by rw [Ase g23];rfl) (Abj hx0 R),trivial⟩)
 refine zk 4 R<|zq R R R<|zp (Aa R R Du)<|XL.step R (Ag (l':= [.d (dI x0.p.step), .d (dI x0.p.alter), .d (dI x0.p.oct), .d (dB false), .d (dI x0.sh)]) R R R R Pf R lb (by kernel_rfl))<|zng<|zp (Aa R R Be)<|zp (Ab R R Cu R R)<|?_
 refine zp (Ae (s':= .d (.agg [dI x0.p.step,dI x0.p.alter,dI x0.p.oct,dB false,dI x0.sh])) (Ac (Ad R R Kd R lb)) (by kernel_rfl))<|XL.step R (Bj 33 R Tryz.underlying48 M2 Hy R R (by omega) (by omega))<|XL.step R (A3 R Sc (.own R) (Src.own R) (by unfold maxLen;simp;omega) (by simp;omega))<|zp (Aa R R Be)<|?_
 refine XL.step R (Ag (l':= [.d (dI x.site), .d (dI x.num), .d (dI x.kind), .d (dI x.v.log), .d (dI x.v.dots), .own 901, .d (.sl 5 (x.graces.map Gr.c)), .d (dI x.art), .d (dI x.orn), .d (dI x.dyn), .d (.sl 2 (x.lyr.map Sy.c)), .d (dI x.stem), .d (dI x.beam)]) R R R R Hs R lb (by kernel_rfl))<|zn<|Af (by kernel_rfl)<|zm R R<|zp (Aj R R R (by omega) (by omega))<|za R R<|zn<|?_
 exact Ak (k+1) (by omega) (by omega) (fz ⟨sr,sr,sr,sr,sr,trivial⟩) (gz ⟨R,R,R,D5 (by rw [Asd g23];rfl) (Abj hx0 R),trivial⟩)
 have hk0b:k=x.heads.length:=by omega
 have ht:x.heads.take k=x.heads:=by rw [hk0b,List.take_length]
 refine An<|zr<|zp (Ac (Ad R R Az R lb))<|XL.step R (Ag (l':= [.d (dI x.site), .d (dI x.num), .d (dI x.kind), .d (dI x.v.log), .d (dI x.v.dots), .own 901, .d (.sl 5 (x.graces.map Gr.c)), .d (dI x.art), .d (dI x.orn), .d (dI x.dyn), .d (.sl 2 (x.lyr.map Sy.c)), .d (dI x.stem), .d (dI x.beam)]) R R R R B4 R lb (by kernel_rfl))<|zn<|zt<|Bf (i:=901) R<|?_
 exact Gb R (RV.cells R R R Az lb R) (by rw [ht];rfl)
def Hu (x:Vo):Int:=if 128<x.evs.length then 9 else if C8 2 0 x.evs≠0 then C8 2 0 x.evs else if Cz x.tups (wrS x.evs)≠0 then Cz x.tups (wrS x.evs) else if F0 x.tups (wrS x.evs)≠0 then 21 else 0
theorem Abq {n m:Nat}:∀{l:List Ev} {k:Nat},0<k→C8 n k l=C8 m k l
 | [],k,_=>rfl
 |e::r,k,h=>by
  rw [C8,C8,Abq (n:=n) (m:=m) (l:=r) (k:=k+1) (by omega)]
  by_cases c:e.err≠0
  ·rw [if_pos c,if_pos c]
  ·rw [if_neg c,if_neg c]
   by_cases c2:e.kind=3
   ·rw [if_pos ⟨c2, .inl h⟩,if_pos ⟨c2, .inl h⟩]
   ·rw [if_neg (fun k=>c2 k.1),if_neg (fun k=>c2 k.1)]
theorem Py {x:Vo} {k:Nat} (h:¬128<(x.evs.length:Int)) {a:Int} (ha:C8 2 0 x.evs=a) (h0:a≠0):a=Hu x:=by rw [Hu,if_neg (by omega),ha,if_pos h0]
theorem Aa4 {x:Vo} (h:¬128<(x.evs.length:Int)) (h0:C8 2 0 x.evs=0) (h2:Cz x.tups (wrS x.evs)≠0):Cz x.tups (wrS x.evs)=Hu x:=by rw [Hu,if_neg (by omega),if_neg (by omega),if_pos h2]
theorem Atw {x:Vo} {k:Nat} {t:Tp} (h:¬128<(x.evs.length:Int)) (h0:C8 2 0 x.evs=0) (h2:¬Cz x.tups (wrS x.evs)≠0) (ht:x.tups[k]? =some t) (hn:(!(Fq (Ku x.tups k) t (wrS x.evs)).isSome)=true):21=Hu x:=by
 rw [Hu,if_neg (by omega),if_neg (by omega),if_neg h2,if_pos];rw [←(Ai5 h2 ht hn).2];decide
theorem Atx {x:Vo} (h:¬128<(x.evs.length:Int)) (h0:C8 2 0 x.evs=0) (h2:¬Cz x.tups (wrS x.evs)≠0) (hn:Jj x.tups (wrS x.evs)):0=Hu x:=by
 rw [Hu,if_neg (by omega),if_neg (by omega),if_neg h2,if_neg];rw [←(Ai4 h2 hn).2];decide
theorem Q4 {l:List Ev} (h:C8 2 0 l=0):∀e∈l,e.err=0∧e.kind≠3:=fun e he=>by
 obtain ⟨j,hj⟩:=List.getElem?_of_mem he
 have:=inGo_zero.1 h j e hj
 exact ⟨this.1,fun k=>this.2 ⟨k, .inr (by decide)⟩⟩
theorem Ah2 {x:Vo} (h:C8 2 0 x.evs=0):¬x.rest:=fun k=>by
 obtain ⟨e,he⟩:=No k.1
 exact (Q4 h e (List.mem_of_getElem? he)).2 ((G2 he).1 k.1)
theorem Aoi {x:Vo} {v d:Vo} {a b:Int} {f l:Nat} (h:Hu x≠0):Jg v a b d f l x=(⟨[], []⟩,Hu x):=by
 by_cases c1:128<(x.evs.length:Int)
 ·rw [Aoe c1,Hu,if_pos (by omega)]
 ·by_cases c2:x.whole
  ·obtain ⟨e,he⟩:=No c2
   have hk:=(G2 he).1 c2
   have hg:C8 2 0 x.evs=if e.err≠0 then e.err else 11:=by
    cases hx:x.evs with
    |nil=>rw [hx] at he;cases he
    |cons y r=>
     rw [hx] at he;cases he
     rw [C8]
     by_cases c:e.err≠0
     ·rw [if_pos c,if_pos c]
     ·rw [if_neg c,if_neg c,if_pos ⟨hk, .inr (by decide)⟩]
   by_cases c3:e.err≠0
   ·rw [if_pos c3] at hg
    rw [Aod c1 c2 he c3, ←Py (k:=0) c1 hg c3]
   ·rw [if_neg c3] at hg
    rw [Aoc c1 c2 he c3, ←Py (k:=0) c1 hg (by decide)]
  ·have hp:Hu x=Dp x:=by
    have hg:C8 2 0 x.evs=C8 x.evs.length 0 x.evs:=by
     cases hx:x.evs with
     |nil=>rfl
     |cons y r=>
      have hy:¬y.kind=3:=fun k=>c2 ((G2 (show x.evs[0]? =some y by rw [hx];rfl)).2 k)
      rw [C8,C8,if_neg (show ¬(y.kind=3∧_) from fun k=>hy k.1),if_neg (show ¬(y.kind=3∧_) from fun k=>hy k.1),Abq (by omega)]
    unfold Hu Dp
    rw [if_neg (by omega),hg]
   rw [Aob c1 c2 (by rw [←hp];exact h),hp]
theorem Arw {x:Vo} (h:Hu x=0):¬128<(x.evs.length:Int)∧¬x.whole∧Dp x=0∧¬x.rest:=by
 have c1:¬128<(x.evs.length:Int):=fun c=>by rw [Hu,if_pos (by omega)] at h;cases h
 have hg:C8 2 0 x.evs=0:=Decidable.byContradiction fun c=>by rw [←Py (k:=0) c1 rfl c] at h;exact c h
 have hr:=Ah2 hg
 have hw:¬x.whole:=fun k=>by
  obtain ⟨e,he⟩:=No k
  exact (Q4 hg e (List.mem_of_getElem? he)).2 ((G2 he).1 k)
 refine ⟨c1,hw,innE_zero.2 ⟨inGo_zero.2 fun j e hj=> ?_, ?_, ?_⟩,hr⟩
 ·have:=Q4 hg e (List.mem_of_getElem? hj)
  exact ⟨this.1,fun k=>this.2 k.1⟩
 ·exact Decidable.byContradiction fun c=>by rw [←Aa4 c1 hg c] at h;exact c h
 ·refine Decidable.byContradiction fun c=> ?_
  have h2:¬Cz x.tups (wrS x.evs)≠0:=fun c=>by rw [←Aa4 c1 hg c] at h;exact c h
  rw [Hu,if_neg (by omega),if_neg (by omega),if_neg h2,if_pos c] at h
  cases h
theorem Ai9 (v:Vo) (hE:Evs v.evs) (ht:v.tups.length≤1000):XC Tryz.prog 57 [.agg (Vo.c v), .v (.bool false)] (fun r=>r=dI (Hu v)):=by
 refine Ao Ty Tryz.func57 R R lb<|zr<|XL.step R (Au 2 (l:= [.d (.sl 13 (v.evs.map Ev.c)), .d (.sl 4 (v.tups.map Tp.c))]) R R (by kernel_rfl))<|za R R<|zn<|zs<|zr<|zp (Aa R R Ay)<|zp (Ab R R Bi R R)<|XL.len R R R Tryz.underlying22 fun hl14=>zp (A8 R R R)<|zn<|?_
 refine zd R (fun c15=> ?_) (fun c15=> ?_)
 exact zr<|za R R<|zn<|zt<|z1 R R (rI (by rw [Hu,if_pos (by omega)]))
 refine zi<|zs<|zr<|za R R<|zn<|Ah<|?_
 refine Ax (α:=Nat) (fun k=>k≤v.evs.length∧C8 2 k (v.evs.drop k)=C8 2 0 v.evs) (fun k=>mkF [(1, .d (dB false)),(2, .ptr 2 0 0),(5, .d (dI k))]) (fun k=>mkH [(2, .box ((Vo.c v).map S.d))]) (fun k=>v.evs.length - k) (0) (⟨Nat.zero_le _,by rw [List.drop_zero]⟩) ?_ ?_ ?_
 exact fz ⟨sr,sr,sr,trivial⟩
 exact gz ⟨R,trivial⟩
 intro k hk0
 obtain ⟨hk,hgo⟩:=hk0
 refine zs<|zr<|zm R R<|zp (Aa R R Ay)<|zp (Ab R R Bi R R)<|XL.len R R R Tryz.underlying22 fun hl19=>zp (Ar R R R)<|zn<|?_
 refine zd R (fun c20=> ?_) (fun c20=> ?_)
 have hk0a:k<v.evs.length:=by omega
 obtain ⟨x0,hx0⟩:=At hk0a
 have he:=hE x0 (List.mem_of_getElem? hx0)
 refine zi<|zs<|Ah<|zs<|zr<|zp (Aa R R Ay)<|zp (Ab R R Bi R R)<|zm R R<|zp (Am R R R B6 hx0)<|zp (Ae (s':= .d (.agg (Ev.c x0))) (Av R R Az lb) (by kernel_rfl))<|XL.call1 R R (Ti _ (by assumption)) R<|za R R<|znr<|zm R R<|?_
 refine zp (Bg R R R)<|zn<|?_
 refine zd R (fun c30=> ?_) (fun c30=> ?_)
 exact zr<|zm R R<|za R R<|zn<|zt<|z1 R R (rI (Py (k:=k) c15 (by rw [←hgo,Q3 hx0 c30]) c30))
 refine zi<|zr<|zp (Aa R R Ay)<|zp (Ab R R Bi R R)<|zm R R<|zp (Am R R R B6 hx0)<|zp (Bp R R Bz)<|zp (A0 R R Ai)<|zp (A1 R R R)<|zm R R<|?_
 refine XL.dec 39 R (fun g39=> ?_) (fun g39=> ?_)
 exact zm R R<|zm R R<|zk 4 R<|zq R R R<|zp (Dd R R)<|zq R R R<|zn<|Aq (by kernel_rfl) R<|zr<|za R R<|zn<|zt<|z1 R R (rI (Py (k:=k) c15 (by rw [←hgo,K9 hx0 c30 ⟨g39, .inr (by decide)⟩]) (by decide)))
 refine zk 8 R<|zq R R R<|zn<|A7 (by kernel_rfl) R<|zi<|Af (by kernel_rfl)<|zm R R<|zp (Aj R R R (by omega) (by omega))<|za R R<|zn<|?_
 exact Ak (k+1) (⟨by omega,by rw [←Mp hx0 c30 (by omega)];exact hgo⟩) (by omega) (fz ⟨sr,sr,sr,trivial⟩) (gz ⟨rfl,trivial⟩)
 have hk0b:k=v.evs.length:=by omega
 have hz:C8 2 0 v.evs=0:=by rw [←hgo,hk0b,List.drop_length];rfl
 refine An<|zs<|zr<|zp (Ae (s':= .d (.agg (Vo.c v))) (Ac (Ad R R Ap R lb)) (by kernel_rfl))<|XL.call1 R R (Qk _) R<|zn<|?_
 refine zd R (fun c50=> ?_) (fun c50=> ?_)
 exfalso;exact Ah2 hz c50
 refine zi<|zs<|zs<|?_
 have hva:=Q4 hz
 refine Bk [] (by kernel_rfl) (by kernel_rfl) (by kernel_rfl) (by decide)<|yp (Aa R R Bn)<|yp (Ab R R B0 R R)<|ChK.cons R (CStep.call R (J2 _ (by omega)) R)<|yp (Aa R R Ay)<|yp (Ab R R Bi R R)<|ChK.cons R (CStep.call R (Jk _ (by assumption) (by omega)) R)<|ChK.cons R (CStep.call R (Kv _ _) R)<|ym R R<|yp (Bc R R R)<|?_
 refine yp (Bc R R R)<|ya R R<|ya R R<|?_
 refine ChK.nil ⟨by kernel_rfl, ?_⟩
 refine zr<|zm R R<|zp (Bg R R R)<|zn<|?_
 refine zd R (fun c66=> ?_) (fun c66=> ?_)
 exact zr<|zm R R<|za R R<|zn<|zt<|z1 R R (rI (Aa4 c15 hz c66))
 refine zi<|zs<|zs<|?_
 have hT:=Iu c66
 have hws:=Aiw hva
 refine Af (by kernel_rfl)<|za R R<|zn<|Ah<|?_
 refine Ax (α:=Nat) (fun m=>m≤v.tups.length∧∀j,j<m→(P8 v.tups j (wrS v.evs)).isSome=true) (fun m=>mkF [(2, .ptr 2 0 0),(9, .d (dI m))]) (fun m=>mkH [(2, .box ((Vo.c v).map S.d))]) (fun m=>v.tups.length - m) (0) (⟨Nat.zero_le _,fun j hj=>absurd hj (Nat.not_lt_zero _)⟩) ?_ ?_ ?_
 exact fz ⟨sr,sr,trivial⟩
 exact gz ⟨R,trivial⟩
 intro m hk2
 obtain ⟨hm,hall⟩:=hk2
 refine zs<|zr<|zm R R<|zp (Aa R R Bn)<|zp (Ab R R B0 R R)<|XL.len R R R Tryz.underlying23 fun hl71=>zp (Ar R R R)<|zn<|?_
 refine zd R (fun c72=> ?_) (fun c72=> ?_)
 have hk2a:m<v.tups.length:=by omega
 obtain ⟨x2,hx2⟩:=At hk2a
 refine zi<|zs<|Ah<|zs<|Bk [] (by kernel_rfl) (by kernel_rfl) (by kernel_rfl) (by decide)<|yp (Aa R R Bn)<|yp (Ab R R B0 R R)<|ChK.cons R (CStep.call R (J2 _ (by omega)) R)<|ym R R<|yp (Aa R R Ay)<|yp (Ab R R Bi R R)<|ChK.cons R (CStep.call R (Jk _ (by assumption) (by omega)) R)<|?_
 refine ChK.cons R (CStep.call R (Yc v.tups m x2 (wrS v.evs) hx2 hT hws) R)<|ym R R<|yp (Bc R R R)<|yp (Bc R R R)<|ya R R<|ya R R<|?_
 refine ChK.nil ⟨by kernel_rfl, ?_⟩
 refine zr<|zm R R<|zp (Dd R R)<|zn<|?_
 refine Dv (by kernel_rfl) R (fun c87=> ?_) (fun c87=> ?_)
 exact zr<|za R R<|zn<|zt<|z1 R R (rI (Atw c15 hz c66 hx2 c87))
 refine zi<|Af (by kernel_rfl)<|zm R R<|zp (Aj R R R (by omega) (by omega))<|za R R<|zn<|?_
 exact Ak (m+1) (⟨by omega,fun j hj=>by by_cases e:j=m;(· subst e;rw [Kz hx2];exact (by simpa using c87));(· exact hall j (by omega))⟩) (by omega) (fz ⟨sr,sr,trivial⟩) (gz ⟨rfl,trivial⟩)
 have hk2b:m=v.tups.length:=by omega
 have ha:Jj v.tups (wrS v.evs):=fun j hj=>hall j (by omega)
 exact An<|zr<|za R R<|zn<|zt<|z1 R R (rI (Atx c15 hz c66 ha))
theorem Aax (v:Vo) (L:Int) (h:Dp v=0) (hr:¬v.rest) (hl:v.evs.length≤128):XC Tryz.prog 32 [.agg (Vo.c v), .v (.int .i64 L)] (fun r=>r= .sl 1 (B8 (Ed v))):=by
 have hsv:=Xi h hl
 have htl:=hsv.tups
 have hva:=V1 (innE_zero.1 h).1 hr
 refine Ao T0 Tryz.func32 R R lb<|zr<|XL.step R (Au 2 (l:= [.d (.sl 13 (v.evs.map Ev.c)), .d (.sl 4 (v.tups.map Tp.c))]) R R (by kernel_rfl))<|za R R<|zn<|zs<|zr<|zp (Ae (s':= .d (.agg (Vo.c v))) (Ac (Ad R R Ap R lb)) (by kernel_rfl))<|XL.call1 R R (Qk _) R<|zn<|?_
 refine zd R (fun c8=> ?_) (fun c8=> ?_)
 exfalso;exact hr c8
 refine zi<|zs<|Bk [] (by kernel_rfl) (by kernel_rfl) (by kernel_rfl) (by decide)<|yp (Aa R R Bn)<|yp (Ab R R B0 R R)<|ChK.cons R (CStep.call R (J2 _ (by omega)) R)<|yp (Aa R R Ay)<|yp (Ab R R Bi R R)<|ChK.cons R (CStep.call R (Jk _ (by assumption) (by omega)) R)<|ChK.cons R (CStep.call R (Kv _ _) R)<|ym R R<|yp (Bc R R R)<|?_
 refine yp (Bc R R R)<|ya R R<|ya R R<|?_
 refine ChK.nil ⟨by kernel_rfl, ?_⟩
 exact zr<|zm R R<|za R R<|zn<|zt<|z1 R R (rSl (by rw [Ed,if_pos h]))
end Go.Proofs.YtcihalbakenleaaGreat
namespace Go.Proofs.YtcihalbakenleaaGreat
open Go.RowKit
theorem Atp {z:Vo} {a b:Int} (h:Dp z=0) (h2:¬tot (Ed z)≠b - a) (h3:¬a=b):0<z.evs.length:=by
 refine Nat.pos_of_ne_zero fun h0=> ?_
 have hl:=(S5 h).1
 rw [List.eq_nil_of_length_eq_zero (l:=Ed z) (by omega),Kg] at h2
 omega
theorem Aq2 {t:Tp} {a b:Int} (h:a=t.first+b): [dI a,dI t.count,dI t.actual,dI t.normal]=Tp.c (t.mv b):=by rw [h];rfl
theorem Uh {d z:Vo} {f l:Nat} (h:f≤l):(A5 d f (l - f) z).evs=d.evs.take f++z.evs++d.evs.drop l:=by
 show d.evs.take f++z.evs++d.evs.drop (f+(l - f))=_
 rw [show f+(l - f)=l by omega]
theorem Apt {p:Pl} {d:Vo} (h:p.chk d=0):∀e∈d.evs,e.err=0:=(Ip (Dn h).2.2).1
theorem Apb {z:Vo} (h:Dp z=0) (hr:¬z.rest):∀e∈z.evs,e.err=0:=fun e he=>(V1 (innE_zero.1 h).1 hr e he).1
theorem Alu {d z:Vo} {f n:Nat} (hd:∀e∈d.evs,e.err=0) (hz:∀e∈z.evs,e.err=0):∀e∈(A5 d f n z).evs,e.err=0:=by
 intro e he
 simp only [A5] at he
 rcases List.mem_append.1 he with he|he
 ·rcases List.mem_append.1 he with he|he
  ·exact hd e (List.mem_of_mem_take he)
  ·exact hz e he
 ·exact hd e (List.mem_of_mem_drop he)
theorem T9 {x y:Ev} (h:x.err=0):(Nt x y).err=0:=by
 by_cases hk:x.kind=3
 ·have hn:=Ev.no_heads h (by omega)
  have:Nt x y=x:=by unfold Nt;rw [hn];show x.reh []=x;rw [←hn];rfl
  rw [this];exact h
 ·exact Ev.err_reh h hk (fun e=>by rw [e];rfl) (fun e=>Ob (f:=Hc y) (fun _=>rfl) (fun _ _ k=>k) e)
theorem Vm {l:List Ev} (h:∀e∈l,e.err=0) (i:Int):∀e∈Ca l i,e.err=0:=by
 unfold Ca
 split
 ·exact h
 ·split
  ·rename_i x y hx hy
   intro e he
   rcases List.mem_or_eq_of_mem_set he with k|k
   ·exact h e k
   ·rw [k];exact T9 (h x (List.mem_of_getElem? hx))
  ·exact h
theorem Ph {l:List Ev} {i:Int} {m:Nat} {x y:Ev} (hm:i=m) (hx:l[m]? =some x) (hy:l[m+1]? =some y) (hl:∀e∈l,e.err=0):(l.map Ev.c).set m (Ev.c (Z0 x y))=(Ca l i).map Ev.c:=by
 rw [hm,Rr hx hy,List.map_set,Alk (hl y (List.mem_of_getElem? hy))]
theorem Arq (v:Vo) (p:Pl) (a b:Int) (z:Vo) (hF:v.fit) (hc:p.chk v=0) (hEz:Evs z.evs) (hFz:z.fit3):XC Tryz.prog 42 [.agg (Vo.c v), .agg (Pl.c p), .v (.int .i64 a), .v (.int .i64 b), .agg (Vo.c z)] (fun r=>r= .tup [.agg (Vo.c (Ke v p a b z).1),dI (Ke v p a b z).2]):=by
 obtain ⟨d,f,l,e,hreg,hok⟩:=Ui v p a b
 have hzt:=hFz.tups
 refine Ao Agw Tryz.func42 R R lb<|zr<|XL.step R (Au 5 (l:= [.d (.sl 13 (v.evs.map Ev.c)), .d (.sl 4 (v.tups.map Tp.c))]) R R (by kernel_rfl))<|XL.step R (Au 6 (l:= [.d (dI p.m.count), .d (dI p.m.unit), .d (dI p.m.g0), .d (dI p.m.g1), .d (dI p.m.g2), .d (dI p.m.g3), .d (dI p.m.g4), .d (dI p.m.g5), .d (dI p.off), .d (dI p.len)]) R R (by kernel_rfl))<|?_
 refine XL.step R (Au 9 (l:= [.d (.sl 13 (z.evs.map Ev.c)), .d (.sl 4 (z.tups.map Tp.c))]) R R (by kernel_rfl))<|XL.step R (A4 10 (l:= [.d (.v (.slice none 0 0)), .d (.v (.slice none 0 0))]) R A9 (by kernel_rfl))<|za R R<|znr<|zp (Ae (s':= .d (.agg (Vo.c v))) (Ac (Ad R R Ap R lb)) (by kernel_rfl))<|?_
 refine zp (Ae (s':= .d (.agg (Pl.c p))) (Ac (Ad R R Ae1 R lb)) (by kernel_rfl))<|zm R R<|zm R R<|XL.call1 R R (Arf hF hc hreg) R<|zm R R<|zp (Bc R R R)<|zp (Bc R R R)<|zp (Bc R R R)<|zp (Bc R R R)<|XL.step R (A4 12 (l:= [.d (.v (.slice none 0 0)), .d (.v (.slice none 0 0))]) R A9 (by kernel_rfl))<|?_
 refine XL.step R (Ag (l':= [.d (.sl 13 (d.evs.map Ev.c)), .d (.sl 4 (d.tups.map Tp.c))]) R R R R Bm R lb (by kernel_rfl))<|za R R<|za R R<|za R R<|zn<|zs<|zr<|zm R R<|zp (Bg R R R)<|zn<|?_
 refine zd R (fun c37=> ?_) (fun c37=> ?_)
 refine zr<|zp (Ae (s':= .d (.agg [.v (.slice none 0 0), .v (.slice none 0 0)])) (Ac (Ba R B7 A9 R)) (by kernel_rfl))<|zm R R<|XL.step R (Ag (l':= [.d (.v (.slice none 0 0)), .d (.v (.slice none 0 0))]) R R R R Bm R lb (by kernel_rfl))<|za R R<|zn<|zt<|?_
 exact Bl R (RV.sub (RV.cells R R R Ap lb R) (.agg (.cons (.nil 13) (.cons (.nil 4) (.nil))))) (RV.tmp R R) (r2v (Aog hreg c37))
 refine zi<|zs<|zs<|?_
 have hO:=hok (by omega)
 have hFd:=hO.fit hF
 obtain ⟨hsd,hdl⟩:=Kr (Dn hO.chk).2.2
 have hfl:=hO.fl
 have hll:=hO.ll
 have hab:=hO.rng
 have hpb:=(Dn hO.hc).2.1
 unfold Pl.bad at hpb
 have hdt:=hsd.tups
 refine Af (by kernel_rfl)<|zp (Ae (s':= .d (.agg (Vo.c z))) (Ac (Ad R R Ap R lb)) (by kernel_rfl))<|XL.call1 R R (Ai9 _ hEz (by omega)) R<|za R R<|znr<|zm R R<|zp (Bg R R R)<|zn<|?_
 refine zd R (fun c43=> ?_) (fun c43=> ?_)
 refine zr<|zp (Ae (s':= .d (.agg [.v (.slice none 0 0), .v (.slice none 0 0)])) (Ac (Ba R B7 A9 R)) (by kernel_rfl))<|zm R R<|XL.step R (Ag (l':= [.d (.v (.slice none 0 0)), .d (.v (.slice none 0 0))]) R R R R Bm R lb (by kernel_rfl))<|za R R<|zn<|zt<|?_
 exact Bl R (RV.sub (RV.cells R R R Ap lb R) (.agg (.cons (.nil 13) (.cons (.nil 4) (.nil))))) (RV.tmp R R) (r2v ((I5 hreg c37).trans (Aoi c43)))
 refine zi<|zs<|zs<|?_
 obtain ⟨hp1,hp2,hp3,hp4⟩:=Arw (x:=z) (by omega)
 have hNx:=R0 z
 have hsx:=Xi (x:=z) hp3 (by omega)
 have hxt:=hsx.tups
 refine Af (by kernel_rfl)<|zp (Ae (s':= .d (.agg (Vo.c z))) (Ac (Ad R R Ap R lb)) (by kernel_rfl))<|XL.call1 R R (Aax z 0 hp3 hp4 (by omega)) R<|XL.call1 R R (Ahv _ (by assumption)) R<|zm R R<|zm R R<|zp (C7 R R R (by omega) (by omega))<|zp (Bg R R R)<|zn<|?_
 refine zd R (fun c52=> ?_) (fun c52=> ?_)
 refine zr<|zp (Ae (s':= .d (.agg [.v (.slice none 0 0), .v (.slice none 0 0)])) (Ac (Ba R B7 A9 R)) (by kernel_rfl))<|XL.step R (Ag (l':= [.d (.v (.slice none 0 0)), .d (.v (.slice none 0 0))]) R R R R Bm R lb (by kernel_rfl))<|za R R<|zn<|zt<|?_
 exact Bl R (RV.sub (RV.cells R R R Ap lb R) (.agg (.cons (.nil 13) (.cons (.nil 4) (.nil))))) (RV.tmp R R) (r2v ((I5 hreg c37).trans (Aoa hp1 hp2 (by omega) c52)))
 refine zi<|zs<|zr<|zm R R<|zm R R<|zp (A1 R R R)<|zn<|?_
 refine zd R (fun c56=> ?_) (fun c56=> ?_)
 refine zr<|zp (Ae (s':= .d (.agg (Vo.c v))) (Ac (Ad R R Ap R lb)) (by kernel_rfl))<|XL.step R (Ag (l':= [.d (.sl 13 (v.evs.map Ev.c)), .d (.sl 4 (v.tups.map Tp.c))]) R R R R Bm R lb (by kernel_rfl))<|za R R<|zn<|zt<|?_
 exact Bl R (RV.cells R R R Ap lb R) (RV.tmp R R) (r2v ((I5 hreg c37).trans (An9 hp1 hp2 (by omega) c52 c56)))
 refine zi<|zr<|zp (Aa R R Ay)<|zp (Ab R R Bi R R)<|XL.len R R R Tryz.underlying22 fun hl60=>za R R<|zn<|zs<|?_
 have htk:(d.evs.take f).length=f:=by rw [List.length_take];omega
 refine Af (by kernel_rfl)<|XL.step R (Bj 61 R Tryz.underlying22 B4 B3 R R (by omega) (by omega))<|zp (Aa R R Ay)<|zp (Ab R R Bi R R)<|zm R R<|zp (En R R B6 Bd.no (Bd.at R) (Nat.zero_le _) (by omega))<|?_
 refine XL.step R (A3 R Dz (.own R) (Src.sl (by omega)) (by simp only [List.length_append,List.length_map,List.length_take,List.length_drop,List.length_nil];unfold maxLen;omega) (by simp only [List.length_append,List.length_map,List.length_take,List.length_drop,List.length_nil];omega))<|?_
 refine XL.rowq (i:=61) (l':=(d.evs.take (f:Nat)).map Ev.c) R (by rw [List.nil_append,List.drop_zero])<|zp (Ac (Ba R B7 A9 R))<|XL.step R (A4 18 (l:= [.d (.v (.slice none 0 0)), .d (.v (.slice none 0 0))]) R A9 (by kernel_rfl))<|XL.step R (Ag (l':= [.own 61, .d (.v (.slice none 0 0))]) R R R R Bm R lb (by kernel_rfl))<|zn<|zs<|?_
 refine Js 4 9 [] (S.kill 61) 61 (R4 61 (.row 60 13 ((d.evs.take (f:Nat)++z.evs).map Ev.c))) (by kernel_rfl) (by kernel_rfl) (by kernel_rfl) (by kernel_rfl) (by decide)<|ChMK.bf R (CStep.pure (Aa R R Ay)) (by conv=>lhs;whnf)<|?_
 refine ChMK.bf R (CStep.pure (Ab R R Bi R R)) (by conv=>lhs;whnf)<|?_
 refine ChMK.bf R (CStep.pure (Aa R R Ay)) (by conv=>lhs;whnf)<|?_
 refine ChMK.bf R (CStep.pure (Ab R R Bi R R)) (by conv=>lhs;whnf)<|?_
 refine ChMK.mu R (N6 (l2:=(d.evs.take (f:Nat)++z.evs).map Ev.c) R Dz (.own R) (Src.sl (by omega)) (by simp only [List.length_append,List.length_map,List.length_take,List.length_drop,List.length_nil];unfold maxLen;omega) (by simp only [List.length_append,List.length_map,List.length_take,List.length_drop,List.length_nil];omega) (Xc))<|?_
 refine ChMK.fr R R (CStep.pure (Aa R R Ay)) (CStep.pure (Aa R R Ay)) (by exact rfl)<|ChMK.fr R R (CStep.pure (Ab R R Bi R R)) (CStep.pure (Ab R R Bi R R)) (by exact rfl)<|ChMK.fr R R (CStep.pure (Aw R (by conv=>lhs;whnf))) (CStep.pure (Aw R (by conv=>lhs;whnf))) (by exact rfl)<|?_
 refine ChMK.fr R R (CStep.pure (En R R B6 (Bd.at R) Bd.no (by omega) (Nat.le_refl _))) (CStep.pure (En R R B6 (Bd.at R) Bd.no (by omega) (Nat.le_refl _))) (by exact rfl)<|?_
 refine ChMK.nil ⟨⟨by kernel_rfl,by kernel_rfl,by kernel_rfl⟩, ?_⟩
 refine XL.step R (A3 R Dz (.own R) (Src.sl (by omega)) (by simp only [List.length_append,List.length_map,List.length_take,List.length_drop,List.length_nil];unfold maxLen;omega) (by simp only [List.length_append,List.length_map,List.length_take,List.length_drop,List.length_nil];omega))<|?_
 refine XL.rowq (i:=61) (l':=((A5 d f (l - f) z).evs).map Ev.c) R (by rw [Uh hfl,List.take_length];simp only [List.map_append])<|zp (Aa R R Ay)<|XL.step R (Ag (l':= [.own 61, .d (.v (.slice none 0 0))]) R R R R Vi R lb (by kernel_rfl))<|zn<|zs<|zr<|za R R<|zn<|Ah<|Kt 902 18 1 102 4 (l':= [.own 61, .own 902]) R R (by decide) (by kernel_rfl)<|?_
 refine Ax (α:=Nat) (fun k=>k≤d.tups.length) (fun k=>mkF [(9, .ptr 9 0 0),(10, .ptr 10 0 0),(11, .d (dI 0)),(12, .ptr 12 0 0),(13, .d (dI (f:Nat))),(14, .d (dI (l:Nat))),(17, .d (dI z.evs.length)),(18, .ptr 18 0 0),(19, .d (dI k))]) (fun k=>mkH [(9, .box ((Vo.c z).map S.d)),(10, .box [.d (.v (.slice none 0 0)), .d (.v (.slice none 0 0))]),(12, .box ((Vo.c d).map S.d)),(18, .box [.own 61, .own 902]),(61, .row 60 13 (((A5 d f (l - f) z).evs).map Ev.c)),(902, .row 102 4 ((Cg (fun t=>decide (t.first<((f:Nat):Int))) 0 (d.tups.take k)).map Tp.c))]) (fun k=>d.tups.length - k) (0) (Nat.zero_le _) ?_ ?_ ?_
 exact fz ⟨sr,sr,sr,sr,sr,sr,sr,sr,sr,trivial⟩
 exact gz ⟨R,R,R,R,R,R,trivial⟩
 intro k hk0
 refine zs<|zr<|zm R R<|zp (Aa R R Bn)<|zp (Ab R R B0 R R)<|XL.len R R R Tryz.underlying23 fun hl82=>zp (Ar R R R)<|zn<|?_
 refine zd R (fun c83=> ?_) (fun c83=> ?_)
 have hk0a:k<d.tups.length:=by omega
 obtain ⟨x0,hx0⟩:=At hk0a
 have hml:=F9 (fun t=>decide (t.first<((f:Nat):Int))) 0 (d.tups.take k)
 have htl:(d.tups.take k).length≤d.tups.length:=List.length_take_le' _ _
 refine zi<|zs<|Ah<|zr<|zp (Aa R R Bn)<|zp (Ab R R B0 R R)<|zm R R<|zp (Am R R R D4 hx0)<|zp (Ae (s':= .d (.agg (Tp.c x0))) (Av R R Cb lb) (by kernel_rfl))<|XL.step R (A4 20 (l:= [.d (dI 0), .d (dI 0), .d (dI 0), .d (dI 0)]) R C9 (by kernel_rfl))<|?_
 refine XL.step R (Ag (l':= [.d (dI x0.first), .d (dI x0.count), .d (dI x0.actual), .d (dI x0.normal)]) R R R R Ef R lb (by kernel_rfl))<|znr<|zp (Aa R R By)<|zp (Ab R R Ai R R)<|zm R R<|zp (Ar R R R)<|zn<|?_
 refine zd R (fun c94=> ?_) (fun c94=> ?_)
 refine Af (by kernel_rfl)<|zp (Aa R R Bn)<|zp (Ab R R B0 R R)<|zp (Ae (s':= .d (.agg (Tp.c x0))) (Ac (Ad R R Cb R lb)) (by kernel_rfl))<|XL.step R (Bj 98 R Tryz.underlying23 Ef C9 R R (by omega) (by omega))<|?_
 refine XL.step R (A3 R Gy (.own R) (Src.own R) (by simp only [List.length_append,List.length_map,List.length_cons,List.length_nil];unfold maxLen;omega) (by simp only [List.length_append,List.length_map,List.length_cons,List.length_nil];omega))<|zp (Aa R R Bn)<|XL.step R (Ag (l':= [.own 61, .own 902]) R R R R Hb R lb (by kernel_rfl))<|zn<|?_
 refine Af (by kernel_rfl)<|zm R R<|zp (Aj R R R (by omega) (by omega))<|za R R<|zn<|?_
 exact Ak (k+1) (by omega) (by omega) (fz ⟨sr,sr,sr,sr,sr,sr,sr,sr,sr,trivial⟩) (gz ⟨R,R,R,R,R,D5 (by rw [S0];rfl) (Ov hx0 (decide_eq_true c94)),trivial⟩)
 refine zi<|Af (by kernel_rfl)<|zm R R<|zp (Aj R R R (by omega) (by omega))<|za R R<|zn<|?_
 exact Ak (k+1) (by omega) (by omega) (fz ⟨sr,sr,sr,sr,sr,sr,sr,sr,sr,trivial⟩) (gz ⟨R,R,R,R,R,Pi (Qx hx0 (fun h=>c94 (of_decide_eq_true h))).symm,trivial⟩)
 have hk0b:k=d.tups.length:=by omega
 have ht0:d.tups.take k=d.tups:=by rw [hk0b,List.take_length]
 have hl1:=F9 (fun t=>decide (t.first<((f:Nat):Int))) 0 d.tups
 refine An<|zs<|zr<|za R R<|zn<|Ah<|?_
 refine Ax (α:=Nat) (fun i=>i≤z.tups.length) (fun i=>mkF [(9, .ptr 9 0 0),(10, .ptr 10 0 0),(11, .d (dI 0)),(12, .ptr 12 0 0),(13, .d (dI (f:Nat))),(14, .d (dI (l:Nat))),(17, .d (dI z.evs.length)),(18, .ptr 18 0 0),(21, .d (dI i))]) (fun i=>mkH [(9, .box ((Vo.c z).map S.d)),(10, .box [.d (.v (.slice none 0 0)), .d (.v (.slice none 0 0))]),(12, .box ((Vo.c d).map S.d)),(18, .box [.own 61, .own 902]),(61, .row 60 13 (((A5 d f (l - f) z).evs).map Ev.c)),(902, .row 102 4 ((Cg (fun t=>decide (t.first<((f:Nat):Int))) 0 d.tups++Cg (fun _=>true) (f:Nat) (z.tups.take i)).map Tp.c))]) (fun i=>z.tups.length - i) (0) (Nat.zero_le _) ?_ ?_ ?_
 exact fz ⟨sr,sr,sr,sr,sr,sr,sr,sr,sr,trivial⟩
 exact gz ⟨R,R,R,R,R,by rw [ht0];exact Pi (by rw [List.take_zero,H7,List.append_nil]),trivial⟩
 intro i hk2
 refine zs<|zr<|zm R R<|zp (Aa R R Bn)<|zp (Ab R R B0 R R)<|XL.len R R R Tryz.underlying23 fun hl104=>zp (Ar R R R)<|zn<|?_
 refine zd R (fun c105=> ?_) (fun c105=> ?_)
 have hk2a:i<z.tups.length:=by omega
 obtain ⟨x2,hx2⟩:=At hk2a
 have hml2:=F9 (fun _=>true) (f:Nat) (z.tups.take i)
 have htl2:(z.tups.take i).length≤z.tups.length:=List.length_take_le' _ _
 have hb2:=hsx.bd x2 (List.mem_of_getElem? hx2)
 refine zi<|zs<|Ah<|zr<|zp (Aa R R Bn)<|zp (Ab R R B0 R R)<|zm R R<|zp (Am R R R D4 hx2)<|zp (Ae (s':= .d (.agg (Tp.c x2))) (Av R R Cb lb) (by kernel_rfl))<|XL.step R (A4 22 (l:= [.d (dI 0), .d (dI 0), .d (dI 0), .d (dI 0)]) R C9 (by kernel_rfl))<|?_
 refine XL.step R (Ag (l':= [.d (dI x2.first), .d (dI x2.count), .d (dI x2.actual), .d (dI x2.normal)]) R R R R Ef R lb (by kernel_rfl))<|znr<|zp (Aa R R By)<|zp (Ab R R Ai R R)<|zm R R<|zp (Aj R R R (by omega) (by omega))<|zp (Aa R R By)<|?_
 refine XL.step R (Ag (l':= [.d (dI (x2.first+(f:Nat))), .d (dI x2.count), .d (dI x2.actual), .d (dI x2.normal)]) R R R R Dc R lb (by kernel_rfl))<|zng<|zp (Aa R R Bn)<|zp (Ab R R B0 R R)<|zp (Ae (s':= .d (.agg [dI (x2.first+(f:Nat)),dI x2.count,dI x2.actual,dI x2.normal])) (Ac (Ad R R Cb R lb)) (by kernel_rfl))<|?_
 refine XL.step R (Bj 121 R Tryz.underlying23 Ef C9 R R (by omega) (by omega))<|XL.step R (A3 R Gy (.own R) (Src.own R) (by simp only [List.length_append,List.length_map,List.length_cons,List.length_nil];unfold maxLen;omega) (by simp only [List.length_append,List.length_map,List.length_cons,List.length_nil];omega))<|zp (Aa R R Bn)<|?_
 refine XL.step R (Ag (l':= [.own 61, .own 902]) R R R R Hb R lb (by kernel_rfl))<|zn<|Af (by kernel_rfl)<|zm R R<|zp (Aj R R R (by omega) (by omega))<|za R R<|zn<|?_
 exact Ak (i+1) (by omega) (by omega) (fz ⟨sr,sr,sr,sr,sr,sr,sr,sr,sr,trivial⟩) (gz ⟨R,R,R,R,R,D5 R (by rw [Ov hx2 rfl,List.append_assoc]),trivial⟩)
 have hk2b:i=z.tups.length:=by omega
 have ht2:z.tups.take i=z.tups:=by rw [hk2b,List.take_length]
 have hl2:=F9 (fun _=>true) (f:Nat) z.tups
 refine An<|zs<|zr<|za R R<|zn<|Ah<|?_
 refine Ax (α:=Nat) (fun j=>j≤d.tups.length) (fun j=>mkF [(10, .ptr 10 0 0),(11, .d (dI 0)),(12, .ptr 12 0 0),(13, .d (dI (f:Nat))),(14, .d (dI (l:Nat))),(17, .d (dI z.evs.length)),(18, .ptr 18 0 0),(23, .d (dI j))]) (fun j=>mkH [(10, .box [.d (.v (.slice none 0 0)), .d (.v (.slice none 0 0))]),(12, .box ((Vo.c d).map S.d)),(18, .box [.own 61, .own 902]),(61, .row 60 13 (((A5 d f (l - f) z).evs).map Ev.c)),(902, .row 102 4 ((Cg (fun t=>decide (t.first<((f:Nat):Int))) 0 d.tups++Cg (fun _=>true) (f:Nat) z.tups++Cg (fun t=>decide (((f:Nat):Int)+((l - f:Nat):Int)≤t.first)) ((z.evs.length:Int) - ((l - f:Nat):Int)) (d.tups.take j)).map Tp.c))]) (fun j=>d.tups.length - j) (0) (Nat.zero_le _) ?_ ?_ ?_
 exact fz ⟨sr,sr,sr,sr,sr,sr,sr,sr,trivial⟩
 exact gz ⟨R,R,R,R,by rw [ht2];exact Pi (by rw [List.take_zero,H7,List.append_nil]),trivial⟩
 intro j hk4
 refine zs<|zr<|zm R R<|zp (Aa R R Bn)<|zp (Ab R R B0 R R)<|XL.len R R R Tryz.underlying23 fun hl127=>zp (Ar R R R)<|zn<|?_
 refine zd R (fun c128=> ?_) (fun c128=> ?_)
 have hk4a:j<d.tups.length:=by omega
 obtain ⟨x4,hx4⟩:=At hk4a
 have hml4:=F9 (fun t=>decide (((f:Nat):Int)+((l - f:Nat):Int)≤t.first)) ((z.evs.length:Int) - ((l - f:Nat):Int)) (d.tups.take j)
 have htl4:(d.tups.take j).length≤d.tups.length:=List.length_take_le' _ _
 have hb4:=hsd.bd x4 (List.mem_of_getElem? hx4)
 refine zi<|zs<|Ah<|zr<|zp (Aa R R Bn)<|zp (Ab R R B0 R R)<|zm R R<|zp (Am R R R D4 hx4)<|zp (Ae (s':= .d (.agg (Tp.c x4))) (Av R R Cb lb) (by kernel_rfl))<|XL.step R (A4 24 (l:= [.d (dI 0), .d (dI 0), .d (dI 0), .d (dI 0)]) R C9 (by kernel_rfl))<|?_
 refine XL.step R (Ag (l':= [.d (dI x4.first), .d (dI x4.count), .d (dI x4.actual), .d (dI x4.normal)]) R R R R Ef R lb (by kernel_rfl))<|znr<|zp (Aa R R By)<|zp (Ab R R Ai R R)<|zm R R<|zp (Dt R R R)<|zn<|?_
 refine zd R (fun c139=> ?_) (fun c139=> ?_)
 refine zr<|zp (Aa R R By)<|zp (Ab R R Ai R R)<|zm R R<|zp (C7 R R R (by omega) (by omega))<|zm R R<|zp (Aj R R R (by omega) (by omega))<|zm R R<|zp (Aj R R R (by omega) (by omega))<|zp (Aa R R By)<|?_
 refine XL.step R (Ag (l':= [.d (dI (((x4.first - (l:Nat))+(f:Nat))+z.evs.length)), .d (dI x4.count), .d (dI x4.actual), .d (dI x4.normal)]) R R R R Dc R lb (by kernel_rfl))<|zng<|zp (Aa R R Bn)<|zp (Ab R R B0 R R)<|?_
 refine zp (Ae (s':= .d (.agg [dI (((x4.first - (l:Nat))+(f:Nat))+z.evs.length),dI x4.count,dI x4.actual,dI x4.normal])) (Ac (Ad R R Cb R lb)) (by kernel_rfl))<|XL.step R (Bj 152 R Tryz.underlying23 Ef C9 R R (by omega) (by omega))<|?_
 refine XL.step R (A3 R Gy (.own R) (Src.own R) (by simp only [List.length_append,List.length_map,List.length_cons,List.length_nil];unfold maxLen;omega) (by simp only [List.length_append,List.length_map,List.length_cons,List.length_nil];omega))<|zp (Aa R R Bn)<|XL.step R (Ag (l':= [.own 61, .own 902]) R R R R Hb R lb (by kernel_rfl))<|zn<|?_
 refine Af (by kernel_rfl)<|zm R R<|zp (Aj R R R (by omega) (by omega))<|za R R<|zn<|?_
 exact Ak (j+1) (by omega) (by omega) (fz ⟨sr,sr,sr,sr,sr,sr,sr,sr,trivial⟩) (gz ⟨R,R,R,R,D5 (Aq2 (b:=((z.evs.length:Int) - ((l - f:Nat):Int))) (by omega)) (by rw [Ov hx4 (decide_eq_true (by omega)), ←List.append_assoc]),trivial⟩)
 refine zi<|Af (by kernel_rfl)<|zm R R<|zp (Aj R R R (by omega) (by omega))<|za R R<|zn<|?_
 exact Ak (j+1) (by omega) (by omega) (fz ⟨sr,sr,sr,sr,sr,sr,sr,sr,trivial⟩) (gz ⟨R,R,R,R,Pi (by rw [Qx hx4 (fun h=>c139 (by have:=of_decide_eq_true h;omega))]),trivial⟩)
 have hk4b:j=d.tups.length:=by omega
 have ht4:d.tups.take j=d.tups:=by rw [hk4b,List.take_length]
 have hl4:=F9 (fun t=>decide (((f:Nat):Int)+((l - f:Nat):Int)≤t.first)) ((z.evs.length:Int) - ((l - f:Nat):Int)) d.tups
 refine Sn (i:=902) (l':=(A5 d f (l - f) z).tups.map Tp.c) R (by rw [ht4];rfl)<|An<|zs<|zs<|?_
 have hz1:=Atp hp3 c52 c56
 have hrl:(A5 d f (l - f) z).evs.length=f+z.evs.length+(d.evs.length - l):=by rw [Uh hfl,List.length_append,List.length_append,List.length_drop];omega
 have her:=Alu (f:=f) (n:=l - f) (Apt hO.chk) (Apb hp3 hp4)
 have hfe:=Nz (f:=f) (n:=l - f) hFd.ev hFz.ev
 refine Af (by kernel_rfl)<|zp (Aa R R Ay)<|zp (Ab R R Bi R R)<|zp (Cf R R R Tryz.underlying22)<|zp (A8 R R R)<|zm R R<|?_
 refine XL.dec 159 R (fun g159=> ?_) (fun g159=> ?_)
 refine zk 4 R<|zq R R R<|zn<|Aq (by kernel_rfl) R<|zr<|zp (Ae (s':= .d (.agg [.v (.slice none 0 0), .v (.slice none 0 0)])) (Ac (Ba R B7 A9 R)) (by kernel_rfl))<|XL.step R (Ag (l':= [.d (.v (.slice none 0 0)), .d (.v (.slice none 0 0))]) R R R R Bm R lb (by kernel_rfl))<|za R R<|zn<|zt<|?_
 exact Bl R (RV.sub (RV.cells R R R Ap lb R) (.agg (.cons (.nil 13) (.cons (.nil 4) (.nil))))) (RV.tmp R R) (r2v ((I5 hreg c37).trans (Aaz hp1 hp2 (by omega) c52 c56 (by omega))))
 refine zp (Aa R R Bn)<|zp (Ab R R B0 R R)<|zp (Cf R R R Tryz.underlying23)<|zp (A8 R R R)<|zq R R R<|zn<|?_
 refine zd R (fun c164=> ?_) (fun c164=> ?_)
 refine zr<|zp (Ae (s':= .d (.agg [.v (.slice none 0 0), .v (.slice none 0 0)])) (Ac (Ba R B7 A9 R)) (by kernel_rfl))<|XL.step R (Ag (l':= [.d (.v (.slice none 0 0)), .d (.v (.slice none 0 0))]) R R R R Bm R lb (by kernel_rfl))<|za R R<|zn<|zt<|?_
 exact Bl R (RV.sub (RV.cells R R R Ap lb R) (.agg (.cons (.nil 13) (.cons (.nil 4) (.nil))))) (RV.tmp R R) (r2v ((I5 hreg c37).trans (Aaz hp1 hp2 (by omega) c52 c56 (by omega))))
 refine zi<|zs<|zr<|zm R R<|zp (A8 R R R)<|zn<|?_
 refine zd R (fun c167=> ?_) (fun c167=> ?_)
 obtain ⟨m,hm⟩:∃m,f=m+1:=⟨f - 1,by omega⟩
 obtain ⟨x,hx⟩:∃x,((A5 d f (l - f) z).evs)[m]? =some x:=At (by omega)
 obtain ⟨y,hy⟩:∃y,((A5 d f (l - f) z).evs)[m+1]? =some y:=At (by omega)
 have hxh:=(hfe x (List.mem_of_getElem? hx)).1
 refine Ci 16 [] (by kernel_rfl) (by kernel_rfl) (by kernel_rfl) (by kernel_rfl) (by decide)<|yp (Aa R R Ay)<|yp (Ab R R Bi R R)<|ym R R<|yp (C7 R R R (by omega) (by omega))<|yp (Aa R R Ay)<|yp (Ab R R Bi R R)<|ym R R<|yp (C7 R R R (by omega) (by omega))<|yp (Cr R R R (show _=((m:Nat):Int) by omega) rfl B6 (by omega))<|?_
 refine yp (Ae (s':= .d (.agg (Ev.c x))) (Ez R R Az R (Ce (hx)) lb) (by kernel_rfl))<|yp (Aa R R Ay)<|yp (Ab R R Bi R R)<|ym R R<|yp (Cr R R R (show _=((m+1:Nat):Int) by omega) rfl B6 (by omega))<|yp (Ae (s':= .d (.agg (Ev.c y))) (Ez R R Az R (Ce (hy)) lb) (by kernel_rfl))<|?_
 refine ChK.cons R (CStep.call R (Xg x y hxh) R)<|?_
 refine ChK.nil ⟨by kernel_rfl, ?_⟩
 refine zp (Cr R R R (show _=((m:Nat):Int) by omega) rfl B6 (by omega))<|XL.step R (Dk R R R (Ce hx) R R B4 R lb)<|XL.rowq (i:=61) (l':=(Ca ((A5 d f (l - f) z).evs) (((f:Nat) - 1))).map Ev.c) R (Ph (by omega) hx hy her)<|zn<|zs<|zs<|?_
 have hsl:=Lf ((A5 d f (l - f) z).evs) ((f:Nat) - 1)
 have hes:=Vm her ((f:Nat) - 1)
 have hfs:=Lg hfe ((f:Nat) - 1)
 refine Af (by kernel_rfl)<|zm R R<|zm R R<|zp (Aj R R R (by omega) (by omega))<|za R R<|znr<|zm R R<|zp (Aa R R Ay)<|zp (Ab R R Bi R R)<|zp (Cf R R R Tryz.underlying22)<|zp (Ar R R R)<|zn<|?_
 refine zd R (fun c192=> ?_) (fun c192=> ?_)
 obtain ⟨m2,hm2⟩:∃m2,f+z.evs.length=m2+1:=⟨f+z.evs.length - 1,by omega⟩
 obtain ⟨x2,hx2⟩:∃x,(Ca ((A5 d f (l - f) z).evs) (((f:Nat) - 1)))[m2]? =some x:=At (by omega)
 obtain ⟨y2,hy2⟩:∃y,(Ca ((A5 d f (l - f) z).evs) (((f:Nat) - 1)))[m2+1]? =some y:=At (by omega)
 have hxh2:=(hfs x2 (List.mem_of_getElem? hx2)).1
 refine Ci 16 [] (by kernel_rfl) (by kernel_rfl) (by kernel_rfl) (by kernel_rfl) (by decide)<|yp (Aa R R Ay)<|yp (Ab R R Bi R R)<|ym R R<|yp (C7 R R R (by omega) (by omega))<|yp (Aa R R Ay)<|yp (Ab R R Bi R R)<|ym R R<|yp (C7 R R R (by omega) (by omega))<|yp (Cr R R R (show _=((m2:Nat):Int) by omega) rfl B6 (by omega))<|?_
 refine yp (Ae (s':= .d (.agg (Ev.c x2))) (Ez R R Az R (Ce (hx2)) lb) (by kernel_rfl))<|yp (Aa R R Ay)<|yp (Ab R R Bi R R)<|ym R R<|yp (Cr R R R (show _=((m2+1:Nat):Int) by omega) rfl B6 (by omega))<|yp (Ae (s':= .d (.agg (Ev.c y2))) (Ez R R Az R (Ce (hy2)) lb) (by kernel_rfl))<|?_
 refine ChK.cons R (CStep.call R (Xg x2 y2 hxh2) R)<|?_
 refine ChK.nil ⟨by kernel_rfl, ?_⟩
 refine zp (Cr R R R (show _=((m2:Nat):Int) by omega) rfl B6 (by omega))<|XL.step R (Dk R R R (Ce hx2) R R B4 R lb)<|XL.rowq (i:=61) (l':=(Ca (Ca ((A5 d f (l - f) z).evs) (((f:Nat) - 1))) ((f:Nat)+z.evs.length - 1)).map Ev.c) R (Ph (by omega) hx2 hy2 hes)<|znr<|zp (Ac (Ad R R Ap R lb))<|?_
 refine XL.step R (Ag (l':= [.own 61, .own 902]) R R R R Bm R lb (by kernel_rfl))<|za R R<|zn<|zt<|Bf (i:=61) R<|Bf (i:=902) R<|?_
 exact Bl R (RV.cells R R R Ap lb R) (RV.tmp R R) (r2v ((I5 hreg c37).trans (W7 hp1 hp2 (by omega) c52 c56 (by omega))))
 refine Sn (i:=61) (l':=(Ca (Ca ((A5 d f (l - f) z).evs) (((f:Nat) - 1))) ((f:Nat)+z.evs.length - 1)).map Ev.c) R (by rw [Jz (i:=((f:Nat)+z.evs.length - 1)) (by omega)])<|zi<|zr<|zp (Ac (Ad R R Ap R lb))<|XL.step R (Ag (l':= [.own 61, .own 902]) R R R R Bm R lb (by kernel_rfl))<|za R R<|zn<|zt<|Bf (i:=61) R<|?_
 refine Bf (i:=902) R<|?_
 exact Bl R (RV.cells R R R Ap lb R) (RV.tmp R R) (r2v ((I5 hreg c37).trans (W7 hp1 hp2 (by omega) c52 c56 (by omega))))
 refine Sn (i:=61) (l':=(Ca ((A5 d f (l - f) z).evs) (((f:Nat) - 1))).map Ev.c) R (by rw [Jz (i:=((f:Nat) - 1)) (by omega)])<|zi<|zs<|zs<|?_
 have hsl:=Lf ((A5 d f (l - f) z).evs) ((f:Nat) - 1)
 have hes:=Vm her ((f:Nat) - 1)
 have hfs:=Lg hfe ((f:Nat) - 1)
 refine Af (by kernel_rfl)<|zm R R<|zm R R<|zp (Aj R R R (by omega) (by omega))<|za R R<|znr<|zm R R<|zp (Aa R R Ay)<|zp (Ab R R Bi R R)<|zp (Cf R R R Tryz.underlying22)<|zp (Ar R R R)<|zn<|?_
 refine zd R (fun c192=> ?_) (fun c192=> ?_)
 obtain ⟨m2,hm2⟩:∃m2,f+z.evs.length=m2+1:=⟨f+z.evs.length - 1,by omega⟩
 obtain ⟨x2,hx2⟩:∃x,(Ca ((A5 d f (l - f) z).evs) (((f:Nat) - 1)))[m2]? =some x:=At (by omega)
 obtain ⟨y2,hy2⟩:∃y,(Ca ((A5 d f (l - f) z).evs) (((f:Nat) - 1)))[m2+1]? =some y:=At (by omega)
 have hxh2:=(hfs x2 (List.mem_of_getElem? hx2)).1
 refine Ci 16 [] (by kernel_rfl) (by kernel_rfl) (by kernel_rfl) (by kernel_rfl) (by decide)<|yp (Aa R R Ay)<|yp (Ab R R Bi R R)<|ym R R<|yp (C7 R R R (by omega) (by omega))<|yp (Aa R R Ay)<|yp (Ab R R Bi R R)<|ym R R<|yp (C7 R R R (by omega) (by omega))<|yp (Cr R R R (show _=((m2:Nat):Int) by omega) rfl B6 (by omega))<|?_
 refine yp (Ae (s':= .d (.agg (Ev.c x2))) (Ez R R Az R (Ce (hx2)) lb) (by kernel_rfl))<|yp (Aa R R Ay)<|yp (Ab R R Bi R R)<|ym R R<|yp (Cr R R R (show _=((m2+1:Nat):Int) by omega) rfl B6 (by omega))<|yp (Ae (s':= .d (.agg (Ev.c y2))) (Ez R R Az R (Ce (hy2)) lb) (by kernel_rfl))<|?_
 refine ChK.cons R (CStep.call R (Xg x2 y2 hxh2) R)<|?_
 refine ChK.nil ⟨by kernel_rfl, ?_⟩
 refine zp (Cr R R R (show _=((m2:Nat):Int) by omega) rfl B6 (by omega))<|XL.step R (Dk R R R (Ce hx2) R R B4 R lb)<|XL.rowq (i:=61) (l':=(Ca (Ca ((A5 d f (l - f) z).evs) (((f:Nat) - 1))) ((f:Nat)+z.evs.length - 1)).map Ev.c) R (Ph (by omega) hx2 hy2 hes)<|znr<|zp (Ac (Ad R R Ap R lb))<|?_
 refine XL.step R (Ag (l':= [.own 61, .own 902]) R R R R Bm R lb (by kernel_rfl))<|za R R<|zn<|zt<|Bf (i:=61) R<|Bf (i:=902) R<|?_
 exact Bl R (RV.cells R R R Ap lb R) (RV.tmp R R) (r2v ((I5 hreg c37).trans (W7 hp1 hp2 (by omega) c52 c56 (by omega))))
 refine Sn (i:=61) (l':=(Ca (Ca ((A5 d f (l - f) z).evs) (((f:Nat) - 1))) ((f:Nat)+z.evs.length - 1)).map Ev.c) R (by rw [Jz (i:=((f:Nat)+z.evs.length - 1)) (by omega)])<|zi<|zr<|zp (Ac (Ad R R Ap R lb))<|XL.step R (Ag (l':= [.own 61, .own 902]) R R R R Bm R lb (by kernel_rfl))<|za R R<|zn<|zt<|Bf (i:=61) R<|?_
 refine Bf (i:=902) R<|?_
 exact Bl R (RV.cells R R R Ap lb R) (RV.tmp R R) (r2v ((I5 hreg c37).trans (W7 hp1 hp2 (by omega) c52 c56 (by omega))))
end Go.Proofs.YtcihalbakenleaaGreat
namespace Go.Proofs.YtcihalbakenleaaGreat
theorem Auz {v:Vo} {p:Pl} {t:Int} (hc:p.chk v=0) (h:(Al v p t).2=0):((atE v p.len t≠0∨(atV v p.len t).2=t)∧Al v p t=(v,0))∨
  ∃(k:Nat) (a w:Int) (x:Ev),v.evs[k]? =some x∧(ckL v p.len)[k]? =some w∧a=tot ((ckL v p.len).take k)∧(∀s∈v.tups,¬s.has k)∧p.m.splitE (p.off+a) (p.off+t)=0∧p.m.splitE (p.off+t) (p.off+(a+w))=0∧
   (A5 v k 1 ⟨C5 p t a w x, []⟩).evs.length≤128∧Al v p t=(A5 v k 1 ⟨C5 p t a w x, []⟩,0):=by
 obtain ⟨k,a,hat,ha0,ha1,hak⟩:=Tc v p.len t
 obtain ⟨hme,hpb,hck⟩:=Dn hc
 obtain ⟨ws,ls,hT⟩:=Pc hck
 by_cases c:atE v p.len t≠0∨a=t
 ·left
  exact ⟨by rw [hat];exact c,Mt hat c⟩
 ·right
  have he0:atE v p.len t=0:=by omega
  obtain ⟨hk,hak2⟩:=hak he0
  have hcl:=H1 hck
  obtain ⟨w,hw⟩:∃w,(ckL v p.len)[k]? =some w:=At hk
  obtain ⟨x,hx⟩:∃x,v.evs[k]? =some x:=At (by omega)
  have hd:=Fo hat c hx hw
  unfold K3 at hd
  split at hd
  ·rw [hd] at h;exact absurd h (by decide)
  ·rename_i c1
   split at hd
   ·rename_i c2;rw [hd] at h;exact absurd h c2
   ·rename_i c2
    split at hd
    ·rename_i c3;rw [hd] at h;exact absurd h c3
    ·rename_i c3
     split at hd
     ·rw [hd] at h;exact absurd h (by decide)
     ·rename_i c4
      rw [Lr hT] at c1
      exact ⟨k,a,w,x,hx,hw,hak2,O3 (by omega),by omega,by omega,by omega,hd⟩
def Ons (ls:List Int) (t:Int):Prop:=∃k,k≤ls.length∧tot (ls.take k)=t
theorem Aot {v:Vo} {p:Pl} {t s:Int} (hc:p.chk v=0) (h:(Al v p t).2=0) (ho:Ons (ckL v p.len) s):Ons (ckL (Al v p t).1 p.len) s:=by
 obtain ⟨hme,hpb,hck⟩:=Dn hc
 rcases Auz hc h with ⟨_,e⟩|⟨k,a,w,x,hk,hw,ha,hd,h1,h2,hl,e⟩
 ·rw [e];exact ho
 ·rw [e]
  obtain ⟨_,e2,_⟩:=Ab7 hck hk hw hd h1 h2 hl
  show Ons (ckL (A5 v k 1 ⟨C5 p t a w x, []⟩) p.len) s
  rw [e2]
  have hlenN:(C5 p t a w x).length≤128:=by
   have:(A5 v k 1 ⟨C5 p t a w x, []⟩).evs.length=v.evs.length - 1+(C5 p t a w x).length:=Uf (by have:=(List.getElem?_eq_some_iff.1 hk).1;omega)
   omega
  obtain ⟨_,hs⟩:=Xq ((Ip hck).1 x (List.mem_of_getElem? hk)) h1 h2 hlenN
  have hkl:=(List.getElem?_eq_some_iff.1 hw).1
  obtain ⟨j,hj,hjt⟩:=ho
  by_cases c:j≤k
  ·refine ⟨j,by rw [List.length_append,List.length_append,List.length_take];omega, ?_⟩
   rw [List.append_assoc,List.take_append_of_le_length (by rw [List.length_take];omega),List.take_take,Nat.min_eq_left c];exact hjt
  ·have hq:((ckL v p.len).take k++wrS (C5 p t a w x)).length=k+(C5 p t a w x).length:=by rw [List.length_append,List.length_take,Hl];omega
   refine ⟨k+(C5 p t a w x).length+(j - (k+1)),by rw [List.length_append,hq,List.length_drop];omega, ?_⟩
   rw [List.take_append,hq,show k+(C5 p t a w x).length+(j - (k+1)) - (k+(C5 p t a w x).length)=j - (k+1) by omega,List.take_of_length_le (by omega),G1,G1,hs, ←hjt]
   have e3:tot ((ckL v p.len).take j)=tot ((ckL v p.len).take (k+1))+tot (((ckL v p.len).take j).drop (k+1)):=Pt _ _ _ (by omega)
   rw [e3,Bo hw,Hm,List.drop_take]
theorem Ah5 {v:Vo} {p:Pl} {t:Int} (hc:p.chk v=0) (hn:v.evs≠ []) (h0:0≤t) (h1:t≤p.len) (h:(Al v p t).2=0):Ons (ckL (Al v p t).1 p.len) t:=by
 obtain ⟨hme,hpb,hck⟩:=Dn hc
 have hcl:=H1 hck
 rcases Auz hc h with ⟨c,e⟩|⟨k,a,w,x,hk,hw,ha,hd,q1,q2,hl,e⟩
 ·rw [e]
  show Ons (ckL v p.len) t
  by_cases ht:t=p.len
  ·exact ⟨(ckL v p.len).length,Nat.le_refl _,by rw [List.take_length,Wu hck hn,ht]⟩
  ·obtain ⟨_,_,_,hA4⟩:=Aew v p.len t
   have he:=hA4 hck (fun k=>hn (List.eq_nil_of_length_eq_zero k)) (by omega)
   obtain ⟨k,a,hat,_,_,hak⟩:=Tc v p.len t
   obtain ⟨k1,k2⟩:=hak he
   rw [hat] at c
   exact ⟨k,by omega,by rw [←k2];exact c.resolve_left (fun k=>k he)⟩
 ·rw [e]
  obtain ⟨_,e2,_⟩:=Ab7 hck hk hw hd q1 q2 hl
  show Ons (ckL (A5 v k 1 ⟨C5 p t a w x, []⟩) p.len) t
  rw [e2]
  have hkl:=(List.getElem?_eq_some_iff.1 hw).1
  have hxe:=(Ip hck).1 x (List.mem_of_getElem? hk)
  obtain ⟨u1,u2⟩:=Ev.err_unrest hxe
  obtain ⟨r1,r2⟩:=Ok q1
  obtain ⟨n1,n2⟩:=Ou (Ev.err_tied u1 u2) (show x.unrest.tiedE.kind≠3 from u2) r2 false
  have hN:wrS (C5 p t a w x)=wrS (Bs x.unrest.tiedE (p.m.split (p.off+a) (p.off+t)) false)++wrS (Bs x.unrest (p.m.split (p.off+t) (p.off+(a+w))) true):=Ps _ _
  have hq:((ckL v p.len).take k++wrS (Bs x.unrest.tiedE (p.m.split (p.off+a) (p.off+t)) false)).length=k+(p.m.split (p.off+a) (p.off+t)).length:=by rw [List.length_append,List.length_take,Hl,Cs];omega
  refine ⟨k+(p.m.split (p.off+a) (p.off+t)).length,by rw [List.length_append,List.length_append,hN,List.length_append,Hl,Cs,List.length_take];omega, ?_⟩
  rw [hN, ←List.append_assoc,List.append_assoc ((ckL v p.len).take k++_), ←hq,List.take_left,G1,n2,r1,ha];omega
theorem Za {ls:List Int} (hp:∀x∈ls,0<x) {t:Int} (h:Ons ls t):tot (ls.take (Bu (Bh ls) t))=t:=by
 obtain ⟨k,hk,ht⟩:=h
 have hol:=I7 ls
 have e:Bu (Bh ls) t=k:=by
  refine Nat.le_antisymm ?_ ?_
  ·by_cases c:k=ls.length
   ·have:=Ix (Bh ls) t;omega
   ·have h1:=Al7 (l:=ls) (k:=k) (by omega)
    have:=(Jf hp h1 (a:=t)).2
    rw [←Nat.not_lt];intro hlt
    have:=this hlt
    omega
  ·rcases Nat.eq_zero_or_pos k with c|c
   ·omega
   ·have h1:=Al7 (l:=ls) (k:=k - 1) (by omega)
    have h2:tot (ls.take (k - 1))<t:=by
     obtain ⟨w,hw⟩:∃w,ls[k - 1]? =some w:=At (by omega)
     have:=hp w (List.mem_of_getElem? hw)
     rw [←ht,show ls.take k=ls.take (k - 1+1) by rw [show k - 1+1=k by omega],Bo hw,Hm];omega
    have:=(Jf hp h1 (a:=t)).1 h2
    omega
 rw [e,ht]
structure RegT (p:Pl) (a b:Int) (d:Vo) (f l:Nat):Prop where
 ta:tot ((ckL d p.len).take f)=a
 tb:tot ((ckL d p.len).take l)=b
theorem RegOk.tot {v:Vo} {p:Pl} {a b:Int} {d:Vo} {f l:Nat} (h:RegOk v p a b d f l):RegT p a b d f l:=by
 have hp:=Nl (Dn h.chk).2.2
 have hr:=h.rng
 have o1:=Ah5 h.hc h.ne (t:=a) (by omega) (by omega) h.e1
 have o2:=Aot h.c1 h.e2 o1
 have o3:=Ah5 h.c1 h.n1 (t:=b) (by omega) (by omega) h.e2
 rw [←h.d2] at o2 o3
 exact ⟨by rw [h.fe];exact Za hp o2,by rw [h.le];exact Za hp o3⟩
theorem RegOk.flt {v:Vo} {p:Pl} {a b:Int} {d:Vo} {f l:Nat} (h:RegOk v p a b d f l) (hab:a<b):f<l:=by
 have ht:=h.tot
 have h1:=ht.ta
 have h2:=ht.tb
 have h3:=h.fl
 by_cases c:f=l
 ·subst c;omega
 ·omega
theorem RegOk.free {v:Vo} {p:Pl} {a b:Int} {d:Vo} {f l:Nat} (h:RegOk v p a b d f l) (hab:a<b):Rh d.tups f∧Rh d.tups l:=by
 have hf:=h.flt hab
 constructor
 ·intro t ht
  have:=h.no t ht
  unfold Ds at this
  unfold Tp.e
  omega
 ·intro t ht
  have:=h.no t ht
  unfold Ds at this
  unfold Tp.e
  omega
theorem set_same {α:Type} {l:List α} {k:Nat} {x:α} (h:l[k]? =some x):l.set k x=l:=List.ext_getElem? fun j=>by
 by_cases e:k=j
 ·subst e;rw [List.getElem?_set_self (List.getElem?_eq_some_iff.1 h).1,h]
 ·rw [List.getElem?_set_ne e]
theorem Pg {l:List Ev} (h:∀e∈l,e.err=0∧e.kind≠3) (i:Int):∀e∈Ca l i,e.err=0∧e.kind≠3:=by
 unfold Ca
 split
 ·exact h
 ·split
  ·rename_i x y hx hy
   intro e he
   rcases List.mem_or_eq_of_mem_set he with k|k
   ·exact h e k
   ·rw [k];exact ⟨T9 (h x (List.mem_of_getElem? hx)).1,(h x (List.mem_of_getElem? hx)).2⟩
  ·exact h
theorem U4 {l:List Ev} (h:∀e∈l,e.err=0∧e.kind≠3) (i:Int):wrS (Ca l i)=wrS l:=by
 unfold Ca
 split
 ·rfl
 ·split
  ·rename_i x y hx hy
   show (l.set _ _).map Ev.len=l.map Ev.len
   rw [List.map_set]
   obtain ⟨q1,q2⟩:=h x (List.mem_of_getElem? hx)
   have e:(Nt x y).len=x.len:=by
    have h2:=T9 (y:=y) q1
    unfold Ev.len
    rw [if_neg (show ¬((Nt x y).err≠0∨(Nt x y).kind=3) by rw [h2];exact fun k=>k.elim (fun k=>k rfl) q2),if_neg (by omega)];rfl
   exact set_same (by rw [List.getElem?_map,hx,e];rfl)
  ·rfl
theorem Ato {v:Vo} {p:Pl} {a b:Int} {d z:Vo} {f l:Nat} (h:RegOk v p a b d f l) (hab:a<b) (h1:Dp z=0) (h2:¬z.rest) (h3:tot (Ed z)=b - a) (h4:(A5 d f (l - f) z).evs.length≤128) (h5:(A5 d f (l - f) z).tups.length≤16):
  VL (A5 d f (l - f) z) ((ckL d p.len).take f++Ed z++(ckL d p.len).drop l)∧tot ((ckL d p.len).take f++Ed z++(ckL d p.len).drop l)=p.len:=by
 obtain ⟨hme,hpb,hck⟩:=Dn h.chk
 have hf:=h.flt hab
 have ht:=h.tot
 have hz:=(Xj h2).1 ⟨h1,rfl⟩
 have hll:=h.ll
 have hcl:=H1 hck
 have htot:tot ((ckL d p.len).take f++Ed z++(ckL d p.len).drop l)=p.len:=by
  have e:=Wu hck h.dne
  have e2:tot (ckL d p.len)=tot ((ckL d p.len).take l)+tot ((ckL d p.len).drop l):=by rw [←G1,List.take_append_drop]
  have:=ht.ta
  have:=ht.tb
  rw [G1,G1];omega
 refine ⟨?_,htot⟩
 by_cases c:d.rest
 ·obtain ⟨r1,r2,e,r3,_⟩:=Nk c hck
  rw [r3] at hll
  have hf0:f=0∧l=1:=by
   have: [e].length=1:=rfl
   omega
  obtain ⟨rfl,rfl⟩:=hf0
  have e1:A5 d 0 (1 - 0) z=z:=by
   unfold A5
   rw [r3,r1,H7,H7]
   have:Cg (fun _=>true) ((0:Nat):Int) z.tups=z.tups:=by
    unfold Cg
    rw [List.filter_eq_self.2 (fun _ _=>rfl)]
    show z.tups.map (Tp.mv 0)=z.tups
    rw [show Tp.mv 0=id from funext S0,List.map_id]
   rw [this]
   simp
  rw [e1,r2]
  simpa using hz
 ·obtain ⟨fr1,fr2⟩:=h.free hab
  have hv:=((Kx c).1 ⟨hck,rfl⟩).2.2.1
  have hrl:(A5 d f (l - f) z).evs.length=d.evs.length - (l - f)+z.evs.length:=by
   rw [Uh h.fl,List.length_append,List.length_append,List.length_take,List.length_drop];omega
  have:=hv.repl (a:=f) (n:=l - f) (by omega) fr1 (by rw [show ((f:Int)+(l - f:Nat))=(l:Int) by omega];exact fr2) hz (by omega) h5
  rw [show f+(l - f)=l by omega] at this
  exact this
theorem Art {v:Vo} {p:Pl} {a b:Int} {d z:Vo} {f l:Nat} (h:RegOk v p a b d f l) (hab:a<b) (h1:Dp z=0) (h2:¬z.rest) (h3:tot (Ed z)=b - a) (h4:(A5 d f (l - f) z).evs.length≤128) (h5:(A5 d f (l - f) z).tups.length≤16):
  ckE (Pm d f l z) p.len=0∧ckL (Pm d f l z) p.len=(ckL d p.len).take f++Ed z++(ckL d p.len).drop l:=by
 obtain ⟨hv,ht⟩:=Ato h hab h1 h2 h3 h4 h5
 have hpb:=(Dn h.chk).2.1
 unfold Pl.bad at hpb
 have hV:VL (Pm d f l z) ((ckL d p.len).take f++Ed z++(ckL d p.len).drop l):=by
  refine ⟨?_,Pg (Pg hv.ev _) _⟩
  show TL (A5 d f (l - f) z).tups (wrS (Ca (Ca (A5 d f (l - f) z).evs _) _)) _
  rw [U4 (Pg hv.ev _),U4 hv.ev];exact hv.tl
 have:=(Kx hV.norest (L:=p.len)).2 ⟨by omega,by omega,hV,fun _=>ht⟩
 exact ⟨this.1,this.2.symm⟩
theorem Al1 {v:Vo} {p:Pl} {a b:Int} {z:Vo} (h:(Ke v p a b z).2=0):∃(d:Vo) (f l:Nat),RegOk v p a b d f l∧Dp z=0∧¬z.rest∧tot (Ed z)=b - a∧((a=b∧Ke v p a b z=(v,0))∨(a<b∧(A5 d f (l - f) z).evs.length≤128∧(A5 d f (l - f) z).tups.length≤16∧Ke v p a b z=(Pm d f l z,0))):=by
 obtain ⟨d,f,l,e,hreg,hok⟩:=Ui v p a b
 by_cases c:e≠0
 ·rw [Aog hreg c] at h;exact absurd h c
 ·have hO:=hok (by omega)
  have hr:=hO.rng
  rw [I5 hreg c] at h ⊢
  by_cases c1:128<(z.evs.length:Int)
  ·rw [Aoe c1] at h;cases h
  by_cases c2:z.whole
  ·exfalso
   obtain ⟨e0,he0⟩:=No c2
   by_cases c3:e0.err≠0
   ·rw [Aod c1 c2 he0 c3] at h;exact c3 h
   ·rw [Aoc c1 c2 he0 c3] at h;cases h
  by_cases c3:Dp z≠0
  ·rw [Aob c1 c2 c3] at h;exact absurd h c3
  by_cases c4:tot (Ed z)≠b - a
  ·rw [Aoa c1 c2 c3 c4] at h;cases h
  refine ⟨d,f,l,hO,by omega,fun k=>c2 k.1,by omega, ?_⟩
  by_cases c5:a=b
  ·exact .inl ⟨c5,An9 c1 c2 c3 c4 c5⟩
  ·by_cases c6:128<((A5 d f (l - f) z).evs.length:Int)∨16<((A5 d f (l - f) z).tups.length:Int)
   ·rw [Aaz c1 c2 c3 c4 c5 c6] at h;cases h
   ·exact .inr ⟨by omega,by omega,by omega,W7 c1 c2 c3 c4 c5 c6⟩
theorem Yg {v:Vo} {p:Pl} {a b:Int} {z:Vo} (h:(Ke v p a b z).2=0):ckE (Ke v p a b z).1 p.len=0:=by
 obtain ⟨d,f,l,hO,h1,h2,h3,⟨_,e⟩|⟨hab,h4,h5,e⟩⟩:=Al1 h
 ·rw [e];exact (Dn hO.hc).2.2
 ·rw [e];exact (Art hO hab h1 h2 h3 h4 h5).1
end Go.Proofs.YtcihalbakenleaaGreat
namespace Go.Proofs.YtcihalbakenleaaGreat
open Go.RowKit
theorem Av5 {v:Vo} {p:Pl} {a b:Int} {z:Vo} (h:¬p.chk v=0):Ke v p a b z=(⟨[], []⟩,p.chk v):=by
 have e:=An3 (a:=a) (b:=b) h
 rw [Ke,e,if_pos h]
theorem Ar4 (v:Vo) (p:Pl) (a b:Int) (z:Vo) (hE:Evs v.evs) (hEz:Evs z.evs):XC Tryz.prog 10 [.agg (Vo.c v), .agg (Pl.c p), .agg [dI a,dI b, .sl 13 (z.evs.map Ev.c), .sl 4 (z.tups.map Tp.c)]] (fun r=>r=dB true):=by
 refine Ao Ahe Tryz.func10 R R lb<|zr<|XL.step R (Au 3 (l:= [.d (.sl 13 (v.evs.map Ev.c)), .d (.sl 4 (v.tups.map Tp.c))]) R R (by kernel_rfl))<|XL.step R (Au 4 (l:= [.d (dI p.m.count), .d (dI p.m.unit), .d (dI p.m.g0), .d (dI p.m.g1), .d (dI p.m.g2), .d (dI p.m.g3), .d (dI p.m.g4), .d (dI p.m.g5), .d (dI p.off), .d (dI p.len)]) R R (by kernel_rfl))<|?_
 refine XL.step R (Au 5 (l:= [_,_,_,_]) R R R)<|za R R<|zn<|zs<|zr<|XL.call1 R R (Q1) R<|zp (Dd R R)<|zm R R<|?_
 refine XL.bool 13 R (fun g13=> ?_) (fun g13=> ?_)
 exact zk 3 R<|zq R R R<|zm R R<|zk 4 R<|zq R R R<|zn<|Aq (by kernel_rfl) R<|zr<|XL.call1 R R (Q1) R<|za R R<|zn<|zt<|z1 R R (R)
 refine zp (Ae (s':= .d (.agg (Vo.c v))) (Ac (Ad R R Ap R lb)) (by kernel_rfl))<|XL.call1 R R (Am4 _) R<|zp (B2 R R)<|zq R R R<|zm R R<|?_
 refine XL.dec 18 R (fun g18=> ?_) (fun g18=> ?_)
 exact zk 4 R<|zq R R R<|zn<|Aq (by kernel_rfl) R<|zr<|XL.call1 R R (Q1) R<|za R R<|zn<|zt<|z1 R R (R)
 refine zp (Aa R R Uy)<|zp (Ae (s':= .d (.agg (Vo.c z))) (Ac (Ad R R Ap R lb)) (by kernel_rfl))<|XL.call1 R R (Am4 _) R<|zp (B2 R R)<|zq R R R<|zn<|?_
 refine zd R (fun c23=> ?_) (fun c23=> ?_)
 exact zr<|XL.call1 R R (Q1) R<|za R R<|zn<|zt<|z1 R R (R)
 refine zi<|zs<|?_
 have hfv:=Decidable.not_not.1 g18
 have htl:=hfv.2.2
 have hF:=hfv.fit
 have hfz:=Decidable.not_not.1 c23
 have hFz:=hfz.fit.f3
 refine Af (by kernel_rfl)<|zp (Ae (s':= .d (.agg (Vo.c v))) (Ac (Ad R R Ap R lb)) (by kernel_rfl))<|zp (Ae (s':= .d (.agg (Pl.c p))) (Ac (Ad R R Ir R lb)) (by kernel_rfl))<|zp (Aa R R Abz)<|zp (Ab R R Ai R R)<|zp (Aa R R Aby)<|zp (Ab R R Ai R R)<|zp (Aa R R Uy)<|?_
 refine zp (Ae (s':= .d (.agg (Vo.c z))) (Ac (Ad R R Ap R lb)) (by kernel_rfl))<|XL.call1 R R (Atn _ _ _ _ _ (by assumption) (by assumption) (by assumption) (by assumption)) R<|zm R R<|zp (Bc R R R)<|zp (Bc R R R)<|XL.step R (A4 7 (l:= [.d (.v (.slice none 0 0)), .d (.v (.slice none 0 0))]) R A9 (by kernel_rfl))<|?_
 refine XL.step R (Ag (l':= [_,_]) R R R R Bm R lb R)<|za R R<|znr<|zp (Ae (s':= .d (.agg (Vo.c v))) (Ac (Ad R R Ap R lb)) (by kernel_rfl))<|zp (Ae (s':= .d (.agg (Pl.c p))) (Ac (Ad R R Ir R lb)) (by kernel_rfl))<|XL.call1 R R (Akd _ _ (by assumption) (by omega)) R<|za R R<|znr<|?_
 refine XL.step R (A4 10 (l:= [.d (.v (.slice none 0 0)), .d (.v (.slice none 0 0))]) R A9 (by kernel_rfl))<|zn<|zs<|zr<|zm R R<|zp (A1 R R R)<|zn<|?_
 refine zd R (fun c41=> ?_) (fun c41=> ?_)
 have hc0:p.chk v=0:=c41
 refine Af (by kernel_rfl)<|zp (Ae (s':= .d (.agg (Vo.c v))) (Ac (Ad R R Ap R lb)) (by kernel_rfl))<|zp (Ae (s':= .d (.agg (Pl.c p))) (Ac (Ad R R Ir R lb)) (by kernel_rfl))<|zp (Aa R R Abz)<|zp (Ab R R Ai R R)<|zp (Aa R R Aby)<|zp (Ab R R Ai R R)<|zp (Aa R R Uy)<|?_
 refine zp (Ae (s':= .d (.agg (Vo.c z))) (Ac (Ad R R Ap R lb)) (by kernel_rfl))<|XL.call1 R R (Arq _ _ _ _ _ (by assumption) (by assumption) (by assumption) (by assumption)) R<|zm R R<|zp (Bc R R R)<|zp (Bc R R R)<|XL.step R (Ag (l':= [_,_]) R R R R Bm R lb R)<|za R R<|znr<|zm R R<|zm R R<|zp (Dy (A1 R R R) (by first|rfl|rw [hd1]))<|zm R R<|?_
 refine zp (Ae (s':= .d (.agg [_,_])) (Ac (Ad R R Ap R lb)) R)<|zp (Ae (s':= .d (.agg [_,_])) (Ac (Ad R R Ap R lb)) R)<|XL.call1 R R (Ak0 (Abl _ _) (by first|rfl|rw [hd1])) R<|zp (Ae (s':= .d (dB true)) (A6 R R (by conv=>lhs;whnf)) (R))<|?_
 refine zm R R<|zm R R<|zp (Bg R R R)<|zm R R<|?_
 refine XL.dec 65 R (fun g65=> ?_) (fun g65=> ?_)
 exact zk 5 R<|zq R R R<|zq R R R<|za R R<|zn<|zt<|z1 R R (R)
 have hz:ckE (Ke v p a b z).1 p.len=0:=by first|exact Yg (Decidable.not_not.1 g65)|(exfalso;exact g65 (by rw [hd1];exact c41))
 have hzE:=(Ip hz).2
 have hzt:=Ain hz
 exact zp (Ae (s':= .d (.agg [_,_])) (Ac (Ad R R Ap R lb)) R)<|zp (Aa R R G6)<|zp (Ab R R Ai R R)<|XL.call1 R R (Pk _ _ (by assumption) (by omega)) R<|zp (Dy (A1 R R R) (hz))<|zq R R R<|zq R R R<|za R R<|zn<|zt<|z1 R R (R)
 have hd1:=Av5 (a:=a) (b:=b) (z:=z) c41
 refine zi<|zr<|zm R R<|zm R R<|zp (Dy (A1 R R R) (by first|rfl|rw [hd1]))<|zm R R<|zp (Ae (s':= .d (.agg [_,_])) (Ac (Ad R R Ap R lb)) R)<|zp (Ul (.agg (Vo.c ⟨[], []⟩)) (Ae (s':= .d (.agg [.v (.slice none 0 0), .v (.slice none 0 0)])) (Ac (Ad R R Ap R lb)) (by kernel_rfl)) (.agg (.cons (.nil 13) (.cons (.nil 4) (.nil)))))<|?_
 refine XL.call1 R R (Ak0 (Abl _ _) (by first|rfl|rw [hd1])) R<|zp (Ae (s':= .d (dB true)) (A6 R R (by conv=>lhs;whnf)) (R))<|?_
 refine zm R R<|zm R R<|zp (Bg R R R)<|zm R R<|?_
 refine XL.dec 65 R (fun g65=> ?_) (fun g65=> ?_)
 exact zk 5 R<|zq R R R<|zq R R R<|za R R<|zn<|zt<|z1 R R (R)
 have hz:ckE (Ke v p a b z).1 p.len=0:=by first|exact Yg (Decidable.not_not.1 g65)|(exfalso;exact g65 (by rw [hd1];exact c41))
 have hzE:=(Ip hz).2
 have hzt:=Ain hz
 exact zp (Ae (s':= .d (.agg [_,_])) (Ac (Ad R R Ap R lb)) R)<|zp (Aa R R G6)<|zp (Ab R R Ai R R)<|XL.call1 R R (Pk _ _ (by assumption) (by omega)) R<|zp (Dy (A1 R R R) (hz))<|zq R R R<|zq R R R<|za R R<|zn<|zt<|z1 R R (R)
end Go.Proofs.YtcihalbakenleaaGreat
namespace Go.Proofs.YtcihalbakenleaaGreat
open Go.RowKit
def QCh:List D→Prop:=QS [Fw,Fw,QVo]
theorem Av1:DecQ Tryz.prog 83 QCh:=by
 refine DecQ.struct _ Tryz.underlying83 rfl (by kernel_rfl) fun i f Q hf hQ=> ?_
 match i,hf,hQ with
 |0,hf,hQ=>cases hf;cases hQ;exact D7
 |1,hf,hQ=>cases hf;cases hQ;exact D7
 |2,hf,hQ=>cases hf;cases hQ;exact Aqi
 |_+3,hf,hQ=>simp at hQ
theorem QCh.inv (ds:List D) (h:QCh ds):∃(a b:Int) (z:Vo),ds= [dI a,dI b, .sl 13 (z.evs.map Ev.c), .sl 4 (z.tups.map Tp.c)]∧Evs z.evs:=by
 obtain ⟨_,_,rfl,⟨a,rfl,_⟩,_,_,rfl,⟨b,rfl,_⟩,_,_,rfl,hz,rfl⟩:=h
 obtain ⟨z,rfl,hE⟩:=QVo.inv _ hz
 exact ⟨a,b,z,rfl,hE⟩
end Go.Proofs.YtcihalbakenleaaGreat
