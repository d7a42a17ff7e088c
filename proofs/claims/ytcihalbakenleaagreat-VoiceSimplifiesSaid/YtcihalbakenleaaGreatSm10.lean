/- Part 10 of what the statements need: lemmas and walks. -/
import Derived.Test.YtcihalbakenleaaGreatSm9
set_option linter.unusedVariables false
set_option linter.unusedSimpArgs false
set_option linter.unusedSectionVars false
set_option maxRecDepth 20000
set_option maxHeartbeats 8000000
namespace Go.Proofs.YtcihalbakenleaaGreat
open Go.RowKit
theorem Agz (m:Me) (h:Mok m):XC Tryz.prog 179 [.agg (Me.c m)] (fun r=>r= .sl 1 (Bu m.beats)):=by
 have hg:=h.groups
 have hu:=h.u
 have hbl:=Q6 m
 have hgl:=hg.len
 refine Ap Aad Tryz.func179 R R lb<|zr<|XL.step R (Ay 1 (l:= [.d (dI m.count), .d (dI m.unit), .d (dI m.g0), .d (dI m.g1), .d (dI m.g2), .d (dI m.g3), .d (dI m.g4), .d (dI m.g5)]) R R (by kernel_rfl))<|za R R<|znr<|za R R<|znr<|zp (Ad (s':= .d (.agg (Me.c m))) (Ae (Ac R R Be R lb)) (by kernel_rfl))<|XL.call1 R R (Ry _ (by assumption)) R<|za R R<|znr<|?_
 refine za R R<|zn<|zs<|zr<|za R R<|zn<|Ag<|C9 900 3 3 1 R<|?_
 refine Ax (α:=Nat) (fun k=>k≤m.groups.length) (fun k=>mkF [(1, .ptr 1 0 0),(2, .d (.v (.slice none 0 0))),(3, .own 900),(4, .d (.sl 1 (Bu m.groups))),(5, .d (dI (tot (m.groups.take k)*m.u))),(6, .d (dI k))]) (fun k=>mkH [(1, .box ((Me.c m).map S.d)),(900, .row 3 1 ((m.beats.take k).map iv))]) (fun k=>m.groups.length - k) (0) (Nat.zero_le _) ?_ ?_ ?_
 exact fz ⟨sr,sr,sr,sr, .same (sI (by rw [List.take_zero];show 0=0*m.u;omega)),sr,trivial⟩
 exact gz ⟨R,R,trivial⟩
 intro k hk0
 refine zs<|zr<|zm R R<|zm R R<|XL.len R R R Tryz.underlying64 fun hl11=>zp (At R R R)<|zn<|?_
 refine zd R (fun c12=> ?_) (fun c12=> ?_)
 have hk0a:k<m.groups.length:=by omega
 obtain ⟨x0,hx0⟩:=As hk0a
 have hx1:=hg.bd x0 (List.mem_of_getElem? hx0)
 have ht1:=hg.tot k
 have ht2:=hg.tot (k+1)
 have hb1:=Ol ht1.1 ht1.2 (by omega) hu.2
 have hb2:=Ol ht2.1 ht2.2 (by omega) hu.2
 have hb3:=Ol hx1.1 (by omega:x0≤4096) (by omega) hu.2
 have hst:tot (m.groups.take (k+1))*m.u=tot (m.groups.take k)*m.u+x0*m.u:=by rw [Oz hx0,Int.add_mul]
 have htl:(m.beats.take k).length=k:=by rw [List.length_take];omega
 refine zi<|zs<|Ag<|zr<|zp (Au R (by conv=>lhs;whnf))<|?_
 refine zm R R<|XL.step R (Bi 17 R Tryz.underlying64 C0 Eu R R (by omega) (by omega))<|XL.step R (A4 R G0 (.own R) (Src.own R) (by unfold maxLen;simp;omega) (by simp;omega))<|zp (Aq R (by conv=>lhs;whnf))<|?_
 refine zn<|A8 [] (by kernel_rfl) (by kernel_rfl) (by kernel_rfl) (by decide)<|ym R R<|ym R R<|ym R R<|yp (Aj R R R C5 hx0)<|yp (Aw R R Ah)<|yp (Ad (s':= .d (.agg (Me.c m))) (Ae (Ac R R Be R lb)) (by kernel_rfl))<|ChK.cons R (CStep.call R (Gu _ (by assumption)) R)<|yp (G4 R R R (by omega) (by omega))<|yp (Ak R R R (by omega) (by omega))<|?_
 refine ya R R<|?_
 refine ChK.nil ⟨by kernel_rfl, ?_⟩
 refine Af (by kernel_rfl)<|zm R R<|zp (Ak R R R (by omega) (by omega))<|za R R<|zn<|?_
 exact Al (k+1) (by omega) (by omega) (fz ⟨sr,sr,sr,sr, .same (sI hst.symm),sr,trivial⟩) (gz ⟨R,E7 R (Bb (N6 hk0a)),trivial⟩)
 have hk0b:k=m.groups.length:=by omega
 have ht:m.beats.take k=m.beats:=by rw [hk0b, ←hbl,List.take_length]
 refine An<|zr<|zp (Au R (by conv=>lhs;whnf))<|?_
 refine zp (Aq R (by conv=>lhs;whnf))<|?_
 exact zn<|zt<|Bj (i:=900) R<|z1 R R (rSl ht)
def Xx (l:List Int):Prop:=∀(j:Nat) x y,l[j]? =some x→l[0]? =some y→x=y
theorem Aq4 {l:List Int}:l≠ []→(∀x∈l,Gn l≤x∧x≤Gp l)∧(∀y,(∀x∈l,x=y)→Gn l=y∧Gp l=y):=by
 refine Ky (p:=fun l=>l≠ []→(∀x∈l,Gn l≤x∧x≤Gp l)∧(∀y,(∀x∈l,x=y)→Gn l=y∧Gp l=y)) (fun h=>absurd rfl h) (fun l a ih _=> ?_) l
 by_cases c:l= []
 ·subst c
  refine ⟨fun x hx=> ?_,fun y hy=> ?_⟩
  ·rw [List.nil_append] at hx;rw [List.mem_singleton.1 hx];exact ⟨Int.le_refl _,Int.le_refl _⟩
  ·have:=hy a (by simp);subst this;exact ⟨rfl,rfl⟩
 ·obtain ⟨h1,h2⟩:=ih c
  rw [Wh c,Wj c]
  refine ⟨fun x hx=> ?_,fun y hy=> ?_⟩
  ·rcases List.mem_append.1 hx with q|q
   ·have:=h1 x q;omega
   ·rw [List.mem_singleton.1 q];omega
  ·have h3:=h2 y fun x hx=>hy x (List.mem_append_left _ hx)
   have h4:=hy a (List.mem_append_right _ (List.mem_singleton.2 rfl))
   omega
theorem Xd {l:List Int} (hne:l≠ []):Xx l↔Gn l=Gp l:=by
 obtain ⟨h1,h2⟩:=Aq4 hne
 obtain ⟨y,hy⟩:∃y,l[0]? =some y:=As (by cases l with|nil=>exact absurd rfl hne|cons a l=>simp)
 constructor
 ·intro h
  have:=h2 y fun x hx=>by
   obtain ⟨j,hj⟩:=List.getElem?_of_mem hx
   exact h j x y hj hy
  omega
 ·intro h j x z hx hz
  have h3:=h1 x (List.mem_of_getElem? hx)
  have h4:=h1 z (List.mem_of_getElem? hz)
  omega
instance (l:List Int):Decidable (Xx l):=by
 cases l with
 |nil=>exact .isTrue fun j x y h=>by simp at h
 |cons a l=>exact decidable_of_iff _ (Xd (l:=a::l) (by simp)).symm
def leN (l:List Int) (t:Int):Nat:=(l.takeWhile fun x=>decide (x≤t)).length
def Y1 (l:List Int) (t:Int) (n:Nat):Int:=if n=0 then 0 else t - l[n - 1]?.getD 0
def Aid (n:Nat):Int:=if n=0 then 0 else ((n - 1:Nat):Int)
theorem Aka {l:List Int} {t:Int} {k:Nat} (h1:k≤l.length) (h2:∀(j:Nat) x,j<k→l[j]? =some x→decide (x≤t)=true) (h3:k=l.length∨∃x,l[k]? =some x∧decide (x≤t)=false):leN l t=k:=by
 rw [leN,Xj h1 h2 h3,List.length_take];omega
theorem X4 {p:Int→Bool}:∀{l:List Int} {x:Int},x∈l.takeWhile p→p x=true
 | [],x,h=>by simp at h
 |a::l,x,h=>by
  by_cases c:p a=true
  ·rw [List.takeWhile_cons_of_pos c] at h
   rcases List.mem_cons.1 h with e|e
   ·rw [e];exact c
   ·exact X4 e
  ·rw [List.takeWhile_cons_of_neg c] at h;cases h
theorem Amd {l:List Int} {t:Int} (hinc:∀(i j:Nat) x y,i<j→l[i]? =some x→l[j]? =some y→x<y) (h0:l[0]? =some 0) (ht:0≤t):Y1 l t (leN l t)=0↔t∈l:=by
 have hle:leN l t≤l.length:=(List.takeWhile_sublist _).length_le
 have hall:∀(j:Nat) x,j<leN l t→l[j]? =some x→x≤t:=fun j x hj hx=>by
  have hm:(l.takeWhile fun x=>decide (x≤t))[j]? =some x:=by
   have hp:=List.takeWhile_prefix (l:=l) fun x=>decide (x≤t)
   obtain ⟨s,hs⟩:=hp
   have:(l.takeWhile (fun x=>decide (x≤t))++s)[j]? =some x:=by rw [hs];exact hx
   rwa [List.getElem?_append_left hj] at this
  exact of_decide_eq_true (X4 (p:=fun x=>decide (x≤t)) (List.mem_of_getElem? hm))
 have hpos:leN l t≠0:=fun k=>by
  unfold leN at k
  cases hl:l with
  |nil=>rw [hl] at h0;cases h0
  |cons a r=>
   rw [hl] at h0 k
   cases h0
   rw [List.takeWhile_cons_of_pos (by simpa using ht)] at k
   cases k
 obtain ⟨y,hy⟩:∃y,l[leN l t - 1]? =some y:=As (by omega)
 rw [Y1,if_neg hpos,hy]
 show t - y=0↔t∈l
 constructor
 ·intro h;rw [show t=y by omega];exact List.mem_of_getElem? hy
 ·intro h
  obtain ⟨i,hi⟩:=List.getElem?_of_mem h
  have hyt:=hall _ y (by omega) hy
  by_cases c:i<leN l t - 1
  ·have:=hinc i _ t y c hi hy;omega
  ·by_cases c2:i=leN l t - 1
   ·rw [c2,hy] at hi;cases hi;omega
   ·have:=hinc _ i y t (by omega) hy hi
    have hil:=(List.getElem?_eq_some_iff.1 hi).1
    obtain ⟨z,hz⟩:∃z,l[leN l t]? =some z:=As (by omega)
    have hzt:t<z:=by
     refine Int.not_le.1 fun k=> ?_
     have e:leN l t=leN l t+1→False:=fun e=>by omega
     have hpre:∀(l:List Int) (n:Nat) (z:Int),n=(l.takeWhile fun x=>decide (x≤t)).length→l[n]? =some z→¬z≤t:=by
      intro l
      induction l with
      |nil=>intro n z _ h;simp at h
      |cons a r ih=>
       intro n z hn h
       by_cases c:a≤t
       ·rw [List.takeWhile_cons_of_pos (by simpa using c)] at hn
        subst hn
        exact ih _ z rfl (by simpa using h)
       ·rw [List.takeWhile_cons_of_neg (by simpa using c)] at hn
        subst hn
        cases h;exact c
     exact hpre l _ z rfl hz k
    by_cases c3:leN l t=i
    ·rw [c3,hi] at hz;cases hz;omega
    ·have:=hinc _ i z t (by omega) hz hi;omega
theorem Ahv {m:Me} (h:Mok m):∀x∈m.groups,0<x:=by
 intro x hx
 by_cases c:m.flat
 ·by_cases c2:8≤m.unit∧m.count % 3=0
  ·rw [Ahu (fun k=>k c) c2] at hx
   rw [List.eq_of_mem_replicate hx];decide
  ·rw [Xu (fun k=>k c) c2] at hx
   rw [List.eq_of_mem_replicate hx];decide
 ·rw [Xv c,Vd h.grp] at hx
  exact of_decide_eq_true (X4 (p:=fun g=>decide (0<g)) hx)
theorem Xc {m:Me} (h:Mok m):∀(i j:Nat) x y,i<j→m.beats[i]? =some x→m.beats[j]? =some y→x<y:=by
 intro i j x y hij hx hy
 have hu:=h.u
 have hg:=h.groups
 have hjl:=(List.getElem?_eq_some_iff.1 hy).1
 rw [Q6] at hjl
 rw [N6 (by omega)] at hx hy
 cases hx;cases hy
 have hpos:=Ahv h
 have h1:=J4 hpos (j:=i+1) (k:=j) (by omega)
 obtain ⟨g,hgi⟩:∃g,m.groups[i]? =some g:=As (by omega)
 rw [Bb hgi,Id] at h1
 have h2:=hpos g (List.mem_of_getElem? hgi)
 exact Int.mul_lt_mul_of_pos_right (by omega) (by omega)
theorem Agc {m:Me} (h:Mok m):m.beats[0]? =some 0:=by
 have hg:=h.groups
 have:=hg.pos
 rw [N6 (by omega),List.take_zero,Is,Int.zero_mul]
def rl (t u:Int):Nat→Nat→Int
 |0,_=>15
 |f+1,k=>if (u / 2 ^ k*2 ^ k=u∧7560≤u / 2 ^ k)∧t % (u / 2 ^ k)=0 then 3+(k:Int) else rl t u f (k+1)
theorem u_7 {m:Me} (h:Mok m):m.u=1935360∨m.u=967680∨m.u=483840∨m.u=241920∨m.u=120960∨m.u=60480∨m.u=30240:=by
 have hp:Lz m.unit 7=true:=pow_iff.2 fun k=>k.elim (fun k=>by have:=h.unit;omega) fun k=>k.elim (fun k=>by have:=h.unit;omega) fun k=>k h.pow
 unfold Lz at hp
 rw [List.any_eq_true] at hp
 obtain ⟨i,hi,hp⟩:=hp
 have hi:=List.mem_range.1 hi
 have hp:=of_decide_eq_true hp
 unfold Me.u
 rw [hp]
 match i,hi with
 |0,_=>decide
 |1,_=>decide
 |2,_=>decide
 |3,_=>decide
 |4,_=>decide
 |5,_=>decide
 |6,_=>decide
 |i+7,h=>omega
theorem Ar9 {t u:Int} (hu:u=1935360∨u=967680∨u=483840∨u=241920∨u=120960∨u=60480∨u=30240):rl t u 9 0=if t % u=0 then 3 else Ik t 9 1 u:=by
 rcases hu with rfl|rfl|rfl|rfl|rfl|rfl|rfl<;>simp [rl,Ik]
theorem Ai9 {t u:Int} {f k:Nat} (h:(u / 2 ^ k*2 ^ k=u∧7560≤u / 2 ^ k)∧t % (u / 2 ^ k)=0):rl t u (f+1) k=3+(k:Int):=by rw [rl,if_pos h]
theorem Ml {t u:Int} {f k:Nat} (h:¬((u / 2 ^ k*2 ^ k=u∧7560≤u / 2 ^ k)∧t % (u / 2 ^ k)=0)):rl t u (f+1) k=rl t u f (k+1):=by rw [rl,if_neg h]
theorem Afu {m:Me} {a:Int} (hm:Mok m) (h:¬a % m.len=0) (h1:¬((2*(a % m.len)=m.len∧(m.groups.length:Int) % 2=0)∧Gn m.groups=Gp m.groups)) (h2:¬a % m.len∈m.beats):rl (a % m.len) m.u 9 0=m.level a:=by
 rw [Ar9 (u_7 hm),Me.level,if_neg h,if_neg h1,if_neg h2]
theorem Aqv {k:Nat} (h:k≤9):1≤(2:Int) ^ k∧(2:Int) ^ k≤512:=by
 match k,h with
 |0,_=>decide
 |1,_=>decide
 |2,_=>decide
 |3,_=>decide
 |4,_=>decide
 |5,_=>decide
 |6,_=>decide
 |7,_=>decide
 |8,_=>decide
 |9,_=>decide
 |k+10,h=>omega
theorem Agy (l:List Int):XC Tryz.prog 159 [.sl 1 (Bu l)] (fun r=>r=dB (decide (Xx l∧(l.length:Int) % 2=0))):=by
 refine Ap Aav Tryz.func159 R R lb<|zr<|za R R<|zn<|zs<|zr<|za R R<|zn<|Ag<|?_
 refine Ax (α:=Nat) (fun k=>1≤k∧∀(j:Nat) x y,j<k→l[j]? =some x→l[0]? =some y→x=y) (fun k=>mkF [(0, .d (.sl 1 (Bu l))),(3, .d (dI (k:Nat)))]) (fun k=>mkH []) (fun k=>l.length+1 - k) (1) (⟨Nat.le_refl _,fun j x y hj hx hy=>by rw [show j=0 by omega,hy] at hx;cases hx;rfl⟩) ?_ ?_ ?_
 exact fz ⟨sr,sr,trivial⟩
 exact HSub.nil
 intro k hk0
 obtain ⟨hk,hall⟩:=hk0
 refine zs<|zr<|zm R R<|zm R R<|XL.len R R R Tryz.underlying64 fun hl6=>zp (At R R R)<|zn<|?_
 refine zd R (fun c7=> ?_) (fun c7=> ?_)
 have hkl:k<l.length:=by omega
 obtain ⟨x,hx⟩:=As hkl
 obtain ⟨y,hy⟩:∃y,l[0]? =some y:=As (by omega)
 refine zi<|zs<|Ag<|zs<|A8 [] (by kernel_rfl) (by kernel_rfl) (by kernel_rfl) (by decide)<|ym R R<|ym R R<|yp (Aj R R R C5 (hx))<|yp (Aw R R Ah)<|ym R R<|yp (Aj (k:=0) R R R C5 (hy))<|yp (Aw R R Ah)<|yp (Bc R R R)<|?_
 refine ChK.nil ⟨by kernel_rfl, ?_⟩
 refine zd R (fun c17=> ?_) (fun c17=> ?_)
 exact zr<|za R R<|zn<|zt<|z1 R R (rB (dno (fun h=>c17 (h.1 k x y hx hy))))
 refine zi<|Af (by kernel_rfl)<|zm R R<|zp (Ak R R R (by omega) (by omega))<|za R R<|zn<|?_
 exact Al (k+1) (⟨by omega,fun j x2 y2 hj hx2 hy2=>by by_cases e:j=k;(· subst e;rw [hx] at hx2;rw [hy] at hy2;cases hx2;cases hy2;exact Decidable.not_not.1 c17);(· exact hall j x2 y2 (by omega) hx2 hy2)⟩) (by omega) (fz ⟨sr,sr,trivial⟩) (HSub.nil)
 have hae:Xx l:=fun j x y hx hy=>hall j x y (by have:=(List.getElem?_eq_some_iff.1 hx).1;omega) hx hy
 exact An<|zr<|zm R R<|XL.len R R R Tryz.underlying64 fun hl19=>zp (D8 R R R (by omega) (by omega))<|zp (Az R R R)<|za R R<|zn<|zt<|z1 R R (rB (by rw [decide_eq_decide];exact ⟨fun h=>⟨hae,h⟩,fun h=>h.2⟩))
theorem Ao6 (m:Me) (a:Int) (h:Mok m) (ha:0≤a∧a≤4398046511104):XC Tryz.prog 158 [.agg (Me.c m), .v (.int .i64 a)] (fun r=>r= .tup [dI (Aid (leN m.beats (a % m.len))),dI (Y1 m.beats (a % m.len) (leN m.beats (a % m.len)))]):=by
 have hl:=h.len
 have ht0:=Int.emod_nonneg a (by omega:m.len≠0)
 have ht1:=Int.emod_lt_of_pos a (by omega:0<m.len)
 refine Ap Aaw Tryz.func158 R R lb<|zr<|XL.step R (Ay 2 (l:= [.d (dI m.count), .d (dI m.unit), .d (dI m.g0), .d (dI m.g1), .d (dI m.g2), .d (dI m.g3), .d (dI m.g4), .d (dI m.g5)]) R R (by kernel_rfl))<|za R R<|za R R<|znr<|zm R R<|zp (Ad (s':= .d (.agg (Me.c m))) (Ae (Ac R R Be R lb)) (by kernel_rfl))<|XL.call1 R R (Ss _ (by assumption)) R<|?_
 refine zp (D8 R R R (by omega) (by omega))<|za R R<|znr<|zp (Ad (s':= .d (.agg (Me.c m))) (Ae (Ac R R Be R lb)) (by kernel_rfl))<|XL.call1 R R (Agz _ (by assumption)) R<|za R R<|zn<|zs<|zr<|za R R<|zn<|Ag<|?_
 refine Ax (α:=Nat) (fun j=>j≤m.beats.length∧∀(i:Nat) x,i<j→m.beats[i]? =some x→decide (x≤a % m.len)=true) (fun j=>mkF [(4, .d (dI (Aid j))),(5, .d (dI (Y1 m.beats (a % m.len) j))),(6, .d (dI (a % m.len))),(7, .d (.sl 1 (Bu m.beats))),(8, .d (dI (j:Nat)))]) (fun j=>mkH []) (fun j=>m.beats.length - j) (0) (⟨Nat.zero_le _,fun i x h=>absurd h (Nat.not_lt_zero _)⟩) ?_ ?_ ?_
 exact fz ⟨sr,sr,sr,sr,sr,trivial⟩
 exact HSub.nil
 intro j hk0
 obtain ⟨hj,hall⟩:=hk0
 refine zs<|zr<|zm R R<|zm R R<|XL.len R R R Tryz.underlying64 fun hl17=>zp (At R R R)<|zm R R<|?_
 refine XL.dec 19 R (fun g19=> ?_) (fun g19=> ?_)
 obtain ⟨x,hx⟩:∃x,m.beats[j]? =some x:=As (by omega)
 have hx0:0≤x:=by have h1:=Agc h;by_cases e:j=0;(· rw [e,h1] at hx;cases hx;omega);(· have:=Xc h 0 j 0 x (by omega) h1 hx;omega)
 refine zm R R<|zm R R<|zp (Aj R R R C5 (hx))<|zp (Aw R R Ah)<|zm R R<|zp (Fk R R R)<|zq R R R<|zn<|?_
 refine zd R (fun c26=> ?_) (fun c26=> ?_)
 refine zi<|zs<|Ag<|A8 [] (by kernel_rfl) (by kernel_rfl) (by kernel_rfl) (by decide)<|ym R R<|ym R R<|ym R R<|ym R R<|yp (Aj R R R C5 (hx))<|yp (Aw R R Ah)<|yp (C7 R R R (by omega) (by omega))<|ya R R<|ya R R<|?_
 refine ChK.nil ⟨by kernel_rfl, ?_⟩
 refine Af (by kernel_rfl)<|zm R R<|zp (Ak R R R (by omega) (by omega))<|za R R<|zn<|?_
 exact Al (j+1) (⟨by have:=(List.getElem?_eq_some_iff.1 hx).1;omega,fun i x2 hi hx2=>by by_cases e:i=j;(· subst e;rw [hx] at hx2;cases hx2;exact decide_eq_true c26);(· exact hall i x2 (by omega) hx2)⟩) (by have:=(List.getElem?_eq_some_iff.1 hx).1;omega) (fz ⟨.same (sI (by rw [Aid,if_neg (by omega),Nat.add_sub_cancel])), .same (sI (by rw [Y1,if_neg (by omega),Nat.add_sub_cancel,hx];rfl)),sr,sr,sr,trivial⟩) (HSub.nil)
 have hn:=Aka (t:=a % m.len) hj hall (.inr ⟨x,hx,decide_eq_false c26⟩)
 refine An<|zr<|zm R R<|zm R R<|za R R<|za R R<|zn<|zt<|?_
 exact Bs R (RV.tmp R R) (RV.tmp R R) (r2 (rI (by rw [hn])) (rI (by rw [hn])))
 have hn:=Aka (t:=a % m.len) hj hall (.inl (by omega))
 refine zk 6 R<|zq R R R<|zn<|A3 (by kernel_rfl) R<|An<|zr<|zm R R<|zm R R<|za R R<|za R R<|zn<|zt<|?_
 exact Bs R (RV.tmp R R) (RV.tmp R R) (r2 (rI (by rw [hn])) (rI (by rw [hn])))
theorem Pe (m:Me) (a:Int) (h:Mok m) (ha:0≤a∧a≤4398046511104):XC Tryz.prog 126 [.agg (Me.c m), .v (.int .i64 a)] (fun r=>r=dI (m.level a)):=by
 have hl:=h.len
 have hg:=h.groups
 have hgp:=hg.pos
 have hu:=h.u
 have ht0:=Int.emod_nonneg a (by omega:m.len≠0)
 have ht1:=Int.emod_lt_of_pos a (by omega:0<m.len)
 have hof:=Amd (t:=a % m.len) (Xc h) (Agc h) ht0
 have hne:m.groups≠ []:=fun k=>by rw [k] at hgp;exact absurd hgp (by decide)
 have hae:=Xd hne
 refine Ap Abn Tryz.func126 R R lb<|zr<|XL.step R (Ay 2 (l:= [.d (dI m.count), .d (dI m.unit), .d (dI m.g0), .d (dI m.g1), .d (dI m.g2), .d (dI m.g3), .d (dI m.g4), .d (dI m.g5)]) R R (by kernel_rfl))<|za R R<|znr<|zm R R<|zp (Ad (s':= .d (.agg (Me.c m))) (Ae (Ac R R Be R lb)) (by kernel_rfl))<|XL.call1 R R (Ss _ (by assumption)) R<|?_
 refine zp (D8 R R R (by omega) (by omega))<|za R R<|znr<|zp (Ad (s':= .d (.agg (Me.c m))) (Ae (Ac R R Be R lb)) (by kernel_rfl))<|zm R R<|XL.call1 R R (Ao6 _ _ (by assumption) (by omega)) R<|zm R R<|zp (Bh R R R)<|zp (Bh R R R)<|za R R<|za R R<|zn<|zs<|Ag<|?_
 refine zr<|zm R R<|zp (Az R R R)<|za R R<|zn<|?_
 refine zd R (fun c20=> ?_) (fun c20=> ?_)
 exact zr<|za R R<|zn<|zt<|z1 R R (rI (Aq9 c20))
 refine zr<|zm R R<|zp (G4 R R R (by omega) (by omega))<|zp (Ad (s':= .d (.agg (Me.c m))) (Ae (Ac R R Be R lb)) (by kernel_rfl))<|XL.call1 R R (Ss _ (by assumption)) R<|zp (Az R R R)<|zm R R<|?_
 refine XL.dec 29 R (fun g29=> ?_) (fun g29=> ?_)
 refine zp (Ad (s':= .d (.agg (Me.c m))) (Ae (Ac R R Be R lb)) (by kernel_rfl))<|XL.call1 R R (Ry _ (by assumption)) R<|XL.call1 R R (Agy _) R<|zq R R R<|za R R<|zn<|?_
 refine zd R (fun c23=> ?_) (fun c23=> ?_)
 exact zr<|za R R<|zn<|zt<|z1 R R (rI (Aq8 c20 ⟨⟨g29,c23.2⟩,hae.1 c23.1⟩))
 refine zs<|?_
 have hns:¬((2*(a % m.len)=m.len∧(m.groups.length:Int) % 2=0)∧Gn m.groups=Gp m.groups):=by first|exact fun k=>c23 ⟨hae.2 k.2,k.1.2⟩|exact fun k=>g29 k.1.1
 refine Af (by kernel_rfl)<|zm R R<|zp (Az R R R)<|za R R<|zn<|?_
 refine zd R (fun c34=> ?_) (fun c34=> ?_)
 exact zr<|za R R<|zn<|zt<|z1 R R (rI (Za c20 hns (hof.1 c34)))
 refine zi<|zs<|zr<|za R R<|zn<|Ag<|?_
 refine Ax (α:=Nat) (fun k=>k≤9∧rl (a % m.len) m.u (9 - k) k=m.level a) (fun k=>mkF [(2, .ptr 2 0 0),(5, .d (dI (a % m.len))),(8, .d (dI (k:Nat)))]) (fun k=>mkH [(2, .box ((Me.c m).map S.d))]) (fun k=>9 - k) (0) (⟨Nat.zero_le _,Afu h c20 hns (fun q=>c34 (hof.2 q))⟩) ?_ ?_ ?_
 exact fz ⟨sr,sr,sr,trivial⟩
 exact gz ⟨R,trivial⟩
 intro k hk1
 obtain ⟨hk,hgo⟩:=hk1
 have hp9:=Aqv hk
 have hq0:0≤m.u / 2 ^ k:=Int.ediv_nonneg (by omega) (by omega)
 have hq1:m.u / 2 ^ k≤m.u:=Int.ediv_le_self _ (by omega)
 have hq2:m.u / 2 ^ k*2 ^ k≤m.u:=Int.ediv_mul_le _ (by omega)
 have hq3:0≤m.u / 2 ^ k*2 ^ k:=Int.mul_nonneg hq0 (by omega)
 refine zs<|zr<|zm R R<|zp (Fk R R R)<|zn<|?_
 refine zd R (fun c38=> ?_) (fun c38=> ?_)
 obtain ⟨f,hf⟩:∃f,9 - k=f+1:=⟨8 - k,by omega⟩
 rw [hf] at hgo
 have hf2:9 - (k+1)=f:=by omega
 have hkn:(k:Int).toNat=k:=Int.toNat_natCast k
 refine zi<|zs<|Ag<|zr<|zp (Ad (s':= .d (.agg (Me.c m))) (Ae (Ac R R Be R lb)) (by kernel_rfl))<|XL.call1 R R (Gu _ (by assumption)) R<|zm R R<|zp (Xr R R R (by omega) (by omega))<|za R R<|zn<|zs<|?_
 by_cases q50:m.u / 2 ^ k*2 ^ k=m.u
 by_cases q53:7560≤m.u / 2 ^ k
 refine A8 [] (by kernel_rfl) (by kernel_rfl) (by kernel_rfl) (by decide)<|ym R R<|ym R R<|yp (Rg R R R (by omega) (by omega) (by rw [hkn];omega) (by rw [hkn];omega))<|yp (Ad (s':= .d (.agg (Me.c m))) (Ae (Ac R R Be R lb)) (by kernel_rfl))<|ChK.cons R (CStep.call R (Gu _ (by assumption)) R)<|yp (Dd (Az R R R) (q50))<|ym R R<|ym R R<|?_
 refine yp (Dd (Ed R R R) (q53))<|yp (Av R R (by conv=>lhs;whnf))<|?_
 refine ym R R<|ym R R<|ym R R<|yp (D8 R R R (by omega) (by rw [hkn];omega))<|yp (Az R R R)<|yp (Av R R (by conv=>lhs;whnf))<|?_
 refine ChK.nil ⟨by kernel_rfl, ?_⟩
 refine zd R (fun c60=> ?_) (fun c60=> ?_)
 exact zr<|zm R R<|zp (Ak R R R (by omega) (by omega))<|za R R<|zn<|zt<|z1 R R (rI ((Ai9 ⟨⟨q50,q53⟩,c60⟩).symm.trans hgo))
 refine zi<|Af (by kernel_rfl)<|zm R R<|zp (Ak R R R (by omega) (by omega))<|za R R<|zn<|?_
 exact Al (k+1) (⟨by omega,by rw [hf2, ←hgo];exact (Ml (by first|exact fun q=>c60 q.2|exact fun q=>q53 q.1.2|exact fun q=>q50 q.1.1)).symm⟩) (by omega) (fz ⟨sr,sr,sr,trivial⟩) (gz ⟨rfl,trivial⟩)
 refine A8 [] (by kernel_rfl) (by kernel_rfl) (by kernel_rfl) (by decide)<|ym R R<|ym R R<|yp (Rg R R R (by omega) (by omega) (by rw [hkn];omega) (by rw [hkn];omega))<|yp (Ad (s':= .d (.agg (Me.c m))) (Ae (Ac R R Be R lb)) (by kernel_rfl))<|ChK.cons R (CStep.call R (Gu _ (by assumption)) R)<|yp (Dd (Az R R R) (q50))<|ym R R<|ym R R<|?_
 refine yp (Fu (Ed R R R) (q53))<|yp (Av R R (by conv=>lhs;whnf))<|?_
 refine ym R R<|ChK.skip R<|ChK.skip R<|ChK.skip R<|ChK.skip R<|yp (Av R R (by conv=>lhs;whnf))<|?_
 refine ChK.nil ⟨by kernel_rfl, ?_⟩
 refine A3 (by kernel_rfl) R<|zi<|Af (by kernel_rfl)<|zm R R<|zp (Ak R R R (by omega) (by omega))<|za R R<|zn<|?_
 exact Al (k+1) (⟨by omega,by rw [hf2, ←hgo];exact (Ml (by first|exact fun q=>c60 q.2|exact fun q=>q53 q.1.2|exact fun q=>q50 q.1.1)).symm⟩) (by omega) (fz ⟨sr,sr,sr,trivial⟩) (gz ⟨rfl,trivial⟩)
 refine A8 [] (by kernel_rfl) (by kernel_rfl) (by kernel_rfl) (by decide)<|ym R R<|ym R R<|yp (Rg R R R (by omega) (by omega) (by rw [hkn];omega) (by rw [hkn];omega))<|yp (Ad (s':= .d (.agg (Me.c m))) (Ae (Ac R R Be R lb)) (by kernel_rfl))<|ChK.cons R (CStep.call R (Gu _ (by assumption)) R)<|yp (Fu (Az R R R) (q50))<|ym R R<|ChK.skip R<|ChK.skip R<|?_
 refine yp (Av R R (by conv=>lhs;whnf))<|?_
 refine ym R R<|ChK.skip R<|ChK.skip R<|ChK.skip R<|ChK.skip R<|yp (Av R R (by conv=>lhs;whnf))<|?_
 refine ChK.nil ⟨by kernel_rfl, ?_⟩
 refine A3 (by kernel_rfl) R<|zi<|Af (by kernel_rfl)<|zm R R<|zp (Ak R R R (by omega) (by omega))<|za R R<|zn<|?_
 exact Al (k+1) (⟨by omega,by rw [hf2, ←hgo];exact (Ml (by first|exact fun q=>c60 q.2|exact fun q=>q53 q.1.2|exact fun q=>q50 q.1.1)).symm⟩) (by omega) (fz ⟨sr,sr,sr,trivial⟩) (gz ⟨rfl,trivial⟩)
 have hk9:k=9:=by omega
 subst hk9
 exact An<|zr<|za R R<|zn<|zt<|z1 R R (rI hgo)
 refine zk 3 R<|zq R R R<|za R R<|zn<|A3 (by kernel_rfl) R<|zs<|?_
 have hns:¬((2*(a % m.len)=m.len∧(m.groups.length:Int) % 2=0)∧Gn m.groups=Gp m.groups):=by first|exact fun k=>c23 ⟨hae.2 k.2,k.1.2⟩|exact fun k=>g29 k.1.1
 refine Af (by kernel_rfl)<|zm R R<|zp (Az R R R)<|za R R<|zn<|?_
 refine zd R (fun c34=> ?_) (fun c34=> ?_)
 exact zr<|za R R<|zn<|zt<|z1 R R (rI (Za c20 hns (hof.1 c34)))
 refine zi<|zs<|zr<|za R R<|zn<|Ag<|?_
 refine Ax (α:=Nat) (fun k=>k≤9∧rl (a % m.len) m.u (9 - k) k=m.level a) (fun k=>mkF [(2, .ptr 2 0 0),(5, .d (dI (a % m.len))),(8, .d (dI (k:Nat)))]) (fun k=>mkH [(2, .box ((Me.c m).map S.d))]) (fun k=>9 - k) (0) (⟨Nat.zero_le _,Afu h c20 hns (fun q=>c34 (hof.2 q))⟩) ?_ ?_ ?_
 exact fz ⟨sr,sr,sr,trivial⟩
 exact gz ⟨R,trivial⟩
 intro k hk1
 obtain ⟨hk,hgo⟩:=hk1
 have hp9:=Aqv hk
 have hq0:0≤m.u / 2 ^ k:=Int.ediv_nonneg (by omega) (by omega)
 have hq1:m.u / 2 ^ k≤m.u:=Int.ediv_le_self _ (by omega)
 have hq2:m.u / 2 ^ k*2 ^ k≤m.u:=Int.ediv_mul_le _ (by omega)
 have hq3:0≤m.u / 2 ^ k*2 ^ k:=Int.mul_nonneg hq0 (by omega)
 refine zs<|zr<|zm R R<|zp (Fk R R R)<|zn<|?_
 refine zd R (fun c38=> ?_) (fun c38=> ?_)
 obtain ⟨f,hf⟩:∃f,9 - k=f+1:=⟨8 - k,by omega⟩
 rw [hf] at hgo
 have hf2:9 - (k+1)=f:=by omega
 have hkn:(k:Int).toNat=k:=Int.toNat_natCast k
 refine zi<|zs<|Ag<|zr<|zp (Ad (s':= .d (.agg (Me.c m))) (Ae (Ac R R Be R lb)) (by kernel_rfl))<|XL.call1 R R (Gu _ (by assumption)) R<|zm R R<|zp (Xr R R R (by omega) (by omega))<|za R R<|zn<|zs<|?_
 by_cases q50:m.u / 2 ^ k*2 ^ k=m.u
 by_cases q53:7560≤m.u / 2 ^ k
 refine A8 [] (by kernel_rfl) (by kernel_rfl) (by kernel_rfl) (by decide)<|ym R R<|ym R R<|yp (Rg R R R (by omega) (by omega) (by rw [hkn];omega) (by rw [hkn];omega))<|yp (Ad (s':= .d (.agg (Me.c m))) (Ae (Ac R R Be R lb)) (by kernel_rfl))<|ChK.cons R (CStep.call R (Gu _ (by assumption)) R)<|yp (Dd (Az R R R) (q50))<|ym R R<|ym R R<|?_
 refine yp (Dd (Ed R R R) (q53))<|yp (Av R R (by conv=>lhs;whnf))<|?_
 refine ym R R<|ym R R<|ym R R<|yp (D8 R R R (by omega) (by rw [hkn];omega))<|yp (Az R R R)<|yp (Av R R (by conv=>lhs;whnf))<|?_
 refine ChK.nil ⟨by kernel_rfl, ?_⟩
 refine zd R (fun c60=> ?_) (fun c60=> ?_)
 exact zr<|zm R R<|zp (Ak R R R (by omega) (by omega))<|za R R<|zn<|zt<|z1 R R (rI ((Ai9 ⟨⟨q50,q53⟩,c60⟩).symm.trans hgo))
 refine zi<|Af (by kernel_rfl)<|zm R R<|zp (Ak R R R (by omega) (by omega))<|za R R<|zn<|?_
 exact Al (k+1) (⟨by omega,by rw [hf2, ←hgo];exact (Ml (by first|exact fun q=>c60 q.2|exact fun q=>q53 q.1.2|exact fun q=>q50 q.1.1)).symm⟩) (by omega) (fz ⟨sr,sr,sr,trivial⟩) (gz ⟨rfl,trivial⟩)
 refine A8 [] (by kernel_rfl) (by kernel_rfl) (by kernel_rfl) (by decide)<|ym R R<|ym R R<|yp (Rg R R R (by omega) (by omega) (by rw [hkn];omega) (by rw [hkn];omega))<|yp (Ad (s':= .d (.agg (Me.c m))) (Ae (Ac R R Be R lb)) (by kernel_rfl))<|ChK.cons R (CStep.call R (Gu _ (by assumption)) R)<|yp (Dd (Az R R R) (q50))<|ym R R<|ym R R<|?_
 refine yp (Fu (Ed R R R) (q53))<|yp (Av R R (by conv=>lhs;whnf))<|?_
 refine ym R R<|ChK.skip R<|ChK.skip R<|ChK.skip R<|ChK.skip R<|yp (Av R R (by conv=>lhs;whnf))<|?_
 refine ChK.nil ⟨by kernel_rfl, ?_⟩
 refine A3 (by kernel_rfl) R<|zi<|Af (by kernel_rfl)<|zm R R<|zp (Ak R R R (by omega) (by omega))<|za R R<|zn<|?_
 exact Al (k+1) (⟨by omega,by rw [hf2, ←hgo];exact (Ml (by first|exact fun q=>c60 q.2|exact fun q=>q53 q.1.2|exact fun q=>q50 q.1.1)).symm⟩) (by omega) (fz ⟨sr,sr,sr,trivial⟩) (gz ⟨rfl,trivial⟩)
 refine A8 [] (by kernel_rfl) (by kernel_rfl) (by kernel_rfl) (by decide)<|ym R R<|ym R R<|yp (Rg R R R (by omega) (by omega) (by rw [hkn];omega) (by rw [hkn];omega))<|yp (Ad (s':= .d (.agg (Me.c m))) (Ae (Ac R R Be R lb)) (by kernel_rfl))<|ChK.cons R (CStep.call R (Gu _ (by assumption)) R)<|yp (Fu (Az R R R) (q50))<|ym R R<|ChK.skip R<|ChK.skip R<|?_
 refine yp (Av R R (by conv=>lhs;whnf))<|?_
 refine ym R R<|ChK.skip R<|ChK.skip R<|ChK.skip R<|ChK.skip R<|yp (Av R R (by conv=>lhs;whnf))<|?_
 refine ChK.nil ⟨by kernel_rfl, ?_⟩
 refine A3 (by kernel_rfl) R<|zi<|Af (by kernel_rfl)<|zm R R<|zp (Ak R R R (by omega) (by omega))<|za R R<|zn<|?_
 exact Al (k+1) (⟨by omega,by rw [hf2, ←hgo];exact (Ml (by first|exact fun q=>c60 q.2|exact fun q=>q53 q.1.2|exact fun q=>q50 q.1.1)).symm⟩) (by omega) (fz ⟨sr,sr,sr,trivial⟩) (gz ⟨rfl,trivial⟩)
 have hk9:k=9:=by omega
 subst hk9
 exact An<|zr<|za R R<|zn<|zt<|z1 R R (rI hgo)
end Go.Proofs.YtcihalbakenleaaGreat
namespace Go.Proofs.YtcihalbakenleaaGreat
open Go.RowKit
theorem Agx (v:Val) (h:Da v=0):XC Tryz.prog 156 [.agg (Val.c v)] (fun r=>r=dI (B8 v)):=by
 have hv:=Nr (v:=v) (by omega)
 have hp:=Lh v
 refine Ap Aay Tryz.func156 R R lb<|zr<|XL.step R (Ay 1 (l:= [.d (dI v.log), .d (dI v.dots)]) R R (by kernel_rfl))<|za R R<|znr<|za R R<|zn<|zs<|zr<|za R R<|zn<|Ag<|?_
 refine Ax (α:=Nat) (fun k=>(k:Int)≤v.log+1) (fun k=>mkF [(1, .ptr 1 0 0),(2, .d (dI 0)),(3, .d (dI (Ir k))),(4, .d (dI ((k:Int) - 1)))]) (fun k=>mkH [(1, .box ((Val.c v).map S.d))]) (fun k=>(v.log+1).toNat - k) (0) (by omega) ?_ ?_ ?_
 exact fz ⟨sr,sr, .same (sI (by decide)), .same (sI (by decide)),trivial⟩
 exact gz ⟨R,trivial⟩
 intro k hk0
 have hh:=Qw k
 refine zs<|zr<|zm R R<|zp (Aa R R Ld)<|zp (Ab R R Ah R R)<|zp (At R R R)<|zn<|?_
 refine zd R (fun c10=> ?_) (fun c10=> ?_)
 refine zi<|zs<|Ag<|Af (by kernel_rfl)<|zm R R<|zp (F9 R R R (by omega) (by omega) (by omega))<|za R R<|zn<|Af (by kernel_rfl)<|zm R R<|zp (Ak R R R (by omega) (by omega))<|za R R<|zn<|?_
 exact Al (k+1) (by omega) (by omega) (fz ⟨sr,sr, .same (sI (Oe k)), .same (sI (by omega)),trivial⟩) (gz ⟨R,trivial⟩)
 have hpl:=Uk (v:=v) (k:=k) (by omega)
 refine An<|zr<|zm R R<|za R R<|zn<|zs<|zr<|za R R<|zn<|Ag<|?_
 refine Ax (α:=Nat) (fun m=>(m:Int)≤v.dots) (fun m=>mkF [(1, .ptr 1 0 0),(2, .d (dI 0)),(3, .d (dI (Ew (Dz v) m).1)),(5, .d (dI (Ew (Dz v) m).2)),(6, .d (dI (m:Nat)))]) (fun m=>mkH [(1, .box ((Val.c v).map S.d))]) (fun m=>v.dots.toNat - m) (0) (hv.2.2.1) ?_ ?_ ?_
 exact fz ⟨sr,sr, .same (sI hpl), .same (sI hpl),sr,trivial⟩
 exact gz ⟨R,trivial⟩
 intro m hk2
 refine zs<|zr<|zm R R<|zp (Aa R R Hl)<|zp (Ab R R Ah R R)<|zp (At R R R)<|zn<|?_
 refine zd R (fun c19=> ?_) (fun c19=> ?_)
 have hb:=Kj hp.1 m
 have hb2:Dz v*((m:Int)+1)≤3870720*4:=Int.mul_le_mul hp.2 (by omega) (by omega) (by omega)
 refine zi<|zs<|Ag<|zr<|zm R R<|zp (F9 R R R (by omega) (by omega) (by omega))<|za R R<|zng<|zm R R<|zm R R<|zp (Ak R R R (by omega) (by omega))<|za R R<|zn<|Af (by kernel_rfl)<|?_
 refine zm R R<|zp (Ak R R R (by omega) (by omega))<|za R R<|zn<|?_
 exact Al (m+1) (by omega) (by omega) (fz ⟨sr,sr,sr,sr,sr,trivial⟩) (gz ⟨R,trivial⟩)
 have hke:v.dots.toNat=m:=by omega
 exact An<|zr<|zm R R<|za R R<|zn<|zt<|z1 R R (rI (by rw [B8,hke]))
theorem Af3 {p:Val→Bool}:∀{l:List Val} {q:Nat} {x:Val},l[q]? =some x→p x=true→(∀(i:Nat) y,i<q→l[i]? =some y→p y=false)→l.find? p=some x
 | [],q,x,h,_,_=>by simp at h
 |a::l,0,x,h,hp,_=>by cases h;rw [List.find?_cons_of_pos hp]
 |a::l,q+1,x,h,hp,hb=>by
  rw [List.find?_cons_of_neg (by rw [hb 0 a (by omega) rfl];decide)]
  exact Af3 (by simpa using h) hp fun i y hi hy=>hb (i+1) y (by omega) hy
theorem Tc {q:Nat} (h:q<40):allV[q]? =some (Dq q):=by rw [allV,List.getElem?_map,Acj h];rfl
theorem Ana:allV.length=40:=by rw [allV,List.length_map,allQ,List.length_ofFn]
theorem Ak8 (k j:Nat) (hj:j<4):Dq (4*k+j)=⟨(k:Int) - 1,(j:Int)⟩:=by
 unfold Dq
 rw [show (4*k+j) / 4=k by omega,show (4*k+j) % 4=j by omega]
theorem Arh {d:Int} {q:Nat} (hq:q<40) (hall:∀i,i<q→B8 (Dq i)≠d) (h:B8 (Dq q)=d):B7 d=Dq q∧Es d=0:=by
 have:Ht d allV=some (Dq q):=Af3 (Tc hq) (by simpa using h) fun i y hi hy=>by
  rw [Tc (by omega)] at hy;cases hy;exact decide_eq_false (hall i hi)
 exact ⟨by rw [B7,this];rfl,by rw [Es,this,if_neg (by simp)]⟩
theorem Apr {d:Int} (hall:∀i,i<40→B8 (Dq i)≠d):B7 d=⟨0,0⟩∧Es d=17:=by
 have:Ht d allV=none:=by
  unfold Ht
  rw [List.find?_eq_none]
  intro x hx
  obtain ⟨i,hi⟩:=List.getElem?_of_mem hx
  have hl:=(List.getElem?_eq_some_iff.1 hi).1
  rw [Ana] at hl
  rw [Tc hl] at hi;cases hi
  simpa using hall i hl
 exact ⟨by rw [B7,this];rfl,by rw [Es,this,if_pos rfl]⟩
theorem Aob {d:Int} {v:Val} (h:B7 d=v∧Es d=0):D.tup [.agg (Val.c v),dB true]= .tup [.agg (Val.c (B7 d)),dB (decide (Es d=0))]:=by rw [h.1,h.2];rfl
theorem Aqb {d:Int} (h:B7 d=⟨0,0⟩∧Es d=17):D.tup [.agg (Val.c ⟨0,0⟩),dB false]= .tup [.agg (Val.c (B7 d)),dB (decide (Es d=0))]:=by rw [h.1,h.2];rfl
theorem Agw (d:Int):XC Tryz.prog 125 [.v (.int .i64 d)] (fun r=>r= .tup [.agg (Val.c (B7 d)),dB (decide (Es d=0))]):=by
 refine Ap Abo Tryz.func125 R R lb<|zr<|XL.step R (A9 2 (l:= [.d (dI 0), .d (dI 0)]) R Db (by kernel_rfl))<|za R R<|zn<|zs<|zr<|za R R<|zn<|Ag<|?_
 refine Ax (α:=Nat) (fun k=>k≤10∧∀i,i<4*k→B8 (Dq i)≠d) (fun k=>mkF [(0, .d (dI d)),(2, .ptr 2 0 0),(4, .d (dI ((k:Int) - 1)))]) (fun k=>mkH [(2, .box [.d (dI 0), .d (dI 0)])]) (fun k=>10 - k) (0) (⟨Nat.zero_le _,fun i h=>absurd h (Nat.not_lt_zero _)⟩) ?_ ?_ ?_
 exact fz ⟨sr,sr, .same (sI (by decide)),trivial⟩
 exact gz ⟨R,trivial⟩
 intro k hk0
 obtain ⟨hk,hall⟩:=hk0
 refine zs<|zr<|zm R R<|zp (Fk R R R)<|zn<|?_
 refine zd R (fun c8=> ?_) (fun c8=> ?_)
 refine zi<|zs<|Ag<|zr<|za R R<|zn<|Ag<|?_
 refine Ax (α:=Nat) (fun j=>j≤4∧∀i,i<4*k+j→B8 (Dq i)≠d) (fun j=>mkF [(0, .d (dI d)),(2, .ptr 2 0 0),(4, .d (dI ((k:Int) - 1))),(5, .d (dI (j:Nat)))]) (fun j=>mkH [(2, .box [.d (dI 0), .d (dI 0)])]) (fun j=>4 - j) (0) (⟨Nat.zero_le _,fun i h=>hall i (by omega)⟩) ?_ ?_ ?_
 exact fz ⟨sr,sr,sr,sr,trivial⟩
 exact gz ⟨R,trivial⟩
 intro j hk2
 obtain ⟨hj,hall2⟩:=hk2
 refine zs<|zr<|zm R R<|zp (Fk R R R)<|zn<|?_
 refine zd R (fun c12=> ?_) (fun c12=> ?_)
 have hj4:j<4:=by omega
 have hkj:=Ak8 k j hj4
 have hve:Da ⟨(k:Int) - 1,(j:Int)⟩=0:=(P9 ⟨by show -1≤(k:Int) - 1;omega,by show (k:Int) - 1≤8;omega,by show (0:Int)≤(j:Int);omega,by show (j:Int)≤3;omega⟩).symm
 refine zi<|zs<|Ag<|zr<|zm R R<|zm R R<|zp (Ad (s':= .d (.agg [dI ((k:Int) - 1),dI (j:Nat)])) (Ae (Bv R I2 Db R)) (by kernel_rfl))<|XL.step R (A9 6 (l:= [.d (dI 0), .d (dI 0)]) R Db (by kernel_rfl))<|XL.step R (Ai (l':= [.d (dI ((k:Int) - 1)), .d (dI (j:Nat))]) R R R R D1 R lb (by kernel_rfl))<|znr<|?_
 refine zp (Ad (s':= .d (.agg [dI ((k:Int) - 1),dI (j:Nat)])) (Ae (Ac R R Ck R lb)) (by kernel_rfl))<|XL.call1 R R (Agx ⟨(k:Int) - 1,(j:Int)⟩ hve) R<|zm R R<|zp (Az R R R)<|zn<|?_
 refine zd R (fun c21=> ?_) (fun c21=> ?_)
 refine zr<|zp (Ad (s':= .d (.agg [dI ((k:Int) - 1),dI (j:Nat)])) (Ae (Ac R R Ck R lb)) (by kernel_rfl))<|XL.step R (Ai (l':= [.d (dI ((k:Int) - 1)), .d (dI (j:Nat))]) R R R R D1 R lb (by kernel_rfl))<|za R R<|zn<|zt<|?_
 exact Bs R (RV.cells R R R Ck lb R) (RV.tmp R R) (Aob (v:=⟨(k:Int) - 1,(j:Int)⟩) (by rw [←hkj];exact Arh (by omega) hall2 (by rw [hkj];exact c21)))
 refine zi<|Af (by kernel_rfl)<|zm R R<|zp (Ak R R R (by omega) (by omega))<|za R R<|zn<|?_
 exact Al (j+1) (⟨by omega,fun i hi=>by by_cases e:i=4*k+j;(· rw [e,hkj];exact c21);(· exact hall2 i (by omega))⟩) (by omega) (fz ⟨sr,sr,sr,sr,trivial⟩) (gz ⟨rfl,trivial⟩)
 refine An<|Af (by kernel_rfl)<|zm R R<|zp (Ak R R R (by omega) (by omega))<|za R R<|zn<|?_
 exact Al (k+1) (⟨by omega,fun i hi=>hall2 i (by omega)⟩) (by omega) (fz ⟨sr,sr, .same (sI (by omega)),trivial⟩) (gz ⟨rfl,trivial⟩)
 refine An<|zr<|zp (Ad (s':= .d (.agg [dI 0,dI 0])) (Ae (Bv R I2 Db R)) (by kernel_rfl))<|XL.step R (Ai (l':= [.d (dI 0), .d (dI 0)]) R R R R D1 R lb (by kernel_rfl))<|za R R<|zn<|zt<|?_
 exact Bs R (RV.cells R R R Ck lb R) (RV.tmp R R) (Aqb (Apr (fun i hi=>hall i (by omega))))
def stl (p:Int × Int × Bool):Int:=if p.2.2=true then p.2.1 else 99
theorem Xm {p:Int × Int × Bool} (h:p.2.2=true):stl p=p.2.1:=by rw [stl,if_pos h]
theorem Ank {p:Int × Int × Bool} (h:¬p.2.2=true):stl p=99:=by rw [stl,if_neg h]
theorem Ait {m:Me} {a:Int} {k:Nat} (h:m.level (a+7560*(k+1))<stl (D4 m a k)):D4 m a (k+1)=(a+7560*(k+1),m.level (a+7560*(k+1)),true):=by
 refine If ?_
 by_cases c:(D4 m a k).2.2=true
 ·rw [Xm c] at h;exact .inr h
 ·exact .inl (by simpa using c)
theorem Anl {m:Me} {a:Int} {k:Nat} (h:¬m.level (a+7560*(k+1))<stl (D4 m a k)):D4 m a (k+1)=D4 m a k:=by
 have hl:=Ps m (a+7560*(k+1))
 by_cases c:(D4 m a k).2.2=true
 ·rw [Xm c] at h;exact Rc c h
 ·rw [Ank c] at h;omega
theorem Acy (m:Me) (a b:Int) (h:Mok m) (ha:0≤a∧a≤4398046511104) (hb:b≤4398046511104):XC Tryz.prog 124 [.agg (Me.c m), .v (.int .i64 a), .v (.int .i64 b)] (fun r=>r= .tup [dI (m.strong a b).1,dI (stl (m.strong a b))]):=by
 have hN:C6 a b=((b - a - 1) / 7560).toNat:=rfl
 refine Ap Abp Tryz.func124 R R lb<|zr<|XL.step R (Ay 3 (l:= [.d (dI m.count), .d (dI m.unit), .d (dI m.g0), .d (dI m.g1), .d (dI m.g2), .d (dI m.g3), .d (dI m.g4), .d (dI m.g5)]) R R (by kernel_rfl))<|za R R<|za R R<|znr<|za R R<|zn<|zs<|zr<|zm R R<|zp (Ak R R R (by omega) (by omega))<|za R R<|zn<|?_
 refine Ag<|?_
 refine Ax (α:=Nat) (fun k=>k≤C6 a b) (fun k=>mkF [(2, .d (dI b)),(3, .ptr 3 0 0),(6, .d (dI (D4 m a k).1)),(7, .d (dI (stl (D4 m a k)))),(8, .d (dI (a+7560*(k+1))))]) (fun k=>mkH [(3, .box ((Me.c m).map S.d))]) (fun k=>C6 a b - k) (0) (Nat.zero_le _) ?_ ?_ ?_
 exact fz ⟨sr,sr,sr,sr, .same (sI (by omega)),trivial⟩
 exact gz ⟨R,trivial⟩
 intro k hk0
 refine zs<|zr<|zm R R<|zm R R<|zp (At R R R)<|zn<|?_
 refine zd R (fun c14=> ?_) (fun c14=> ?_)
 have hlt:k<C6 a b:=by omega
 refine zi<|zs<|Ag<|zr<|zp (Ad (s':= .d (.agg (Me.c m))) (Ae (Ac R R Be R lb)) (by kernel_rfl))<|zm R R<|XL.call1 R R (Pe _ _ (by assumption) (by omega)) R<|za R R<|znr<|zm R R<|zm R R<|zp (At R R R)<|zn<|?_
 refine zd R (fun c22=> ?_) (fun c22=> ?_)
 refine Af (by kernel_rfl)<|zm R R<|zm R R<|za R R<|za R R<|zn<|Af (by kernel_rfl)<|zm R R<|zp (Ak R R R (by omega) (by omega))<|za R R<|zn<|?_
 exact Al (k+1) (by omega) (by omega) (fz ⟨sr,sr, .same (sI (by rw [Ait c22])), .same (sI (by rw [Ait c22];rfl)), .same (sI (by omega)),trivial⟩) (gz ⟨R,trivial⟩)
 refine zi<|Af (by kernel_rfl)<|zm R R<|zp (Ak R R R (by omega) (by omega))<|za R R<|zn<|?_
 exact Al (k+1) (by omega) (by omega) (fz ⟨sr,sr, .same (sI (by rw [Anl c22])), .same (sI (by rw [Anl c22])), .same (sI (by omega)),trivial⟩) (gz ⟨R,trivial⟩)
 have hk:k=C6 a b:=by omega
 refine An<|zr<|zm R R<|zm R R<|za R R<|za R R<|zn<|zt<|?_
 exact Bs R (RV.tmp R R) (RV.tmp R R) (by rw [hk];rfl)
theorem Ah2:(B7 7560).dots=0:=by decide+kernel
theorem Pf {m:Me} {a b:Int} (hab:a≤b) (hne:¬a=b) (ha:a % 7560=0) (hb:b % 7560=0) (h:¬((Es (b - a)=0∧(B7 (b - a)).dots≤2)∧m.level a≤stl (m.strong a b)∧(0<(B7 (b - a)).dots∨m.level b≤stl (m.strong a b)))):(m.strong a b).2.2=true:=by
 refine Decidable.not_not.1 fun c=>h ?_
 have hn:=Rv (m:=m) (a:=a) (b:=b) (by simpa using c)
 unfold C6 at hn
 have hd:b - a=7560:=by omega
 have h1:=Ps m a
 have h2:=Ps m b
 rw [hd,Ank c,W3,Ah2]
 omega
theorem M1 {m:Me} {a b:Int} (h:(Es (b - a)=0∧(B7 (b - a)).dots≤2)∧m.level a≤stl (m.strong a b)∧(0<(B7 (b - a)).dots∨m.level b≤stl (m.strong a b))):m.simp a b∨(m.strong a b).2.2=false:=by
 by_cases c:(m.strong a b).2.2=true
 ·rw [Xm c] at h
  exact .inl ⟨h.1.1,h.1.2,fun _=>h.2⟩
 ·exact .inr (by simpa using c)
theorem M2 {m:Me} {a b:Int} (hw:(m.strong a b).2.2=true) (h:¬((Es (b - a)=0∧(B7 (b - a)).dots≤2)∧m.level a≤stl (m.strong a b)∧(0<(B7 (b - a)).dots∨m.level b≤stl (m.strong a b)))):¬m.simp a b:=fun ⟨k1,k2,k3⟩=>h ⟨⟨k1,k2⟩,by rw [Xm hw];exact k3 hw⟩
theorem L8 {m:Me} {a b:Int} (ha:a % 7560=0) (hw:(m.strong a b).2.2=true):(m.strong a b).1 % 7560=0:=by
 obtain ⟨j,_,hj⟩:=Qc hw
 rw [hj];omega
theorem Yo (m:Me) (h:Mok m) (f:Nat) (ih:∀a b,SpP f a b→a % 7560=0→b % 7560=0→XS Tryz.prog 76 [.agg (Me.c m),dI a,dI b] (.own 7001) [(7001, .row 56 2 ((D5 m f a b).map Val.c))]) (a b:Int) (hp:SpP (f+1) a b) (hma:a % 7560=0) (hmb:b % 7560=0):XS Tryz.prog 76 [.agg (Me.c m), .v (.int .i64 a), .v (.int .i64 b)] (.own 7001) [(7001, .row 56 2 ((D5 m (f+1) a b).map Val.c))]:=by
 obtain ⟨ha,hab,hb,hd,hf⟩:=id hp
 refine Hv Adr Tryz.func76 R R lb (by kernel_rfl) (by kernel_rfl)<|zr<|XL.step R (Ay 3 (l:= [.d (dI m.count), .d (dI m.unit), .d (dI m.g0), .d (dI m.g1), .d (dI m.g2), .d (dI m.g3), .d (dI m.g4), .d (dI m.g5)]) R R (by kernel_rfl))<|za R R<|zn<|zs<|zr<|zm R R<|zm R R<|zp (Az R R R)<|zn<|?_
 refine zd R (fun c13=> ?_) (fun c13=> ?_)
 refine zr<|za R R<|zn<|C9 7001 6 56 2 R<|zt<|?_
 exact ⟨Dt R (RVS.tmp R R),HSub.cons (by first|exact Dg (by rw [Cf c13];rfl)|exact Ec (Cg c13 (M2 hw hno) hw)|exact Dg (by rw [Ce c13 (M1 ⟨⟨by omega,by omega⟩,by omega,by omega⟩)];rfl)) (HSub.nil)⟩
 refine zi<|zr<|zp (Ad (s':= .d (.agg (Me.c m))) (Ae (Ac R R Be R lb)) (by kernel_rfl))<|zm R R<|zm R R<|XL.call1 R R (Acy _ _ _ (by assumption) (by omega) (by omega)) R<|zm R R<|zp (Bh R R R)<|zp (Bh R R R)<|za R R<|za R R<|znr<|zm R R<|zm R R<|?_
 refine zp (C7 R R R (by omega) (by omega))<|XL.call1 R R (Agw _) R<|zm R R<|zp (Bh R R R)<|zp (Bh R R R)<|XL.step R (A9 9 (l:= [.d (dI 0), .d (dI 0)]) R Db (by kernel_rfl))<|XL.step R (Ai (l':= [.d (dI (B7 (b - a)).log), .d (dI (B7 (b - a)).dots)]) R R R R D1 R lb (by kernel_rfl))<|za R R<|zn<|zs<|zr<|zm R R<|zm R R<|?_
 refine XL.bool 29 R (fun g29=> ?_) (fun g29=> ?_)
 have g29:=of_decide_eq_true g29
 refine zp (Aa R R Hl)<|zp (Ab R R Ah R R)<|zp (Fk R R R)<|zq R R R<|zm R R<|?_
 refine XL.dec 34 R (fun g34=> ?_) (fun g34=> ?_)
 refine zm R R<|zp (Ad (s':= .d (.agg (Me.c m))) (Ae (Ac R R Be R lb)) (by kernel_rfl))<|zm R R<|XL.call1 R R (Pe _ _ (by assumption) (by omega)) R<|zp (Ed R R R)<|zq R R R<|zm R R<|?_
 refine XL.dec 41 R (fun g41=> ?_) (fun g41=> ?_)
 refine zp (Aa R R Hl)<|zp (Ab R R Ah R R)<|zp (A6 R R R)<|zm R R<|?_
 refine XL.dec 45 R (fun g45=> ?_) (fun g45=> ?_)
 refine zk 5 R<|zq R R R<|zq R R R<|zn<|Ao (by kernel_rfl) R<|zr<|zp (Ad (s':= .d (.agg (Val.c (B7 (b - a))))) (Ae (Ac R R Ck R lb)) (by kernel_rfl))<|XL.step R (Bi 7001 R Tryz.underlying106 D1 Db R R (by omega) (by omega))<|zp (Aq R (by conv=>lhs;whnf))<|?_
 refine zn<|zt<|?_
 exact ⟨Dt R (RVS.tmp R R),HSub.cons (by first|exact Dg (by rw [Cf c13];rfl)|exact Ec (Cg c13 (M2 hw hno) hw)|exact Dg (by rw [Ce c13 (M1 ⟨⟨by omega,by omega⟩,by omega,by omega⟩)];rfl)) (HSub.nil)⟩
 refine zm R R<|zp (Ad (s':= .d (.agg (Me.c m))) (Ae (Ac R R Be R lb)) (by kernel_rfl))<|zm R R<|XL.call1 R R (Pe _ _ (by assumption) (by omega)) R<|zp (Ed R R R)<|zq R R R<|zq R R R<|zn<|?_
 refine zd R (fun c52=> ?_) (fun c52=> ?_)
 refine zr<|zp (Ad (s':= .d (.agg (Val.c (B7 (b - a))))) (Ae (Ac R R Ck R lb)) (by kernel_rfl))<|XL.step R (Bi 7001 R Tryz.underlying106 D1 Db R R (by omega) (by omega))<|zp (Aq R (by conv=>lhs;whnf))<|?_
 refine zn<|zt<|?_
 exact ⟨Dt R (RVS.tmp R R),HSub.cons (by first|exact Dg (by rw [Cf c13];rfl)|exact Ec (Cg c13 (M2 hw hno) hw)|exact Dg (by rw [Ce c13 (M1 ⟨⟨by omega,by omega⟩,by omega,by omega⟩)];rfl)) (HSub.nil)⟩
 refine zi<|zs<|?_
 have hno:¬((Es (b - a)=0∧(B7 (b - a)).dots≤2)∧m.level a≤stl (m.strong a b)∧(0<(B7 (b - a)).dots∨m.level b≤stl (m.strong a b))):=by omega
 have hw:=Pf hab c13 hma hmb hno
 have hmc:=L8 hma hw
 obtain ⟨hp1,hp2,hp3⟩:=Fs hp hw
 have hl1:=Cp (m:=m) f _ _ hp1
 have hl2:=Cp (m:=m) f _ _ hp2
 have hN:C6 a b≤2048:=by unfold C6;omega
 refine C1 7 [7001] (by kernel_rfl) (by kernel_rfl) (by kernel_rfl) (by kernel_rfl) (by decide)<|yp (Ad (s':= .d (.agg (Me.c m))) (Ae (Ac R R Be R lb)) (by kernel_rfl))<|ym R R<|ym R R<|ChK.cons R (CStep.callS R ((ih _ _ hp1 hma hmc).lab 7001) R (E3 (by kernel_rfl)))<|yp (Ad (s':= .d (.agg (Me.c m))) (Ae (Ac R R Be R lb)) (by kernel_rfl))<|?_
 refine ym R R<|ym R R<|?_
 refine ChK.nil ⟨by kernel_rfl, ?_⟩
 refine XL.callS R R ((ih _ _ hp2 hmc hmb).lab 7002) R<|XL.step R (A4 R Iu (.own R) (Src.own R) (by simp only [List.length_map];unfold maxLen;omega) (by simp only [List.length_map];omega))<|zp (Aq R (by conv=>lhs;whnf))<|?_
 refine zn<|zt<|?_
 exact ⟨Dt R (RVS.tmp R R),HSub.cons (by first|exact Dg (by rw [Cf c13];rfl)|exact Ec (Cg c13 (M2 hw hno) hw)|exact Dg (by rw [Ce c13 (M1 ⟨⟨by omega,by omega⟩,by omega,by omega⟩)];rfl)) (HSub.nil)⟩
 refine zk 10 R<|zq R R R<|zn<|A3 (by kernel_rfl) R<|zi<|zs<|?_
 have hno:¬((Es (b - a)=0∧(B7 (b - a)).dots≤2)∧m.level a≤stl (m.strong a b)∧(0<(B7 (b - a)).dots∨m.level b≤stl (m.strong a b))):=by omega
 have hw:=Pf hab c13 hma hmb hno
 have hmc:=L8 hma hw
 obtain ⟨hp1,hp2,hp3⟩:=Fs hp hw
 have hl1:=Cp (m:=m) f _ _ hp1
 have hl2:=Cp (m:=m) f _ _ hp2
 have hN:C6 a b≤2048:=by unfold C6;omega
 refine C1 7 [7001] (by kernel_rfl) (by kernel_rfl) (by kernel_rfl) (by kernel_rfl) (by decide)<|yp (Ad (s':= .d (.agg (Me.c m))) (Ae (Ac R R Be R lb)) (by kernel_rfl))<|ym R R<|ym R R<|ChK.cons R (CStep.callS R ((ih _ _ hp1 hma hmc).lab 7001) R (E3 (by kernel_rfl)))<|yp (Ad (s':= .d (.agg (Me.c m))) (Ae (Ac R R Be R lb)) (by kernel_rfl))<|?_
 refine ym R R<|ym R R<|?_
 refine ChK.nil ⟨by kernel_rfl, ?_⟩
 refine XL.callS R R ((ih _ _ hp2 hmc hmb).lab 7003) R<|XL.step R (A4 R Iu (.own R) (Src.own R) (by simp only [List.length_map];unfold maxLen;omega) (by simp only [List.length_map];omega))<|zp (Aq R (by conv=>lhs;whnf))<|?_
 refine zn<|zt<|?_
 exact ⟨Dt R (RVS.tmp R R),HSub.cons (by first|exact Dg (by rw [Cf c13];rfl)|exact Ec (Cg c13 (M2 hw hno) hw)|exact Dg (by rw [Ce c13 (M1 ⟨⟨by omega,by omega⟩,by omega,by omega⟩)];rfl)) (HSub.nil)⟩
 refine zk 5 R<|zq R R R<|zm R R<|zk 10 R<|zq R R R<|zn<|A3 (by kernel_rfl) R<|zi<|zs<|?_
 have hno:¬((Es (b - a)=0∧(B7 (b - a)).dots≤2)∧m.level a≤stl (m.strong a b)∧(0<(B7 (b - a)).dots∨m.level b≤stl (m.strong a b))):=by omega
 have hw:=Pf hab c13 hma hmb hno
 have hmc:=L8 hma hw
 obtain ⟨hp1,hp2,hp3⟩:=Fs hp hw
 have hl1:=Cp (m:=m) f _ _ hp1
 have hl2:=Cp (m:=m) f _ _ hp2
 have hN:C6 a b≤2048:=by unfold C6;omega
 refine C1 7 [7001] (by kernel_rfl) (by kernel_rfl) (by kernel_rfl) (by kernel_rfl) (by decide)<|yp (Ad (s':= .d (.agg (Me.c m))) (Ae (Ac R R Be R lb)) (by kernel_rfl))<|ym R R<|ym R R<|ChK.cons R (CStep.callS R ((ih _ _ hp1 hma hmc).lab 7001) R (E3 (by kernel_rfl)))<|yp (Ad (s':= .d (.agg (Me.c m))) (Ae (Ac R R Be R lb)) (by kernel_rfl))<|?_
 refine ym R R<|ym R R<|?_
 refine ChK.nil ⟨by kernel_rfl, ?_⟩
 refine XL.callS R R ((ih _ _ hp2 hmc hmb).lab 7004) R<|XL.step R (A4 R Iu (.own R) (Src.own R) (by simp only [List.length_map];unfold maxLen;omega) (by simp only [List.length_map];omega))<|zp (Aq R (by conv=>lhs;whnf))<|?_
 refine zn<|zt<|?_
 exact ⟨Dt R (RVS.tmp R R),HSub.cons (by first|exact Dg (by rw [Cf c13];rfl)|exact Ec (Cg c13 (M2 hw hno) hw)|exact Dg (by rw [Ce c13 (M1 ⟨⟨by omega,by omega⟩,by omega,by omega⟩)];rfl)) (HSub.nil)⟩
 have g29:=of_decide_eq_false g29
 refine zk 3 R<|zq R R R<|zm R R<|zk 5 R<|zq R R R<|zm R R<|zk 10 R<|zq R R R<|zn<|A3 (by kernel_rfl) R<|zi<|zs<|?_
 have hno:¬((Es (b - a)=0∧(B7 (b - a)).dots≤2)∧m.level a≤stl (m.strong a b)∧(0<(B7 (b - a)).dots∨m.level b≤stl (m.strong a b))):=by omega
 have hw:=Pf hab c13 hma hmb hno
 have hmc:=L8 hma hw
 obtain ⟨hp1,hp2,hp3⟩:=Fs hp hw
 have hl1:=Cp (m:=m) f _ _ hp1
 have hl2:=Cp (m:=m) f _ _ hp2
 have hN:C6 a b≤2048:=by unfold C6;omega
 refine C1 7 [7001] (by kernel_rfl) (by kernel_rfl) (by kernel_rfl) (by kernel_rfl) (by decide)<|yp (Ad (s':= .d (.agg (Me.c m))) (Ae (Ac R R Be R lb)) (by kernel_rfl))<|ym R R<|ym R R<|ChK.cons R (CStep.callS R ((ih _ _ hp1 hma hmc).lab 7001) R (E3 (by kernel_rfl)))<|yp (Ad (s':= .d (.agg (Me.c m))) (Ae (Ac R R Be R lb)) (by kernel_rfl))<|?_
 refine ym R R<|ym R R<|?_
 refine ChK.nil ⟨by kernel_rfl, ?_⟩
 refine XL.callS R R ((ih _ _ hp2 hmc hmb).lab 7005) R<|XL.step R (A4 R Iu (.own R) (Src.own R) (by simp only [List.length_map];unfold maxLen;omega) (by simp only [List.length_map];omega))<|zp (Aq R (by conv=>lhs;whnf))<|?_
 refine zn<|zt<|?_
 exact ⟨Dt R (RVS.tmp R R),HSub.cons (by first|exact Dg (by rw [Cf c13];rfl)|exact Ec (Cg c13 (M2 hw hno) hw)|exact Dg (by rw [Ce c13 (M1 ⟨⟨by omega,by omega⟩,by omega,by omega⟩)];rfl)) (HSub.nil)⟩
theorem T1 (m:Me) (h:Mok m):∀(f:Nat) (a b:Int),SpP f a b→a % 7560=0→b % 7560=0→XS Tryz.prog 76 [.agg (Me.c m),dI a,dI b] (.own 7001) [(7001, .row 56 2 ((D5 m f a b).map Val.c))]
 |0,a,b,hp,_,_=>by have:=hp.2.2.2.2;omega
 |f+1,a,b,hp,h1,h2=>Yo m h f (T1 m h f) a b hp h1 h2
theorem Acz (m:Me) (a b:Int) (h:m.splitE a b=0):XS Tryz.prog 76 [.agg (Me.c m),dI a,dI b] (.own 7001) [(7001, .row 56 2 ((m.split a b).map Val.c))]:=by
 obtain ⟨h0,h1,h2,h3,h4,h5,h6,h7⟩:=Vu h
 rw [h7]
 exact T1 m (Aj2 (by omega)) _ a b ⟨h1,h2,h3,h6,Nat.le_refl _⟩ h4 h5
end Go.Proofs.YtcihalbakenleaaGreat
namespace Go.Proofs.YtcihalbakenleaaGreat
open Go.RowKit
theorem T2 (l:List Hd) (h:l.length≤1000):XC Tryz.prog 51 [.sl 5 (l.map Hd.c)] (fun r=>r= .sl 5 ((l.map Hd.tie).map Hd.c)):=by
 refine Ap Aee Tryz.func51 R R lb<|zr<|za R R<|znr<|za R R<|zn<|zs<|zr<|za R R<|zn<|Ag<|C9 900 3 91 5 R<|?_
 refine Ax (α:=Nat) (fun k=>k≤l.length) (fun k=>mkF [(0, .d (.sl 5 (l.map Hd.c))),(2, .d (.v (.slice none 0 0))),(3, .own 900),(4, .d (dI k))]) (fun k=>mkH [(900, .row 91 5 (((l.take k).map Hd.tie).map Hd.c))]) (fun k=>l.length - k) (0) (Nat.zero_le _) ?_ ?_ ?_
 exact fz ⟨sr,sr,sr,sr,trivial⟩
 exact gz ⟨R,trivial⟩
 intro k hk0
 refine zs<|zr<|zm R R<|zm R R<|XL.len R R R Tryz.underlying48 fun hl7=>zp (At R R R)<|zn<|?_
 refine zd R (fun c8=> ?_) (fun c8=> ?_)
 have hk0a:k<l.length:=by omega
 obtain ⟨x0,hx0⟩:=As hk0a
 have htl:((l.take k).map Hd.tie).length=k:=by rw [List.length_map,List.length_take];omega
 refine zi<|zs<|Ag<|C1 13 [] (by kernel_rfl) (by kernel_rfl) (by kernel_rfl) (by kernel_rfl) (by decide)<|yp (Au R (by conv=>lhs;whnf))<|?_
 refine ym R R<|ym R R<|yp (Aj R R R D9 hx0)<|yp (A7 R R F1)<|yp (Ad (s':= .d (.agg (Pit.c x0.p))) (Ar R R Eo lb) (by kernel_rfl))<|ym R R<|ym R R<|yp (Aj R R R D9 hx0)<|yp (A7 R R M9)<|yp (Aw R R Ah)<|?_
 refine yp (Ad (s':= .d (.agg [dI x0.p.step,dI x0.p.alter,dI x0.p.oct,dB true,dI x0.sh])) (Ae (Bv R X8 Hu R)) (by kernel_rfl))<|ChK.cons R (CStep.slice R Tryz.underlying48 Ni Hu R R (by omega) (by omega))<|?_
 refine ChK.nil ⟨by kernel_rfl, ?_⟩
 refine XL.step R (A4 R Un (.own R) (Src.sl (by omega)) (by unfold maxLen;simp;omega) (by simp;omega))<|zp (Aq R (by conv=>lhs;whnf))<|?_
 refine zn<|Af (by kernel_rfl)<|zm R R<|zp (Ak R R R (by omega) (by omega))<|za R R<|zn<|?_
 exact Al (k+1) (by omega) (by omega) (fz ⟨sr,sr,sr,sr,trivial⟩) (gz ⟨E7 (a:=Hd.tie x0) R (by rw [Bb hx0,List.map_append];rfl),trivial⟩)
 have hk0b:k=l.length:=by omega
 have ht:l.take k=l:=by rw [hk0b,List.take_length]
 refine An<|zr<|zp (Au R (by conv=>lhs;whnf))<|?_
 refine zp (Aq R (by conv=>lhs;whnf))<|?_
 exact zn<|zt<|Bj (i:=900) R<|z1 R R (rSl (by rw [ht]))
theorem Ac0 (l:List Hd) (h:l.length≤1000):XC Tryz.prog 96 [.sl 5 (l.map Hd.c)] (fun r=>r= .sl 5 ((l.map Hd.plain).map Hd.c)):=by
 refine Ap Ade Tryz.func96 R R lb<|zr<|za R R<|znr<|za R R<|zn<|zs<|zr<|za R R<|zn<|Ag<|C9 900 3 91 5 R<|?_
 refine Ax (α:=Nat) (fun k=>k≤l.length) (fun k=>mkF [(0, .d (.sl 5 (l.map Hd.c))),(2, .d (.v (.slice none 0 0))),(3, .own 900),(4, .d (dI k))]) (fun k=>mkH [(900, .row 91 5 (((l.take k).map Hd.plain).map Hd.c))]) (fun k=>l.length - k) (0) (Nat.zero_le _) ?_ ?_ ?_
 exact fz ⟨sr,sr,sr,sr,trivial⟩
 exact gz ⟨R,trivial⟩
 intro k hk0
 refine zs<|zr<|zm R R<|zm R R<|XL.len R R R Tryz.underlying48 fun hl7=>zp (At R R R)<|zn<|?_
 refine zd R (fun c8=> ?_) (fun c8=> ?_)
 have hk0a:k<l.length:=by omega
 obtain ⟨x0,hx0⟩:=As hk0a
 have htl:((l.take k).map Hd.plain).length=k:=by rw [List.length_map,List.length_take];omega
 refine zi<|zs<|Ag<|C1 13 [] (by kernel_rfl) (by kernel_rfl) (by kernel_rfl) (by kernel_rfl) (by decide)<|yp (Au R (by conv=>lhs;whnf))<|?_
 refine ym R R<|ym R R<|yp (Aj R R R D9 hx0)<|yp (A7 R R F1)<|yp (Ad (s':= .d (.agg (Pit.c x0.p))) (Ar R R Eo lb) (by kernel_rfl))<|ym R R<|ym R R<|yp (Aj R R R D9 hx0)<|yp (A7 R R Gk)<|yp (Aw R R K1)<|?_
 refine yp (Ad (s':= .d (.agg [dI x0.p.step,dI x0.p.alter,dI x0.p.oct,dB x0.tied,dI 0])) (Ae (Bv R X8 Hu R)) (by kernel_rfl))<|ChK.cons R (CStep.slice R Tryz.underlying48 Ni Hu R R (by omega) (by omega))<|?_
 refine ChK.nil ⟨by kernel_rfl, ?_⟩
 refine XL.step R (A4 R Un (.own R) (Src.sl (by omega)) (by unfold maxLen;simp;omega) (by simp;omega))<|zp (Aq R (by conv=>lhs;whnf))<|?_
 refine zn<|Af (by kernel_rfl)<|zm R R<|zp (Ak R R R (by omega) (by omega))<|za R R<|zn<|?_
 exact Al (k+1) (by omega) (by omega) (fz ⟨sr,sr,sr,sr,trivial⟩) (gz ⟨E7 (a:=Hd.plain x0) R (by rw [Bb hx0,List.map_append];rfl),trivial⟩)
 have hk0b:k=l.length:=by omega
 have ht:l.take k=l:=by rw [hk0b,List.take_length]
 refine An<|zr<|zp (Au R (by conv=>lhs;whnf))<|?_
 refine zp (Aq R (by conv=>lhs;whnf))<|?_
 exact zn<|zt<|Bj (i:=900) R<|z1 R R (rSl (by rw [ht]))
def Ev.furV (x:Ev):Ev:=⟨0,0,x.kind,x.v,x.heads.map Hd.plain, [],0,0,0, [],x.stem,0⟩
theorem Aji (x:Ev) (h:x.fit):XC Tryz.prog 52 [.agg (Ev.c x)] (fun r=>r= .agg (Ev.c x.furV)):=by
 have h1:=h.1
 refine Ap Aed Tryz.func52 R R lb<|zr<|XL.step R (Ay 1 (l:= [.d (dI x.site), .d (dI x.num), .d (dI x.kind), .d (dI x.v.log), .d (dI x.v.dots), .d (.sl 5 (x.heads.map Hd.c)), .d (.sl 5 (x.graces.map Gr.c)), .d (dI x.art), .d (dI x.orn), .d (dI x.dyn), .d (.sl 2 (x.lyr.map Sy.c)), .d (dI x.stem), .d (dI x.beam)]) R R (by kernel_rfl))<|?_
 refine XL.step R (A9 2 (l:= [.d (dI 0), .d (dI 0), .d (dI 0), .d (dI 0), .d (dI 0), .d (.v (.slice none 0 0)), .d (.v (.slice none 0 0)), .d (dI 0), .d (dI 0), .d (dI 0), .d (.v (.slice none 0 0)), .d (dI 0), .d (dI 0)]) R B3 (by kernel_rfl))<|zn<|zs<|C1 9 [] (by kernel_rfl) (by kernel_rfl) (by kernel_rfl) (by kernel_rfl) (by decide)<|yp (Aa R R Bp)<|?_
 refine yp (Ab R R Ah R R)<|yp (Aa R R Cs)<|yp (Ad (s':= .d (.agg (Val.c x.v))) (Ae (Ac R R Ck R lb)) (by kernel_rfl))<|yp (Aa R R Ba)<|yp (Ab R R Cn R R)<|ChK.cons R (CStep.call R (Ac0 _ (by omega)) R)<|yp (Aa R R Do)<|yp (Ab R R Ah R R)<|?_
 refine ChK.nil ⟨by kernel_rfl, ?_⟩
 refine zp (Ad (s':= .d (.agg [dI 0,dI 0,dI x.kind,dI x.v.log,dI x.v.dots, .sl 5 ((x.heads.map Hd.plain).map Hd.c), .v (.slice none 0 0),dI 0,dI 0,dI 0, .v (.slice none 0 0),dI x.stem,dI 0])) (Ae (Bv R Mt B3 R)) (by kernel_rfl))<|?_
 refine XL.step R (Ai (l':= [.d (dI 0), .d (dI 0), .d (dI x.kind), .d (dI x.v.log), .d (dI x.v.dots), .d (.sl 5 ((x.heads.map Hd.plain).map Hd.c)), .d (.v (.slice none 0 0)), .d (dI 0), .d (dI 0), .d (dI 0), .d (.v (.slice none 0 0)), .d (dI x.stem), .d (dI 0)]) R R R R B4 R lb (by kernel_rfl))<|zn<|zt<|?_
 exact Ft R (RV.sub (RV.cells R R R A1 lb R) (.agg (.cons (.same R) (.cons (.same R) (.cons (.same R) (.cons (.same R) (.cons (.same R) (.cons (.same R) (.cons (.nil 5) (.cons (.same R) (.cons (.same R) (.cons (.same R) (.cons (.nil 2) (.cons (.same R) (.cons (.same R) (.nil)))))))))))))))) (R)
def evV (l:List Ev):Vo:=⟨l, []⟩
theorem Aiw (m:Me) (a b:Int):(m.err≠0→m.splitE a b=m.err)∧(m.err=0→(a<0∨b<a∨4398046511104<b)→m.splitE a b=2)∧(m.err=0→¬(a<0∨b<a∨4398046511104<b)→(a % 7560≠0∨b % 7560≠0)→m.splitE a b=16)∧(m.err=0→¬(a<0∨b<a∨4398046511104<b)→¬(a % 7560≠0∨b % 7560≠0)→15482880<b - a→m.splitE a b=5)∧(m.err=0→¬(a<0∨b<a∨4398046511104<b)→¬(a % 7560≠0∨b % 7560≠0)→¬15482880<b - a→m.splitE a b=0):=
 ⟨fun h=>(O7 h).1,fun h h2=>(O6 (fun k=>k h) h2).1,fun h h2 h3=>(O5 (fun k=>k h) h2 h3).1,fun h h2 h3 h4=>(O4 (fun k=>k h) h2 h3 h4).1,fun h h2 h3 h4=>(O3 (fun k=>k h) h2 h3 h4).1⟩
end Go.Proofs.YtcihalbakenleaaGreat
namespace Go.Proofs.YtcihalbakenleaaGreat
open Go.RowKit
def L4 (l:List Tp) (n:Int):Bool:=l.any fun t=>decide (t.has n)
theorem Ze {l:List Tp} {k:Nat} {t:Tp} {n:Int} (h:l[k]? =some t) (ht:t.has n):true=L4 l n:=by
 symm;rw [L4,List.any_eq_true];exact ⟨t,List.mem_of_getElem? h,by simpa using ht⟩
theorem Afv {l:List Tp} {n:Int} (h:∀t∈l,¬t.has n):false=L4 l n:=by
 symm;rw [L4,List.any_eq_false];exact fun t ht=>by simpa using h t ht
def insT (a c:Int) (t:Tp):Tp:=if a≤t.first then ⟨t.first+c,t.count,t.actual,t.normal⟩ else if t.has a then ⟨t.first,t.count+c,t.actual,t.normal⟩ else t
theorem Aow (l:List Tp) (n:Int) (hl:∀t∈l,t.ok):XC Tryz.prog 50 [.sl 4 (l.map Tp.c), .v (.int .i64 n)] (fun r=>r=dB (L4 l n)):=by
 refine Ap Aef Tryz.func50 R R lb<|zr<|za R R<|zn<|zs<|zr<|za R R<|zn<|Ag<|?_
 refine Ax (α:=Nat) (fun k=>k≤l.length∧∀t∈l.take k,¬t.has n) (fun k=>mkF [(0, .d (.sl 4 (l.map Tp.c))),(1, .d (dI n)),(5, .d (dI k))]) (fun k=>mkH []) (fun k=>l.length - k) (0) (⟨Nat.zero_le _,fun t ht=>(by cases ht)⟩) ?_ ?_ ?_
 exact fz ⟨sr,sr,sr,trivial⟩
 exact HSub.nil
 intro k hk0
 obtain ⟨hk,hall⟩:=hk0
 refine zs<|zr<|zm R R<|zm R R<|XL.len R R R Tryz.underlying23 fun hl8=>zp (At R R R)<|zn<|?_
 refine zd R (fun c9=> ?_) (fun c9=> ?_)
 have hk0a:k<l.length:=by omega
 obtain ⟨x0,hx0⟩:=As hk0a
 have hok:=hl x0 (List.mem_of_getElem? hx0)
 simp only [Tp.ok] at hok
 refine zi<|zs<|Ag<|zs<|?_
 by_cases q18:(x0.first:Int)≤(n:Int)
 refine A8 [] (by kernel_rfl) (by kernel_rfl) (by kernel_rfl) (by decide)<|ym R R<|ym R R<|ym R R<|yp (Aj R R R E6 hx0)<|yp (A7 R R Df)<|yp (Aw R R Ah)<|yp (Dd (Ed R R R) (q18))<|ym R R<|ym R R<|ym R R<|ym R R<|yp (Aj R R R E6 hx0)<|yp (A7 R R Df)<|?_
 refine yp (Aw R R Ah)<|ym R R<|ym R R<|yp (Aj R R R E6 hx0)<|yp (A7 R R Gf)<|yp (Aw R R Ah)<|yp (Ak R R R (by omega) (by omega))<|yp (At R R R)<|yp (Av R R (by conv=>lhs;whnf))<|?_
 refine ChK.nil ⟨by kernel_rfl, ?_⟩
 refine zd R (fun c33=> ?_) (fun c33=> ?_)
 exact zr<|za R R<|zn<|zt<|z1 R R (rB (Ze hx0 (by unfold Tp.has;omega)))
 refine zi<|Af (by kernel_rfl)<|zm R R<|zp (Ak R R R (by omega) (by omega))<|za R R<|zn<|?_
 exact Al (k+1) (⟨by omega,fun t ht=>by rw [Bb hx0] at ht;rcases List.mem_append.1 ht with q|q;(· exact hall t q);(· rw [List.mem_singleton.1 q];unfold Tp.has;omega)⟩) (by omega) (fz ⟨sr,sr,sr,trivial⟩) (HSub.nil)
 refine A8 [] (by kernel_rfl) (by kernel_rfl) (by kernel_rfl) (by decide)<|ym R R<|ym R R<|ym R R<|yp (Aj R R R E6 hx0)<|yp (A7 R R Df)<|yp (Aw R R Ah)<|yp (Fu (Ed R R R) (q18))<|ym R R<|ChK.skip R<|ChK.skip R<|ChK.skip R<|ChK.skip R<|ChK.skip R<|?_
 refine ChK.skip R<|ChK.skip R<|ChK.skip R<|ChK.skip R<|ChK.skip R<|ChK.skip R<|ChK.skip R<|ChK.skip R<|yp (Av R R (by conv=>lhs;whnf))<|?_
 refine ChK.nil ⟨by kernel_rfl, ?_⟩
 refine A3 (by kernel_rfl) R<|zi<|Af (by kernel_rfl)<|zm R R<|zp (Ak R R R (by omega) (by omega))<|za R R<|zn<|?_
 exact Al (k+1) (⟨by omega,fun t ht=>by rw [Bb hx0] at ht;rcases List.mem_append.1 ht with q|q;(· exact hall t q);(· rw [List.mem_singleton.1 q];unfold Tp.has;omega)⟩) (by omega) (fz ⟨sr,sr,sr,trivial⟩) (HSub.nil)
 have hk0b:k=l.length:=by omega
 have ht:l.take k=l:=by rw [hk0b,List.take_length]
 rw [ht] at hall
 exact An<|zr<|za R R<|zn<|zt<|z1 R R (rB (Afv hall))
theorem Alv (l:List Tp) (h:l.length≤1000):XC Tryz.prog 53 [.sl 4 (l.map Tp.c)] (fun r=>r= .sl 4 (l.map Tp.c)):=by
 refine Ap Aec Tryz.func53 R R lb<|zr<|za R R<|znr<|za R R<|zn<|zs<|zr<|za R R<|zn<|Ag<|C9 900 3 102 4 R<|?_
 refine Ax (α:=Nat) (fun k=>k≤l.length) (fun k=>mkF [(0, .d (.sl 4 (l.map Tp.c))),(2, .d (.v (.slice none 0 0))),(3, .own 900),(4, .d (dI k))]) (fun k=>mkH [(900, .row 102 4 ((l.take k).map Tp.c))]) (fun k=>l.length - k) (0) (Nat.zero_le _) ?_ ?_ ?_
 exact fz ⟨sr,sr,sr,sr,trivial⟩
 exact gz ⟨R,trivial⟩
 intro k hk0
 refine zs<|zr<|zm R R<|zm R R<|XL.len R R R Tryz.underlying98 fun hl7=>zp (At R R R)<|zn<|?_
 refine zd R (fun c8=> ?_) (fun c8=> ?_)
 have hk0a:k<l.length:=by omega
 obtain ⟨x0,hx0⟩:=As hk0a
 have htl:(l.take k).length=k:=by rw [List.length_take];omega
 refine zi<|zs<|Ag<|C1 23 [] (by kernel_rfl) (by kernel_rfl) (by kernel_rfl) (by kernel_rfl) (by decide)<|yp (Au R (by conv=>lhs;whnf))<|?_
 refine ym R R<|ym R R<|yp (Aj R R R Ef hx0)<|yp (A7 R R En)<|yp (Aw R R Ah)<|ym R R<|ym R R<|yp (Aj R R R Ef hx0)<|yp (A7 R R De)<|yp (Aw R R Ah)<|ym R R<|ym R R<|yp (Aj R R R Ef hx0)<|yp (A7 R R Jd)<|?_
 refine yp (Aw R R Ah)<|ym R R<|ym R R<|yp (Aj R R R Ef hx0)<|yp (A7 R R Ki)<|yp (Aw R R Ah)<|yp (Ad (s':= .d (.agg [dI x0.first,dI x0.count,dI x0.actual,dI x0.normal])) (Ae (Bv R Aom Ex R)) (by kernel_rfl))<|ChK.cons R (CStep.slice R Tryz.underlying23 Gw Ex R R (by omega) (by omega))<|?_
 refine ChK.nil ⟨by kernel_rfl, ?_⟩
 refine XL.step R (A4 R Hg (.own R) (Src.sl (by omega)) (by unfold maxLen;simp;omega) (by simp;omega))<|zp (Aq R (by conv=>lhs;whnf))<|?_
 refine zn<|Af (by kernel_rfl)<|zm R R<|zp (Ak R R R (by omega) (by omega))<|za R R<|zn<|?_
 exact Al (k+1) (by omega) (by omega) (fz ⟨sr,sr,sr,sr,trivial⟩) (gz ⟨E7 R (Bb hx0),trivial⟩)
 have hk0b:k=l.length:=by omega
 have ht:l.take k=l:=by rw [hk0b,List.take_length]
 refine An<|zr<|zp (Au R (by conv=>lhs;whnf))<|?_
 refine zp (Aq R (by conv=>lhs;whnf))<|?_
 exact zn<|zt<|Bj (i:=900) R<|z1 R R (rSl (by rw [ht]))
theorem Ajh (x:Ev) (m:Me) (a b:Int) (h:x.fit) (hs:m.splitE a b=0):XS Tryz.prog 37 [.agg (Ev.c x), .agg (Me.c m), .v (.int .i64 a), .v (.int .i64 b)] (.own 900) [(900, .row 60 13 ((Bf x (m.split a b) false).map Ev.c))]:=by
 have hf1:=h.1
 have hsl:=Nl m a b
 refine Hv Ael Tryz.func37 R R lb (by kernel_rfl) (by kernel_rfl)<|zr<|XL.step R (Ay 4 (l:= [.d (dI x.site), .d (dI x.num), .d (dI x.kind), .d (dI x.v.log), .d (dI x.v.dots), .d (.sl 5 (x.heads.map Hd.c)), .d (.sl 5 (x.graces.map Gr.c)), .d (dI x.art), .d (dI x.orn), .d (dI x.dyn), .d (.sl 2 (x.lyr.map Sy.c)), .d (dI x.stem), .d (dI x.beam)]) R R (by kernel_rfl))<|?_
 refine XL.step R (Ay 5 (l:= [.d (dI m.count), .d (dI m.unit), .d (dI m.g0), .d (dI m.g1), .d (dI m.g2), .d (dI m.g3), .d (dI m.g4), .d (dI m.g5)]) R R (by kernel_rfl))<|za R R<|znr<|zp (Ad (s':= .d (.agg (Me.c m))) (Ae (Ac R R Be R lb)) (by kernel_rfl))<|zm R R<|zm R R<|XL.callS R R ((Acz _ _ _ (by assumption)).lab 7001) R<|zp (Aq R (by conv=>lhs;whnf))<|?_
 refine znr<|XL.freeze (i:=7001) R<|za R R<|zn<|zs<|zr<|za R R<|zn<|Ag<|C9 900 10 60 13 R<|?_
 refine Ax (α:=Nat) (fun k=>k≤(m.split a b).length) (fun k=>mkF [(4, .ptr 4 0 0),(8, .d (.v (.slice none 0 0))),(9, .d (.sl 2 ((m.split a b).map Val.c))),(10, .own 900),(11, .d (dI k))]) (fun k=>mkH [(4, .box ((Ev.c x).map S.d)),(900, .row 60 13 ((He x (m.split a b) false k).map Ev.c))]) (fun k=>(m.split a b).length - k) (0) (Nat.zero_le _) ?_ ?_ ?_
 exact fz ⟨sr,sr,sr,sr,sr,trivial⟩
 exact gz ⟨R,R,trivial⟩
 intro k hk0
 refine zs<|zr<|zm R R<|zm R R<|XL.len R R R Tryz.underlying106 fun hl19=>zp (At R R R)<|zn<|?_
 refine zd R (fun c20=> ?_) (fun c20=> ?_)
 have hk0a:k<(m.split a b).length:=by omega
 obtain ⟨x0,hx0⟩:=As hk0a
 have hnl:(He x (m.split a b) false k).length=k:=by rw [He,List.length_mapIdx,List.length_take];omega
 have hpl:(x.heads.map Hd.plain).length≤1000:=by rw [List.length_map];exact hf1
 have hpl2:x.furV.heads.length≤1000:=hpl
 refine zi<|zs<|Ag<|zr<|zp (Ad (s':= .d (.agg (Ev.c x))) (Ae (Ac R R A1 R lb)) (by kernel_rfl))<|XL.step R (A9 12 (l:= [.d (dI 0), .d (dI 0), .d (dI 0), .d (dI 0), .d (dI 0), .d (.v (.slice none 0 0)), .d (.v (.slice none 0 0)), .d (dI 0), .d (dI 0), .d (dI 0), .d (.v (.slice none 0 0)), .d (dI 0), .d (dI 0)]) R B3 (by kernel_rfl))<|?_
 refine XL.step R (Ai (l':= [.d (dI x.site), .d (dI x.num), .d (dI x.kind), .d (dI x.v.log), .d (dI x.v.dots), .d (.sl 5 (x.heads.map Hd.c)), .d (.sl 5 (x.graces.map Gr.c)), .d (dI x.art), .d (dI x.orn), .d (dI x.dyn), .d (.sl 2 (x.lyr.map Sy.c)), .d (dI x.stem), .d (dI x.beam)]) R R R R B4 R lb (by kernel_rfl))<|zn<|zs<|zr<|zm R R<|zp (A6 R R R)<|zn<|?_
 refine zd R (fun c25=> ?_) (fun c25=> ?_)
 refine Af (by kernel_rfl)<|zp (Ad (s':= .d (.agg (Ev.c x))) (Ae (Ac R R A1 R lb)) (by kernel_rfl))<|XL.call1 R R (Aji _ (by assumption)) R<|?_
 refine XL.step R (Ai (l':= [.d (dI x.furV.site), .d (dI x.furV.num), .d (dI x.furV.kind), .d (dI x.furV.v.log), .d (dI x.furV.v.dots), .d (.sl 5 (x.furV.heads.map Hd.c)), .d (.sl 5 (x.furV.graces.map Gr.c)), .d (dI x.furV.art), .d (dI x.furV.orn), .d (dI x.furV.dyn), .d (.sl 2 (x.furV.lyr.map Sy.c)), .d (dI x.furV.stem), .d (dI x.furV.beam)]) R R R R B4 R lb (by kernel_rfl))<|zn<|zs<|zr<|?_
 refine zm R R<|zp (Ak R R R (by omega) (by omega))<|zm R R<|XL.len R R R Tryz.underlying106 fun hl31=>zp (At R R R)<|zn<|?_
 refine zd R (fun c32=> ?_) (fun c32=> ?_)
 refine Af (by kernel_rfl)<|zp (Aa R R Ba)<|zp (Ab R R Cn R R)<|XL.call1 R R (T2 _ (by omega)) R<|zp (Aa R R Ba)<|?_
 refine XL.step R (Ai (l':= [.d (dI x.furV.site), .d (dI x.furV.num), .d (dI x.furV.kind), .d (dI x.furV.v.log), .d (dI x.furV.v.dots), .d (.sl 5 ((x.furV.heads.map Hd.tie).map Hd.c)), .d (.sl 5 (x.furV.graces.map Gr.c)), .d (dI x.furV.art), .d (dI x.furV.orn), .d (dI x.furV.dyn), .d (.sl 2 (x.furV.lyr.map Sy.c)), .d (dI x.furV.stem), .d (dI x.furV.beam)]) R R R R Km R lb (by kernel_rfl))<|?_
 refine znr<|zm R R<|zm R R<|zp (Aj R R R Qy hx0)<|zp (Ad (s':= .d (.agg (Val.c x0))) (Ar R R Ck lb) (by kernel_rfl))<|zp (Aa R R Cs)<|?_
 refine XL.step R (Ai (l':= [.d (dI x.furV.site), .d (dI x.furV.num), .d (dI x.furV.kind), .d (dI x0.log), .d (dI x0.dots), .d (.sl 5 ((x.furV.heads.map Hd.tie).map Hd.c)), .d (.sl 5 (x.furV.graces.map Gr.c)), .d (dI x.furV.art), .d (dI x.furV.orn), .d (dI x.furV.dyn), .d (.sl 2 (x.furV.lyr.map Sy.c)), .d (dI x.furV.stem), .d (dI x.furV.beam)]) R R R R D1 R lb (by kernel_rfl))<|zng<|?_
 refine zp (Au R (by conv=>lhs;whnf))<|?_
 refine zp (Ad (s':= .d (.agg [dI x.furV.site,dI x.furV.num,dI x.furV.kind,dI x0.log,dI x0.dots, .sl 5 ((x.furV.heads.map Hd.tie).map Hd.c), .sl 5 (x.furV.graces.map Gr.c),dI x.furV.art,dI x.furV.orn,dI x.furV.dyn, .sl 2 (x.furV.lyr.map Sy.c),dI x.furV.stem,dI x.furV.beam])) (Ae (Ac R R A1 R lb)) (by kernel_rfl))<|?_
 refine XL.step R (Bi 44 R Tryz.underlying22 B4 B3 R R (by omega) (by omega))<|XL.step R (A4 R Fm (.own R) (Src.own R) (by unfold maxLen;simp;omega) (by simp;omega))<|zp (Aq R (by conv=>lhs;whnf))<|?_
 refine zn<|Af (by kernel_rfl)<|zm R R<|zp (Ak R R R (by omega) (by omega))<|za R R<|zn<|?_
 exact Al (k+1) (by omega) (by omega) (fz ⟨sr,sr,sr,sr,sr,trivial⟩) (gz ⟨R,E7 R (Ff hx0 (Y5 (.inl c25) c32)),trivial⟩)
 refine zi<|zr<|zm R R<|zm R R<|zp (Aj R R R Qy hx0)<|zp (Ad (s':= .d (.agg (Val.c x0))) (Ar R R Ck lb) (by kernel_rfl))<|zp (Aa R R Cs)<|?_
 refine XL.step R (Ai (l':= [.d (dI x.furV.site), .d (dI x.furV.num), .d (dI x.furV.kind), .d (dI x0.log), .d (dI x0.dots), .d (.sl 5 (x.furV.heads.map Hd.c)), .d (.sl 5 (x.furV.graces.map Gr.c)), .d (dI x.furV.art), .d (dI x.furV.orn), .d (dI x.furV.dyn), .d (.sl 2 (x.furV.lyr.map Sy.c)), .d (dI x.furV.stem), .d (dI x.furV.beam)]) R R R R D1 R lb (by kernel_rfl))<|zng<|?_
 refine zp (Au R (by conv=>lhs;whnf))<|?_
 refine zp (Ad (s':= .d (.agg [dI x.furV.site,dI x.furV.num,dI x.furV.kind,dI x0.log,dI x0.dots, .sl 5 (x.furV.heads.map Hd.c), .sl 5 (x.furV.graces.map Gr.c),dI x.furV.art,dI x.furV.orn,dI x.furV.dyn, .sl 2 (x.furV.lyr.map Sy.c),dI x.furV.stem,dI x.furV.beam])) (Ae (Ac R R A1 R lb)) (by kernel_rfl))<|?_
 refine XL.step R (Bi 44 R Tryz.underlying22 B4 B3 R R (by omega) (by omega))<|XL.step R (A4 R Fm (.own R) (Src.own R) (by unfold maxLen;simp;omega) (by simp;omega))<|zp (Aq R (by conv=>lhs;whnf))<|?_
 refine zn<|Af (by kernel_rfl)<|zm R R<|zp (Ak R R R (by omega) (by omega))<|za R R<|zn<|?_
 exact Al (k+1) (by omega) (by omega) (fz ⟨sr,sr,sr,sr,sr,trivial⟩) (gz ⟨R,E7 R (Ff hx0 (Y4 (.inl c25) c32)),trivial⟩)
 refine zi<|zs<|zr<|zm R R<|zp (Ak R R R (by omega) (by omega))<|zm R R<|XL.len R R R Tryz.underlying106 fun hl31=>zp (At R R R)<|zn<|?_
 refine zd R (fun c32=> ?_) (fun c32=> ?_)
 refine Af (by kernel_rfl)<|zp (Aa R R Ba)<|zp (Ab R R Cn R R)<|XL.call1 R R (T2 _ (by omega)) R<|zp (Aa R R Ba)<|?_
 refine XL.step R (Ai (l':= [.d (dI x.site), .d (dI x.num), .d (dI x.kind), .d (dI x.v.log), .d (dI x.v.dots), .d (.sl 5 ((x.heads.map Hd.tie).map Hd.c)), .d (.sl 5 (x.graces.map Gr.c)), .d (dI x.art), .d (dI x.orn), .d (dI x.dyn), .d (.sl 2 (x.lyr.map Sy.c)), .d (dI x.stem), .d (dI x.beam)]) R R R R Km R lb (by kernel_rfl))<|znr<|zm R R<|zm R R<|zp (Aj R R R Qy hx0)<|?_
 refine zp (Ad (s':= .d (.agg (Val.c x0))) (Ar R R Ck lb) (by kernel_rfl))<|zp (Aa R R Cs)<|?_
 refine XL.step R (Ai (l':= [.d (dI x.site), .d (dI x.num), .d (dI x.kind), .d (dI x0.log), .d (dI x0.dots), .d (.sl 5 ((x.heads.map Hd.tie).map Hd.c)), .d (.sl 5 (x.graces.map Gr.c)), .d (dI x.art), .d (dI x.orn), .d (dI x.dyn), .d (.sl 2 (x.lyr.map Sy.c)), .d (dI x.stem), .d (dI x.beam)]) R R R R D1 R lb (by kernel_rfl))<|zng<|zp (Au R (by conv=>lhs;whnf))<|?_
 refine zp (Ad (s':= .d (.agg [dI x.site,dI x.num,dI x.kind,dI x0.log,dI x0.dots, .sl 5 ((x.heads.map Hd.tie).map Hd.c), .sl 5 (x.graces.map Gr.c),dI x.art,dI x.orn,dI x.dyn, .sl 2 (x.lyr.map Sy.c),dI x.stem,dI x.beam])) (Ae (Ac R R A1 R lb)) (by kernel_rfl))<|XL.step R (Bi 44 R Tryz.underlying22 B4 B3 R R (by omega) (by omega))<|?_
 refine XL.step R (A4 R Fm (.own R) (Src.own R) (by unfold maxLen;simp;omega) (by simp;omega))<|zp (Aq R (by conv=>lhs;whnf))<|?_
 refine zn<|Af (by kernel_rfl)<|zm R R<|zp (Ak R R R (by omega) (by omega))<|za R R<|zn<|?_
 exact Al (k+1) (by omega) (by omega) (fz ⟨sr,sr,sr,sr,sr,trivial⟩) (gz ⟨R,E7 R (Ff hx0 (Aj0 c25 R c32)),trivial⟩)
 refine zi<|zr<|zm R R<|zm R R<|zp (Aj R R R Qy hx0)<|zp (Ad (s':= .d (.agg (Val.c x0))) (Ar R R Ck lb) (by kernel_rfl))<|zp (Aa R R Cs)<|?_
 refine XL.step R (Ai (l':= [.d (dI x.site), .d (dI x.num), .d (dI x.kind), .d (dI x0.log), .d (dI x0.dots), .d (.sl 5 (x.heads.map Hd.c)), .d (.sl 5 (x.graces.map Gr.c)), .d (dI x.art), .d (dI x.orn), .d (dI x.dyn), .d (.sl 2 (x.lyr.map Sy.c)), .d (dI x.stem), .d (dI x.beam)]) R R R R D1 R lb (by kernel_rfl))<|zng<|zp (Au R (by conv=>lhs;whnf))<|?_
 refine zp (Ad (s':= .d (.agg [dI x.site,dI x.num,dI x.kind,dI x0.log,dI x0.dots, .sl 5 (x.heads.map Hd.c), .sl 5 (x.graces.map Gr.c),dI x.art,dI x.orn,dI x.dyn, .sl 2 (x.lyr.map Sy.c),dI x.stem,dI x.beam])) (Ae (Ac R R A1 R lb)) (by kernel_rfl))<|XL.step R (Bi 44 R Tryz.underlying22 B4 B3 R R (by omega) (by omega))<|?_
 refine XL.step R (A4 R Fm (.own R) (Src.own R) (by unfold maxLen;simp;omega) (by simp;omega))<|zp (Aq R (by conv=>lhs;whnf))<|?_
 refine zn<|Af (by kernel_rfl)<|zm R R<|zp (Ak R R R (by omega) (by omega))<|za R R<|zn<|?_
 exact Al (k+1) (by omega) (by omega) (fz ⟨sr,sr,sr,sr,sr,trivial⟩) (gz ⟨R,E7 R (Ff hx0 (Ajz c25 R c32)),trivial⟩)
 have hk0b:k=(m.split a b).length:=by omega
 have ht:He x (m.split a b) false k=Bf x (m.split a b) false:=by rw [He,hk0b,List.take_length];rfl
 refine An<|zr<|zp (Au R (by conv=>lhs;whnf))<|?_
 refine zp (Aq R (by conv=>lhs;whnf))<|?_
 refine zn<|zt<|?_
 exact ⟨Dt R (RVS.tmp R R),HSub.cons (by rw [ht];rfl) (HSub.nil)⟩
theorem Ao5 {v:Vo} {L:Int} (h:ckE v L=0):XC Tryz.prog 32 [.agg (Vo.c v),dI L] (fun r=>r= .sl 1 (Bu (ckL v L))):=by
 obtain ⟨h1,h2,h3⟩:=Vh h
 have:=Ly v L h2 h3
 rw [h1] at this
 exact this
theorem Af9 {v:Vo} {L:Int} (h:ckE v L=0):∀t∈v.tups,t.ok:=by
 obtain ⟨ws,ls,hT⟩:=Up h
 exact fun t ht=>(hT.tv.inR t ht).ok (by have:=hT.wl;omega)
theorem Ask {m:Me} {a b:Int} (hm:m.err=0) (h1:0≤a) (h2:a≤b) (h3:b≤30965760) (h4:b - a≤15482880):m.splitE a b=if a % 7560≠0∨b % 7560≠0 then 16 else 0:=by
 obtain ⟨_,_,hS3,_,hS5⟩:=Aiw m a b
 split
 ·exact hS3 hm (by omega) (by assumption)
 ·exact hS5 hm (by omega) (by assumption) (by omega)
end Go.Proofs.YtcihalbakenleaaGreat
namespace Go.Proofs.YtcihalbakenleaaGreat
open Go.RowKit
theorem Ap0 {v:Vo} {L:Int} (h:ckE v L=0):v.tups.length≤1000:=by have:=(Lv h).1.tups;omega
end Go.Proofs.YtcihalbakenleaaGreat
namespace Go.Proofs.YtcihalbakenleaaGreat
open Go.RowKit
structure RegOk (v:Vo) (p:Pl) (a b:Int) (d:Vo) (f l:Nat):Prop where
 hc:p.chk v=0
 ne:v.evs≠ []
 d2:d=(Fn (Fn v p a).1 p b).1
 e1:(Fn v p a).2=0
 e2:(Fn (Fn v p a).1 p b).2=0
 c1:p.chk (Fn v p a).1=0
 n1:(Fn v p a).1.evs≠ []
 chk:p.chk d=0
 dne:d.evs≠ []
 fit:v.fit→d.fit
 fl:f≤l
 ll:l≤d.evs.length
 fe:f=Oq (Ea (ckL d p.len)) a
 le:l=Oq (Ea (ckL d p.len)) b
 no:∀t∈d.tups,¬Xl t f l
 rng:0≤a∧a≤b∧b≤p.len
def Atk (d:Vo) (f l:Nat):Vo:=⟨(d.evs.take l).drop f,B6 (fun t=>decide ((f:Int)≤t.first∧t.first<l)) (-f) d.tups⟩
def CutS (v:Vo) (p:Pl) (a b:Int):Vo × Int:=if (Yl v p a b).2.2.2≠0 then (⟨[], []⟩,(Yl v p a b).2.2.2) else (Atk (Yl v p a b).1 (Yl v p a b).2.1.toNat (Yl v p a b).2.2.1.toNat,0)
end Go.Proofs.YtcihalbakenleaaGreat
namespace Go.Proofs.YtcihalbakenleaaGreat
open Go.RowKit
theorem Aou {v:Vo} {L:Int} (h:ckE v L=0):XC Tryz.prog 33 [.agg (Vo.c v),dI L] (fun r=>r= .sl 1 (Bu (Ea (ckL v L)))):=by
 obtain ⟨h1,h2,h3⟩:=Vh h
 have:=Agu v L h2 h3
 rw [h1] at this
 exact this
def mn (k F:Nat):Int:=min (k:Int) (F:Int)
def inC (a f l m:Int):Int:=max 0 (min (a+m) l - max a f)
end Go.Proofs.YtcihalbakenleaaGreat
namespace Go.Proofs.YtcihalbakenleaaGreat
theorem Afh {v:Vo} {i r:Nat} (h2:∀m,i<m→m<r→(Cy v i∧Cy v m)∧Ee v i m) (h3:¬((Cy v i∧Cy v r)∧Ee v i r)):∀f k,i<k→k≤r→r - k≤f→H0 v i f k=r
 |0,k,_,h5,h6=>by rw [H0];omega
 |f+1,k,h4,h5,h6=>by
  rw [H0]
  by_cases e:k=r
  ·subst e;rw [if_neg h3]
  ·rw [if_pos (h2 k h4 (by omega))]
   exact Afh h2 h3 f (k+1) (by omega) (by omega) (by omega)
theorem Ye {v:Vo} {i r:Nat} (h1:i+1≤r) (hr:r≤v.evs.length) (h2:∀m,i<m→m<r→(Cy v i∧Cy v m)∧Ee v i m) (h3:¬((Cy v i∧Cy v r)∧Ee v i r)):Am v i=r:=
 Afh h2 h3 _ _ (by omega) h1 (by omega)
theorem Yh {v:Vo} {i:Nat}:∀f k,v.evs.length≤k+f→¬((Cy v i∧Cy v (H0 v i f k))∧Ee v i (H0 v i f k))
 |0,k,h=>fun c=>by rw [H0] at c;have:=c.1.2.1;omega
 |f+1,k,h=>by
  rw [H0]
  by_cases c:(Cy v i∧Cy v k)∧Ee v i k
  ·rw [if_pos c];exact Yh f (k+1) (by omega)
  ·rw [if_neg c];exact c
theorem Nm (v:Vo) (i:Nat):¬((Cy v i∧Cy v (Am v i))∧Ee v i (Am v i)):=Yh _ _ (by omega)
theorem Oj {v:Vo} {i m:Nat} (h1:i<m) (h2:m<Am v i):(Cy v i∧Cy v m)∧Ee v i m:=K2 (v:=v) (i:=i) _ (i+1) m (by omega) h2
theorem Yf (v:Vo) (i:Nat):i<Am v i:=U0 v i _ _
theorem Ip {v:Vo} {L:Int} (hck:ckE v L=0) (k:Nat):Cy v k↔k<v.evs.length∧∀t∈v.tups,¬t.has k:=by
 obtain ⟨ws,ls,hT⟩:=Up hck
 unfold Cy
 rw [Md hT]
 constructor
 ·rintro ⟨h1,h2⟩;exact ⟨by omega,Ny (by omega)⟩
 ·rintro ⟨h1,h2⟩;exact ⟨by omega,by rw [Qt h2];rfl⟩
def Ev.plainR (y:Ev) (s:Int):Prop:=y.kind=1∧(∀h∈y.heads,h.sh=0)∧y.graces= []∧y.art=0∧y.orn=0∧y.dyn=0∧y.lyr= []∧y.stem=s∧y.beam=0
theorem Ac9 {l:List Hd}:l=l.map Hd.plain↔∀h∈l,h.sh=0:=by
 induction l with
 |nil=>simp
 |cons a l ih=>
  rw [List.map_cons,List.cons.injEq,ih]
  have:a=a.plain↔a.sh=0:=by
   obtain ⟨q,t,s⟩:=a
   unfold Hd.plain
   simp
  rw [this];simp
theorem Am7 {y:Ev} {s:Int}:y.eqv (y.bare s)↔y.plainR s:=by
 rw [Ev.eqv_iff]
 unfold Ev.plainR
 rw [←Ac9]
 obtain ⟨a1,a2,a3,a4,a5,a6,a7,a8,a9,a10,a11,a12⟩:=y
 unfold Ev.bare
 simp only [Ev.mk.injEq,true_and]
theorem conts_iff {x y:Ev} {s:Int}:x.conts y s↔x.kind=1∧x.heads.length=y.heads.length∧Ju x.heads y.heads∧y.plainR s:=by
 unfold Ev.conts;rw [Am7]
def Hr (h:Hd):Pit × Bool:=(h.p,h.tied)
def pSh (h:Hd):Pit × Int:=(h.p,h.sh)
theorem Ud {α β:Type} {f:α→β} {a b:List α} (h:a.map f=b.map f) {j:Nat} {x:α} (hx:a[j]? =some x):∃y,b[j]? =some y∧f x=f y:=by
 have h1:(a.map f)[j]? =some (f x):=by rw [List.getElem?_map,hx];rfl
 rw [h,List.getElem?_map] at h1
 cases hb:b[j]? with
 |none=>rw [hb] at h1;cases h1
 |some y=>rw [hb] at h1;exact ⟨y,rfl,(Option.some.inj h1).symm⟩
theorem Aip {a a' b:List Hd} (h:a.map Hr=a'.map Hr) (ht:Ju a b):Ju a' b:=fun j x y hx hy=>by
 obtain ⟨z,hz,e⟩:=Ud h.symm hx
 have:=ht j z y hz hy
 have e1:x.p=z.p:=congrArg Prod.fst e
 have e2:x.tied=z.tied:=congrArg Prod.snd e
 rw [e1,e2];exact this
theorem Agl {a b b':List Hd} (h:b.map pSh=b'.map pSh) (ht:Ju a b):Ju a b':=fun j x y hx hy=>by
 obtain ⟨z,hz,e⟩:=Ud h.symm hy
 have:=ht j x z hx hz
 have e1:y.p=z.p:=congrArg Prod.fst e
 rw [e1];exact this
theorem Aho {x x' y:Ev} {s:Int} (hk:x'.kind=x.kind) (hs:x.kind≠1→x.silent→x'.silent) (hh:x.heads.map Hr=x'.heads.map Hr) (h:Jl x y s):Jl x' y s:=by
 rcases h with ⟨⟨h1,h2⟩,h3⟩|h
 ·exact .inl ⟨⟨hs (by unfold Ev.silent at h1;omega) h1,h2⟩,by rw [hk];exact h3⟩
 ·rw [conts_iff] at h
  refine .inr (conts_iff.2 ⟨by rw [hk];exact h.1, ?_,Aip hh h.2.2.1,h.2.2.2⟩)
  have:=congrArg List.length hh
  rw [List.length_map,List.length_map] at this
  rw [←this];exact h.2.1
structure LikeY (y y':Ev):Prop where
 kind:y'.kind=y.kind
 heads:y.heads.map pSh=y'.heads.map pSh
 graces:y'.graces=y.graces
 art:y'.art=y.art
 orn:y'.orn=y.orn
 dyn:y'.dyn=y.dyn
 lyr:y'.lyr=y.lyr
 stem:y'.stem=y.stem
 beam:y'.beam=y.beam
theorem LikeY.symm {y y':Ev} (h:LikeY y y'):LikeY y' y:=⟨h.kind.symm,h.heads.symm,h.graces.symm,h.art.symm,h.orn.symm,h.dyn.symm,h.lyr.symm,h.stem.symm,h.beam.symm⟩
theorem Ac8 {x y y':Ev} {s:Int} (hl:LikeY y y') (h:Jl x y s):Jl x y' s:=by
 rcases h with ⟨⟨h1,h2⟩,h3⟩|h
 ·refine .inl ⟨⟨h1, ?_⟩,by rw [hl.kind];exact h3⟩
  unfold Ev.silent at h2 ⊢
  rw [hl.kind,hl.dyn,hl.art];exact h2
 ·rw [conts_iff] at h
  obtain ⟨h1,h2,h3,k1,k2,k3,k4,k5,k6,k7,k8,k9⟩:=h
  have hlen:=congrArg List.length hl.heads
  rw [List.length_map,List.length_map] at hlen
  refine .inr (conts_iff.2 ⟨h1,by rw [←hlen];exact h2,Agl hl.heads h3,by rw [hl.kind];exact k1,fun g hg=> ?_,by rw [hl.graces];exact k3,by rw [hl.art];exact k4,by rw [hl.orn];exact k5,by rw [hl.dyn];exact k6,by rw [hl.lyr];exact k7,by rw [hl.stem];exact k8,by rw [hl.beam];exact k9⟩)
  obtain ⟨j,hj⟩:=List.getElem?_of_mem hg
  obtain ⟨z,hz,e⟩:=Ud hl.heads.symm hj
  have e2:g.sh=z.sh:=congrArg Prod.snd e
  rw [e2];exact k2 z (List.mem_of_getElem? hz)
theorem Are {X:Ev} {vs:List Val} {os:List Ev} {m:Nat} {o:Ev} {v:Val} (hv:vs[m]? =some v) (ho:os[m]? =some o):(K8 (Bf X vs false) os)[m]? =some ((Cc X vs.length false m v).reid o):=by
 rw [K8,List.getElem?_mapIdx,Bf,List.getElem?_mapIdx,hv]
 simp only [Option.map_some]
 rw [Vb ho]
theorem Y2 {X:Ev} {n:Nat} {v:Val}:Cc X n false 0 v=X.put v (decide (1<n)):=by
 unfold Cc
 rw [if_neg (by simp)]
 congr 1
 rw [decide_eq_decide];omega
theorem Y3 {X:Ev} {n m:Nat} {v:Val} (h:0<m):Cc X n false m v=X.further.put v (decide (m+1<n)):=by
 unfold Cc
 rw [if_pos (.inl (by omega))]
 congr 1
 rw [decide_eq_decide];omega
theorem Aog (l:List Hd):(l.map Hd.tie).map pSh=l.map pSh:=by rw [List.map_map];rfl
theorem Vr {l:List Hd} {h:Hd} (hh:h∈l.map Hd.tie):h.tied=true:=by
 obtain ⟨g,_,rfl⟩:=List.mem_map.1 hh;rfl
theorem Ac3 (l:List Hd):(l.map Hd.plain).map Hr=l.map Hr:=by rw [List.map_map];rfl
theorem Vs (a b:List Hd):(Cm a b).map pSh=a.map pSh:=by
 refine List.ext_getElem? fun j=> ?_
 rw [List.getElem?_map,List.getElem?_map,Cm,List.getElem?_mapIdx]
 cases h:a[j]? with
 |none=>rfl
 |some x=>
  obtain ⟨h1,h2⟩:=Uv b j x
  simp only [Option.map_some,pSh,h1,h2]
theorem Acp {a b:List Hd} (hl:a.length=b.length) (hp:a.map Hd.p=b.map Hd.p):(Cm a b).map Hr=b.map Hr:=by
 refine List.ext_getElem? fun j=> ?_
 rw [List.getElem?_map,List.getElem?_map,Cm,List.getElem?_mapIdx]
 cases h:a[j]? with
 |none=>
  have:=List.getElem?_eq_none_iff.1 h
  rw [List.getElem?_eq_none (by omega)];rfl
 |some x=>
  obtain ⟨y,hy,e⟩:=Ud hp h
  rw [hy]
  simp only [Option.map_some,Hr]
  rw [Sg hy]
  show some (x.p,y.tied)=_
  rw [e]
theorem Ahy {x o:Ev} {b:List Hd} {n:Nat} {v:Val}:LikeY x ((Cc (x.reh (Cm x.heads b)) n false 0 v).reid o):=by
 rw [Y2]
 refine ⟨rfl, ?_,rfl,rfl,rfl,rfl,rfl,rfl,rfl⟩
 show x.heads.map pSh=(if decide (1<n)=true then (Cm x.heads b).map Hd.tie else Cm x.heads b).map pSh
 split
 ·rw [Aog,Vs]
 ·rw [Vs]
theorem Lp {X:Ev} {n m:Nat} {v:Val} {o:Ev}:((Cc X n false m v).reid o).kind=X.kind:=by
 show (Cc X n false m v).kind=X.kind
 unfold Cc;split<;>rfl
theorem R0 {X:Ev} (h:X.silent) {n m:Nat} {v:Val} {o:Ev}:((Cc X n false m v).reid o).silent:=by
 show (Cc X n false m v).silent
 unfold Cc
 unfold Ev.silent at h ⊢
 split
 ·exact ⟨h.1,rfl,rfl⟩
 ·exact h
theorem U5 {X:Ev} {n m:Nat} {v:Val}:(Cc X n false m v).heads.map Hd.p=X.heads.map Hd.p:=by
 have h1:∀l:List Hd,(l.map Hd.tie).map Hd.p=l.map Hd.p:=fun l=>by rw [List.map_map];rfl
 have h2:∀l:List Hd,(l.map Hd.plain).map Hd.p=l.map Hd.p:=fun l=>by rw [List.map_map];rfl
 unfold Cc
 split
 ·show (if _ then (X.heads.map Hd.plain).map Hd.tie else X.heads.map Hd.plain).map Hd.p=_
  split
  ·rw [h1,h2]
  ·rw [h2]
 ·show (if _ then X.heads.map Hd.tie else X.heads).map Hd.p=_
  split
  ·rw [h1]
  ·rfl
theorem Ajw {X:Ev} {n m:Nat} {v:Val} (h:m+1<n):∀g∈(Cc X n false m v).heads,g.tied=true:=by
 intro g hg
 by_cases c:0<m
 ·rw [Y3 c] at hg
  have:g∈(if decide (m+1<n)=true then (X.heads.map Hd.plain).map Hd.tie else X.heads.map Hd.plain):=hg
  rw [if_pos (decide_eq_true h)] at this
  exact Vr this
 ·have:m=0:=by omega
  subst this
  rw [Y2] at hg
  have:g∈(if decide (1<n)=true then X.heads.map Hd.tie else X.heads):=hg
  rw [if_pos (decide_eq_true h)] at this
  exact Vr this
theorem Ajy {X:Ev} {n m:Nat} {v:Val} (h:¬m+1<n):(Cc X n false m v).heads.map Hr=X.heads.map Hr:=by
 by_cases c:0<m
 ·rw [Y3 c]
  show (if decide (m+1<n)=true then (X.heads.map Hd.plain).map Hd.tie else X.heads.map Hd.plain).map Hr=_
  rw [if_neg (by simpa using h),Ac3]
 ·have:m=0:=by omega
  subst this
  rw [Y2]
  show (if decide (1<n)=true then X.heads.map Hd.tie else X.heads).map Hr=_
  rw [if_neg (by simpa using h)]
theorem Ac6 {X:Ev} (hk:X.kind=1) {n m:Nat} {v:Val} {o:Ev} (h:0<m):((Cc X n false m v).reid o).plainR X.stem:=by
 rw [Y3 h]
 refine ⟨hk,fun g hg=> ?_,rfl,rfl,rfl,rfl,rfl,rfl,rfl⟩
 have:g∈(if decide (m+1<n)=true then (X.heads.map Hd.plain).map Hd.tie else X.heads.map Hd.plain):=hg
 split at this
 ·obtain ⟨a,ha,rfl⟩:=List.mem_map.1 this
  obtain ⟨b,hb,rfl⟩:=List.mem_map.1 ha
  rfl
 ·obtain ⟨b,hb,rfl⟩:=List.mem_map.1 this
  rfl
theorem Ahd {X:Ev} {n m:Nat} {v v':Val} {o o':Ev} (hX:X.kind=1∨X.silent) (h:m+1<n):Jl ((Cc X n false m v).reid o) ((Cc X n false (m+1) v').reid o') X.stem:=by
 rcases hX with hX|hX
 ·refine .inr (conts_iff.2 ⟨by rw [Lp];exact hX, ?_,fun j a b ha hb=> ?_,Ac6 hX (by omega)⟩)
  ·have h1:=congrArg List.length (U5 (X:=X) (n:=n) (m:=m) (v:=v))
   have h2:=congrArg List.length (U5 (X:=X) (n:=n) (m:=m+1) (v:=v'))
   rw [List.length_map,List.length_map] at h1 h2
   exact h1.trans h2.symm
  ·have ha':(Cc X n false m v).heads[j]? =some a:=ha
   have hb':(Cc X n false (m+1) v').heads[j]? =some b:=hb
   refine ⟨Ajw h a (List.mem_of_getElem? ha'), ?_⟩
   have h1:((Cc X n false m v).heads.map Hd.p)[j]? =some a.p:=by rw [List.getElem?_map,ha'];rfl
   have h2:((Cc X n false (m+1) v').heads.map Hd.p)[j]? =some b.p:=by rw [List.getElem?_map,hb'];rfl
   rw [U5] at h1 h2
   rw [h1] at h2
   exact Option.some.inj h2
 ·exact .inl ⟨⟨R0 hX,R0 hX⟩,by rw [Lp,Lp]⟩
theorem rep_mem {v:Vo} {i n:Nat} {l:List Ev} {t:Tp}:t∈(Br v i n ⟨l, []⟩).tups↔(t∈v.tups∧t.first<i)∨∃u∈v.tups,(i:Int)+n≤u.first∧t=u.mv (l.length - n):=by
 show t∈B6 _ 0 v.tups++B6 _ i []++B6 _ _ v.tups↔_
 rw [Ql,List.append_nil,List.mem_append]
 unfold B6
 rw [show Tp.mv 0=id from funext Ri,List.map_id,List.mem_filter,List.mem_map]
 constructor
 ·rintro (⟨h1,h2⟩|⟨u,h1,h2⟩)
  ·exact .inl ⟨h1,by simpa using h2⟩
  ·obtain ⟨h3,h4⟩:=List.mem_filter.1 h1
   exact .inr ⟨u,h3,by simpa using h4,h2.symm⟩
 ·rintro (⟨h1,h2⟩|⟨u,h1,h2,h3⟩)
  ·exact .inl ⟨h1,by simpa using h2⟩
  ·exact .inr ⟨u,List.mem_filter.2 ⟨h1,by simpa using h2⟩,h3.symm⟩
section
variable {v:Vo} {i n:Nat} {l:List Ev} (hok:∀t∈v.tups,t.ok) (hn:0<n) (hf:∀m,i≤m→m<i+n→∀t∈v.tups,¬t.has m)
include hok hn hf
theorem Lr {t:Tp} (ht:t∈v.tups):t.first+t.count≤i∨(i:Int)+n≤t.first:=by
 have ho:=hok t ht
 unfold Tp.ok at ho
 have h1:=hf i (Nat.le_refl _) (by omega) t ht
 unfold Tp.has at h1
 by_cases c:t.first<i
 ·omega
 ·by_cases c2:(i:Int)+n≤t.first
  ·exact .inr c2
  ·have h2:=hf t.first.toNat (by omega) (by omega) t ht
   unfold Tp.has at h2
   omega
theorem Aqr {k:Nat} (hk:k<i):(∀t∈(Br v i n ⟨l, []⟩).tups,¬t.has k)↔∀t∈v.tups,¬t.has k:=by
 constructor
 ·intro h t ht
  have ho:=hok t ht
  unfold Tp.ok at ho
  rcases Lr hok hn hf ht with c|c
  ·exact h t (rep_mem.2 (.inl ⟨ht,by omega⟩))
  ·unfold Tp.has;omega
 ·intro h t ht
  rcases rep_mem.1 ht with ⟨h1,_⟩|⟨u,h1,h2,rfl⟩
  ·exact h t h1
  ·unfold Tp.has Tp.mv;simp only;omega
theorem Aox {m:Nat} (h1:i≤m) (h2:m<i+l.length):∀t∈(Br v i n ⟨l, []⟩).tups,¬t.has m:=by
 intro t ht
 rcases rep_mem.1 ht with ⟨h3,h4⟩|⟨u,h3,h4,rfl⟩
 ·have:=Lr hok hn hf h3
  have ho:=hok t h3
  unfold Tp.ok at ho
  unfold Tp.has;omega
 ·unfold Tp.has Tp.mv;simp only;omega
theorem Ajc (m:Nat):(∀t∈(Br v i n ⟨l, []⟩).tups,¬t.has ((i+l.length+m:Nat):Int))↔∀t∈v.tups,¬t.has ((i+n+m:Nat):Int):=by
 constructor
 ·intro h t ht
  rcases Lr hok hn hf ht with c|c
  ·unfold Tp.has;omega
  ·have:=h _ (rep_mem.2 (.inr ⟨t,ht,c,rfl⟩))
   unfold Tp.has Tp.mv at this
   unfold Tp.has
   simp only at this
   omega
 ·intro h t ht
  rcases rep_mem.1 ht with ⟨h1,h2⟩|⟨u,h1,h2,rfl⟩
  ·have:=Lr hok hn hf h1
   have ho:=hok t h1
   unfold Tp.ok at ho
   unfold Tp.has;omega
  ·have:=h u h1
   unfold Tp.has at this
   unfold Tp.has Tp.mv
   simp only
   omega
end
theorem Agp {v:Vo} {i n:Nat} {l:List Ev} (hi:i≤v.evs.length) {m:Nat} (h:m<i):(Br v i n ⟨l, []⟩).evs[m]? =v.evs[m]? :=by
 show (v.evs.take i++l++v.evs.drop (i+n))[m]? =_
 rw [List.append_assoc,List.getElem?_append_left (by rw [List.length_take];omega),List.getElem?_take_of_lt h]
theorem Acu {v:Vo} {i n:Nat} {l:List Ev} (hi:i≤v.evs.length) {m:Nat} (h:m<l.length):(Br v i n ⟨l, []⟩).evs[i+m]? =l[m]? :=by
 show (v.evs.take i++l++v.evs.drop (i+n))[i+m]? =_
 have ht:(v.evs.take i).length=i:=by rw [List.length_take];omega
 rw [List.append_assoc,List.getElem?_append_right (by omega),ht,Nat.add_sub_cancel_left,List.getElem?_append_left h]
theorem Agq {v:Vo} {i n:Nat} {l:List Ev} (hi:i≤v.evs.length) (m:Nat):(Br v i n ⟨l, []⟩).evs[i+l.length+m]? =v.evs[i+n+m]? :=by
 show (v.evs.take i++l++v.evs.drop (i+n))[i+l.length+m]? =_
 have ht:(v.evs.take i++l).length=i+l.length:=by rw [List.length_append,List.length_take];omega
 rw [List.getElem?_append_right (by omega),ht,Nat.add_sub_cancel_left,List.getElem?_drop]
def bd (v:Vo):Nat→Nat
 |0=>0
 |k+1=>Am v (bd v k)
def Bnd (v:Vo) (p:Pl) (i:Nat):Prop:=∃K,bd v K=i∧∀k,k<K→bd v k<v.evs.length∧¬smJ p (smA v p (bd v k)) (smA v p (bd v (k+1))) (bd v (k+1) - bd v k)
theorem Vj (v:Vo) {j:Nat}:∀{k:Nat},j≤k→bd v j≤bd v k
 |0,h=>by rw [show j=0 by omega];exact Nat.le_refl _
 |k+1,h=>by
  by_cases e:j=k+1
  ·rw [e];exact Nat.le_refl _
  ·have:=Vj v (j:=j) (k:=k) (by omega)
   have h2:=Yf v (bd v k)
   show bd v j≤Am v (bd v k)
   omega
theorem Ap2 {v:Vo} {p:Pl} (h:Bnd v p v.evs.length):∀f,Hb p f (v,0)=v:=by
 obtain ⟨K,hK,hs⟩:=h
 have:∀f k,k≤K→Hb p f (v,bd v k)=v:=by
  intro f
  induction f with
  |zero=>intro k _;rfl
  |succ f ih=>
   intro k hk
   rw [Hb]
   by_cases c:bd v k<v.evs.length
   ·rw [if_pos (show (v,bd v k).2<(v,bd v k).1.evs.length from c)]
    have hlt:k<K:=by
     rcases Nat.lt_or_eq_of_le hk with h|h
     ·exact h
     ·rw [h,hK] at c;omega
    have h2:=(hs k hlt).2
    have h3:smN v p (bd v k)=(v,bd v (k+1)):=Dk h2
    show Hb p f (smN v p (bd v k))=v
    rw [h3];exact ih (k+1) hlt
   ·rw [if_neg (show ¬(v,bd v k).2<(v,bd v k).1.evs.length from c)]
 intro f
 exact this f 0 (Nat.zero_le _)
structure RunJ (v:Vo) (p:Pl) (i:Nat) (x y:Ev) (vs:List Val) (js:List Ev) (w:Vo):Prop where
 we:w=Br v i (Am v i - i) ⟨js, []⟩
 n1:i+1<Am v i
 nl:Am v i≤v.evs.length
 jl:js.length=vs.length
 j0:0<js.length
 jn:js.length<Am v i - i
 jg:∀m,m<js.length→∃a o,vs[m]? =some a∧js[m]? =some ((Cc (x.reh (Cm x.heads y.heads)) vs.length false m a).reid o)
 sil:x.kind=1∨x.silent
 ks:y.kind=x.kind
 ys:x.kind≠1→y.silent
 hs:(Cm x.heads y.heads).map Hr=y.heads.map Hr
 fr:∀m,i≤m→m<Am v i→∀t∈v.tups,¬t.has m
 ok:∀t∈v.tups,t.ok
 ck:ckE w p.len=0
 vk:ckE v p.len=0
 lo:∀m,m≤i→smA w p m=smA v p m
 hi:smA w p (i+js.length)=smA v p (Am v i)
theorem Afe {v:Vo} (hE:∀e∈v.evs,e.err=0) {i:Nat} {x:Ev} (hx:v.evs[i]? =some x):∀(n:Nat) {y:Ev},i+(n+1)<Am v i→v.evs[i+(n+1)]? =some y→y.kind=x.kind∧(x.kind=1∨(x.silent∧y.silent))
 |n,y,h,hy=>by
  obtain ⟨a,b,z,ha,hb,hz,hj⟩:=Jb (Pa (v:=v) (i:=i) (j:=i+(n+1)) (by omega) h)
  rw [hy] at hb;cases hb
  rw [show i+(n+1) - 1=i+n by omega] at ha
  have step:a.kind=x.kind∧(x.kind=1∨n=0∨(x.silent∧a.silent)):=by
   cases n with
   |zero=>rw [Nat.add_zero,hx] at ha;cases ha;exact ⟨rfl, .inr (.inl rfl)⟩
   |succ n=>
    obtain ⟨h1,h2⟩:=Afe hE hx n (by omega) ha
    exact ⟨h1,h2.elim .inl (fun h=> .inr (.inr h))⟩
  rcases hj with ⟨⟨h1,h2⟩,h3⟩|hj
  ·refine ⟨by rw [←h3];exact step.1, .inr ⟨?_,h2⟩⟩
   rcases step.2 with k|k|k
   ·unfold Ev.silent at h1;omega
   ·subst k;rw [Nat.add_zero,hx] at ha;cases ha;exact h1
   ·exact k.1
  ·rw [conts_iff] at hj
   have h1:=hj.1
   have h2:=hj.2.2.2.1
   exact ⟨by omega, .inl (by omega)⟩
theorem Alr {v:Vo} {p:Pl} {i:Nat} {x y:Ev} (hc:p.chk v=0) (hx:v.evs[i]? =some x) (hy:v.evs[Am v i - 1]? =some y) (hJ:smJ p (smA v p i) (smA v p (Am v i)) (Am v i - i)):
  RunJ v p i x y (p.m.split (p.off+smA v p i) (p.off+smA v p (Am v i))) (By v p i x y) (smN v p i).1:=by
 have hi:=(List.getElem?_eq_some_iff.1 hx).1
 obtain ⟨hk1,hk2⟩:=I6 hi
 have hjo:=Rl (y:=y) hc hx hJ
 have hck:=(G2 hc).2.2
 have hE:=(Kk hck).1
 have hle:=Mv hc hi
 have hsm:=Jj hx hy hJ
 have hn1:1<Am v i - i:=hJ.1.1.1
 have hcl:=H6 hck
 have hjl:=hjo.len
 have h5:=hJ.2.2
 have hrs:smA v p i<smA v p (Am v i):=by
  have hp:=Ov hck
  obtain ⟨w,hw⟩:∃w,(ckL v p.len)[i]? =some w:=As (by omega)
  have h1:=J4 hp (j:=i+1) (k:=Am v i) (by omega)
  rw [Bb hw,Id] at h1
  have:=hp w (List.mem_of_getElem? hw)
  unfold smA;omega
 have hj0:0<(By v p i x y).length:=by
  rcases Nat.eq_zero_or_pos (By v p i x y).length with h|h
  ·have h0:=List.eq_nil_of_length_eq_zero h
   have hs:=hjo.sum
   rw [h0] at hs
   have hs2:(0:Int)=smA v p (Am v i) - smA v p i:=hs
   omega
  ·exact h
 have hxy:x.heads.length=y.heads.length:=Nn hE hx (Am v i - 1 - i) (by omega) (by rw [show i+(Am v i - 1 - i)=Am v i - 1 by omega];exact hy)
 have hsil:=Afe hE hx (Am v i - 2 - i) (y:=y) (by omega) (by rw [show i+(Am v i - 2 - i+1)=Am v i - 1 by omega];exact hy)
 have hpp:x.heads.map Hd.p=y.heads.map Hd.p:=(Sm hE hx (Am v i - 1 - i) (y:=y) (by omega) (by rw [show i+(Am v i - 1 - i)=Am v i - 1 by omega];exact hy)).symm
 obtain ⟨ws,ls,hT⟩:=Up hck
 have hfr:∀m,i≤m→m<Am v i→∀t∈v.tups,¬t.has m:=fun m h1 h2=>Ny (by have:=Md hT m;have:=Sn hn1 h1 h2;omega)
 rw [hsm] at hle ⊢
 refine ⟨rfl,by omega,hk2,hjl,hj0,by omega,fun m hm=> ?_,hsil.2.elim .inl (fun h=> .inr h.1),hsil.1,fun h=>(hsil.2.resolve_left h).2,Acp hxy hpp,hfr,Af9 hck,hjo.ck,hck,fun m hm=> ?_,hle.2.2.2.2.2⟩
 ·obtain ⟨a,ha⟩:∃a,(p.m.split (p.off+smA v p i) (p.off+smA v p (Am v i)))[m]? =some a:=As (by omega)
  obtain ⟨o,ho⟩:∃o,(v.evs.drop i)[m]? =some o:=As (by rw [List.length_drop];omega)
  exact ⟨a,o,ha,Are ha ho⟩
 ·show tot ((ckL (Br v i (Am v i - i) ⟨By v p i x y, []⟩) p.len).take m)=_
  have:((ckL v p.len).take i++wrS (By v p i x y)++(ckL v p.len).drop (Am v i)).take m=(ckL v p.len).take m:=by
   rw [List.append_assoc,List.take_append_of_le_length (by rw [List.length_take];omega),List.take_take,Nat.min_eq_left hm]
  rw [hjo.lens,this];rfl
theorem RunJ.il {v w:Vo} {p:Pl} {i:Nat} {x y:Ev} {vs:List Val} {js:List Ev} (hx:v.evs[i]? =some x) (h:RunJ v p i x y vs js w):i≤v.evs.length:=by have:=(List.getElem?_eq_some_iff.1 hx).1;omega
theorem RunJ.wl {v w:Vo} {p:Pl} {i:Nat} {x y:Ev} {vs:List Val} {js:List Ev} (h:RunJ v p i x y vs js w):w.evs.length=v.evs.length - (Am v i - i)+js.length:=by rw [h.we];exact Sq (by have:=h.nl;have:=h.n1;omega)
section
variable {v w:Vo} {p:Pl} {i:Nat} {x y:Ev} {vs:List Val} {js:List Ev} (hx:v.evs[i]? =some x) (h:RunJ v p i x y vs js w)
include hx h
theorem RunJ.glo {m:Nat} (hm:m<i):w.evs[m]? =v.evs[m]? :=by rw [h.we];exact Agp (h.il hx) hm
theorem RunJ.gmid {m:Nat} (hm:m<js.length):w.evs[i+m]? =js[m]? :=by rw [h.we];exact Acu (h.il hx) hm
theorem RunJ.ghi (m:Nat):w.evs[i+js.length+m]? =v.evs[Am v i+m]? :=by
 have:=Agq (l:=js) (n:=Am v i - i) (h.il hx) m
 rw [h.we,this,show i+(Am v i - i)=Am v i by have:=h.n1;omega]
theorem RunJ.flo {m:Nat} (hm:m<i):Cy w m↔Cy v m:=by
 rw [Ip h.ck,Ip h.vk,h.we,Aqr h.ok (by have:=h.n1;omega) (fun m h1 h2=>h.fr m h1 (by omega)) hm, ←h.we,h.wl]
 have h1:=h.il hx
 have h2:=h.nl
 have h3:=h.n1
 constructor
 ·rintro ⟨k1,k2⟩;exact ⟨by omega,k2⟩
 ·rintro ⟨k1,k2⟩;exact ⟨by omega,k2⟩
theorem RunJ.fmid {m:Nat} (hm:m<js.length):Cy w ((i+m:Nat):Int):=by
 rw [Ip h.ck,h.we]
 refine ⟨?_,Aox h.ok (by have:=h.n1;omega) (fun m h1 h2=>h.fr m h1 (by omega)) (by omega) (by omega)⟩
 rw [←h.we,h.wl]
 have h2:=h.nl
 have h3:=h.n1
 omega
theorem RunJ.fhi (m:Nat):Cy w ((i+js.length+m:Nat):Int)↔Cy v ((Am v i+m:Nat):Int):=by
 have hr:=Ajc (l:=js) h.ok (show 0<Am v i - i by have:=h.n1;omega) (fun m h1 h2=>h.fr m h1 (by omega)) m
 rw [Ip h.ck,Ip h.vk,h.we,hr, ←h.we,h.wl,show i+(Am v i - i)+m=Am v i+m by have:=h.n1;omega]
 have h2:=h.nl
 have h3:=h.n1
 constructor
 ·rintro ⟨k1,k2⟩;exact ⟨by omega,k2⟩
 ·rintro ⟨k1,k2⟩;exact ⟨by omega,k2⟩
theorem RunJ.g0:∃e,w.evs[i]? =some e∧LikeY x e:=by
 obtain ⟨a,o,h1,h2⟩:=h.jg 0 h.j0
 exact ⟨_,by rw [←Nat.add_zero i,h.gmid hx h.j0];exact h2,Ahy⟩
variable (hy:v.evs[Am v i - 1]? =some y)
include hy
theorem RunJ.run:Am w i=i+js.length:=by
 have hj0:=h.j0
 have hwl:=h.wl
 have hnl:=h.nl
 have hn1:=h.n1
 obtain ⟨e0,he0,hl0⟩:=h.g0 hx
 have fi:Cy w ((i:Nat):Int):=by have:=h.fmid hx h.j0;rwa [Nat.add_zero] at this
 refine Ye (by omega) (by omega) (fun m h1 h2=> ?_) fun hc=> ?_
 ·obtain ⟨k,rfl⟩:∃k,m=i+(k+1):=⟨m - i - 1,by omega⟩
  have hk:k+1<js.length:=by omega
  refine ⟨⟨fi,h.fmid hx hk⟩, ?_⟩
  obtain ⟨a,o,a1,a2⟩:=h.jg k (by omega)
  obtain ⟨b,o',b1,b2⟩:=h.jg (k+1) hk
  rw [Dn (by rw [show i+(k+1) - 1=i+k by omega,h.gmid hx (by omega)];exact a2) (by rw [h.gmid hx hk];exact b2) he0,hl0.stem]
  exact Ahd (X:=x.reh (Cm x.heads y.heads)) h.sil (by rw [←h.jl];exact hk)
 ·obtain ⟨⟨_,hc1⟩,hc2⟩:=hc
  have f1:=(h.fhi hx 0).1 (by rw [Nat.add_zero];exact hc1)
  rw [Nat.add_zero] at f1
  refine Nm v i ⟨⟨(Oj (v:=v) (i:=i) (m:=i+1) (by omega) hn1).1.1,f1⟩, ?_⟩
  obtain ⟨a,b,z,ha,hb,hz,hj⟩:=Jb hc2
  rw [he0] at hz
  cases hz
  have hb':v.evs[Am v i]? =some b:=by have:=h.ghi hx 0;rw [Nat.add_zero,Nat.add_zero] at this;rw [←this];exact hb
  rw [Dn hy hb' hx]
  rw [hl0.stem] at hj
  obtain ⟨c,o,c1,c2⟩:=h.jg (js.length - 1) (by omega)
  have ha':w.evs[i+(js.length - 1)]? =some a:=by rw [show i+(js.length - 1)=i+js.length - 1 by omega];exact ha
  rw [h.gmid hx (by omega),c2] at ha'
  cases ha'
  refine Aho (by rw [Lp];exact h.ks) (fun hk _=>h.ys (by rw [Lp] at hk;exact hk)) ?_ hj
  show (Cc (x.reh (Cm x.heads y.heads)) vs.length false (js.length - 1) c).heads.map Hr=_
  rw [Ajy (by rw [←h.jl];omega)]
  exact h.hs
theorem RunJ.early {j:Nat} (hj:Am v j≤i):Am w j=Am v j:=by
 have hgt:=Yf v j
 have hil:=(List.getElem?_eq_some_iff.1 hx).1
 have hwl:=h.wl
 have hnl:=h.nl
 have hn1:=h.n1
 refine Ye hgt (by omega) (fun m h1 h2=> ?_) fun hc=> ?_
 ·obtain ⟨⟨k1,k2⟩,k3⟩:=Oj h1 h2
  refine ⟨⟨(h.flo hx (by omega)).2 k1,(h.flo hx (by omega)).2 k2⟩, ?_⟩
  obtain ⟨a,b,z,ha,hb,hz,hjn⟩:=Jb k3
  rw [Dn (by rw [h.glo hx (by omega)];exact ha) (by rw [h.glo hx (by omega)];exact hb) (by rw [h.glo hx (by omega)];exact hz)]
  exact hjn
 ·obtain ⟨⟨c1,c2⟩,c3⟩:=hc
  obtain ⟨a,b,z,ha,hb,hz,hjn⟩:=Jb c3
  rw [h.glo hx (by omega)] at ha hz
  refine Nm v j ⟨⟨(h.flo hx (by omega)).1 c1, ?_⟩, ?_⟩
  ·by_cases e:Am v j=i
   ·rw [e];exact (Oj (v:=v) (i:=i) (m:=i+1) (by omega) hn1).1.1
   ·exact (h.flo hx (by omega)).1 c2
  ·by_cases e:Am v j=i
   ·obtain ⟨e0,he0,hl0⟩:=h.g0 hx
    rw [e] at hb ha ⊢
    rw [he0] at hb
    cases hb
    rw [Dn ha hx hz]
    exact Ac8 hl0.symm hjn
   ·rw [h.glo hx (by omega)] at hb
    rw [Dn ha hb hz]
    exact hjn
end
theorem Bnd.next {v:Vo} {p:Pl} {i:Nat} (h:Bnd v p i) (hc:p.chk v=0) (hi:i<v.evs.length):Bnd (smN v p i).1 p (smN v p i).2:=by
 obtain ⟨K,hK,hs⟩:=h
 obtain ⟨hk1,hk2⟩:=I6 hi
 obtain ⟨x,hx⟩:∃x,v.evs[i]? =some x:=As hi
 obtain ⟨y,hy⟩:∃y,v.evs[Am v i - 1]? =some y:=As (by omega)
 by_cases c:smJ p (smA v p i) (smA v p (Am v i)) (Am v i - i)
 ·have hR:=Alr hc hx hy c
  have hw2:(smN v p i).2=i+(By v p i x y).length:=by rw [Jj hx hy c]
  rw [hw2]
  generalize (smN v p i).1=w at hR
  have hwl:=hR.wl
  have hb:∀k,k≤K→bd w k=bd v k:=by
   intro k
   induction k with
   |zero=>intro _;rfl
   |succ k ih=>
    intro hk
    have h1:=ih (by omega)
    have h2:Am v (bd v k)≤i:=by
     have:=Vj v (j:=k+1) (k:=K) hk
     rw [hK] at this;exact this
    show Am w (bd w k)=Am v (bd v k)
    rw [h1];exact hR.early hx hy h2
  refine ⟨K+1, ?_,fun k hk=> ?_⟩
  ·show Am w (bd w K)=_
   rw [hb K (Nat.le_refl _),hK];exact hR.run hx hy
  ·by_cases e:k=K
   ·subst e
    have h2:bd w (k+1)=i+(By v p i x y).length:=by
     show Am w (bd w k)=_
     rw [hb k (Nat.le_refl _),hK];exact hR.run hx hy
    rw [h2,hb k (Nat.le_refl _),hK,hR.lo i (Nat.le_refl _),hR.hi]
    refine ⟨by have:=hR.j0;have:=hR.nl;have:=hR.n1;omega,fun hJ=> ?_⟩
    have:=hJ.2.2
    rw [←hR.jl] at this
    omega
   ·have h1:=hs k (by omega)
    have h2:=Vj v (j:=k+1) (k:=K) (by omega)
    have h3:=Yf v (bd v k)
    have h4:bd v k<bd v (k+1):=h3
    rw [hK] at h2
    rw [hb k (by omega),hb (k+1) (by omega),hR.lo _ (by omega),hR.lo _ h2]
    exact ⟨by have:=hR.j0;have:=hR.nl;have:=hR.n1;omega,h1.2⟩
 ·rw [Dk c]
  refine ⟨K+1,by show Am v (bd v K)=Am v i;rw [hK],fun k hk=> ?_⟩
  by_cases e:k=K
  ·subst e
   show bd v k<v.evs.length∧¬smJ p (smA v p (bd v k)) (smA v p (Am v (bd v k))) (Am v (bd v k) - bd v k)
   rw [hK];exact ⟨hi,c⟩
  ·exact hs k (by omega)
theorem Aiz {p:Pl}:∀(f:Nat) {q:Vo × Nat},p.chk q.1=0→Bnd q.1 p q.2→q.2≤q.1.evs.length→q.1.evs.length - q.2≤f→Bnd (Hb p f q) p (Hb p f q).evs.length
 |0,q,hc,hb,h1,h2=>by
  have:q.2=q.1.evs.length:=by omega
  rw [this] at hb;exact hb
 |f+1,q,hc,hb,h1,h2=>by
  rw [Hb]
  split
  ·rename_i hq
   obtain ⟨k1,k2,k3,k4,k5,_⟩:=Mv hc hq
   exact Aiz f k4 (hb.next hc hq) k1 (by omega)
  ·rename_i hq
   have:q.2=q.1.evs.length:=by omega
   rw [this] at hb;exact hb
theorem Aln {v:Vo} {p:Pl} (hc:p.chk v=0):Mw (Mw v p) p=Mw v p:=
 Ap2 (Aiz v.evs.length (q:=(v,0)) hc ⟨0,rfl,fun k hk=>absurd hk (Nat.not_lt_zero _)⟩ (Nat.zero_le _) (Nat.le_refl _)) _
end Go.Proofs.YtcihalbakenleaaGreat
namespace Go.Proofs.YtcihalbakenleaaGreat
open Go.RowKit
theorem Aoo {l:List Tp} (h:l.Pairwise Tp.bef) {k:Nat} {t u:Tp} (hu:l[k]? =some u) (ht:l[k+1]? =some t):u.bef t:=by
 obtain ⟨h1,e1⟩:=List.getElem?_eq_some_iff.1 hu
 obtain ⟨h2,e2⟩:=List.getElem?_eq_some_iff.1 ht
 rw [←e1, ←e2]
 exact List.pairwise_iff_getElem.1 h k (k+1) h1 h2 (by omega)
theorem X6 {α:Type} {l:List α} {k:Nat}:(l.take k).take k=l.take k:=by rw [List.take_take,Nat.min_self]
theorem Aly (l:List Tp) (h:l.length≤1000) (hs:l.Pairwise Tp.bef):XC Tryz.prog 111 [.sl 4 (l.map Tp.c)] (fun r=>r= .sl 4 (l.map Tp.c)):=by
 refine Ap Ab2 Tryz.func111 R R lb<|zr<|za R R<|znr<|za R R<|zn<|zs<|zr<|za R R<|zn<|Ag<|?_
 refine Ax (α:=Nat) (fun k=>k≤l.length) (fun k=>mkF [(0, .d (.sl 4 (l.map Tp.c))),(2, .d (.v (.slice none 0 0))),(3, .d (.sl 4 ((l.take k).map Tp.c))),(4, .d (dI k))]) (fun k=>mkH []) (fun k=>l.length - k) (0) (Nat.zero_le _) ?_ ?_ ?_
 exact fz ⟨sr,sr, .nil 4,sr,trivial⟩
 exact HSub.nil
 intro k hk0
 refine zs<|zr<|zm R R<|zm R R<|XL.len R R R Tryz.underlying98 fun hl9=>zp (At R R R)<|zn<|?_
 refine zd R (fun c10=> ?_) (fun c10=> ?_)
 have hk0a:k<l.length:=by omega
 obtain ⟨x0,hx0⟩:=As hk0a
 have htl:(l.take k).length=k:=by rw [List.length_take];omega
 refine zi<|zs<|Ag<|zr<|zm R R<|XL.len R R R Tryz.underlying98 fun hl14=>za R R<|zn<|zs<|Ag<|?_
 refine Ax (α:=Unit) (fun z=>True) (fun z=>mkF [(0, .d (.sl 4 (l.map Tp.c))),(2, .d (.v (.slice none 0 0))),(3, .d (.sl 4 ((l.take k).map Tp.c))),(4, .d (dI k)),(5, .d (dI (k:Nat)))]) (fun z=>mkH []) (fun z=>0) (()) (trivial) ?_ ?_ ?_
 exact fz ⟨sr,sr,sr,sr, .same (sI (by rw [htl])),trivial⟩
 exact HSub.nil
 intro z hk2
 refine zs<|zs<|?_
 by_cases q16:(0:Int)<((k:Nat):Int)
 obtain ⟨u,hu⟩:∃u,l[k - 1]? =some u:=As (by omega)
 have hu2:(l.take k)[k - 1]? =some u:=by rw [List.getElem?_take_of_lt (by omega)];exact hu
 refine A8 [] (by kernel_rfl) (by kernel_rfl) (by kernel_rfl) (by decide)<|ym R R<|yp (Dd (A6 R R R) (q16))<|ym R R<|ym R R<|ym R R<|yp (Aj R R R Ef hx0)<|yp (Ad (s':= .d (.agg (Tp.c x0))) (Ar R R Dy lb) (by kernel_rfl))<|ym R R<|ym R R<|yp (C7 R R R (by omega) (by omega))<|yp (Dl R R R (by omega) Ef (hu2))<|?_
 refine yp (Ad (s':= .d (.agg (Tp.c u))) (Ar R R Dy lb) (by kernel_rfl))<|ChK.cons R (CStep.call R (Xg (V4 _ _) (not_not_intro (Aoo hs hu (by rw [show k - 1+1=k by omega];exact hx0)))) R)<|yp (Av R R (by conv=>lhs;whnf))<|?_
 refine ChK.nil ⟨by kernel_rfl, ?_⟩
 refine A3 (by kernel_rfl) R<|An<|zs<|J2 4 10 [31] (S.kill 31) 31 (Oc 31 (.row 135 4 ((l.take k).map Tp.c))) (by kernel_rfl) (by kernel_rfl) (by kernel_rfl) (by kernel_rfl) (by decide)<|ChMK.bfO R (CStep.row0 31 R Tryz.underlying98 Jv R) (by conv=>lhs;whnf) (fun _ _=>Y9 _ _)<|?_
 refine ChMK.bf R (CStep.pure (Au R (by conv=>lhs;whnf))) (by conv=>lhs;whnf)<|?_
 refine ChMK.bf R (CStep.pure (Au R (by conv=>lhs;whnf))) (by conv=>lhs;whnf)<|?_
 refine ChMK.bf R (CStep.pure (F8 R R Ef Bd.no (Bd.at R) (Nat.zero_le _) (by omega))) (by conv=>lhs;whnf)<|?_
 refine ChMK.mu R (Po (l2:=(l.take k).map Tp.c) R Lu (.own R) (Src.sl (by omega)) (by simp only [List.length_append,List.length_map,List.length_take,List.length_drop,List.length_nil,List.length_cons];unfold maxLen;omega) (by simp only [List.length_append,List.length_map,List.length_take,List.length_drop,List.length_nil,List.length_cons];omega) (by simp only [List.nil_append,List.drop_zero,X6]))<|?_
 refine ChMK.fr R R (CStep.pure (Au R (by conv=>lhs;whnf))) (CStep.pure (Au R (by conv=>lhs;whnf))) (by exact rfl)<|?_
 refine ChMK.fr R R (CStep.pure (Au R (by conv=>lhs;whnf))) (CStep.pure (Au R (by conv=>lhs;whnf))) (by exact rfl)<|?_
 refine ChMK.fr R R (CStep.pure (Aj R R R Ef hx0)) (CStep.pure (Aj R R R Ef hx0)) (by exact rfl)<|ChMK.fr R R (CStep.pure (Ad (s':= .d (.agg (Tp.c x0))) (Ar R R Dy lb) (by kernel_rfl))) (CStep.pure (Ad (s':= .d (.agg (Tp.c x0))) (Ar R R Dy lb) (by kernel_rfl))) (by exact rfl)<|?_
 refine ChMK.fr R R (CStep.slice R Tryz.underlying98 Jv Hh R R (by omega) (by omega)) (CStep.slice R Tryz.underlying98 Jv Hh R R (by omega) (by omega)) (by exact rfl)<|?_
 refine ChMK.nil ⟨⟨by kernel_rfl,by kernel_rfl,by kernel_rfl⟩, ?_⟩
 refine XL.step R (A4 R Lu (.own R) (Src.sl (by omega)) (by simp only [List.length_append,List.length_map,List.length_take,List.length_drop,List.length_nil,List.length_cons];unfold maxLen;omega) (by simp only [List.length_append,List.length_map,List.length_take,List.length_drop,List.length_nil,List.length_cons];omega))<|?_
 refine XL.rowq (i:=31) (l':=(l.take (k+1)).map Tp.c) R (by rw [Bb hx0,List.map_append];rfl)<|zp (Aq R (by conv=>lhs;whnf))<|?_
 refine zng<|zp (Au R (by conv=>lhs;whnf))<|?_
 refine zm R R<|zm R R<|zp (F8 R R Ef (Bd.at R) Bd.no (by omega) (Nat.le_refl _))<|?_
 refine XL.step R (A4 R Lu (.own R) (Src.sl (by omega)) (by simp only [List.length_append,List.length_map,List.length_take,List.length_drop,List.length_nil,List.length_cons];unfold maxLen;omega) (by simp only [List.length_append,List.length_map,List.length_take,List.length_drop,List.length_nil,List.length_cons];omega))<|?_
 refine XL.rowq (i:=31) (l':=(l.take (k+1)).map Tp.c) R (by rw [List.take_length,List.drop_eq_nil_of_le (by omega),List.map_nil,List.append_nil])<|zp (Aq R (by conv=>lhs;whnf))<|?_
 refine zn<|Af (by kernel_rfl)<|XL.freeze (i:=31) R<|zm R R<|zp (Ak R R R (by omega) (by omega))<|za R R<|zn<|?_
 exact Al (k+1) (by omega) (by omega) (fz ⟨sr,sr,sr,sr,trivial⟩) (HSub.nil)
 refine A8 [] (by kernel_rfl) (by kernel_rfl) (by kernel_rfl) (by decide)<|ym R R<|yp (Fu (A6 R R R) (q16))<|ym R R<|ChK.skip R<|ChK.skip R<|ChK.skip R<|ChK.skip R<|ChK.skip R<|ChK.skip R<|ChK.skip R<|ChK.skip R<|ChK.skip R<|ChK.skip R<|?_
 refine yp (Av R R (by conv=>lhs;whnf))<|?_
 refine ChK.nil ⟨by kernel_rfl, ?_⟩
 refine A3 (by kernel_rfl) R<|An<|zs<|J2 4 10 [31] (S.kill 31) 31 (Oc 31 (.row 135 4 ((l.take k).map Tp.c))) (by kernel_rfl) (by kernel_rfl) (by kernel_rfl) (by kernel_rfl) (by decide)<|ChMK.bfO R (CStep.row0 31 R Tryz.underlying98 Jv R) (by conv=>lhs;whnf) (fun _ _=>Y9 _ _)<|?_
 refine ChMK.bf R (CStep.pure (Au R (by conv=>lhs;whnf))) (by conv=>lhs;whnf)<|?_
 refine ChMK.bf R (CStep.pure (Au R (by conv=>lhs;whnf))) (by conv=>lhs;whnf)<|?_
 refine ChMK.bf R (CStep.pure (F8 R R Ef Bd.no (Bd.at R) (Nat.zero_le _) (by omega))) (by conv=>lhs;whnf)<|?_
 refine ChMK.mu R (Po (l2:=(l.take k).map Tp.c) R Lu (.own R) (Src.sl (by omega)) (by simp only [List.length_append,List.length_map,List.length_take,List.length_drop,List.length_nil,List.length_cons];unfold maxLen;omega) (by simp only [List.length_append,List.length_map,List.length_take,List.length_drop,List.length_nil,List.length_cons];omega) (by simp only [List.nil_append,List.drop_zero,X6]))<|?_
 refine ChMK.fr R R (CStep.pure (Au R (by conv=>lhs;whnf))) (CStep.pure (Au R (by conv=>lhs;whnf))) (by exact rfl)<|?_
 refine ChMK.fr R R (CStep.pure (Au R (by conv=>lhs;whnf))) (CStep.pure (Au R (by conv=>lhs;whnf))) (by exact rfl)<|?_
 refine ChMK.fr R R (CStep.pure (Aj R R R Ef hx0)) (CStep.pure (Aj R R R Ef hx0)) (by exact rfl)<|ChMK.fr R R (CStep.pure (Ad (s':= .d (.agg (Tp.c x0))) (Ar R R Dy lb) (by kernel_rfl))) (CStep.pure (Ad (s':= .d (.agg (Tp.c x0))) (Ar R R Dy lb) (by kernel_rfl))) (by exact rfl)<|?_
 refine ChMK.fr R R (CStep.slice R Tryz.underlying98 Jv Hh R R (by omega) (by omega)) (CStep.slice R Tryz.underlying98 Jv Hh R R (by omega) (by omega)) (by exact rfl)<|?_
 refine ChMK.nil ⟨⟨by kernel_rfl,by kernel_rfl,by kernel_rfl⟩, ?_⟩
 refine XL.step R (A4 R Lu (.own R) (Src.sl (by omega)) (by simp only [List.length_append,List.length_map,List.length_take,List.length_drop,List.length_nil,List.length_cons];unfold maxLen;omega) (by simp only [List.length_append,List.length_map,List.length_take,List.length_drop,List.length_nil,List.length_cons];omega))<|?_
 refine XL.rowq (i:=31) (l':=(l.take (k+1)).map Tp.c) R (by rw [Bb hx0,List.map_append];rfl)<|zp (Aq R (by conv=>lhs;whnf))<|?_
 refine zng<|zp (Au R (by conv=>lhs;whnf))<|?_
 refine zm R R<|zm R R<|zp (F8 R R Ef (Bd.at R) Bd.no (by omega) (Nat.le_refl _))<|?_
 refine XL.step R (A4 R Lu (.own R) (Src.sl (by omega)) (by simp only [List.length_append,List.length_map,List.length_take,List.length_drop,List.length_nil,List.length_cons];unfold maxLen;omega) (by simp only [List.length_append,List.length_map,List.length_take,List.length_drop,List.length_nil,List.length_cons];omega))<|?_
 refine XL.rowq (i:=31) (l':=(l.take (k+1)).map Tp.c) R (by rw [List.take_length,List.drop_eq_nil_of_le (by omega),List.map_nil,List.append_nil])<|zp (Aq R (by conv=>lhs;whnf))<|?_
 refine zn<|Af (by kernel_rfl)<|XL.freeze (i:=31) R<|zm R R<|zp (Ak R R R (by omega) (by omega))<|za R R<|zn<|?_
 exact Al (k+1) (by omega) (by omega) (fz ⟨sr,sr,sr,sr,trivial⟩) (HSub.nil)
 have hk0b:k=l.length:=by omega
 have ht:l.take k=l:=by rw [hk0b,List.take_length]
 exact An<|zr<|zm R R<|za R R<|zn<|zt<|z1 R R (rSl (by rw [ht]))
def G1 (a c:Int) (t:Tp):Tp:=if a+c≤t.first then t.mv (-c) else t
theorem Aks {a c:Int} {t:Tp} (h:a+c≤t.first):G1 a c t=t.mv (-c):=by rw [G1,if_pos h]
theorem Akr {a c:Int} {t:Tp} (h:¬a+c≤t.first):G1 a c t=t:=by rw [G1,if_neg h]
theorem Arx (a c:Int) (t:Tp):(G1 a c t).count=t.count∧(G1 a c t).actual=t.actual∧(G1 a c t).normal=t.normal:=by unfold G1;split<;>exact ⟨rfl,rfl,rfl⟩
def H5 (a c e:Int):Int:=if e≤a then e else if e≤a+c then a else e - c
def Fw (t:Tp) (e:Int):Int:=max 0 (min (e - t.first) t.count)
def Js (a c:Int) (t:Tp) (e:Int):Int:=if t.first<e then (if a+c≤t.first then t.first - c else t.first) else 0
theorem Apz {a c:Int} (hc:0≤c) {s t:Tp} (hs:s.ok) (hfs:s.first+s.count≤a∨a+c≤s.first) (h:s.bef t):(G1 a c s).bef (G1 a c t):=by
 unfold Tp.ok at hs
 unfold Tp.bef at h ⊢
 unfold G1
 split
 ·split
  ·unfold Tp.mv;simp only;omega
  ·omega
 ·split
  ·unfold Tp.mv;simp only;omega
  ·exact h
theorem Ah8 {l:List Tp} {a c:Int} (hc:0≤c) (hok:∀t∈l,t.ok) (hf:∀t∈l,t.first+t.count≤a∨a+c≤t.first) (hs:l.Pairwise Tp.bef):(l.map (G1 a c)).Pairwise Tp.bef:=by
 rw [List.pairwise_map]
 exact List.Pairwise.imp_of_mem (fun {s t} h1 _ h=>Apz hc (hok s h1) (hf s h1) h) hs
theorem Lg {a a' b b':Int} {x y:S} (h1:a=a') (h2:b=b'):some (XO.box [.d (dI a), .d (dI b),x,y])=some (.box [.d (dI a'), .d (dI b'),x,y]):=by rw [h1,h2]
theorem Am4 {a c:Int} {t:Tp} {e:Nat} (he:e=128) (h0:0≤t.first) (h1:1≤t.count) (h2:t.first+t.count≤128): [dI (Js a c t (e:Nat)),dI (Fw t (e:Nat)),dI t.actual,dI t.normal]=Tp.c (G1 a c t):=by
 have e1:Fw t (e:Nat)=t.count:=by unfold Fw;omega
 rw [e1]
 by_cases q:a+c≤t.first
 ·rw [Aks q,Js,if_pos (by omega),if_pos q];rfl
 ·rw [Akr q,Js,if_pos (by omega),if_neg q];rfl
theorem Am3 {a c:Int} {l:List Tp} {k:Nat} {t u:Tp} (h:l[k]? =some t) (hu:G1 a c t=u):(l.take (k+1)).map (G1 a c)=(l.take k).map (G1 a c)++ [u]:=by
 rw [Bb h,List.map_append, ←hu];rfl
theorem Agv (l:List Tp) (a c:Int) (h:l.length≤1000) (ha:0≤a∧a≤1000) (hc:0≤c∧c≤1000) (hok:∀t∈l,t.ok) (he:∀t∈l,t.first+t.count≤128) (hf:∀t∈l,t.first+t.count≤a∨a+c≤t.first) (hs:l.Pairwise Tp.bef):XC Tryz.prog 67 [.sl 4 (l.map Tp.c),dI 128, .v (.int .i64 a), .v (.int .i64 c)] (fun r=>r= .sl 4 ((l.map (G1 a c)).map Tp.c)):=by
 refine Ap Ad0 Tryz.func67 R R lb<|zr<|za R R<|znr<|za R R<|zn<|zs<|zr<|za R R<|zn<|Ag<|C9 900 9 135 4 R<|?_
 refine Ax (α:=Nat) (fun k=>k≤l.length) (fun k=>mkF [(0, .d (.sl 4 (l.map Tp.c))),(1, .d (dI 128)),(2, .d (dI a)),(3, .d (dI c)),(8, .d (.v (.slice none 0 0))),(9, .own 900),(10, .d (dI k))]) (fun k=>mkH [(900, .row 135 4 (((l.take k).map (G1 a c)).map Tp.c))]) (fun k=>l.length - k) (0) (Nat.zero_le _) ?_ ?_ ?_
 exact fz ⟨sr,sr,sr,sr,sr,sr,sr,trivial⟩
 exact gz ⟨R,trivial⟩
 intro k hk0
 refine zs<|zr<|zm R R<|zm R R<|XL.len R R R Tryz.underlying98 fun hl16=>zp (At R R R)<|zn<|?_
 refine zd R (fun c17=> ?_) (fun c17=> ?_)
 have hk0a:k<l.length:=by omega
 obtain ⟨x0,hx0⟩:=As hk0a
 have htl:((l.take k).map (G1 a c)).length=k:=by rw [List.length_map,List.length_take];omega
 have hok0:=hok x0 (List.mem_of_getElem? hx0)
 have hok1:=hok0
 unfold Tp.ok at hok1
 have he0:=he x0 (List.mem_of_getElem? hx0)
 have hf0:=hf x0 (List.mem_of_getElem? hx0)
 obtain ⟨hd1,hd2,hd3⟩:=Arx a c x0
 refine zi<|zs<|Ag<|zs<|C1 12 [11] (by kernel_rfl) (by kernel_rfl) (by kernel_rfl) (by kernel_rfl) (by decide)<|ym R R<|ym R R<|yp (Aj R R R Ef hx0)<|yp (A7 R R Jd)<|yp (Aw R R Ah)<|ym R R<|ym R R<|yp (Aj R R R Ef hx0)<|yp (A7 R R Ki)<|?_
 refine yp (Aw R R Ah)<|yp (Ad (s':= .d (.agg [dI 0,dI 0,dI x0.actual,dI x0.normal])) (Ae (Bv R Ae9 Hh R)) (by kernel_rfl))<|ChK.cons R (CStep.allocN 11 (l:= [.d (dI 0), .d (dI 0), .d (dI 0), .d (dI 0)]) R Hh R R)<|?_
 refine ChK.nil ⟨by kernel_rfl, ?_⟩
 refine XL.step R (Ai (l':= [.d (dI 0), .d (dI 0), .d (dI x0.actual), .d (dI x0.normal)]) R R R R Jv R lb (by kernel_rfl))<|znr<|za R R<|zn<|zs<|zr<|za R R<|zn<|Ag<|?_
 refine Ax (α:=Nat) (fun e=>e≤128) (fun e=>mkF [(0, .d (.sl 4 (l.map Tp.c))),(1, .d (dI 128)),(2, .d (dI a)),(3, .d (dI c)),(8, .d (.v (.slice none 0 0))),(9, .own 900),(10, .d (dI k)),(11, .ptr 11 0 0),(12, .d (dI (H5 a c (e:Nat)))),(13, .d (dI (e:Nat)))]) (fun e=>mkH [(11, .box [.d (dI (Js a c x0 (e:Nat))), .d (dI (Fw x0 (e:Nat))), .d (dI x0.actual), .d (dI x0.normal)]),(900, .row 135 4 (((l.take k).map (G1 a c)).map Tp.c))]) (fun e=>128 - e) (0) (Nat.zero_le _) ?_ ?_ ?_
 exact fz ⟨sr,sr,sr,sr,sr,sr,sr,sr, .same (sI (by unfold H5;omega)),sr,trivial⟩
 exact gz ⟨by rw [show Js a c x0 ((0:Nat):Int)=0 by unfold Js;omega,show Fw x0 ((0:Nat):Int)=0 by unfold Fw;omega];rfl,rfl,trivial⟩
 intro e hk2
 refine zs<|zr<|zm R R<|zm R R<|zp (At R R R)<|zn<|?_
 refine zd R (fun c33=> ?_) (fun c33=> ?_)
 have hcb:0≤Fw x0 e∧Fw x0 e≤128:=by unfold Fw;omega
 have hnb:0≤H5 a c e∧H5 a c e≤128:=by unfold H5;omega
 refine zi<|zs<|Ag<|zs<|zr<|zm R R<|zm R R<|zp (Ed R R R)<|zm R R<|?_
 refine XL.dec 39 R (fun g39=> ?_) (fun g39=> ?_)
 refine zm R R<|zm R R<|zm R R<|zp (Ak R R R (by omega) (by omega))<|zp (At R R R)<|zq R R R<|zn<|?_
 refine zd R (fun c45=> ?_) (fun c45=> ?_)
 refine An<|Af (by kernel_rfl)<|zm R R<|zp (Ak R R R (by omega) (by omega))<|za R R<|zn<|?_
 exact Al (e+1) (by omega) (by omega) (fz ⟨sr,sr,sr,sr,sr,sr,sr,sr, .same (sI (by unfold H5;omega)),sr,trivial⟩) (gz ⟨Lg (by unfold Js;omega) (by unfold Fw;omega),R,trivial⟩)
 refine zi<|zs<|zr<|zm R R<|zm R R<|zp (Aj R R R Ef hx0)<|zp (Ad (s':= .d (.agg (Tp.c x0))) (Ar R R Dy lb) (by kernel_rfl))<|zm R R<|XL.call1 R R (Ln _ _ hok0) R<|zn<|?_
 refine zd R (fun c51=> ?_) (fun c51=> ?_)
 refine zs<|zr<|zp (Aa R R De)<|zp (Ab R R Ah R R)<|zp (Az R R R)<|zn<|?_
 refine zd R (fun c54=> ?_) (fun c54=> ?_)
 refine Af (by kernel_rfl)<|zm R R<|zp (Aa R R En)<|XL.step R (Ai (l':= [.d (dI (H5 a c (e:Nat))), .d (dI (Fw x0 (e:Nat))), .d (dI x0.actual), .d (dI x0.normal)]) R R R R C0 R lb (by kernel_rfl))<|zng<|zp (Aa R R De)<|zp (Ab R R Ah R R)<|zp (Ak R R R (by omega) (by omega))<|zp (Aa R R De)<|?_
 refine XL.step R (Ai (l':= [.d (dI (H5 a c (e:Nat))), .d (dI ((Fw x0 (e:Nat))+1)), .d (dI x0.actual), .d (dI x0.normal)]) R R R R C0 R lb (by kernel_rfl))<|zng<|zm R R<|zp (Ak R R R (by omega) (by omega))<|za R R<|zn<|Af (by kernel_rfl)<|zm R R<|zp (Ak R R R (by omega) (by omega))<|za R R<|zn<|?_
 exact Al (e+1) (by omega) (by omega) (fz ⟨sr,sr,sr,sr,sr,sr,sr,sr, .same (sI (by unfold H5;omega)),sr,trivial⟩) (gz ⟨Lg (by unfold Tp.has at c51;unfold Fw at c54;unfold Js;(try unfold H5);omega) (by unfold Tp.has at c51;unfold Fw;omega),R,trivial⟩)
 refine zi<|Af (by kernel_rfl)<|zp (Aa R R De)<|zp (Ab R R Ah R R)<|zp (Ak R R R (by omega) (by omega))<|zp (Aa R R De)<|XL.step R (Ai (l':= [.d (dI (Js a c x0 (e:Nat))), .d (dI ((Fw x0 (e:Nat))+1)), .d (dI x0.actual), .d (dI x0.normal)]) R R R R C0 R lb (by kernel_rfl))<|zng<|zm R R<|zp (Ak R R R (by omega) (by omega))<|za R R<|zn<|?_
 refine Af (by kernel_rfl)<|zm R R<|zp (Ak R R R (by omega) (by omega))<|za R R<|zn<|?_
 exact Al (e+1) (by omega) (by omega) (fz ⟨sr,sr,sr,sr,sr,sr,sr,sr, .same (sI (by unfold H5;omega)),sr,trivial⟩) (gz ⟨Lg (by unfold Tp.has at c51;unfold Fw at c54;unfold Js;(try unfold H5);omega) (by unfold Tp.has at c51;unfold Fw;omega),R,trivial⟩)
 refine zi<|Af (by kernel_rfl)<|zm R R<|zp (Ak R R R (by omega) (by omega))<|za R R<|zn<|Af (by kernel_rfl)<|zm R R<|zp (Ak R R R (by omega) (by omega))<|za R R<|zn<|?_
 exact Al (e+1) (by omega) (by omega) (fz ⟨sr,sr,sr,sr,sr,sr,sr,sr, .same (sI (by unfold H5;omega)),sr,trivial⟩) (gz ⟨Lg (by unfold Tp.has at c51;unfold Js;omega) (by unfold Tp.has at c51;unfold Fw;omega),R,trivial⟩)
 refine zk 5 R<|zq R R R<|zn<|A3 (by kernel_rfl) R<|zi<|zs<|zr<|zm R R<|zm R R<|zp (Aj R R R Ef hx0)<|zp (Ad (s':= .d (.agg (Tp.c x0))) (Ar R R Dy lb) (by kernel_rfl))<|zm R R<|XL.call1 R R (Ln _ _ hok0) R<|zn<|?_
 refine zd R (fun c51=> ?_) (fun c51=> ?_)
 refine zs<|zr<|zp (Aa R R De)<|zp (Ab R R Ah R R)<|zp (Az R R R)<|zn<|?_
 refine zd R (fun c54=> ?_) (fun c54=> ?_)
 refine Af (by kernel_rfl)<|zm R R<|zp (Aa R R En)<|XL.step R (Ai (l':= [.d (dI (H5 a c (e:Nat))), .d (dI (Fw x0 (e:Nat))), .d (dI x0.actual), .d (dI x0.normal)]) R R R R C0 R lb (by kernel_rfl))<|zng<|zp (Aa R R De)<|zp (Ab R R Ah R R)<|zp (Ak R R R (by omega) (by omega))<|zp (Aa R R De)<|?_
 refine XL.step R (Ai (l':= [.d (dI (H5 a c (e:Nat))), .d (dI ((Fw x0 (e:Nat))+1)), .d (dI x0.actual), .d (dI x0.normal)]) R R R R C0 R lb (by kernel_rfl))<|zng<|zm R R<|zp (Ak R R R (by omega) (by omega))<|za R R<|zn<|Af (by kernel_rfl)<|zm R R<|zp (Ak R R R (by omega) (by omega))<|za R R<|zn<|?_
 exact Al (e+1) (by omega) (by omega) (fz ⟨sr,sr,sr,sr,sr,sr,sr,sr, .same (sI (by unfold H5;omega)),sr,trivial⟩) (gz ⟨Lg (by unfold Tp.has at c51;unfold Fw at c54;unfold Js;(try unfold H5);omega) (by unfold Tp.has at c51;unfold Fw;omega),R,trivial⟩)
 refine zi<|Af (by kernel_rfl)<|zp (Aa R R De)<|zp (Ab R R Ah R R)<|zp (Ak R R R (by omega) (by omega))<|zp (Aa R R De)<|XL.step R (Ai (l':= [.d (dI (Js a c x0 (e:Nat))), .d (dI ((Fw x0 (e:Nat))+1)), .d (dI x0.actual), .d (dI x0.normal)]) R R R R C0 R lb (by kernel_rfl))<|zng<|zm R R<|zp (Ak R R R (by omega) (by omega))<|za R R<|zn<|?_
 refine Af (by kernel_rfl)<|zm R R<|zp (Ak R R R (by omega) (by omega))<|za R R<|zn<|?_
 exact Al (e+1) (by omega) (by omega) (fz ⟨sr,sr,sr,sr,sr,sr,sr,sr, .same (sI (by unfold H5;omega)),sr,trivial⟩) (gz ⟨Lg (by unfold Tp.has at c51;unfold Fw at c54;unfold Js;(try unfold H5);omega) (by unfold Tp.has at c51;unfold Fw;omega),R,trivial⟩)
 refine zi<|Af (by kernel_rfl)<|zm R R<|zp (Ak R R R (by omega) (by omega))<|za R R<|zn<|Af (by kernel_rfl)<|zm R R<|zp (Ak R R R (by omega) (by omega))<|za R R<|zn<|?_
 exact Al (e+1) (by omega) (by omega) (fz ⟨sr,sr,sr,sr,sr,sr,sr,sr, .same (sI (by unfold H5;omega)),sr,trivial⟩) (gz ⟨Lg (by unfold Tp.has at c51;unfold Js;omega) (by unfold Tp.has at c51;unfold Fw;omega),R,trivial⟩)
 have he128:e=128:=by omega
 refine An<|zr<|zp (Aa R R De)<|zp (Ab R R Ah R R)<|zp (A6 R R R)<|zn<|?_
 refine zd R (fun c65=> ?_) (fun c65=> ?_)
 refine Af (by kernel_rfl)<|zp (Au R (by conv=>lhs;whnf))<|?_
 refine zp (Ad (s':= .d (.agg [dI (Js a c x0 (e:Nat)),dI (Fw x0 (e:Nat)),dI x0.actual,dI x0.normal])) (Ae (Ac R R Dy R lb)) (by kernel_rfl))<|XL.step R (Bi 68 R Tryz.underlying98 Jv Hh R R (by omega) (by omega))<|XL.step R (A4 R Lu (.own R) (Src.own R) (by unfold maxLen;simp;omega) (by simp;omega))<|?_
 refine zp (Aq R (by conv=>lhs;whnf))<|?_
 refine zn<|Af (by kernel_rfl)<|zm R R<|zp (Ak R R R (by omega) (by omega))<|za R R<|zn<|?_
 exact Al (k+1) (by omega) (by omega) (fz ⟨sr,sr,sr,sr,sr,sr,sr,trivial⟩) (gz ⟨E7 (Am4 (by omega) (by omega) (by omega) (by omega)) (Am3 hx0 R),trivial⟩)
 refine zi<|Af (by kernel_rfl)<|zm R R<|zp (Ak R R R (by omega) (by omega))<|za R R<|zn<|?_
 exfalso;unfold Fw at c65;omega
 have hk0b:k=l.length:=by omega
 have ht:l.take k=l:=by rw [hk0b,List.take_length]
 have hsd:=Ah8 hc.1 hok hf hs
 have hld:(l.map (G1 a c)).length≤1000:=by rw [List.length_map];exact h
 rw [ht]
 refine An<|zr<|zp (Au R (by conv=>lhs;whnf))<|?_
 exact XL.freeze (i:=900) R<|XL.call1 R R (Aly _ hld hsd) R<|za R R<|zn<|zt<|z1 R R (rSl R)
end Go.Proofs.YtcihalbakenleaaGreat
namespace Go.Proofs.YtcihalbakenleaaGreat
open Go.RowKit
def Ev.folC (a b:Ev) (s:Int):Prop:=a.heads.length=b.heads.length∧b.graces= []∧b.lyr= []∧b.art=0∧b.orn=0∧b.dyn=0∧b.beam=0∧b.stem=s∧∀(j:Nat) (x y:Hd),a.heads[j]? =some x→b.heads[j]? =some y→x.tied=true∧x.p=y.p∧y.sh=0
def Ev.fol (a b:Ev) (s:Int):Prop:=a.kind=b.kind∧a.kind≠3∧(a.kind≠1→a.dyn=0∧a.art=0∧b.dyn=0∧b.art=0)∧(a.kind=1→a.folC b s)
open Classical in
noncomputable def Ev.folB (a b:Ev) (s:Int):Bool:=decide (a.fol b s)
open Classical in
theorem Fq {a b:Ev} {s:Int} (h:¬a.fol b s):false=a.folB b s:=by unfold Ev.folB;exact (decide_eq_false h).symm
open Classical in
theorem Ams {a b:Ev} {s:Int} (h:a.fol b s):true=a.folB b s:=by unfold Ev.folB;exact (decide_eq_true h).symm
open Classical in
theorem Amt {a b:Ev} {s:Int} {p:Prop} [Decidable p] (h:p↔a.fol b s):decide p=a.folB b s:=by unfold Ev.folB;exact decide_eq_decide.2 h
open Classical in
theorem Ari {a b:Ev} {s:Int} (h:a.folB b s=true):a.fol b s:=by unfold Ev.folB at h;exact of_decide_eq_true h
open Classical in
theorem Arj {a b:Ev} {s:Int} (h:a.folB b s=false):¬a.fol b s:=by unfold Ev.folB at h;exact of_decide_eq_false h
theorem Afq {α:Type} {l:List α} (h:¬0<(l.length:Int)):l= []:=List.eq_nil_of_length_eq_zero (by omega)
theorem Ahx (a b:Ev) (s:Int):XC Tryz.prog 110 [.agg (Ev.c a), .agg (Ev.c b), .v (.int .i64 s)] (fun r=>r=dB (a.folB b s)):=by
 refine Ap Ab3 Tryz.func110 R R lb<|zr<|XL.step R (Ay 3 (l:= [.d (dI a.site), .d (dI a.num), .d (dI a.kind), .d (dI a.v.log), .d (dI a.v.dots), .d (.sl 5 (a.heads.map Hd.c)), .d (.sl 5 (a.graces.map Gr.c)), .d (dI a.art), .d (dI a.orn), .d (dI a.dyn), .d (.sl 2 (a.lyr.map Sy.c)), .d (dI a.stem), .d (dI a.beam)]) R R (by kernel_rfl))<|?_
 refine XL.step R (Ay 4 (l:= [.d (dI b.site), .d (dI b.num), .d (dI b.kind), .d (dI b.v.log), .d (dI b.v.dots), .d (.sl 5 (b.heads.map Hd.c)), .d (.sl 5 (b.graces.map Gr.c)), .d (dI b.art), .d (dI b.orn), .d (dI b.dyn), .d (.sl 2 (b.lyr.map Sy.c)), .d (dI b.stem), .d (dI b.beam)]) R R (by kernel_rfl))<|za R R<|zn<|zs<|zr<|zp (Aa R R Bp)<|zp (Ab R R Ah R R)<|?_
 refine zp (Aa R R Bp)<|zp (Ab R R Ah R R)<|zp (Bc R R R)<|zm R R<|?_
 refine XL.dec 13 R (fun g13=> ?_) (fun g13=> ?_)
 exact zk 3 R<|zq R R R<|zn<|Ao (by kernel_rfl) R<|zr<|za R R<|zn<|zt<|z1 R R (rB (Fq (fun h=>g13 h.1)))
 refine zp (Aa R R Bp)<|zp (Ab R R Ah R R)<|zp (Az R R R)<|zq R R R<|zn<|?_
 refine zd R (fun c17=> ?_) (fun c17=> ?_)
 exact zr<|za R R<|zn<|zt<|z1 R R (rB (Fq (fun h=>h.2.1 c17)))
 refine zi<|zs<|zr<|zp (Aa R R Bp)<|zp (Ab R R Ah R R)<|zp (Bc R R R)<|zn<|?_
 refine zd R (fun c20=> ?_) (fun c20=> ?_)
 refine zr<|zp (Aa R R D2)<|zp (Ab R R Ah R R)<|zp (Az R R R)<|zm R R<|?_
 refine XL.dec 24 R (fun g24=> ?_) (fun g24=> ?_)
 refine zp (Aa R R Cw)<|zp (Ab R R Ah R R)<|zp (Az R R R)<|zq R R R<|zm R R<|?_
 refine XL.dec 29 R (fun g29=> ?_) (fun g29=> ?_)
 refine zp (Aa R R D2)<|zp (Ab R R Ah R R)<|zp (Az R R R)<|zq R R R<|zm R R<|?_
 refine XL.dec 34 R (fun g34=> ?_) (fun g34=> ?_)
 exact zp (Aa R R Cw)<|zp (Ab R R Ah R R)<|zp (Az R R R)<|zq R R R<|za R R<|zn<|zt<|z1 R R (rB (Amt ⟨fun h=>⟨by omega,by omega,fun _=>⟨g24,g29,g34,h⟩,fun k=>absurd k c20⟩,fun h=>(h.2.2.1 c20).2.2.2⟩))
 exact zk 3 R<|zq R R R<|za R R<|zn<|zt<|z1 R R (rB (Fq (fun h=>by have:=h.2.2.1 c20;omega)))
 exact zk 3 R<|zq R R R<|zm R R<|zk 3 R<|zq R R R<|za R R<|zn<|zt<|z1 R R (rB (Fq (fun h=>by have:=h.2.2.1 c20;omega)))
 exact zk 3 R<|zq R R R<|zm R R<|zk 3 R<|zq R R R<|zm R R<|zk 3 R<|zq R R R<|za R R<|zn<|zt<|z1 R R (rB (Fq (fun h=>by have:=h.2.2.1 c20;omega)))
 refine zi<|zs<|zr<|zp (Aa R R Ba)<|zp (Ab R R Cn R R)<|XL.len R R R Tryz.underlying48 fun hl41=>zp (Aa R R Ba)<|zp (Ab R R Cn R R)<|XL.len R R R Tryz.underlying48 fun hl44=>zp (Bc R R R)<|zm R R<|?_
 refine XL.dec 46 R (fun g46=> ?_) (fun g46=> ?_)
 refine zk 4 R<|zq R R R<|zm R R<|zk 4 R<|zq R R R<|zm R R<|zk 3 R<|zq R R R<|zm R R<|zk 3 R<|zq R R R<|zm R R<|zk 3 R<|zq R R R<|?_
 exact zm R R<|zk 3 R<|zq R R R<|zm R R<|zk 4 R<|zq R R R<|zn<|Ao (by kernel_rfl) R<|zr<|za R R<|zn<|zt<|z1 R R (rB (Fq (fun h=>g46 (by have q:=h.2.2.2 (by omega);exact congrArg _ q.1))))
 refine zp (Aa R R El)<|zp (Ab R R Ih R R)<|XL.len R R R Tryz.underlying57 fun hl49=>zp (A6 R R R)<|zq R R R<|zm R R<|?_
 refine XL.dec 52 R (fun g52=> ?_) (fun g52=> ?_)
 refine zk 4 R<|zq R R R<|zm R R<|zk 3 R<|zq R R R<|zm R R<|zk 3 R<|zq R R R<|zm R R<|zk 3 R<|zq R R R<|zm R R<|zk 3 R<|zq R R R<|?_
 exact zm R R<|zk 4 R<|zq R R R<|zn<|Ao (by kernel_rfl) R<|zr<|za R R<|zn<|zt<|z1 R R (rB (Fq (fun h=>by have q:=h.2.2.2 (by omega);rw [q.2.1] at g52;exact absurd g52 (by decide))))
 refine zp (Aa R R Ek)<|zp (Ab R R Ig R R)<|XL.len R R R Tryz.underlying58 fun hl55=>zp (A6 R R R)<|zq R R R<|zm R R<|?_
 refine XL.dec 58 R (fun g58=> ?_) (fun g58=> ?_)
 refine zk 3 R<|zq R R R<|zm R R<|zk 3 R<|zq R R R<|zm R R<|zk 3 R<|zq R R R<|zm R R<|zk 3 R<|zq R R R<|zm R R<|zk 4 R<|zq R R R<|?_
 exact zn<|Ao (by kernel_rfl) R<|zr<|za R R<|zn<|zt<|z1 R R (rB (Fq (fun h=>by have q:=h.2.2.2 (by omega);rw [q.2.2.1] at g58;exact absurd g58 (by decide))))
 refine zp (Aa R R Cw)<|zp (Ab R R Ah R R)<|zp (Bc R R R)<|zq R R R<|zm R R<|?_
 refine XL.dec 63 R (fun g63=> ?_) (fun g63=> ?_)
 refine zk 3 R<|zq R R R<|zm R R<|zk 3 R<|zq R R R<|zm R R<|zk 3 R<|zq R R R<|zm R R<|zk 4 R<|zq R R R<|zn<|Ao (by kernel_rfl) R<|zr<|?_
 exact za R R<|zn<|zt<|z1 R R (rB (Fq (fun h=>by have q:=h.2.2.2 (by omega);have:=q.2.2.2;omega)))
 refine zp (Aa R R F2)<|zp (Ab R R Ah R R)<|zp (Bc R R R)<|zq R R R<|zm R R<|?_
 refine XL.dec 68 R (fun g68=> ?_) (fun g68=> ?_)
 exact zk 3 R<|zq R R R<|zm R R<|zk 3 R<|zq R R R<|zm R R<|zk 4 R<|zq R R R<|zn<|Ao (by kernel_rfl) R<|zr<|za R R<|zn<|zt<|z1 R R (rB (Fq (fun h=>by have q:=h.2.2.2 (by omega);have:=q.2.2.2;omega)))
 refine zp (Aa R R D2)<|zp (Ab R R Ah R R)<|zp (Bc R R R)<|zq R R R<|zm R R<|?_
 refine XL.dec 73 R (fun g73=> ?_) (fun g73=> ?_)
 exact zk 3 R<|zq R R R<|zm R R<|zk 4 R<|zq R R R<|zn<|Ao (by kernel_rfl) R<|zr<|za R R<|zn<|zt<|z1 R R (rB (Fq (fun h=>by have q:=h.2.2.2 (by omega);have:=q.2.2.2;omega)))
 refine zp (Aa R R Fb)<|zp (Ab R R Ah R R)<|zp (Bc R R R)<|zq R R R<|zm R R<|?_
 refine XL.dec 78 R (fun g78=> ?_) (fun g78=> ?_)
 exact zk 4 R<|zq R R R<|zn<|Ao (by kernel_rfl) R<|zr<|za R R<|zn<|zt<|z1 R R (rB (Fq (fun h=>by have q:=h.2.2.2 (by omega);have:=q.2.2.2;omega)))
 refine zp (Aa R R Do)<|zp (Ab R R Ah R R)<|zm R R<|zp (Bc R R R)<|zq R R R<|zn<|?_
 refine zd R (fun c83=> ?_) (fun c83=> ?_)
 exact zr<|za R R<|zn<|zt<|z1 R R (rB (Fq (fun h=>by have q:=h.2.2.2 (by omega);have:=q.2.2.2;omega)))
 refine zi<|zs<|zr<|za R R<|zn<|Ag<|?_
 refine Ax (α:=Nat) (fun k=>k≤a.heads.length∧∀(j:Nat) (x y:Hd),j<k→a.heads[j]? =some x→b.heads[j]? =some y→x.tied=true∧x.p=y.p∧y.sh=0) (fun k=>mkF [(3, .ptr 3 0 0),(4, .ptr 4 0 0),(7, .d (dI k))]) (fun k=>mkH [(3, .box ((Ev.c a).map S.d)),(4, .box ((Ev.c b).map S.d))]) (fun k=>a.heads.length - k) (0) (⟨Nat.zero_le _,fun j x y hj=>absurd hj (Nat.not_lt_zero _)⟩) ?_ ?_ ?_
 exact fz ⟨sr,sr,sr,trivial⟩
 exact gz ⟨R,R,trivial⟩
 intro k hk0
 obtain ⟨hk,hall⟩:=hk0
 refine zs<|zr<|zm R R<|zp (Aa R R Ba)<|zp (Ab R R Cn R R)<|XL.len R R R Tryz.underlying48 fun hl87=>zp (At R R R)<|zn<|?_
 refine zd R (fun c88=> ?_) (fun c88=> ?_)
 have hk0a:k<a.heads.length:=by omega
 obtain ⟨x0,hx0⟩:=As hk0a
 obtain ⟨b0,hb⟩:∃b0,b.heads[k]? =some b0:=As (by omega)
 refine zi<|zs<|Ag<|zs<|?_
 by_cases q96:x0.tied=true
 by_cases q111:¬(x0.p.step=b0.p.step∧x0.p.alter=b0.p.alter∧x0.p.oct=b0.p.oct)
 refine A8 [] (by kernel_rfl) (by kernel_rfl) (by kernel_rfl) (by decide)<|yp (Aa R R Ba)<|yp (Ab R R Cn R R)<|ym R R<|yp (Aj R R R D9 hx0)<|yp (A7 R R Gk)<|yp (Al8 (Aw R R K1) q96)<|yp (Cr R R)<|ym R R<|yp (Aa R R Ba)<|yp (Ab R R Cn R R)<|ym R R<|yp (Aj R R R D9 hx0)<|yp (A7 R R F1)<|?_
 refine yp (Ad (s':= .d (.agg (Pit.c x0.p))) (Ar R R Eo lb) (by kernel_rfl))<|yp (Aa R R Ba)<|yp (Ab R R Cn R R)<|ym R R<|yp (Aj R R R D9 (hb))<|yp (A7 R R F1)<|yp (Ad (s':= .d (.agg (Pit.c b0.p))) (Ar R R Eo lb) (by kernel_rfl))<|yp (Dd (Sv R R R) (q111))<|yp (Av R R (by conv=>lhs;whnf))<|?_
 refine ym R R<|ChK.skip R<|ChK.skip R<|ChK.skip R<|ChK.skip R<|ChK.skip R<|ChK.skip R<|ChK.skip R<|yp (Av R R (by conv=>lhs;whnf))<|?_
 refine ChK.nil ⟨by kernel_rfl, ?_⟩
 exact Ao (by kernel_rfl) R<|zr<|za R R<|zn<|zt<|z1 R R (rB (Fq (fun h=>q111 (by have:=((h.2.2.2 (by omega)).2.2.2.2.2.2.2.2 k x0 b0 hx0 hb).2.1;rw [this];exact ⟨rfl,rfl,rfl⟩))))
 refine A8 [] (by kernel_rfl) (by kernel_rfl) (by kernel_rfl) (by decide)<|yp (Aa R R Ba)<|yp (Ab R R Cn R R)<|ym R R<|yp (Aj R R R D9 hx0)<|yp (A7 R R Gk)<|yp (Al8 (Aw R R K1) q96)<|yp (Cr R R)<|ym R R<|yp (Aa R R Ba)<|yp (Ab R R Cn R R)<|ym R R<|yp (Aj R R R D9 hx0)<|yp (A7 R R F1)<|?_
 refine yp (Ad (s':= .d (.agg (Pit.c x0.p))) (Ar R R Eo lb) (by kernel_rfl))<|yp (Aa R R Ba)<|yp (Ab R R Cn R R)<|ym R R<|yp (Aj R R R D9 (hb))<|yp (A7 R R F1)<|yp (Ad (s':= .d (.agg (Pit.c b0.p))) (Ar R R Eo lb) (by kernel_rfl))<|yp (Fu (Sv R R R) (q111))<|yp (Av R R (by conv=>lhs;whnf))<|?_
 refine ym R R<|yp (Aa R R Ba)<|yp (Ab R R Cn R R)<|ym R R<|yp (Aj R R R D9 (hb))<|yp (A7 R R M9)<|yp (Aw R R Ah)<|yp (Bc R R R)<|yp (Av R R (by conv=>lhs;whnf))<|?_
 refine ChK.nil ⟨by kernel_rfl, ?_⟩
 refine zd R (fun c121=> ?_) (fun c121=> ?_)
 exact zr<|za R R<|zn<|zt<|z1 R R (rB (Fq (fun h=>c121 ((h.2.2.2 (by omega)).2.2.2.2.2.2.2.2 k x0 b0 hx0 hb).2.2)))
 refine zi<|Af (by kernel_rfl)<|zm R R<|zp (Ak R R R (by omega) (by omega))<|za R R<|zn<|?_
 exact Al (k+1) (⟨by omega,fun j x y hj hx hy=>by by_cases e:j=k;(· subst e;rw [hx0] at hx;rw [hb] at hy;cases hx;cases hy;exact ⟨q96,Pit.eq_of (Decidable.not_not.1 q111),by omega⟩);(· exact hall j x y (by omega) hx hy)⟩) (by omega) (fz ⟨sr,sr,sr,trivial⟩) (gz ⟨rfl,rfl,trivial⟩)
 refine A8 [] (by kernel_rfl) (by kernel_rfl) (by kernel_rfl) (by decide)<|yp (Aa R R Ba)<|yp (Ab R R Cn R R)<|ym R R<|yp (Aj R R R D9 hx0)<|yp (A7 R R Gk)<|yp (Aq0 (Aw R R K1) q96)<|yp (Cr R R)<|ym R R<|ChK.skip R<|ChK.skip R<|ChK.skip R<|ChK.skip R<|ChK.skip R<|?_
 refine ChK.skip R<|ChK.skip R<|ChK.skip R<|ChK.skip R<|ChK.skip R<|ChK.skip R<|ChK.skip R<|ChK.skip R<|yp (Av R R (by conv=>lhs;whnf))<|?_
 refine ym R R<|ChK.skip R<|ChK.skip R<|ChK.skip R<|ChK.skip R<|ChK.skip R<|ChK.skip R<|ChK.skip R<|yp (Av R R (by conv=>lhs;whnf))<|?_
 refine ChK.nil ⟨by kernel_rfl, ?_⟩
 exact Ao (by kernel_rfl) R<|zr<|za R R<|zn<|zt<|z1 R R (rB (Fq (fun h=>q96 ((h.2.2.2 (by omega)).2.2.2.2.2.2.2.2 k x0 b0 hx0 hb).1)))
 have hk0b:k=a.heads.length:=by omega
 have hfc:a.folC b s:=⟨by omega,Afq g52,Afq g58,by omega,by omega,by omega,by omega,by omega,fun j x y hx hy=>hall j x y (by have:=(List.getElem?_eq_some_iff.1 hx).1;omega) hx hy⟩
 exact An<|zr<|za R R<|zn<|zt<|z1 R R (rB (Ams ⟨by omega,by omega,fun h=>absurd (by omega) h,fun _=>hfc⟩))
theorem Wy {x y:Ev} {s:Int} (hx:x.err=0):x.fol y s↔Jl x y s:=by
 have hk:=(err_iff.1 hx).2.1
 constructor
 ·rintro ⟨h1,h2,h3,h4⟩
  by_cases c:x.kind=1
  ·obtain ⟨k1,k2,k3,k4,k5,k6,k7,k8,k9⟩:=h4 c
   refine .inr (conts_iff.2 ⟨c,k1,fun j a b ha hb=>⟨(k9 j a b ha hb).1,(k9 j a b ha hb).2.1⟩,by omega,fun h hh=> ?_,k2,k4,k5,k6,k3,k8,k7⟩)
   obtain ⟨j,hj⟩:=List.getElem?_of_mem hh
   obtain ⟨a,ha⟩:∃a,x.heads[j]? =some a:=As (by have:=(List.getElem?_eq_some_iff.1 hj).1;omega)
   exact (k9 j a h ha hj).2.2
  ·have:=h3 c
   refine .inl ⟨⟨?_, ?_⟩,h1⟩
   ·unfold Ev.silent;omega
   ·unfold Ev.silent;omega
 ·rintro (⟨⟨h1,h2⟩,h3⟩|h)
  ·unfold Ev.silent at h1 h2
   exact ⟨h3,by omega,fun _=>by omega,fun k=>by omega⟩
  ·obtain ⟨h1,h2,h3,k1,k2,k3,k4,k5,k6,k7,k8,k9⟩:=conts_iff.1 h
   exact ⟨by omega,by omega,fun k=>absurd h1 k,fun _=>⟨h2,k3,k7,k4,k5,k6,k9,k8,fun j a b ha hb=>⟨(h3 j a b ha hb).1,(h3 j a b ha hb).2,k2 b (List.mem_of_getElem? hb)⟩⟩⟩
theorem Qh {l:List Tp} {n:Int} (hl:∀t∈l,t.ok):XC Tryz.prog 50 [.sl 4 (l.map Tp.c),dI n] (fun r=>r=dB (decide (L4 l n=true))):=by
 have:=Aow l n hl
 rwa [show L4 l n=decide (L4 l n=true) by simp] at this
theorem Zd {v:Vo} {L:Int} (hck:ckE v L=0) {k:Nat} (h:L4 v.tups k=true):¬Cy v k:=fun hf=>by
 have:=(Ip hck k).1 hf
 rw [←Afv this.2] at h
 exact absurd h (by simp)
theorem Zm {v:Vo} {L:Int} (hck:ckE v L=0) {k:Nat} (hk:k<v.evs.length) (h:¬L4 v.tups k=true):Cy v k:=
 (Ip hck k).2 ⟨hk,fun t ht hh=>h (by obtain ⟨j,hj⟩:=List.getElem?_of_mem ht;exact (Ze hj hh).symm)⟩
theorem Tu {v:Vo} {i n:Nat} (h1:i+1≤n) (h2:n≤Am v i) (h:¬((Cy v i∧Cy v n)∧Ee v i n)):(n:Int)=(Am v i:Nat):=by
 rcases Nat.lt_or_eq_of_le h2 with k|k
 ·exact absurd (Oj (by omega) k) h
 ·rw [k]
theorem Aov {v:Vo} {i n:Nat} (h2:n≤Am v i) (h:(Cy v i∧Cy v n)∧Ee v i n):n+1≤Am v i:=by
 rcases Nat.lt_or_eq_of_le h2 with k|k
 ·exact k
 ·rw [k] at h;exact absurd h (Nm v i)
theorem Ai5 (v:Vo) (L:Int) (i:Nat) (hck:ckE v L=0) (hi:i<v.evs.length):XC Tryz.prog 66 [.agg (Vo.c v), .v (.int .i64 (i:Nat))] (fun r=>r=dI (Am v i:Nat)):=by
 have hok:=Af9 hck
 have hE:=(Kk hck).1
 have hev:=(Lv hck).2
 obtain ⟨hr1,hr2⟩:=I6 hi
 refine Ap Ad1 Tryz.func66 R R lb<|zr<|XL.step R (Ay 2 (l:= [.d (.sl 13 (v.evs.map Ev.c)), .d (.sl 4 (v.tups.map Tp.c))]) R R (by kernel_rfl))<|za R R<|znr<|zm R R<|zp (Ak R R R (by omega) (by omega))<|za R R<|zn<|zs<|Ag<|?_
 refine Ax (α:=Nat) (fun n=>i+1≤n∧n≤Am v i) (fun n=>mkF [(1, .d (dI (i:Nat))),(2, .ptr 2 0 0),(4, .d (dI 0)),(5, .d (dI (n:Nat)))]) (fun n=>mkH [(2, .box ((Vo.c v).map S.d))]) (fun n=>v.evs.length - n) (i+1) (⟨Nat.le_refl _,hr1⟩) ?_ ?_ ?_
 exact fz ⟨sr,sr,sr, .same (sI (by omega)),trivial⟩
 exact gz ⟨R,trivial⟩
 intro n hk0
 obtain ⟨hn1,hn2⟩:=hk0
 refine zs<|zs<|?_
 by_cases q12:((n:Nat):Int)<(v.evs.length:Int)
 by_cases q17:(L4 v.tups (i:Nat)=true)
 refine A8 [] (by kernel_rfl) (by kernel_rfl) (by kernel_rfl) (by decide)<|ym R R<|yp (Aa R R A0)<|yp (Ab R R Bl R R)<|yp (Qj R R Tryz.underlying22)<|yp (Dd (At R R R) (q12))<|ym R R<|yp (Aa R R B0)<|yp (Ab R R Bz R R)<|ym R R<|ChK.cons R (CStep.call R (P7 (Qh hok) q17) R)<|yp (Cr R R)<|yp (Av R R (by conv=>lhs;whnf))<|?_
 refine ym R R<|ChK.skip R<|ChK.skip R<|ChK.skip R<|ChK.skip R<|ChK.skip R<|yp (Av R R (by conv=>lhs;whnf))<|?_
 refine ym R R<|ChK.skip R<|ChK.skip R<|ChK.skip R<|ChK.skip R<|ChK.skip R<|ChK.skip R<|ChK.skip R<|ChK.skip R<|ChK.skip R<|ChK.skip R<|ChK.skip R<|ChK.skip R<|ChK.skip R<|?_
 refine ChK.skip R<|ChK.skip R<|ChK.skip R<|ChK.skip R<|ChK.skip R<|yp (Av R R (by conv=>lhs;whnf))<|?_
 refine ChK.nil ⟨by kernel_rfl, ?_⟩
 exact A3 (by kernel_rfl) R<|An<|zr<|zm R R<|za R R<|zn<|zt<|z1 R R (rI (Tu hn1 hn2 (fun h=>Zd hck q17 h.1.1)))
 by_cases q24:(L4 v.tups (n:Nat)=true)
 refine A8 [] (by kernel_rfl) (by kernel_rfl) (by kernel_rfl) (by decide)<|ym R R<|yp (Aa R R A0)<|yp (Ab R R Bl R R)<|yp (Qj R R Tryz.underlying22)<|yp (Dd (At R R R) (q12))<|ym R R<|yp (Aa R R B0)<|yp (Ab R R Bz R R)<|ym R R<|ChK.cons R (CStep.call R (Xg (Qh hok) q17) R)<|yp (Cr R R)<|yp (Av R R (by conv=>lhs;whnf))<|?_
 refine ym R R<|yp (Aa R R B0)<|yp (Ab R R Bz R R)<|ym R R<|ChK.cons R (CStep.call R (P7 (Qh hok) q24) R)<|yp (Cr R R)<|yp (Av R R (by conv=>lhs;whnf))<|?_
 refine ym R R<|ChK.skip R<|ChK.skip R<|ChK.skip R<|ChK.skip R<|ChK.skip R<|ChK.skip R<|ChK.skip R<|ChK.skip R<|ChK.skip R<|ChK.skip R<|ChK.skip R<|ChK.skip R<|ChK.skip R<|?_
 refine ChK.skip R<|ChK.skip R<|ChK.skip R<|ChK.skip R<|ChK.skip R<|yp (Av R R (by conv=>lhs;whnf))<|?_
 refine ChK.nil ⟨by kernel_rfl, ?_⟩
 exact A3 (by kernel_rfl) R<|An<|zr<|zm R R<|za R R<|zn<|zt<|z1 R R (rI (Tu hn1 hn2 (fun h=>Zd hck q24 h.1.2)))
 obtain ⟨x,hx⟩:∃x,v.evs[n - 1]? =some x:=As (by omega)
 obtain ⟨y,hy⟩:∃y,v.evs[n]? =some y:=As (by omega)
 obtain ⟨z,hz⟩:∃z,v.evs[i]? =some z:=As hi
 have hxe:=hE x (List.mem_of_getElem? hx)
 refine A8 [] (by kernel_rfl) (by kernel_rfl) (by kernel_rfl) (by decide)<|ym R R<|yp (Aa R R A0)<|yp (Ab R R Bl R R)<|yp (Qj R R Tryz.underlying22)<|yp (Dd (At R R R) (q12))<|ym R R<|yp (Aa R R B0)<|yp (Ab R R Bz R R)<|ym R R<|ChK.cons R (CStep.call R (Xg (Qh hok) q17) R)<|yp (Cr R R)<|yp (Av R R (by conv=>lhs;whnf))<|?_
 refine ym R R<|yp (Aa R R B0)<|yp (Ab R R Bz R R)<|ym R R<|ChK.cons R (CStep.call R (Xg (Qh hok) q24) R)<|yp (Cr R R)<|yp (Av R R (by conv=>lhs;whnf))<|?_
 refine ym R R<|yp (Aa R R A0)<|yp (Ab R R Bl R R)<|ym R R<|yp (C7 R R R (by omega) (by omega))<|yp (Dl R R R (by omega) Cv (hx))<|yp (Ad (s':= .d (.agg (Ev.c x))) (Ar R R A1 lb) (by kernel_rfl))<|yp (Aa R R A0)<|yp (Ab R R Bl R R)<|ym R R<|yp (Aj R R R Cv (hy))<|?_
 refine yp (Ad (s':= .d (.agg (Ev.c y))) (Ar R R A1 lb) (by kernel_rfl))<|yp (Aa R R A0)<|yp (Ab R R Bl R R)<|ym R R<|yp (Aj R R R Cv (hz))<|yp (A7 R R Do)<|yp (Aw R R Ah)<|ChK.cons R (CStep.call R (Ahx _ _ _) R)<|yp (Av R R (by conv=>lhs;whnf))<|?_
 refine ChK.nil ⟨by kernel_rfl, ?_⟩
 refine Dw (by kernel_rfl) R (fun c46=> ?_) (fun c46=> ?_)
 refine zi<|Ag<|Af (by kernel_rfl)<|zm R R<|zp (Ak R R R (by omega) (by omega))<|za R R<|zn<|Gh<|?_
 exact Al (n+1) (⟨by omega,Aov hn2 ⟨⟨Zm hck hi q17,Zm hck (by omega) q24⟩,(Dn hx hy hz).2 ((Wy hxe).1 (Ari c46))⟩⟩) (by omega) (fz ⟨sr,sr,sr, .same (sI (by omega)),trivial⟩) (gz ⟨rfl,trivial⟩)
 exact An<|zr<|zm R R<|za R R<|zn<|zt<|z1 R R (rI (Tu hn1 hn2 (fun h=>Arj c46 ((Wy hxe).2 ((Dn hx hy hz).1 h.2)))))
 refine A8 [] (by kernel_rfl) (by kernel_rfl) (by kernel_rfl) (by decide)<|ym R R<|yp (Aa R R A0)<|yp (Ab R R Bl R R)<|yp (Qj R R Tryz.underlying22)<|yp (Fu (At R R R) (q12))<|ym R R<|ChK.skip R<|ChK.skip R<|ChK.skip R<|ChK.skip R<|ChK.skip R<|yp (Av R R (by conv=>lhs;whnf))<|?_
 refine ym R R<|ChK.skip R<|ChK.skip R<|ChK.skip R<|ChK.skip R<|ChK.skip R<|yp (Av R R (by conv=>lhs;whnf))<|?_
 refine ym R R<|ChK.skip R<|ChK.skip R<|ChK.skip R<|ChK.skip R<|ChK.skip R<|ChK.skip R<|ChK.skip R<|ChK.skip R<|ChK.skip R<|ChK.skip R<|ChK.skip R<|ChK.skip R<|ChK.skip R<|?_
 refine ChK.skip R<|ChK.skip R<|ChK.skip R<|ChK.skip R<|ChK.skip R<|yp (Av R R (by conv=>lhs;whnf))<|?_
 refine ChK.nil ⟨by kernel_rfl, ?_⟩
 exact A3 (by kernel_rfl) R<|An<|zr<|zm R R<|za R R<|zn<|zt<|z1 R R (rI (Tu hn1 hn2 (fun h=>q12 h.1.2.1)))
end Go.Proofs.YtcihalbakenleaaGreat
namespace Go.Proofs.YtcihalbakenleaaGreat
open Go.RowKit
structure SimR (v:Vo) (p:Pl) (z:(Vo × Nat) × Nat):Prop where
 smi:SmI v p z.1
 k:z.2≤v.evs.length
 ev:z.1.1.evs.drop z.1.2=v.evs.drop z.2
 ls:(ckL z.1.1 p.len).drop z.1.2=(ckL v p.len).drop z.2
 at0:smA z.1.1 p z.1.2=smA v p z.2
 fr:∀m:Nat,(∀t∈z.1.1.tups,¬t.has ((z.1.2+m:Nat):Int))↔∀t∈v.tups,¬t.has ((z.2+m:Nat):Int)
theorem SimR.zero {v:Vo} {p:Pl} (hc:p.chk v=0) (hF:v.fit):SimR v p ((v,0),0):=⟨SmI.zero hc hF,Nat.zero_le _,rfl,rfl,rfl,fun m=>Iff.rfl⟩
section
variable {v:Vo} {p:Pl} {z:(Vo × Nat) × Nat} (h:SimR v p z)
include h
theorem SimR.len:z.1.1.evs.length - z.1.2=v.evs.length - z.2:=by
 have:=congrArg List.length h.ev
 rwa [List.length_drop,List.length_drop] at this
theorem SimR.get (m:Nat):z.1.1.evs[z.1.2+m]? =v.evs[z.2+m]? :=by
 have:=congrArg (fun l:List Ev=>l[m]?) h.ev
 simpa only [List.getElem?_drop] using this
theorem SimR.free (hc:p.chk v=0) (m:Nat):Cy z.1.1 ((z.1.2+m:Nat):Int)↔Cy v ((z.2+m:Nat):Int):=by
 rw [Ip (G2 h.smi.chk).2.2,Ip (G2 hc).2.2,h.fr m]
 have h1:=h.len
 have h2:=h.k
 have h3:=h.smi.le
 constructor
 ·rintro ⟨k1,k2⟩;exact ⟨by omega,k2⟩
 ·rintro ⟨k1,k2⟩;exact ⟨by omega,k2⟩
theorem SimR.join (m:Nat):Ee z.1.1 z.1.2 (z.1.2+(m+1))↔Ee v z.2 (z.2+(m+1)):=by
 have h0:=h.get 0
 rw [Nat.add_zero,Nat.add_zero] at h0
 unfold Ee
 rw [show z.1.2+(m+1) - 1=z.1.2+m by omega,show z.2+(m+1) - 1=z.2+m by omega,h.get m,h.get (m+1),h0]
theorem SimR.run (hc:p.chk v=0) (hi:z.2<v.evs.length):Am z.1.1 z.1.2=z.1.2+(Am v z.2 - z.2):=by
 obtain ⟨k1,k2⟩:=I6 hi
 have h1:=h.len
 have h3:=h.smi.le
 have f0:=h.free hc 0
 rw [Nat.add_zero,Nat.add_zero] at f0
 refine Ye (by omega) (by omega) (fun m m1 m2=> ?_) fun hn=> ?_
 ·obtain ⟨j,rfl⟩:∃j,m=z.1.2+(j+1):=⟨m - z.1.2 - 1,by omega⟩
  obtain ⟨⟨a1,a2⟩,a3⟩:=Oj (v:=v) (i:=z.2) (m:=z.2+(j+1)) (by omega) (by omega)
  exact ⟨⟨f0.2 a1,(h.free hc (j+1)).2 a2⟩,(h.join j).2 a3⟩
 ·obtain ⟨j,hj⟩:∃j,Am v z.2=z.2+(j+1):=⟨Am v z.2 - z.2 - 1,by omega⟩
  have e:z.1.2+(Am v z.2 - z.2)=z.1.2+(j+1):=by omega
  rw [e] at hn
  obtain ⟨⟨a1,a2⟩,a3⟩:=hn
  refine Nm v z.2 ?_
  rw [hj]
  exact ⟨⟨f0.1 a1,(h.free hc (j+1)).1 a2⟩,(h.join j).1 a3⟩
theorem SimR.smA_run (hc:p.chk v=0) (hi:z.2<v.evs.length):smA z.1.1 p (Am z.1.1 z.1.2)=smA v p (Am v z.2):=by
 obtain ⟨k1,k2⟩:=I6 hi
 have h0:=h.at0
 unfold smA at h0 ⊢
 rw [h.run hc hi,Ku (ckL z.1.1 p.len) z.1.2 _ (by omega),Ku (ckL v p.len) z.2 (Am v z.2) (by omega),h0,List.drop_take,List.drop_take,h.ls,show z.1.2+(Am v z.2 - z.2) - z.1.2=Am v z.2 - z.2 by omega]
theorem SimR.takeN (hc:p.chk v=0) (hi:z.2<v.evs.length):z.1.1.evs.take (Am z.1.1 z.1.2)=z.1.1.evs.take z.1.2++(v.evs.take (Am v z.2)).drop z.2:=by
 rw [h.run hc hi,List.drop_take, ←h.ev,List.take_add]
theorem SimR.nextJ (hc:p.chk v=0) (hi:z.2<v.evs.length) {r:Vo × Nat} (hr:smN z.1.1 p z.1.2=r):SimR v p (r,Am v z.2)∧v.evs.length - Am v z.2<v.evs.length - z.2:=by
 subst hr
 obtain ⟨k1,k2⟩:=I6 hi
 have h1:=h.len
 have h3:=h.smi.le
 have hq:z.1.2<z.1.1.evs.length:=by omega
 have hrun:=h.run hc hi
 have hN:=h.smi.next hq
 have hA:=(Mv h.smi.chk hq).2.2.2.2.2
 have hA2:=h.smA_run hc hi
 obtain ⟨x,hx⟩:∃x,z.1.1.evs[z.1.2]? =some x:=As hq
 obtain ⟨y,hy⟩:∃y,z.1.1.evs[Am z.1.1 z.1.2 - 1]? =some y:=As (by omega)
 refine ⟨?_,by omega⟩
 by_cases c:smJ p (smA z.1.1 p z.1.2) (smA z.1.1 p (Am z.1.1 z.1.2)) (Am z.1.1 z.1.2 - z.1.2)
 ·have hR:=Alr h.smi.chk hx hy c
  have hJo:=Rl (y:=y) h.smi.chk hx c
  have hs:=Jj hx hy c
  have hcl:=H6 (G2 h.smi.chk).2.2
  rw [hs] at hN hA hR ⊢
  refine ⟨hN.1,k2, ?_, ?_,by rw [←hA2];exact hA,fun m=> ?_⟩
  ·refine List.ext_getElem? fun m=> ?_
   have e1:=hR.ghi hx m
   have e2:=h.get (Am v z.2 - z.2+m)
   have e3:z.1.1.evs[Am z.1.1 z.1.2+m]? =v.evs[Am v z.2+m]? :=by rw [hrun,show z.1.2+(Am v z.2 - z.2)+m=z.1.2+(Am v z.2 - z.2+m) by omega,e2,show z.2+(Am v z.2 - z.2+m)=Am v z.2+m by omega]
   rw [List.getElem?_drop,List.getElem?_drop];exact e1.trans e3
  ·show (ckL (Br z.1.1 z.1.2 (Am z.1.1 z.1.2 - z.1.2) ⟨By z.1.1 p z.1.2 x y, []⟩) p.len).drop (z.1.2+(By z.1.1 p z.1.2 x y).length)=_
   have hl:((ckL z.1.1 p.len).take z.1.2++wrS (By z.1.1 p z.1.2 x y)).length=z.1.2+(By z.1.1 p z.1.2 x y).length:=by rw [List.length_append,List.length_take,Hx];omega
   rw [hJo.lens, ←hl,List.drop_left,hrun, ←List.drop_drop,h.ls,List.drop_drop,show z.2+(Am v z.2 - z.2)=Am v z.2 by omega]
  ·have e1:=Ajc (l:=By z.1.1 p z.1.2 x y) hR.ok (show 0<Am z.1.1 z.1.2 - z.1.2 by omega) (fun m h1 h2=>hR.fr m h1 (by omega)) m
   have e2:=h.fr (Am v z.2 - z.2+m)
   rw [show z.1.2+(Am z.1.1 z.1.2 - z.1.2)+m=z.1.2+(Am v z.2 - z.2+m) by omega] at e1
   rw [show z.2+(Am v z.2 - z.2+m)=Am v z.2+m by omega] at e2
   exact e1.trans e2
 ·rw [Dk c] at hN hA ⊢
  refine ⟨hN.1,k2, ?_, ?_,by rw [←hA2],fun m=> ?_⟩
  ·show z.1.1.evs.drop (Am z.1.1 z.1.2)=_
   rw [hrun, ←List.drop_drop,h.ev,List.drop_drop,show z.2+(Am v z.2 - z.2)=Am v z.2 by omega]
  ·show (ckL z.1.1 p.len).drop (Am z.1.1 z.1.2)=_
   rw [hrun, ←List.drop_drop,h.ls,List.drop_drop,show z.2+(Am v z.2 - z.2)=Am v z.2 by omega]
  ·have e2:=h.fr (Am v z.2 - z.2+m)
   rw [show z.2+(Am v z.2 - z.2+m)=Am v z.2+m by omega,show z.1.2+(Am v z.2 - z.2+m)=Am z.1.1 z.1.2+m by omega] at e2
   exact e2
end
theorem Alt {v:Vo} {i n:Nat} {l:List Ev} (hi:i≤v.evs.length):(Br v i n ⟨l, []⟩).evs.take (i+l.length)=v.evs.take i++l:=by
 show (v.evs.take i++l++v.evs.drop (i+n)).take (i+l.length)=_
 have:(v.evs.take i++l).length=i+l.length:=by rw [List.length_append,List.length_take];omega
 rw [←this,List.take_left]
theorem Am2 {l:List Tp} {i n J:Nat} (ho:l.Pairwise Tp.bef) (hJ:J≤n) (hok:∀t∈l,t.ok) (hf:∀t∈l,t.first+t.count≤(i:Int)∨(i:Int)+n≤t.first):
  l.map (G1 ((i+J:Nat):Int) ((n - J:Nat):Int))=B6 (fun t=>decide (t.first<(i:Int))) 0 l++B6 (fun t=>decide ((i:Int)+n≤t.first)) ((J:Int) - n) l:=by
 induction l with
 |nil=>rfl
 |cons t l ih=>
  have h1:=ih (List.pairwise_cons.1 ho).2 (fun u hu=>hok u (List.mem_cons_of_mem _ hu)) (fun u hu=>hf u (List.mem_cons_of_mem _ hu))
  have h2:=hf t List.mem_cons_self
  have h3:=hok t List.mem_cons_self
  have h4:=(List.pairwise_cons.1 ho).1
  unfold Tp.ok at h3
  unfold B6 at h1 ⊢
  by_cases q:t.first<(i:Int)
  ·rw [List.map_cons,h1,List.filter_cons_of_pos (by simpa using q),List.filter_cons_of_neg (by simp;omega),List.map_cons,List.cons_append,Akr (by omega),Ri]
  ·have e:l.filter (fun t=>decide (t.first<(i:Int)))= []:=by
    rw [List.filter_eq_nil_iff]
    intro u hu
    have:=(h4 u hu).first
    simp;omega
   rw [e] at h1
   rw [List.map_cons,h1,List.filter_cons_of_neg (by simpa using q),List.filter_cons_of_pos (by simp;omega),e,Aks (by omega)]
   rw [show -((n - J:Nat):Int)=(J:Int) - n by omega];rfl
theorem Alw {l l':List Tp} (e:l=l') (h:l.length≤1000):XC Tryz.prog 53 [.sl 4 (l.map Tp.c)] (fun r=>r= .sl 4 (l'.map Tp.c)):=by
 subst e;exact Alv l h
theorem Ajr {l:List Int} {k:Nat} (h:k<l.length):(Ea l)[k]? =some (tot (l.take k)):=by
 obtain ⟨x,hx⟩:∃x,(Ea l)[k]? =some x:=As (by rw [Sz];exact h)
 rw [hx,J5 hx]
end Go.Proofs.YtcihalbakenleaaGreat
namespace Go.Proofs.YtcihalbakenleaaGreat
open Go.RowKit
theorem Yn (v:Vo) (p:Pl) (hF:v.fit) (hc:p.chk v=0):XC Tryz.prog 21 [.agg (Vo.c v), .agg (Pl.c p)] (fun r=>r= .agg (Vo.c (Mw v p))):=by
 obtain ⟨hme,hpb,hck⟩:=G2 hc
 obtain ⟨hlL,hl0,hl1⟩:=Vh hck
 have hN:=K4 v p.len
 have hcl:=H6 hck
 have hpp:=Ov hck
 have hE:=(Kk hck).1
 obtain ⟨hsv,hevl⟩:=Lv hck
 unfold Pl.bad at hpb
 refine Ap Aes Tryz.func21 R R lb<|zr<|XL.step R (Ay 2 (l:= [.d (.sl 13 (v.evs.map Ev.c)), .d (.sl 4 (v.tups.map Tp.c))]) R R (by kernel_rfl))<|XL.step R (Ay 3 (l:= [.d (dI p.m.count), .d (dI p.m.unit), .d (dI p.m.g0), .d (dI p.m.g1), .d (dI p.m.g2), .d (dI p.m.g3), .d (dI p.m.g4), .d (dI p.m.g5), .d (dI p.off), .d (dI p.len)]) R R (by kernel_rfl))<|?_
 refine XL.step R (A9 4 (l:= [.d (.v (.slice none 0 0)), .d (.v (.slice none 0 0))]) R Ca (by kernel_rfl))<|zn<|zs<|A8 [] (by kernel_rfl) (by kernel_rfl) (by kernel_rfl) (by decide)<|yp (Ad (s':= .d (.agg (Vo.c v))) (Ae (Ac R R Bg R lb)) (by kernel_rfl))<|yp (Aa R R Pu)<|yp (Ab R R Ah R R)<|ChK.cons R (CStep.call R (Aou hck) R)<|?_
 refine yp (Ad (s':= .d (.agg (Vo.c v))) (Ae (Ac R R Bg R lb)) (by kernel_rfl))<|yp (Aa R R Pu)<|yp (Ab R R Ah R R)<|ChK.cons R (CStep.call R (Ao5 hck) R)<|ya R R<|ya R R<|?_
 refine ChK.nil ⟨by kernel_rfl, ?_⟩
 refine zr<|zp (Aa R R B0)<|zp (Ab R R Bz R R)<|zp (Ad (s':= .d (.agg [.v (.slice none 0 0), .sl 4 (v.tups.map Tp.c)])) (Ae (Bv R Gc Ca R)) (by kernel_rfl))<|XL.step R (A9 7 (l:= [.d (.v (.slice none 0 0)), .d (.v (.slice none 0 0))]) R Ca (by kernel_rfl))<|?_
 refine XL.step R (Ai (l':= [.d (.v (.slice none 0 0)), .d (.sl 4 (v.tups.map Tp.c))]) R R R R D7 R lb (by kernel_rfl))<|zn<|zs<|zr<|za R R<|zn<|Ag<|Jz 900 7 0 60 13 (l':= [.own 900, .d (.sl 4 (v.tups.map Tp.c))]) R R (by decide) (by kernel_rfl)<|?_
 refine Ax (α:=(Vo × Nat) × Nat) (fun z=>SimR v p z) (fun z=>mkF [(2, .ptr 2 0 0),(3, .ptr 3 0 0),(4, .ptr 4 0 0),(5, .d (.sl 1 (Bu (Ea (ckL v p.len))))),(6, .d (.sl 1 (Bu (ckL v p.len)))),(7, .ptr 7 0 0),(8, .d (dI (z.2:Nat)))]) (fun z=>mkH [(2, .box ((Vo.c v).map S.d)),(3, .box ((Pl.c p).map S.d)),(4, .box [.d (.v (.slice none 0 0)), .d (.v (.slice none 0 0))]),(7, .box [.own 900, .d (.sl 4 (z.1.1.tups.map Tp.c))]),(900, .row 60 13 ((z.1.1.evs.take z.1.2).map Ev.c))]) (fun z=>v.evs.length - z.2) (((v,0),0)) (SimR.zero hc hF) ?_ ?_ ?_
 exact fz ⟨sr,sr,sr,sr,sr,sr,sr,trivial⟩
 exact gz ⟨R,R,R,R,R,trivial⟩
 intro z hk0
 have hS:=hk0
 have hAk:=hS.at0
 have hql:=hS.smi.le
 have hqf:=hS.len
 have htk:(z.1.1.evs.take z.1.2).length=z.1.2:=by rw [List.length_take];omega
 have hq128:=(Lv (G2 hS.smi.chk).2.2).2
 refine zs<|zr<|zm R R<|zp (Aa R R A0)<|zp (Ab R R Bl R R)<|XL.len R R R Tryz.underlying22 fun hl32=>zp (At R R R)<|zn<|?_
 refine zd R (fun c33=> ?_) (fun c33=> ?_)
 have hzk:z.2<v.evs.length:=by omega
 obtain ⟨hr1,hr2⟩:=I6 hzk
 have hrq:=hS.run hc hzk
 obtain ⟨x,hx⟩:∃x,v.evs[z.2]? =some x:=As hzk
 obtain ⟨y,hy⟩:∃y,v.evs[Am v z.2 - 1]? =some y:=As (by omega)
 have hxq:z.1.1.evs[z.1.2]? =some x:=by have:=hS.get 0;rw [Nat.add_zero,Nat.add_zero] at this;rw [this];exact hx
 have hyq:z.1.1.evs[Am z.1.1 z.1.2 - 1]? =some y:=by rw [hrq,show z.1.2+(Am v z.2 - z.2) - 1=z.1.2+(Am v z.2 - 1 - z.2) by omega,hS.get,show z.2+(Am v z.2 - 1 - z.2)=Am v z.2 - 1 by omega];exact hy
 have hAq:=hS.smA_run hc hzk
 have hb1:=Tq v p z.2
 have hb2:=Tq v p (Am v z.2)
 have hmo:smA v p z.2≤smA v p (Am v z.2):=J4 hpp (by omega)
 have hmo2:=J4 hpp (j:=Am v z.2) (k:=(ckL v p.len).length) (by omega)
 rw [List.take_length,Akv hck (fun h=>by rw [h] at hzk;exact absurd hzk (Nat.not_lt_zero _))] at hmo2
 have hmo3:smA v p (Am v z.2)≤p.len:=hmo2
 have hon:(Ea (ckL v p.len))[z.2]? =some (smA v p z.2):=Ajr (by omega)
 obtain ⟨o1,ho1⟩:∃o,o=tot ((ckL v p.len).take (Am v z.2 - 1)):=⟨_,rfl⟩
 have hon2:(Ea (ckL v p.len))[Am v z.2 - 1]? =some o1:=by rw [ho1];exact Ajr (by omega)
 obtain ⟨w,hw⟩:∃w,(ckL v p.len)[Am v z.2 - 1]? =some w:=As (by omega)
 have hsum:smA v p (Am v z.2)=o1+w:=by rw [ho1, ←Id, ←Bb hw,show Am v z.2 - 1+1=Am v z.2 by omega];rfl
 have ho2:0≤o1∧o1≤32469952757760:=by rw [ho1];exact (hN.take _).tot
 have hwb:=hN.bd w (List.mem_of_getElem? hw)
 have hxf:=hF.ev x (List.mem_of_getElem? hx)
 have hxh:=hxf.1
 have hxy:x.heads.length=y.heads.length:=Nn hE hx (Am v z.2 - 1 - z.2) (by omega) (by rw [show z.2+(Am v z.2 - 1 - z.2)=Am v z.2 - 1 by omega];exact hy)
 refine zi<|Ag<|zr<|zp (Ad (s':= .d (.agg (Vo.c v))) (Ae (Ac R R Bg R lb)) (by kernel_rfl))<|zm R R<|XL.call1 R R (Ai5 v p.len z.2 hck hzk) R<|za R R<|zn<|zs<|A8 [] (by kernel_rfl) (by kernel_rfl) (by kernel_rfl) (by decide)<|yp (Aa R R Pv)<|yp (Ab R R Ah R R)<|ym R R<|ym R R<|?_
 refine yp (Aj R R R C5 (hon))<|yp (Aw R R Ah)<|yp (Ak R R R (by omega) (by omega))<|ya R R<|?_
 refine ChK.nil ⟨by kernel_rfl, ?_⟩
 refine zs<|A8 [] (by kernel_rfl) (by kernel_rfl) (by kernel_rfl) (by decide)<|yp (Aa R R Pv)<|yp (Ab R R Ah R R)<|ym R R<|ym R R<|yp (C7 R R R (by omega) (by omega))<|yp (Dl R R R (by omega) C5 (hon2))<|yp (Aw R R Ah)<|yp (Ak R R R (by omega) (by omega))<|ym R R<|ym R R<|yp (C7 R R R (by omega) (by omega))<|?_
 refine yp (Dl R R R (by omega) C5 (hw))<|yp (Aw R R Ah)<|yp (Ad (s':= .d (dI (p.off+smA v p (Am v z.2)))) (Ak R R R (by omega) (by omega)) (sI (by omega)))<|ya R R<|?_
 refine ChK.nil ⟨by kernel_rfl, ?_⟩
 refine zr<|zp (Aa R R A0)<|zp (Ab R R Bl R R)<|zm R R<|zp (Aj R R R Cv (hx))<|zp (Ad (s':= .d (.agg (Ev.c x))) (Ar R R A1 lb) (by kernel_rfl))<|?_
 refine XL.step R (A9 12 (l:= [.d (dI 0), .d (dI 0), .d (dI 0), .d (dI 0), .d (dI 0), .d (.v (.slice none 0 0)), .d (.v (.slice none 0 0)), .d (dI 0), .d (dI 0), .d (dI 0), .d (.v (.slice none 0 0)), .d (dI 0), .d (dI 0)]) R B3 (by kernel_rfl))<|?_
 refine XL.step R (Ai (l':= [.d (dI x.site), .d (dI x.num), .d (dI x.kind), .d (dI x.v.log), .d (dI x.v.dots), .d (.sl 5 (x.heads.map Hd.c)), .d (.sl 5 (x.graces.map Gr.c)), .d (dI x.art), .d (dI x.orn), .d (dI x.dyn), .d (.sl 2 (x.lyr.map Sy.c)), .d (dI x.stem), .d (dI x.beam)]) R R R R B4 R lb (by kernel_rfl))<|znr<|zp (Aa R R Ba)<|?_
 refine XL.step R (Ai (l':= [.d (dI x.site), .d (dI x.num), .d (dI x.kind), .d (dI x.v.log), .d (dI x.v.dots),_, .d (.sl 5 (x.graces.map Gr.c)), .d (dI x.art), .d (dI x.orn), .d (dI x.dyn), .d (.sl 2 (x.lyr.map Sy.c)), .d (dI x.stem), .d (dI x.beam)]) R R R R Km R lb R)<|zn<|zs<|zr<|za R R<|zn<|Ag<|?_
 refine Jz 901 12 5 91 5 (l':= [.d (dI x.site), .d (dI x.num), .d (dI x.kind), .d (dI x.v.log), .d (dI x.v.dots), .own 901, .d (.sl 5 (x.graces.map Gr.c)), .d (dI x.art), .d (dI x.orn), .d (dI x.dyn), .d (.sl 2 (x.lyr.map Sy.c)), .d (dI x.stem), .d (dI x.beam)]) R R (by decide) (by kernel_rfl)<|?_
 refine Ax (α:=Nat) (fun j=>j≤x.heads.length) (fun j=>mkF [(2, .ptr 2 0 0),(3, .ptr 3 0 0),(4, .ptr 4 0 0),(5, .d (.sl 1 (Bu (Ea (ckL v p.len))))),(6, .d (.sl 1 (Bu (ckL v p.len)))),(7, .ptr 7 0 0),(8, .d (dI (z.2:Nat))),(9, .d (dI (Am v z.2:Nat))),(10, .d (dI (p.off+(smA v p z.2)))),(11, .d (dI (p.off+smA v p (Am v z.2)))),(12, .ptr 12 0 0),(13, .d (dI j))]) (fun j=>mkH [(2, .box ((Vo.c v).map S.d)),(3, .box ((Pl.c p).map S.d)),(4, .box [.d (.v (.slice none 0 0)), .d (.v (.slice none 0 0))]),(7, .box [.own 900, .d (.sl 4 (z.1.1.tups.map Tp.c))]),(12, .box [.d (dI x.site), .d (dI x.num), .d (dI x.kind), .d (dI x.v.log), .d (dI x.v.dots), .own 901, .d (.sl 5 (x.graces.map Gr.c)), .d (dI x.art), .d (dI x.orn), .d (dI x.dyn), .d (.sl 2 (x.lyr.map Sy.c)), .d (dI x.stem), .d (dI x.beam)]),(900, .row 60 13 ((z.1.1.evs.take z.1.2).map Ev.c)),(901, .row 91 5 (((Cm x.heads y.heads).take j).map Hd.c))]) (fun j=>x.heads.length - j) (0) (Nat.zero_le _) ?_ ?_ ?_
 exact fz ⟨sr,sr,sr,sr,sr,sr,sr,sr,sr,sr,sr,sr,trivial⟩
 exact gz ⟨R,R,R,R,R,R,R,trivial⟩
 intro j hk2
 refine zs<|zr<|zm R R<|zp (Aa R R A0)<|zp (Ab R R Bl R R)<|zm R R<|zp (Aj R R R Cv (hx))<|zp (A7 R R Ba)<|zp (Aw R R Cn)<|XL.len R R R Tryz.underlying48 fun hl71=>zp (At R R R)<|zn<|?_
 refine zd R (fun c72=> ?_) (fun c72=> ?_)
 have hk2a:j<x.heads.length:=by omega
 obtain ⟨x2,hx2⟩:=As hk2a
 obtain ⟨g,hg⟩:∃g,y.heads[j]? =some g:=As (by omega)
 have hgj:(Cm x.heads y.heads)[j]? =some (J0 y.heads j x2):=by rw [Cm,List.getElem?_mapIdx,hx2];rfl
 have htl:((Cm x.heads y.heads).take j).length=j:=by rw [List.length_take,Nh];omega
 refine zi<|zs<|Ag<|zr<|zp (Aa R R A0)<|zp (Ab R R Bl R R)<|zm R R<|zp (Aj R R R Cv (hx))<|zp (A7 R R Ba)<|zp (Aw R R Cn)<|zm R R<|zp (Aj R R R D9 hx2)<|zp (Ad (s':= .d (.agg (Hd.c x2))) (Ar R R Ks lb) (by kernel_rfl))<|?_
 refine XL.step R (A9 14 (l:= [.d (dI 0), .d (dI 0), .d (dI 0), .d (dB false), .d (dI 0)]) R Hu (by kernel_rfl))<|XL.step R (Ai (l':= [.d (dI x2.p.step), .d (dI x2.p.alter), .d (dI x2.p.oct), .d (dB x2.tied), .d (dI x2.sh)]) R R R R Ni R lb (by kernel_rfl))<|znr<|zp (Aa R R A0)<|zp (Ab R R Bl R R)<|zm R R<|zp (C7 R R R (by omega) (by omega))<|?_
 refine zp (Dl R R R (by omega) Cv (hy))<|zp (A7 R R Ba)<|zp (Aw R R Cn)<|zm R R<|zp (Aj R R R D9 (hg))<|zp (A7 R R Gk)<|zp (Aw R R K1)<|zp (Aa R R Gk)<|XL.step R (Ai (l':= [.d (dI x2.p.step), .d (dI x2.p.alter), .d (dI x2.p.oct), .d (dB g.tied), .d (dI x2.sh)]) R R R R Ald R lb (by kernel_rfl))<|zng<|?_
 refine zp (Aa R R Ba)<|zp (Ab R R Cn R R)<|zp (Ad (s':= .d (.agg [dI x2.p.step,dI x2.p.alter,dI x2.p.oct,dB g.tied,dI x2.sh])) (Ae (Ac R R Ks R lb)) (by kernel_rfl))<|XL.step R (Bi 99 R Tryz.underlying48 Ni Hu R R (by omega) (by omega))<|?_
 refine XL.step R (A4 R Un (.own R) (Src.own R) (by unfold maxLen;simp;omega) (by simp;omega))<|zp (Aa R R Ba)<|?_
 refine XL.step R (Ai (l':= [.d (dI x.site), .d (dI x.num), .d (dI x.kind), .d (dI x.v.log), .d (dI x.v.dots), .own 901, .d (.sl 5 (x.graces.map Gr.c)), .d (dI x.art), .d (dI x.orn), .d (dI x.dyn), .d (.sl 2 (x.lyr.map Sy.c)), .d (dI x.stem), .d (dI x.beam)]) R R R R Km R lb (by kernel_rfl))<|zn<|Af (by kernel_rfl)<|zm R R<|zp (Ak R R R (by omega) (by omega))<|za R R<|zn<|?_
 exact Al (j+1) (by omega) (by omega) (fz ⟨sr,sr,sr,sr,sr,sr,sr,sr,sr,sr,sr,sr,trivial⟩) (gz ⟨R,R,R,R,R,R,E7 (by rw [Sg hg];rfl) (Bb hgj),trivial⟩)
 have hk2b:j=x.heads.length:=by omega
 have hte2:(Cm x.heads y.heads).take j=Cm x.heads y.heads:=List.take_of_length_le (by rw [Nh];omega)
 refine An<|zr<|XL.freeze (i:=901) R<|zp (Aa R R A0)<|zp (Ab R R Bl R R)<|zm R R<|zm R R<|zp (F8 R R Cv (Bd.at R) (Bd.at R) (by omega) (by omega))<|za R R<|zn<|zs<|zr<|zm R R<|zm R R<|?_
 refine zp (Ak R R R (by omega) (by omega))<|zp (A6 R R R)<|zm R R<|?_
 refine XL.dec 111 R (fun g111=> ?_) (fun g111=> ?_)
 refine zm R R<|zp (D8 R R R (by omega) (by omega))<|zp (Az R R R)<|zq R R R<|zm R R<|?_
 refine XL.dec 116 R (fun g116=> ?_) (fun g116=> ?_)
 refine zm R R<|zp (D8 R R R (by omega) (by omega))<|zp (Az R R R)<|zq R R R<|zn<|?_
 refine zd R (fun c120=> ?_) (fun c120=> ?_)
 refine zs<|?_
 have hs1:p.m.splitE (p.off+smA v p z.2) (p.off+smA v p (Am v z.2))=0:=by rw [Ask hme (by omega) (by omega) (by omega) (by omega),if_neg (by omega)]
 have hrf:=U2 hxf y.heads
 refine Af (by kernel_rfl)<|zp (Ad (s':= .d (.agg (Ev.c (x.reh (Cm x.heads y.heads))))) (Ae (Ac R R A1 R lb)) (by (conv=>rhs;rw [←hte2]);kernel_rfl))<|?_
 refine zp (Aa R R Zp)<|zp (Ad (s':= .d (.agg (Me.c p.m))) (Ae (Ac R R Be R lb)) (by kernel_rfl))<|zm R R<|zm R R<|XL.callS R R ((Ajh (x.reh (Cm x.heads y.heads)) p.m (p.off+smA v p z.2) (p.off+smA v p (Am v z.2)) hrf hs1).lab 7001) R<|zp (Aq R (by conv=>lhs;whnf))<|?_
 refine zn<|zs<|?_
 have hnl:=Ga (x.reh (Cm x.heads y.heads)) (p.m.split (p.off+smA v p z.2) (p.off+smA v p (Am v z.2))) false
 refine Af (by kernel_rfl)<|zp (Au R (by conv=>lhs;whnf))<|?_
 refine zp (Ci R R R Tryz.underlying22)<|zm R R<|zm R R<|zp (C7 R R R (by omega) (by omega))<|zp (At R R R)<|zn<|?_
 refine zd R (fun c132=> ?_) (fun c132=> ?_)
 have hJ:smJ p (smA z.1.1 p z.1.2) (smA z.1.1 p (Am z.1.1 z.1.2)) (Am z.1.1 z.1.2 - z.1.2):=by rw [hAk,hAq];exact ⟨⟨⟨by omega,by omega⟩,by omega⟩,hs1,by omega⟩
 have hR:=Alr hS.smi.chk hxq hyq hJ
 have hjn:=hR.jn
 have hjl:=hR.jl
 rw [hAk,hAq] at hjl
 have hkn:=hS.nextJ hc hzk (Jj hxq hyq hJ)
 refine zr<|zp (Au R (by conv=>lhs;whnf))<|?_
 refine zp (Aq R (by conv=>lhs;whnf))<|?_
 refine zn<|zs<|zr<|za R R<|zn<|Ag<|?_
 refine Ax (α:=Nat) (fun n=>n≤(Bf (x.reh (Cm x.heads y.heads)) (p.m.split (p.off+smA v p z.2) (p.off+smA v p (Am v z.2))) false).length) (fun n=>mkF [(2, .ptr 2 0 0),(3, .ptr 3 0 0),(4, .ptr 4 0 0),(5, .d (.sl 1 (Bu (Ea (ckL v p.len))))),(6, .d (.sl 1 (Bu (ckL v p.len)))),(7, .ptr 7 0 0),(8, .d (dI (z.2:Nat))),(9, .d (dI (Am v z.2:Nat))),(15, .own 7001),(17, .d (dI n))]) (fun n=>mkH [(2, .box ((Vo.c v).map S.d)),(3, .box ((Pl.c p).map S.d)),(4, .box [.d (.v (.slice none 0 0)), .d (.v (.slice none 0 0))]),(7, .box [.own 900, .d (.sl 4 (z.1.1.tups.map Tp.c))]),(900, .row 60 13 ((z.1.1.evs.take z.1.2).map Ev.c)),(7001, .row 60 13 ((Ic (In (z.1.1.evs.drop z.1.2)) (Bf (x.reh (Cm x.heads y.heads)) (p.m.split (p.off+smA v p z.2) (p.off+smA v p (Am v z.2))) false) n).map Ev.c))]) (fun n=>(Bf (x.reh (Cm x.heads y.heads)) (p.m.split (p.off+smA v p z.2) (p.off+smA v p (Am v z.2))) false).length - n) (0) (Nat.zero_le _) ?_ ?_ ?_
 exact fz ⟨sr,sr,sr,sr,sr,sr,sr,sr,sr,sr,trivial⟩
 exact gz ⟨R,R,R,R,R,by rw [Qa];rfl,trivial⟩
 intro n hk4
 have hul:=Mr (In (z.1.1.evs.drop z.1.2)) (Bf (x.reh (Cm x.heads y.heads)) (p.m.split (p.off+smA v p z.2) (p.off+smA v p (Am v z.2))) false) n
 refine zs<|zr<|zm R R<|zp (Au R (by conv=>lhs;whnf))<|?_
 refine zp (Ci R R R Tryz.underlying22)<|zp (At R R R)<|zn<|?_
 refine zd R (fun c137=> ?_) (fun c137=> ?_)
 have hjl2:n<(Bf (x.reh (Cm x.heads y.heads)) (p.m.split (p.off+smA v p z.2) (p.off+smA v p (Am v z.2))) false).length:=by omega
 obtain ⟨e,he⟩:=As hjl2
 obtain ⟨o,hon3⟩:∃o,v.evs[z.2+n]? =some o:=As (by omega)
 have hoq:(z.1.1.evs.drop z.1.2)[n]? =some o:=by rw [List.getElem?_drop,hS.get];exact hon3
 have hge:=Se (f:=In (z.1.1.evs.drop z.1.2)) he
 refine zi<|zs<|Ag<|Af (by kernel_rfl)<|zp (Au R (by conv=>lhs;whnf))<|?_
 refine zm R R<|zp (Aa R R A0)<|zp (Ab R R Bl R R)<|zm R R<|zm R R<|zp (Ak R R R (by omega) (by omega))<|zp (Dl R R R (by omega) Cv (hon3))<|zp (A7 R R Em)<|zp (Ar R R Jh lb)<|zp (Ep R R R (R) R Cv (by rw [Mr];omega))<|zp (Aa R R Em)<|XL.step R (Gd R R R (E9 hge) R R Anj R lb)<|zn<|?_
 refine Af (by kernel_rfl)<|zm R R<|zp (Ak R R R (by omega) (by omega))<|za R R<|zn<|?_
 exact Al (n+1) (by omega) (by omega) (fz ⟨sr,sr,sr,sr,sr,sr,sr,sr,sr,sr,trivial⟩) (gz ⟨R,R,R,R,R,Qf (a:=In (z.1.1.evs.drop z.1.2) n e) (by rw [Vb hoq];rfl) (Sd he),trivial⟩)
 have hie:Ic (In (z.1.1.evs.drop z.1.2)) (Bf (x.reh (Cm x.heads y.heads)) (p.m.split (p.off+smA v p z.2) (p.off+smA v p (Am v z.2))) false) n=By z.1.1 p z.1.2 x y:=by rw [By,hAk,hAq];exact Sf (by omega)
 have hul2:(Ic (In (z.1.1.evs.drop z.1.2)) (Bf (x.reh (Cm x.heads y.heads)) (p.m.split (p.off+smA v p z.2) (p.off+smA v p (Am v z.2))) false) n).length=(By z.1.1 p z.1.2 x y).length:=by rw [hie]
 refine An<|?_
 have htok:=hR.ok
 obtain ⟨ws,ls,hT⟩:=Up (G2 hS.smi.chk).2.2
 have hord:=hT.tv.ord
 have hfs:=fun t ht=>Lr (v:=z.1.1) (i:=z.1.2) (n:=Am z.1.1 z.1.2 - z.1.2) htok (by omega) (fun m h1 h2=>hR.fr m h1 (by omega)) (t:=t) ht
 have hte:∀t∈z.1.1.tups,t.first+t.count≤128:=fun t ht=>by have:=hT.tv.inR t ht;unfold Tp.inR at this;have:=hT.wl;omega
 have hdf:∀t∈z.1.1.tups,t.first+t.count≤((z.1.2+(By z.1.1 p z.1.2 x y).length:Nat):Int)∨((z.1.2+(By z.1.1 p z.1.2 x y).length:Nat):Int)+((Am z.1.1 z.1.2 - z.1.2 - (By z.1.1 p z.1.2 x y).length:Nat):Int)≤t.first:=fun t ht=>by have:=hfs t ht;omega
 have hdel:z.1.1.tups.map (G1 (z.1.2+(By z.1.1 p z.1.2 x y).length:Nat) (Am z.1.1 z.1.2 - z.1.2 - (By z.1.1 p z.1.2 x y).length:Nat))=(Br z.1.1 z.1.2 (Am z.1.1 z.1.2 - z.1.2) ⟨By z.1.1 p z.1.2 x y, []⟩).tups:=by rw [Am2 hord (by omega) htok hfs];show _=B6 _ 0 _++B6 _ _ []++B6 _ _ _;rw [Ql,List.append_nil]
 have hqt:=(Lv (G2 hS.smi.chk).2.2).1.tups
 refine C1 15 [] (by kernel_rfl) (by kernel_rfl) (by kernel_rfl) (by kernel_rfl) (by decide)<|yp (Aa R R B0)<|yp (Ab R R Bz R R)<|ChK.cons R (CStep.call R (Pb _ (by omega)) R)<|yp (Aa R R A0)<|yp (Ab R R Bl R R)<|yp (Ci R R R Tryz.underlying22)<|yp (Au R (by conv=>lhs;whnf))<|?_
 refine yp (Ci R R R Tryz.underlying22)<|yp (Ad (s':= .d (dI (z.1.2+(By z.1.1 p z.1.2 x y).length:Nat))) (Ak R R R (by omega) (by omega)) (sI (by omega)))<|ym R R<|ym R R<|yp (C7 R R R (by omega) (by omega))<|yp (Au R (by conv=>lhs;whnf))<|?_
 refine yp (Ci R R R Tryz.underlying22)<|yp (Ad (s':= .d (dI (Am z.1.1 z.1.2 - z.1.2 - (By z.1.1 p z.1.2 x y).length:Nat))) (C7 R R R (by omega) (by omega)) (sI (by omega)))<|?_
 refine ChK.nil ⟨by kernel_rfl, ?_⟩
 refine XL.call1 R R (Agv z.1.1.tups (z.1.2+(By z.1.1 p z.1.2 x y).length:Nat) (Am z.1.1 z.1.2 - z.1.2 - (By z.1.1 p z.1.2 x y).length:Nat) (by omega) (by omega) (by omega) htok hte hdf hord) R<|XL.call1 R R (Alw hdel (by rw [List.length_map];omega)) R<|zp (Aa R R B0)<|?_
 refine XL.step R (Ai (l':= [.own 900, .d (.sl 4 ((Br z.1.1 z.1.2 (Am z.1.1 z.1.2 - z.1.2) ⟨By z.1.1 p z.1.2 x y, []⟩).tups.map Tp.c))]) R R R R Ie R lb (by kernel_rfl))<|znr<|zp (Aa R R A0)<|zp (Ab R R Bl R R)<|zp (Au R (by conv=>lhs;whnf))<|?_
 refine XL.step R (A4 R Fm (.own R) (Src.own R) (by simp only [List.length_append,List.length_map,List.length_take,List.length_drop,List.length_nil,List.length_cons];unfold maxLen;omega) (by simp only [List.length_append,List.length_map,List.length_take,List.length_drop,List.length_nil,List.length_cons];omega))<|zp (Aa R R A0)<|?_
 refine XL.step R (Ai (l':= [.own 900, .d (.sl 4 ((Br z.1.1 z.1.2 (Am z.1.1 z.1.2 - z.1.2) ⟨By z.1.1 p z.1.2 x y, []⟩).tups.map Tp.c))]) R R R R O1 R lb (by kernel_rfl))<|zng<|zm R R<|za R R<|zn<|Gh<|?_
 exact Al (((Br z.1.1 z.1.2 (Am z.1.1 z.1.2 - z.1.2) ⟨By z.1.1 p z.1.2 x y, []⟩,z.1.2+(By z.1.1 p z.1.2 x y).length),Am v z.2)) (hkn.1) (hkn.2) (fz ⟨sr,sr,sr,sr,sr,sr,sr,trivial⟩) (gz ⟨R,R,R,R,Ec (by rw [hie];exact Alt hql),trivial⟩)
 refine zi<|zr<|zp (Aa R R A0)<|zp (Ab R R Bl R R)<|zm R R<|?_
 refine XL.step R (A4 R Fm (.own R) (Src.sl (by omega)) (by simp only [List.length_append,List.length_map,List.length_take,List.length_drop,List.length_nil,List.length_cons];unfold maxLen;omega) (by simp only [List.length_append,List.length_map,List.length_take,List.length_drop,List.length_nil,List.length_cons];omega))<|zp (Aa R R A0)<|?_
 refine XL.step R (Ai (l':= [.own 900, .d (.sl 4 (z.1.1.tups.map Tp.c))]) R R R R O1 R lb (by kernel_rfl))<|zng<|zm R R<|za R R<|zn<|Gh<|?_
 have hnoJ:¬smJ p (smA z.1.1 p z.1.2) (smA z.1.1 p (Am z.1.1 z.1.2)) (Am z.1.1 z.1.2 - z.1.2):=fun hJ=>by rw [hAk,hAq] at hJ;unfold smJ at hJ;omega
 exact Al (((z.1.1,Am z.1.1 z.1.2),Am v z.2)) ((hS.nextJ hc hzk (Dk hnoJ)).1) ((hS.nextJ hc hzk (Dk hnoJ)).2) (fz ⟨sr,sr,sr,sr,sr,sr,sr,trivial⟩) (gz ⟨R,R,R,R,Ec (hS.takeN hc hzk),trivial⟩)
 refine zi<|zr<|zp (Aa R R A0)<|zp (Ab R R Bl R R)<|zm R R<|?_
 refine XL.step R (A4 R Fm (.own R) (Src.sl (by omega)) (by simp only [List.length_append,List.length_map,List.length_take,List.length_drop,List.length_nil,List.length_cons];unfold maxLen;omega) (by simp only [List.length_append,List.length_map,List.length_take,List.length_drop,List.length_nil,List.length_cons];omega))<|zp (Aa R R A0)<|?_
 refine XL.step R (Ai (l':= [.own 900, .d (.sl 4 (z.1.1.tups.map Tp.c))]) R R R R O1 R lb (by kernel_rfl))<|zng<|zm R R<|za R R<|zn<|Gh<|?_
 have hnoJ:¬smJ p (smA z.1.1 p z.1.2) (smA z.1.1 p (Am z.1.1 z.1.2)) (Am z.1.1 z.1.2 - z.1.2):=fun hJ=>by rw [hAk,hAq] at hJ;unfold smJ at hJ;omega
 exact Al (((z.1.1,Am z.1.1 z.1.2),Am v z.2)) ((hS.nextJ hc hzk (Dk hnoJ)).1) ((hS.nextJ hc hzk (Dk hnoJ)).2) (fz ⟨sr,sr,sr,sr,sr,sr,sr,trivial⟩) (gz ⟨R,R,R,R,Ec (hS.takeN hc hzk),trivial⟩)
 refine zk 3 R<|zq R R R<|zn<|A3 (by kernel_rfl) R<|zi<|zr<|zp (Aa R R A0)<|zp (Ab R R Bl R R)<|zm R R<|?_
 refine XL.step R (A4 R Fm (.own R) (Src.sl (by omega)) (by simp only [List.length_append,List.length_map,List.length_take,List.length_drop,List.length_nil,List.length_cons];unfold maxLen;omega) (by simp only [List.length_append,List.length_map,List.length_take,List.length_drop,List.length_nil,List.length_cons];omega))<|zp (Aa R R A0)<|?_
 refine XL.step R (Ai (l':= [.own 900, .d (.sl 4 (z.1.1.tups.map Tp.c))]) R R R R O1 R lb (by kernel_rfl))<|zng<|zm R R<|za R R<|zn<|Gh<|?_
 have hnoJ:¬smJ p (smA z.1.1 p z.1.2) (smA z.1.1 p (Am z.1.1 z.1.2)) (Am z.1.1 z.1.2 - z.1.2):=fun hJ=>by rw [hAk,hAq] at hJ;unfold smJ at hJ;omega
 exact Al (((z.1.1,Am z.1.1 z.1.2),Am v z.2)) ((hS.nextJ hc hzk (Dk hnoJ)).1) ((hS.nextJ hc hzk (Dk hnoJ)).2) (fz ⟨sr,sr,sr,sr,sr,sr,sr,trivial⟩) (gz ⟨R,R,R,R,Ec (hS.takeN hc hzk),trivial⟩)
 refine zk 3 R<|zq R R R<|zm R R<|zk 3 R<|zq R R R<|zn<|A3 (by kernel_rfl) R<|zi<|zr<|zp (Aa R R A0)<|zp (Ab R R Bl R R)<|zm R R<|?_
 refine XL.step R (A4 R Fm (.own R) (Src.sl (by omega)) (by simp only [List.length_append,List.length_map,List.length_take,List.length_drop,List.length_nil,List.length_cons];unfold maxLen;omega) (by simp only [List.length_append,List.length_map,List.length_take,List.length_drop,List.length_nil,List.length_cons];omega))<|zp (Aa R R A0)<|?_
 refine XL.step R (Ai (l':= [.own 900, .d (.sl 4 (z.1.1.tups.map Tp.c))]) R R R R O1 R lb (by kernel_rfl))<|zng<|zm R R<|za R R<|zn<|Gh<|?_
 have hnoJ:¬smJ p (smA z.1.1 p z.1.2) (smA z.1.1 p (Am z.1.1 z.1.2)) (Am z.1.1 z.1.2 - z.1.2):=fun hJ=>by rw [hAk,hAq] at hJ;unfold smJ at hJ;omega
 exact Al (((z.1.1,Am z.1.1 z.1.2),Am v z.2)) ((hS.nextJ hc hzk (Dk hnoJ)).1) ((hS.nextJ hc hzk (Dk hnoJ)).2) (fz ⟨sr,sr,sr,sr,sr,sr,sr,trivial⟩) (gz ⟨R,R,R,R,Ec (hS.takeN hc hzk),trivial⟩)
 have hdn:=hS.smi.done (by omega)
 have hte:z.1.1.evs.take z.1.2=z.1.1.evs:=List.take_of_length_le (by omega)
 refine An<|zr<|zp (Ae (Ac R R Bg R lb))<|XL.step R (Ai (l':= [.own 900, .d (.sl 4 (z.1.1.tups.map Tp.c))]) R R R R D7 R lb (by kernel_rfl))<|zn<|zt<|Bj (i:=900) R<|?_
 exact Ft R (RV.cells R R R Bg lb R) (by rw [←hdn,hte];rfl)
end Go.Proofs.YtcihalbakenleaaGreat
namespace Go.Proofs.YtcihalbakenleaaGreat
open Go.RowKit
theorem Apg (v:Vo) (p:Pl) (hE:Evs v.evs):XC Tryz.prog 4 [.agg (Vo.c v), .agg (Pl.c p)] (fun r=>r=dB true):=by
 refine Ap Aic Tryz.func4 R R lb<|zr<|XL.step R (Ay 2 (l:= [.d (.sl 13 (v.evs.map Ev.c)), .d (.sl 4 (v.tups.map Tp.c))]) R R (by kernel_rfl))<|XL.step R (Ay 3 (l:= [.d (dI p.m.count), .d (dI p.m.unit), .d (dI p.m.g0), .d (dI p.m.g1), .d (dI p.m.g2), .d (dI p.m.g3), .d (dI p.m.g4), .d (dI p.m.g5), .d (dI p.off), .d (dI p.len)]) R R (by kernel_rfl))<|za R R<|zn<|zs<|zr<|?_
 refine XL.call1 R R (S5) R<|zp (Cr R R)<|zm R R<|?_
 refine XL.bool 12 R (fun g12=> ?_) (fun g12=> ?_)
 exact zk 3 R<|zq R R R<|zn<|Ao (by kernel_rfl) R<|zr<|XL.call1 R R (S5) R<|za R R<|zn<|zt<|z1 R R (R)
 refine zp (Ad (s':= .d (.agg (Vo.c v))) (Ae (Ac R R Bg R lb)) (by kernel_rfl))<|XL.call1 R R (Arl _) R<|zp (Bo R R)<|zq R R R<|zn<|?_
 refine zd R (fun c16=> ?_) (fun c16=> ?_)
 exact zr<|XL.call1 R R (S5) R<|za R R<|zn<|zt<|z1 R R (R)
 refine zi<|zs<|?_
 have hfw:=Decidable.not_not.1 c16
 have htl:=hfw.2.2
 have hF:=hfw.fit
 refine Af (by kernel_rfl)<|zp (Ad (s':= .d (.agg (Vo.c v))) (Ae (Ac R R Bg R lb)) (by kernel_rfl))<|zp (Ad (s':= .d (.agg (Pl.c p))) (Ae (Ac R R Jy R lb)) (by kernel_rfl))<|XL.call1 R R (N9 _ _ (by assumption) (by assumption)) R<|zm R R<|zp (Bh R R R)<|zp (Bh R R R)<|?_
 refine XL.step R (A9 5 (l:= [.d (.v (.slice none 0 0)), .d (.v (.slice none 0 0))]) R Ca (by kernel_rfl))<|XL.step R (Ai (l':= [.d (.sl 13 (((Fj v p).1).evs.map Ev.c)), .d (.sl 4 (((Fj v p).1).tups.map Tp.c))]) R R R R D7 R lb (by kernel_rfl))<|za R R<|znr<|zp (Ad (s':= .d (.agg (Vo.c v))) (Ae (Ac R R Bg R lb)) (by kernel_rfl))<|?_
 refine zp (Ad (s':= .d (.agg (Pl.c p))) (Ae (Ac R R Jy R lb)) (by kernel_rfl))<|XL.call1 R R (Ah1 _ _ (by assumption) (by omega)) R<|za R R<|zn<|zs<|zr<|zm R R<|zp (Bc R R R)<|zn<|?_
 refine zd R (fun c28=> ?_) (fun c28=> ?_)
 refine zr<|zm R R<|zm R R<|zp (Dd (Az R R R) (by rw [Alm c28]))<|zm R R<|zp (Ad (s':= .d (.agg (Vo.c (Fj v p).1))) (Ae (Ac R R Bg R lb)) (by kernel_rfl))<|zp (St (.agg (Vo.c ⟨[], []⟩)) (Ad (s':= .d (.agg [.v (.slice none 0 0), .v (.slice none 0 0)])) (Ae (Bv R Gc Ca R)) (by kernel_rfl)) (.agg (.cons (.nil 13) (.cons (.nil 4) (.nil)))))<|?_
 refine XL.call1 R R (P7 (S4 _ _) (by rw [Alm c28])) R<|zp (Ad (s':= .d (dB true)) (Av R R (by conv=>lhs;whnf)) (R))<|?_
 exact za R R<|zn<|zt<|z1 R R (R)
 refine zi<|zs<|?_
 have hc0:p.chk v=0:=by omega
 have hs2:=All (p:=p) (v:=v) c28
 have hw:(Fj v p).1=Mw v p:=by rw [hs2]
 have hc2:p.chk (Fj v p).1=0:=by rw [hw];exact Aoq hc0
 have hz:ckE (Fj v p).1 p.len=0:=(G2 hc2).2.2
 have hzE:Evs (Fj v p).1.evs:=(Kk hz).2
 have hzt:=Ap0 hz
 have hF2:(Fj v p).1.fit:=by rw [hw];exact Aop hc0 hF
 have hs3:=All (p:=p) (v:=(Fj v p).1) (by omega)
 have hid:(Fj (Fj v p).1 p).1=(Fj v p).1:=by rw [hs3,hw];exact Aln hc0
 refine Af (by kernel_rfl)<|zp (Ad (s':= .d (.agg (Vo.c (Fj v p).1))) (Ae (Ac R R Bg R lb)) (by kernel_rfl))<|zp (Ad (s':= .d (.agg (Pl.c p))) (Ae (Ac R R Jy R lb)) (by kernel_rfl))<|XL.call1 R R (N9 _ _ (by assumption) (by assumption)) R<|zm R R<|zp (Bh R R R)<|zp (Bh R R R)<|?_
 refine XL.step R (A9 8 (l:= [.d (.v (.slice none 0 0)), .d (.v (.slice none 0 0))]) R Ca (by kernel_rfl))<|XL.step R (Ai (l':= [.d (.sl 13 (((Fj ((Fj v p).1) p).1).evs.map Ev.c)), .d (.sl 4 (((Fj ((Fj v p).1) p).1).tups.map Tp.c))]) R R R R D7 R lb (by kernel_rfl))<|za R R<|zn<|zs<|A8 [] (by kernel_rfl) (by kernel_rfl) (by kernel_rfl) (by decide)<|ym R R<|?_
 refine yp (Dd (Az R R R) (by rw [hs2]))<|ym R R<|yp (Ad (s':= .d (.agg (Vo.c (Fj v p).1))) (Ae (Ac R R Bg R lb)) (by kernel_rfl))<|yp (Ad (s':= .d (.agg (Vo.c v))) (Ae (Ac R R Bg R lb)) (by kernel_rfl))<|yp (Ad (s':= .d (.agg (Pl.c p))) (Ae (Ac R R Jy R lb)) (by kernel_rfl))<|?_
 refine ChK.cons R (CStep.call R (Yn _ _ (by assumption) (by assumption)) R)<|ChK.cons R (CStep.call R (P7 (S4 _ _) hw) R)<|yp (Av R R (by conv=>lhs;whnf))<|?_
 refine ym R R<|yp (Ad (s':= .d (.agg (Vo.c (Fj v p).1))) (Ae (Ac R R Bg R lb)) (by kernel_rfl))<|yp (Aa R R Iq)<|yp (Ab R R Ah R R)<|ChK.cons R (CStep.call R (Rx _ _ (by assumption) (by omega)) R)<|yp (Dd (Az R R R) (hz))<|yp (Av R R (by conv=>lhs;whnf))<|?_
 refine ym R R<|ym R R<|yp (Dd (Az R R R) (by rw [hs3]))<|yp (Av R R (by conv=>lhs;whnf))<|?_
 refine ym R R<|yp (Ad (s':= .d (.agg (Vo.c (Fj ((Fj v p).1) p).1))) (Ae (Ac R R Bg R lb)) (by kernel_rfl))<|yp (Ad (s':= .d (.agg (Vo.c (Fj v p).1))) (Ae (Ac R R Bg R lb)) (by kernel_rfl))<|ChK.cons R (CStep.call R (P7 (S4 _ _) hid) R)<|yp (Av R R (by conv=>lhs;whnf))<|?_
 refine ya R R<|?_
 refine ChK.nil ⟨by kernel_rfl, ?_⟩
 exact zt<|z1 R R (R)
end Go.Proofs.YtcihalbakenleaaGreat
