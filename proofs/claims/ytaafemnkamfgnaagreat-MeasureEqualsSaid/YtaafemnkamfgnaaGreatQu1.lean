/- Part 1 of what the statements need: lemmas and walks. -/
import Derived.Test.YtaafemnkamfgnaaGreatRows
import Derived.WalkKit
import Derived.WalkSpells
import Derived.WalkLawsBesides
import Derived.Handy
import Derived.Deep.AppendLies
import Derived.Deep.Draws
import Derived.Maps.AppendAt
import Derived.Deep.QuietTactic
import Derived.BigQuiet
import Derived.Deep.RegionHeld3
import Derived.Deep.RegionWith
import Derived.Deep.DeepCutAuto
import Derived.Deep.LoopGhost
import Derived.BigRegion
set_option linter.unusedVariables false
set_option linter.unusedSimpArgs false
set_option linter.unusedSectionVars false
namespace Go.Proofs.YtaafemnkamfgnaaGreat
theorem R.{u} {α : Sort u} {a : α} : a = a := rfl
theorem lb {a b : Nat} (h : Nat.ble a b = true := by exact rfl) : a ≤ b := Nat.le_of_ble_eq_true h
open Go.RowKit
def Rds (w:World) (B:Nat) (A:Option Addr) (xs:List Value):Prop:=
 xs= []∨∃b off,A=some ⟨b,off,none⟩∧b<B∧∀j u,xs[j]? =some u→w.cell? ⟨b,off+j,none⟩=some u
section
variable {w w':World} {B B':Nat} {A:Option Addr} {xs:List Value}
end
section
variable {α:Type} (f:α→List Value) (sz:Nat)
end
def ElemTy (P:Program) (t e:TypeId) (size bytes:Nat):Prop:=
 P.underlying t=some (.slice e)∧0<size∧∃i z,P.info? e=some i∧i.zero=some z∧i.size=size∧i.bytes=bytes∧z.cells.size=size
theorem ElemTy.of {P:Program} {t e:TypeId} {z:Value} {size bytes:Nat} (ht:P.underlying t=some (.slice e))
  (h:(P.info? e).map (fun i=>(i.zero,i.size,i.bytes))=some (some z,size,bytes)) (hz:z.cells.size=size) (hs:0<size):ElemTy P t e size bytes:=by
 obtain ⟨i,h1,h2,h3,h4⟩:=info_parts h
 exact ⟨ht,hs,i,z,h1,h2,h3,h4,hz⟩
section
variable {P:Program} {w:World}
theorem Y4 (base:Nat) {t ty e:TypeId} {size bytes:Nat} (T:ElemTy P t e size bytes) {v:Value} {n:Nat} {xs:List Value}
  (hown:w.ownsRow base e size v n xs) (c:Nat):(Builtin.append_ #[t,t] ty #[v, .slice none 0 c]).run P w= .ok v w:=by
 obtain ⟨ht,_,i,z,hi,_⟩:=T
 rcases hown.2 with ⟨rfl,rfl⟩|⟨g,cap,cur,rfl,_,_,hnc,_⟩
 ·simp [Builtin.append_,run_underlying ht,sizeOf,typeInfo,hi,Builtin.lenOf,Builtin.firstCells]
 ·simp [Builtin.append_,run_underlying ht,sizeOf,typeInfo,hi,Builtin.lenOf,Builtin.firstCells,hnc,storeCells]
theorem Vj (base:Nat) {t ty e:TypeId} {size bytes:Nat} (T:ElemTy P t e size bytes) {v:Value} {n:Nat} {xs:List Value}
  (hown:w.ownsRow base e size v n xs) {B:Nat} {A:Option Addr} {m:Nat} (c:Nat) {news:List Value} (hl:news.length=m*size) (hr:Rds w B A news)
  (h1:∀u∈news,u.oneCell'=true) (h63:n+m≤maxLen) (hbytes:(n+m)*bytes≤140737488355328) (hbase:base≤w.heap.size):
  ∃v' w',(Builtin.append_ #[t,t] ty #[v, .slice A m c]).run P w= .ok v' w'∧w'.ownsRow base e size v' (n+m) (xs++news)∧w.grownBy w' v.ownBlock∧
   (v'.ownBlock=v.ownBlock∨v'.ownBlock=some w.heap.size):=by
 have T':=T
 obtain ⟨ht,hs,i,z,hi,hz,hz1,hz2,hz3⟩:=T'
 have two:news= []→m=0:=by
  rintro rfl
  have:=hl.symm
  simp only [List.length_nil,Nat.mul_eq_zero] at this
  omega
 rcases A with _|ad
 ·have hn:news= []:=by
   rcases hr with h|⟨_,_,h,_⟩
   ·exact h
   ·cases h
  have hm:=two hn
  subst hn hm
  exact ⟨v,w,Y4 base T hown c,by simpa using hown,⟨rfl,rfl,rfl,Nat.le_refl _,fun _ _ _=>rfl⟩, .inl rfl⟩
 ·have hcells:∀j u,news[j]? =some u→w.cell? (ad.add j)=some u:=by
   intro j u hu
   rcases hr with h|⟨b,off,h,_,hc⟩
   ·subst h;simp at hu
   ·injection h with h
    subst h
    rw [Go.WideShapes.add_plain]
    exact hc j u hu
  obtain ⟨v',w',hrun,h2,h3,_,h5⟩:=run_append_own_at (P:=P) w base t ty e i z size bytes ht hi hz hz1 hz2 hz3 hs v n xs hown ad m c news hl hcells h1 h63 hbytes hbase
  exact ⟨v',w',hrun,h2,h3,h5⟩
end
section
variable {w w':World} {base e size n cap:Nat} {v:Value} {xs:List Value}
theorem Rds.own {A:Option Addr} (h:w.ownsRow base e size (.slice A n cap) n xs):Rds w w.heap.size A xs:=by
 rcases Nat.eq_zero_or_pos n with h0|h0
 ·subst h0
  have h1:=h.1
  rw [Nat.zero_mul] at h1
  exact .inl (List.eq_nil_of_length_eq_zero h1)
 ·obtain ⟨g,cap',hv,_,hlt⟩:=h.form h0
  injection hv with hA
  subst hA
  refine .inr ⟨g,0,rfl,hlt,fun j u hu=> ?_⟩
  have:=h.cells (g:=g) rfl j u hu
  rw [Go.WideShapes.add_plain] at this
  exact this
theorem Il (h:w.ownsRow base e size v n xs):∃A c,v= .slice A n c∧(A=none→c=0)∧n≤c∧c≤maxLen:=by
 rcases h.2 with ⟨rfl,rfl⟩|⟨g,cap,cur,rfl,_,_,h1,h2,_⟩
 ·exact ⟨none,0,rfl,fun _=>rfl,Nat.le_refl _,by simp only [maxLen];omega⟩
 ·exact ⟨_,cap,rfl,fun h=>by simp at h,h1,h2⟩
end
section
variable {α:Type} (f:α→List Value)
end
section
variable {w:World} {base e g n cap:Nat} {α:Type} {f:α→List Value}
end
end Go.Proofs.YtaafemnkamfgnaaGreat
namespace Go.Proofs.YtaafemnkamfgnaaGreat
open Go.RowKit
abbrev Hp:=Nat→Nat→Option Value
inductive D where
  |v (x:Value)
  |agg (l:List D)
  |sl (sz:Nat) (l:List (List D))
  |pt (l:List D)
  |fn (f:FuncId) (a c:List D)
  |tup (l:List D)
  deriving Inhabited
inductive VD (H:Hp):Value→D→Prop where
  |v (x:Value):VD H x (.v x)
  |agg (cs:Array Value) (l:List D) (hl:cs.size=l.length) (h:∀(i:Nat) (x:Value) (d:D),cs[i]? =some x→l[i]? =some d→VD H x d):VD H (.agg cs) (.agg l)
  |emp (A:Option Addr) (c sz:Nat) (hc:A=none→c=0) (hm:c≤maxLen):VD H (.slice A 0 c) (.sl sz [])
  |sl (b off n c sz:Nat) (l:List (List D)) (g:Nat→Nat→Value) (hn:n=l.length) (hc:n≤c) (hm:c≤maxLen) (hz:∀e∈l,e.length=sz)
      (hg:∀(k j:Nat) (e:List D) (d:D),l[k]? =some e→e[j]? =some d→H b (off+(k*sz+j))=some (g k j))
      (hv:∀(k j:Nat) (e:List D) (d:D),l[k]? =some e→e[j]? =some d→VD H (g k j) d):VD H (.slice (some ⟨b,off,none⟩) n c) (.sl sz l)
  |pt (b off:Nat) (l:List D) (g:Nat→Value) (hg:∀(j:Nat) (d:D),l[j]? =some d→H b (off+j)=some (g j))
      (hv:∀(j:Nat) (d:D),l[j]? =some d→VD H (g j) d):VD H (.pointer (some ⟨b,off,none⟩)) (.pt l)
  |fn (f:FuncId) (A C:Array Value) (a c:List D) (ha:A.size=a.length) (hc:C.size=c.length) (h:∀(i:Nat) (x:Value) (d:D),A[i]? =some x→a[i]? =some d→VD H x d)
      (h':∀(i:Nat) (x:Value) (d:D),C[i]? =some x→c[i]? =some d→VD H x d):VD H (.func (.func f) A C) (.fn f a c)
  |tup (cs:Array Value) (l:List D) (hl:cs.size=l.length) (h:∀(i:Nat) (x:Value) (d:D),cs[i]? =some x→l[i]? =some d→VD H x d):VD H (.tuple cs) (.tup l)
def Hp.le (H H':Hp):Prop:=∀b o u,H b o=some u→H' b o=some u
theorem Hp.le.refl (H:Hp):H.le H:=fun _ _ _ h=>h
theorem Hp.le.trans {H H' H'':Hp} (h:H.le H') (k:H'.le H''):H.le H'':=fun b o u e=>k b o u (h b o u e)
theorem VD.mono {H H':Hp} {x:Value} {d:D} (h:VD H x d) (hl:H.le H'):VD H' x d:=by
  induction h with
  |v x=>exact .v x
  |agg cs l e h ih=>exact .agg cs l e ih
  |emp A c sz h1 h2=>exact .emp A c sz h1 h2
  |sl b off n c sz l g hn hc hm hz hg hv ih=>exact .sl b off n c sz l g hn hc hm hz (fun k j e d h1 h2=>hl _ _ _ (hg k j e d h1 h2)) ih
  |pt b off l g hg hv ih=>exact .pt b off l g (fun j d h=>hl _ _ _ (hg j d h)) ih
  |fn f A C a c ha hc h h' ih ih'=>exact .fn f A C a c ha hc ih ih'
  |tup cs l e h ih=>exact .tup cs l e ih
def Imm (H:Hp) (w:World):Prop:=∀b o u,H b o=some u→w.cell? ⟨b,o,none⟩=some u∧u.oneCell'=true
theorem Imm.lt {H:Hp} {w:World} (h:Imm H w) {b o:Nat} {u:Value} (e:H b o=some u):b<w.heap.size:=by
  simpa using World.block_lt_of_cell? w _ (h b o u e).1
theorem Imm.below {H:Hp} {w w':World} (h:Imm H w) (hb:Below w.heap.size w w'):Imm H w':=fun b o u e=>⟨(hb.cell (p:=⟨b,o,none⟩) (h.lt e)).trans (h b o u e).1,(h b o u e).2⟩
inductive S where
  |any
  |d (x:D)
  |ptr (i k off:Nat)
  |own (i:Nat)
  |sub (i a b:Nat)
  |agg (l:List S)
  |fn (f:FuncId) (a c:List S)
  |tup (l:List S)
  deriving Inhabited
abbrev noB:Nat→Prop:=fun _=>False
structure Loc where
  v:Value
  b:Nat
  sz:Nat
  B:Nat→Prop
abbrev Bt:=Nat→Option Loc
inductive VS (H:Hp) (β:Bt):Value→S→Prop where
  |any (u:Value):VS H β u .any
  |d {u:Value} {x:D} (h:VD H u x):VS H β u (.d x)
  |ptr {i:Nat} {L:Loc} (k off:Nat) (h:β i=some L):VS H β (.pointer (some ⟨L.b,k*L.sz+off,none⟩)) (.ptr i k off)
  |own {i:Nat} {L:Loc} (h:β i=some L):VS H β L.v (.own i)
  |sub {i:Nat} {L:Loc} {A:Option Addr} {n c:Nat} (a b:Nat) (h:β i=some L) (hv:L.v= .slice A n c) (hab:a≤b) (hb:b≤n):VS H β (.slice (if c=a then A else A.map (·.add (a*L.sz))) (b - a) (c - a)) (.sub i a b)
  |agg (cs:Array Value) (l:List S) (hl:cs.size=l.length) (h:∀(i:Nat) (x:Value) (s:S),cs[i]? =some x→l[i]? =some s→VS H β x s):VS H β (.agg cs) (.agg l)
  |fn (f:FuncId) (A C:Array Value) (a c:List S) (ha:A.size=a.length) (hc:C.size=c.length) (h:∀(i:Nat) (x:Value) (s:S),A[i]? =some x→a[i]? =some s→VS H β x s)
      (h':∀(i:Nat) (x:Value) (s:S),C[i]? =some x→c[i]? =some s→VS H β x s):VS H β (.func (.func f) A C) (.fn f a c)
  |tup (cs:Array Value) (l:List S) (hl:cs.size=l.length) (h:∀(i:Nat) (x:Value) (s:S),cs[i]? =some x→l[i]? =some s→VS H β x s):VS H β (.tuple cs) (.tup l)
theorem O8 {H:Hp} {u x:Value} (h:VD H u (.v x)):u=x:=by
  generalize e:D.v x=d at h
  cases h with
  |v y=>injection e with e;exact e.symm
  |_=>cases e
theorem D5 {H:Hp} {β:Bt} {u:Value} {x:D} (h:VS H β u (.d x)):VD H u x:=by
  generalize e:S.d x=s at h
  cases h with
  |d h=>injection e with e;subst e;exact h
  |_=>cases e
theorem Dn {H:Hp} {β:Bt} {u x:Value} (h:VS H β u (.d (.v x))):u=x:=O8 (D5 h)
theorem Fm {H:Hp} {β:Bt} {u:Value} {i k off:Nat} (h:VS H β u (.ptr i k off)):∃L,β i=some L∧u= .pointer (some ⟨L.b,k*L.sz+off,none⟩):=by
  generalize e:S.ptr i k off=s at h
  cases h with
  |ptr k' off' h'=>injection e with e1 e2 e3;subst e1 e2 e3;exact ⟨_,h',rfl⟩
  |_=>cases e
theorem Fa {H:Hp} {β:Bt} {u:Value} {i:Nat} (h:VS H β u (.own i)):∃L,β i=some L∧u=L.v:=by
  generalize e:S.own i=s at h
  cases h with
  |own h'=>injection e with e1;subst e1;exact ⟨_,h',rfl⟩
  |_=>cases e
theorem Ya {H:Hp} {β:Bt} {u:Value} {i a b:Nat} (h:VS H β u (.sub i a b)):∃L A n c,β i=some L∧L.v= .slice A n c∧a≤b∧b≤n∧u= .slice (if c=a then A else A.map (·.add (a*L.sz))) (b - a) (c - a):=by
  generalize e:S.sub i a b=s at h
  cases h with
  |sub a' b' h' hv hab hb=>injection e with e1 e2 e3;subst e1 e2 e3;exact ⟨_,_,_,_,h',hv,hab,hb,rfl⟩
  |_=>cases e
theorem Yb {H:Hp} {β:Bt} {u:Value} {l:List S} (h:VS H β u (.agg l)):∃cs:Array Value,u= .agg cs∧cs.size=l.length∧∀(i:Nat) (x:Value) (s:S),cs[i]? =some x→l[i]? =some s→VS H β x s:=by
  generalize e:S.agg l=s at h
  cases h with
  |agg cs l' e' h'=>injection e with e1;subst e1;exact ⟨cs,rfl,e',h'⟩
  |_=>cases e
theorem Aq8 {H:Hp} {β:Bt} {u:Value} {l:List S} (h:VS H β u (.tup l)):∃cs:Array Value,u= .tuple cs∧cs.size=l.length∧∀(i:Nat) (x:Value) (s:S),cs[i]? =some x→l[i]? =some s→VS H β x s:=by
  generalize e:S.tup l=s at h
  cases h with
  |tup cs l' e' h'=>injection e with e1;subst e1;exact ⟨cs,rfl,e',h'⟩
  |_=>cases e
theorem Xw {H:Hp} {β:Bt} {u:Value} {f:FuncId} {a c:List S} (h:VS H β u (.fn f a c)):∃A C:Array Value,u= .func (.func f) A C∧A.size=a.length∧C.size=c.length∧
    (∀(i:Nat) (x:Value) (s:S),A[i]? =some x→a[i]? =some s→VS H β x s)∧(∀(i:Nat) (x:Value) (s:S),C[i]? =some x→c[i]? =some s→VS H β x s):=by
  generalize e:S.fn f a c=s at h
  cases h with
  |fn f' A C a' c' h1 h2 h3 h4=>injection e with e1 e2 e3;subst e1 e2 e3;exact ⟨A,C,rfl,h1,h2,h3,h4⟩
  |_=>cases e
theorem P4 {H:Hp} {u:Value} {l:List D} (h:VD H u (.agg l)):∃cs:Array Value,u= .agg cs∧cs.size=l.length∧∀(i:Nat) (x:Value) (s:D),cs[i]? =some x→l[i]? =some s→VD H x s:=by
  generalize e:D.agg l=s at h
  cases h with
  |agg cs l' e' h'=>injection e with e1;subst e1;exact ⟨cs,rfl,e',h'⟩
  |_=>cases e
theorem Ail {H:Hp} {u:Value} {l:List D} (h:VD H u (.tup l)):∃cs:Array Value,u= .tuple cs∧cs.size=l.length∧∀(i:Nat) (x:Value) (s:D),cs[i]? =some x→l[i]? =some s→VD H x s:=by
  generalize e:D.tup l=s at h
  cases h with
  |tup cs l' e' h'=>injection e with e1;subst e1;exact ⟨cs,rfl,e',h'⟩
  |_=>cases e
theorem An6 {H:Hp} {u:Value} {f:FuncId} {a c:List D} (h:VD H u (.fn f a c)):∃A C:Array Value,u= .func (.func f) A C∧A.size=a.length∧C.size=c.length∧
    (∀(i:Nat) (x:Value) (s:D),A[i]? =some x→a[i]? =some s→VD H x s)∧(∀(i:Nat) (x:Value) (s:D),C[i]? =some x→c[i]? =some s→VD H x s):=by
  generalize e:D.fn f a c=s at h
  cases h with
  |fn f' A C a' c' h1 h2 h3 h4=>injection e with e1 e2 e3;subst e1 e2 e3;exact ⟨A,C,rfl,h1,h2,h3,h4⟩
  |_=>cases e
theorem Xx {H:Hp} {u:Value} {l:List D} (h:VD H u (.pt l)):∃(b off:Nat) (g:Nat→Value),u= .pointer (some ⟨b,off,none⟩)∧(∀(j:Nat) (d:D),l[j]? =some d→H b (off+j)=some (g j))∧
    ∀(j:Nat) (d:D),l[j]? =some d→VD H (g j) d:=by
  generalize e:D.pt l=s at h
  cases h with
  |pt b off l' g h1 h2=>injection e with e1;subst e1;exact ⟨b,off,g,rfl,h1,h2⟩
  |_=>cases e
theorem Rl {H:Hp} {u:Value} {sz:Nat} {l:List (List D)} (h:VD H u (.sl sz l)):∃(A:Option Addr) (c:Nat),u= .slice A l.length c∧l.length≤c∧c≤maxLen∧(A=none→c=0)∧
    (l = [] ∨ ∃ (b off : Nat) (g : Nat → Nat → Value), A = some ⟨b, off, none⟩ ∧ (∀ e ∈ l, e.length = sz) ∧ (∀ (k j : Nat) (e : List D) (d : D), l[k]? = some e → e[j]? = some d → H b (off + (k * sz + j)) = some (g k j)) ∧
      ∀ (k j : Nat) (e : List D) (d : D), l[k]? = some e → e[j]? = some d → VD H (g k j) d) := by
  generalize e:D.sl sz l=s at h
  cases h with
  |emp A c sz' h1 h2=>injection e with e1 e2;subst e1 e2;exact ⟨A,c,rfl,Nat.zero_le _,h2,h1, .inl rfl⟩
  |sl b off n c sz' l' g h1 h2 h3 h4 h5 h6=>
    injection e with e1 e2
    subst e1 e2
    exact ⟨some ⟨b,off,none⟩,c,by rw [h1],by omega,h3,(fun h=>by cases h), .inr ⟨b,off,g,rfl,h4,h5,h6⟩⟩
  |_=>cases e
def Bt.le (β β':Bt):Prop:=∀i L,β i=some L→β' i=some L
theorem VS.mono {H H':Hp} {β β':Bt} {x:Value} {s:S} (h:VS H β x s) (hl:H.le H') (hb:Bt.le β β'):VS H' β' x s:=by
  induction h with
  |any u=>exact .any u
  |d h=>exact .d (h.mono hl)
  |ptr k off h=>exact .ptr k off (hb _ _ h)
  |own h=>exact .own (hb _ _ h)
  |sub a b h hv hab hn=>exact .sub a b (hb _ _ h) hv hab hn
  |agg cs l e h ih=>exact .agg cs l e ih
  |fn f A C a c ha hc h h' ih ih'=>exact .fn f A C a c ha hc ih ih'
  |tup cs l e h ih=>exact .tup cs l e ih
theorem Bp {i j:Nat} (h:i≠j):Nat.beq i j=false:=by
  cases e:Nat.beq i j with
  |false=>rfl
  |true=>exact absurd (Nat.eq_of_beq_eq_true e) h
theorem Bh (i:Nat):Nat.beq i i=true:=Nat.beq_refl i
mutual
def S.kill (i:Nat):S→S
  | .any=> .any
  | .d x=> .d x
  | .ptr j k off=>bif Nat.beq i j then .any else .ptr j k off
  | .own j=>bif Nat.beq i j then .any else .own j
  | .sub j a b=>bif Nat.beq i j then .any else .sub j a b
  | .agg l=> .agg (S.killL i l)
  | .fn f a c=> .fn f (S.killL i a) (S.killL i c)
  | .tup l=> .tup (S.killL i l)
def S.killL (i:Nat):List S→List S
  | []=> []
  |s::l=>S.kill i s::S.killL i l
end
def S.killG (i:Nat):List (Nat × S)→List (Nat × S)
  | []=> []
  |(t,s)::l=>(t,s.kill i)::S.killG i l
theorem S.killG_mem {i:Nat} {l:List (Nat × S)} {t:Nat} {s:S} (h:(t,s)∈S.killG i l):∃s',(t,s')∈l∧s=s'.kill i:=by
  induction l with
  |nil=>cases h
  |cons a l ih=>
    obtain ⟨t',s'⟩:=a
    rcases List.mem_cons.1 h with e|e
    · cases e;exact ⟨s',List.mem_cons_self,rfl⟩
    · obtain ⟨s2,h1,h2⟩:=ih e;exact ⟨s2,List.mem_cons_of_mem _ h1,h2⟩
theorem S.killL_length (i:Nat) (l:List S):(S.killL i l).length=l.length:=by
  induction l with
  |nil=>rfl
  |cons a l ih=>simp [S.killL,ih]
theorem S.killL_get (i:Nat) (l:List S) (j:Nat):(S.killL i l)[j]? =(l[j]?).map (S.kill i):=by
  induction l generalizing j with
  |nil=>rfl
  |cons a l ih=>
    cases j with
    |zero=>rfl
    |succ j=>simpa [S.killL] using ih j
def Bt.set (β:Bt) (i:Nat) (L:Option Loc):Bt:=fun j=>bif Nat.beq i j then L else β j
theorem Bt.set_same (β:Bt) (i:Nat) (L:Option Loc):β.set i L i=L:=by simp [Bt.set]
theorem Bt.set_ne (β:Bt) {i j:Nat} (L:Option Loc) (h:i≠j):β.set i L j=β j:=by
  have:Nat.beq i j=false:=Bp h
  simp [Bt.set,this]
theorem VS.kill {H:Hp} {β:Bt} {x:Value} {s:S} (h:VS H β x s) (i:Nat) (L:Option Loc):VS H (β.set i L) x (s.kill i):=by
  induction h with
  |any u=>unfold S.kill;exact .any u
  |d h=>unfold S.kill;exact .d h
  | @ptr j L' k off h=>
    unfold S.kill
    by_cases e:i=j
    · subst e;rw [Bh];exact .any _
    · have:Nat.beq i j=false:=Bp e
      rw [this]
      exact .ptr k off (by rw [Bt.set_ne β L e];exact h)
  | @own j L' h=>
    unfold S.kill
    by_cases e:i=j
    · subst e;rw [Bh];exact .any _
    · have:Nat.beq i j=false:=Bp e
      rw [this]
      exact .own (by rw [Bt.set_ne β L e];exact h)
  | @sub j L' A n c a b h hv hab hn=>
    unfold S.kill
    by_cases e:i=j
    · subst e;rw [Bh];exact .any _
    · have:Nat.beq i j=false:=Bp e
      rw [this]
      exact .sub a b (by rw [Bt.set_ne β L e];exact h) hv hab hn
  |agg cs l e h ih=>
    unfold S.kill
    refine .agg cs _ (by rw [S.killL_length];exact e) fun j x s hx hs=> ?_
    rw [S.killL_get] at hs
    cases hl:l[j]? with
    |none=>rw [hl] at hs;simp at hs
    |some s'=>rw [hl] at hs;simp at hs;subst hs;exact ih j x s' hx hl
  |fn f A C a c ha hc h h' ih ih'=>
    unfold S.kill
    refine .fn f A C _ _ (by rw [S.killL_length];exact ha) (by rw [S.killL_length];exact hc) (fun j x s hx hs=> ?_) (fun j x s hx hs=> ?_)
    · rw [S.killL_get] at hs
      cases hl:a[j]? with
      |none=>rw [hl] at hs;simp at hs
      |some s'=>rw [hl] at hs;simp at hs;subst hs;exact ih j x s' hx hl
    · rw [S.killL_get] at hs
      cases hl:c[j]? with
      |none=>rw [hl] at hs;simp at hs
      |some s'=>rw [hl] at hs;simp at hs;subst hs;exact ih' j x s' hx hl
  |tup cs l e h ih=>
    unfold S.kill
    refine .tup cs _ (by rw [S.killL_length];exact e) fun j x s hx hs=> ?_
    rw [S.killL_get] at hs
    cases hl:l[j]? with
    |none=>rw [hl] at hs;simp at hs
    |some s'=>rw [hl] at hs;simp at hs;subst hs;exact ih j x s' hx hl
inductive T where
  |any
  |d (x:D)
  |own (i:Nat)
  |row (e:TypeId) (sz:Nat) (l:List (List T))
  deriving Inhabited
mutual
def T.mp (f:Nat→T):T→T
  | .any=> .any
  | .d x=> .d x
  | .own j=>f j
  | .row e sz l=> .row e sz (T.mpLL f l)
def T.mpL (f:Nat→T):List T→List T
  | []=> []
  |s::l=>T.mp f s::T.mpL f l
def T.mpLL (f:Nat→T):List (List T)→List (List T)
  | []=> []
  |s::l=>T.mpL f s::T.mpLL f l
end
def T.killF (i j:Nat):T:=bif Nat.beq i j then .any else .own j
theorem T.mpL_length (f:Nat→T) (l:List T):(T.mpL f l).length=l.length:=by
  induction l with
  |nil=>rfl
  |cons a l ih=>simp [T.mpL,ih]
theorem T.mpLL_length (f:Nat→T) (l:List (List T)):(T.mpLL f l).length=l.length:=by
  induction l with
  |nil=>rfl
  |cons a l ih=>simp [T.mpLL,ih]
theorem T.mpL_get (f:Nat→T) (l:List T) (j:Nat):(T.mpL f l)[j]? =(l[j]?).map (T.mp f):=by
  induction l generalizing j with
  |nil=>rfl
  |cons a l ih=>
    cases j with
    |zero=>rfl
    |succ j=>simpa [T.mpL] using ih j
theorem T.mpLL_get (f:Nat→T) (l:List (List T)) (j:Nat):(T.mpLL f l)[j]? =(l[j]?).map (T.mpL f):=by
  induction l generalizing j with
  |nil=>rfl
  |cons a l ih=>
    cases j with
    |zero=>rfl
    |succ j=>simpa [T.mpLL] using ih j
def B2 (t:Nat):List Nat→Bool
  | []=>false
  |x::l=>Nat.beq t x||B2 t l
theorem Hx {t:Nat}:∀{l:List Nat},t∈l→B2 t l=true
  |x::l,h=>by
    rcases List.mem_cons.1 h with rfl|h
    · simp [B2]
    · simp [B2,Hx h]
theorem Ru {t:Nat}:∀{l:List Nat},B2 t l=true→t∈l
  |x::l,h=>by
    simp only [B2,Bool.or_eq_true] at h
    rcases h with h|h
    · rw [Nat.eq_of_beq_eq_true h];exact List.mem_cons_self
    · exact List.mem_cons_of_mem _ (Ru h)
mutual
def T.inn (ls:List Nat):T→Bool
  | .any=>true
  | .d _=>true
  | .own j=>B2 j ls
  | .row _ _ l=>T.inLL ls l
def T.inL (ls:List Nat):List T→Bool
  | []=>true
  |s::l=>T.inn ls s && T.inL ls l
def T.inLL (ls:List Nat):List (List T)→Bool
  | []=>true
  |s::l=>T.inL ls s && T.inLL ls l
end
theorem T.inL_get {ls:List Nat} {l:List T} (h:T.inL ls l=true) {j:Nat} {t:T} (ht:l[j]? =some t):t.inn ls=true:=by
  induction l generalizing j with
  |nil=>cases ht
  |cons a l ih=>
    simp only [T.inL,Bool.and_eq_true] at h
    cases j with
    |zero=>cases ht;exact h.1
    |succ j=>exact ih h.2 (by simpa using ht)
theorem T.inLL_get {ls:List Nat} {l:List (List T)} (h:T.inLL ls l=true) {j:Nat} {t:List T} (ht:l[j]? =some t):T.inL ls t=true:=by
  induction l generalizing j with
  |nil=>cases ht
  |cons a l ih=>
    simp only [T.inLL,Bool.and_eq_true] at h
    cases j with
    |zero=>cases ht;exact h.1
    |succ j=>exact ih h.2 (by simpa using ht)
mutual
theorem T.mp_id {ls:List Nat} {f:Nat→T} (hf:∀j,B2 j ls=true→f j= .own j):∀t:T,t.inn ls=true→T.mp f t=t
  | .any,_=>rfl
  | .d _,_=>rfl
  | .own j,h=>hf j h
  | .row e sz l,h=>by unfold T.inn at h;unfold T.mp;rw [T.mpLL_id hf l h]
theorem T.mpL_id {ls:List Nat} {f:Nat→T} (hf:∀j,B2 j ls=true→f j= .own j):∀l:List T,T.inL ls l=true→T.mpL f l=l
  | [],_=>rfl
  |s::l,h=>by
    simp only [T.inL,Bool.and_eq_true] at h
    simp only [T.mpL,T.mp_id hf s h.1,T.mpL_id hf l h.2]
theorem T.mpLL_id {ls:List Nat} {f:Nat→T} (hf:∀j,B2 j ls=true→f j= .own j):∀l:List (List T),T.inLL ls l=true→T.mpLL f l=l
  | [],_=>rfl
  |s::l,h=>by
    simp only [T.inLL,Bool.and_eq_true] at h
    simp only [T.mpLL,T.mpL_id hf s h.1,T.mpLL_id hf l h.2]
end
mutual
theorem T.inn_mp {ls ls':List Nat} {f:Nat→T} (hf:∀j,B2 j ls=true→(f j).inn ls'=true):∀t:T,t.inn ls=true→(T.mp f t).inn ls'=true
  | .any,_=>rfl
  | .d _,_=>rfl
  | .own j,h=>hf j h
  | .row e sz l,h=>by unfold T.inn at h;unfold T.mp;unfold T.inn;exact T.inLL_mp hf l h
theorem T.inL_mp {ls ls':List Nat} {f:Nat→T} (hf:∀j,B2 j ls=true→(f j).inn ls'=true):∀l:List T,T.inL ls l=true→T.inL ls' (T.mpL f l)=true
  | [],_=>rfl
  |s::l,h=>by
    simp only [T.inL,Bool.and_eq_true] at h
    simp only [T.mpL,T.inL,Bool.and_eq_true]
    exact ⟨T.inn_mp hf s h.1,T.inL_mp hf l h.2⟩
theorem T.inLL_mp {ls ls':List Nat} {f:Nat→T} (hf:∀j,B2 j ls=true→(f j).inn ls'=true):∀l:List (List T),T.inLL ls l=true→T.inLL ls' (T.mpLL f l)=true
  | [],_=>rfl
  |s::l,h=>by
    simp only [T.inLL,Bool.and_eq_true] at h
    simp only [T.mpLL,T.inLL,Bool.and_eq_true]
    exact ⟨T.inL_mp hf s h.1,T.inLL_mp hf l h.2⟩
end
theorem T.killF_in {ls:List Nat} (i:Nat):∀j,B2 j ls=true→(T.killF i j).inn ls=true:=fun j h=>by
  unfold T.killF
  cases Nat.beq i j with
  |true=>rfl
  |false=>exact h
theorem T.killF_id {ls:List Nat} {i:Nat} (h:B2 i ls=false):∀j,B2 j ls=true→T.killF i j= .own j:=fun j hj=>by
  unfold T.killF
  rw [Bp (fun e=>by subst e;rw [h] at hj;cases hj)]
  rfl
mutual
theorem T.inn_mono {ls ls':List Nat} (hs:∀j,B2 j ls=true→B2 j ls'=true):∀t:T,t.inn ls=true→t.inn ls'=true
  | .any,_=>rfl
  | .d _,_=>rfl
  | .own j,h=>hs j h
  | .row e sz l,h=>by unfold T.inn at h ⊢;exact T.inLL_mono hs l h
theorem T.inL_mono {ls ls':List Nat} (hs:∀j,B2 j ls=true→B2 j ls'=true):∀l:List T,T.inL ls l=true→T.inL ls' l=true
  | [],_=>rfl
  |s::l,h=>by
    simp only [T.inL,Bool.and_eq_true] at h ⊢
    exact ⟨T.inn_mono hs s h.1,T.inL_mono hs l h.2⟩
theorem T.inLL_mono {ls ls':List Nat} (hs:∀j,B2 j ls=true→B2 j ls'=true):∀l:List (List T),T.inLL ls l=true→T.inLL ls' l=true
  | [],_=>rfl
  |s::l,h=>by
    simp only [T.inLL,Bool.and_eq_true] at h ⊢
    exact ⟨T.inL_mono hs s h.1,T.inLL_mono hs l h.2⟩
end
inductive TR (base:Nat) (w:World) (H:Hp) (β:Bt):Value→T→(Nat→Prop)→Prop where
  |any (u:Value) (B:Nat→Prop) (hB:∀b,¬B b):TR base w H β u .any B
  |d {u:Value} {x:D} (h:VD H u x) (B:Nat→Prop) (hB:∀b,¬B b):TR base w H β u (.d x) B
  |own {i:Nat} {L:Loc} (h:β i=some L) (B:Nat→Prop) (hB:∀b,¬B b):TR base w H β L.v (.own i) B
  |row (u:Value) (e:TypeId) (sz:Nat) (l:List (List T)) (us:List Value) (Bs:Nat→Nat→Nat→Prop) (B:Nat→Prop) (hz:∀x∈l,x.length=sz) (ho:w.ownsRow base e sz u l.length us) (h1:∀x∈us,x.oneCell'=true)
      (hc:∀(k j:Nat) (x:List T) (t:T),l[k]? =some x→x[j]? =some t→TR base w H β ((us[k*sz+j]?).getD undef) t (Bs k j))
      (hu:∀(k j:Nat) (x:List T) (t:T),l[k]? =some x→x[j]? =some t→(us[k*sz+j]?).isSome=true)
      (hB:∀b,B b↔u.ownBlock=some b∨∃k j x t,l[k]? =some x∧x[j]? =some t∧Bs k j b)
      (htop:∀(k j:Nat) (x:List T) (t:T),l[k]? =some x→x[j]? =some t→∀b,Bs k j b→u.ownBlock≠some b)
      (hdis:∀(k j:Nat) (x:List T) (t:T) (k' j':Nat) (x':List T) (t':T),l[k]? =some x→x[j]? =some t→l[k']? =some x'→x'[j']? =some t'→(k≠k'∨j≠j')→∀b,Bs k j b→¬Bs k' j' b):TR base w H β u (.row e sz l) B
theorem H1 {base:Nat} {w:World} {H:Hp} {β:Bt} {u:Value} {e:TypeId} {sz:Nat} {l:List (List T)} {B:Nat→Prop} (h:TR base w H β u (.row e sz l) B):
    ∃(us:List Value) (Bs:Nat→Nat→Nat→Prop),(∀x∈l,x.length=sz)∧w.ownsRow base e sz u l.length us∧(∀x∈us,x.oneCell'=true)∧
      (∀(k j:Nat) (x:List T) (t:T),l[k]? =some x→x[j]? =some t→TR base w H β ((us[k*sz+j]?).getD undef) t (Bs k j))∧
      (∀(k j:Nat) (x:List T) (t:T),l[k]? =some x→x[j]? =some t→(us[k*sz+j]?).isSome=true)∧
      (∀b,B b↔u.ownBlock=some b∨∃k j x t,l[k]? =some x∧x[j]? =some t∧Bs k j b)∧
      (∀(k j:Nat) (x:List T) (t:T),l[k]? =some x→x[j]? =some t→∀b,Bs k j b→u.ownBlock≠some b)∧
      (∀(k j:Nat) (x:List T) (t:T) (k' j':Nat) (x':List T) (t':T),l[k]? =some x→x[j]? =some t→l[k']? =some x'→x'[j']? =some t'→(k≠k'∨j≠j')→∀b,Bs k j b→¬Bs k' j' b):=by
  generalize ht:T.row e sz l=t at h
  cases h with
  |row u e' sz' l' us Bs B hz ho h1 hc hu hB htop hdis=>cases ht;exact ⟨us,Bs,hz,ho,h1,hc,hu,hB,htop,hdis⟩
  |_=>cases ht
theorem Aul {base:Nat} {w:World} {H:Hp} {β:Bt} {u:Value} {x:D} {B:Nat→Prop} (h:TR base w H β u (.d x) B):VD H u x:=by
  generalize ht:T.d x=t at h
  cases h with
  |d h B hB=>cases ht;exact h
  |_=>cases ht
theorem Ard {base:Nat} {w:World} {H:Hp} {β:Bt} {u:Value} {i:Nat} {B:Nat→Prop} (h:TR base w H β u (.own i) B):∃L,β i=some L∧u=L.v:=by
  generalize ht:T.own i=t at h
  cases h with
  |own h B hB=>cases ht;exact ⟨_,h,rfl⟩
  |_=>cases ht
theorem TR.lt {base:Nat} {w:World} {H:Hp} {β:Bt} {u:Value} {t:T} {B:Nat→Prop} (h:TR base w H β u t B) {b:Nat} (hb:B b):base≤b∧b<w.heap.size:=by
  induction h with
  |any u B hB=>exact absurd hb (hB b)
  |d h B hB=>exact absurd hb (hB b)
  |own h B hB=>exact absurd hb (hB b)
  |row u e sz l us Bs B hz ho h1 hc hu hB htop hdis ih=>
    rcases (hB b).1 hb with k|⟨k,j,x,t,hk,hj,hbs⟩
    · exact ho.lt b k
    · exact ih k j x t hk hj hbs
theorem Amk {base:Nat} {w w':World} {e:TypeId} {sz n:Nat} {v:Value} {us:List Value} (h2:w.ownsRow base e sz v n us) (hw:∀b,v.ownBlock=some b→w'.heap[b]? =w.heap[b]?):w'.ownsRow base e sz v n us:=by
  refine ⟨h2.1, ?_⟩
  rcases h2.2 with h|⟨g,cap,cur,e1,e2,e3,e4⟩
  · exact .inl h
  · refine .inr ⟨g,cap,cur,e1,e2, ?_,e4⟩
    rw [hw g (by simp [e1,Value.ownBlock])]
    exact e3
theorem TR.keep {base:Nat} {w w':World} {H H':Hp} {β β':Bt} {u:Value} {t:T} {B:Nat→Prop} (h:TR base w H β u t B) (hl:H.le H') (hb:Bt.le β β') (hw:∀b,B b→w'.heap[b]? =w.heap[b]?):TR base w' H' β' u t B:=by
  induction h with
  |any u B hB=>exact .any u B hB
  |d h B hB=>exact .d (h.mono hl) B hB
  |own h B hB=>exact .own (hb _ _ h) B hB
  |row u e sz l us Bs B hz ho h1 hc hu hB htop hdis ih=>
    exact .row u e sz l us Bs B hz (Amk ho fun b hb=>hw b ((hB b).2 (.inl hb))) h1 (fun k j x t hk hj=>ih k j x t hk hj fun b hb=>hw b ((hB b).2 (.inr ⟨k,j,x,t,hk,hj,hb⟩))) hu hB htop hdis
theorem TR.closed {base base':Nat} {w:World} {H:Hp} {β β':Bt} {u:Value} {t:T} {B:Nat→Prop} (h:TR base w H β u t B) (hc:t.inn []=true) (hb:base'≤base):TR base' w H β' u t B:=by
  induction h with
  |any u B hB=>exact .any u B hB
  |d h B hB=>exact .d h B hB
  |own h B hB=>cases hc
  |row u e sz l us Bs B hz ho h1 hc' hu hB htop hdis ih=>
    unfold T.inn at hc
    refine .row u e sz l us Bs B hz ⟨ho.1, ?_⟩ h1 (fun k j x t hk hj=>ih k j x t hk hj (T.inL_get (T.inLL_get hc hk) hj)) hu hB htop hdis
    rcases ho.2 with h|⟨g,cap,cur,e1,e2,e3⟩
    · exact .inl h
    · exact .inr ⟨g,cap,cur,e1,Nat.le_trans hb e2,e3⟩
theorem TR.mp {base:Nat} {w:World} {H:Hp} {β β':Bt} {u:Value} {t:T} {B:Nat→Prop} (h:TR base w H β u t B) (f:Nat→T) (hf:∀j L,β j=some L→∀B,(∀b,¬B b)→TR base w H β' L.v (f j) B):TR base w H β' u (t.mp f) B:=by
  induction h with
  |any u B hB=>unfold T.mp;exact .any u B hB
  |d h B hB=>unfold T.mp;exact .d h B hB
  | @own j L' h B hB=>
    unfold T.mp
    exact hf j L' h B hB
  |row u e sz l us Bs B hz ho h1 hc hu hB htop hdis ih=>
    unfold T.mp
    have get:∀(k j:Nat) (x:List T) (t:T),(T.mpLL f l)[k]? =some x→x[j]? =some t→∃y s,l[k]? =some y∧y[j]? =some s∧t=s.mp f:=by
      intro k j x t hk hj
      rw [T.mpLL_get] at hk
      cases hl:l[k]? with
      |none=>rw [hl] at hk;cases hk
      |some y=>
        rw [hl] at hk;cases hk
        rw [T.mpL_get] at hj
        cases hy:y[j]? with
        |none=>rw [hy] at hj;cases hj
        |some s=>rw [hy] at hj;cases hj;exact ⟨y,s,rfl,hy,rfl⟩
    have put:∀(k j:Nat) (y:List T) (s:T),l[k]? =some y→y[j]? =some s→∃x t,(T.mpLL f l)[k]? =some x∧x[j]? =some t:=fun k j y s hk hj=>
      ⟨T.mpL f y,s.mp f,by rw [T.mpLL_get,hk];rfl,by rw [T.mpL_get,hj];rfl⟩
    refine .row u e sz _ us Bs B (fun x hx=> ?_) (by rw [T.mpLL_length];exact ho) h1 (fun k j x t hk hj=> ?_) (fun k j x t hk hj=> ?_) (fun b=> ?_) (fun k j x t hk hj=> ?_) (fun k j x t k' j' x' t' hk hj hk' hj'=> ?_)
    · obtain ⟨k,hk⟩:=List.getElem?_of_mem hx
      rw [T.mpLL_get] at hk
      cases hl:l[k]? with
      |none=>rw [hl] at hk;cases hk
      |some y=>rw [hl] at hk;cases hk;rw [T.mpL_length];exact hz y (List.mem_of_getElem? hl)
    · obtain ⟨y,s,h1,h2,rfl⟩:=get k j x t hk hj
      exact ih k j y s h1 h2
    · obtain ⟨y,s,h1,h2,rfl⟩:=get k j x t hk hj
      exact hu k j y s h1 h2
    · rw [hB b]
      constructor
      · rintro (h|⟨k,j,y,s,h2,h3,h4⟩)
        · exact .inl h
        · obtain ⟨x,t,g1,g2⟩:=put k j y s h2 h3
          exact .inr ⟨k,j,x,t,g1,g2,h4⟩
      · rintro (h|⟨k,j,x,t,h2,h3,h4⟩)
        · exact .inl h
        · obtain ⟨y,s,g1,g2,_⟩:=get k j x t h2 h3
          exact .inr ⟨k,j,y,s,g1,g2,h4⟩
    · obtain ⟨y,s,g1,g2,_⟩:=get k j x t hk hj
      exact htop k j y s g1 g2
    · obtain ⟨y,s,g1,g2,_⟩:=get k j x t hk hj
      obtain ⟨y',s',g3,g4,_⟩:=get k' j' x' t' hk' hj'
      exact hdis k j y s k' j' y' s' g1 g2 g3 g4
theorem TR.kill {base:Nat} {w:World} {H:Hp} {β:Bt} {u:Value} {t:T} {B:Nat→Prop} (h:TR base w H β u t B) (i:Nat) (L:Option Loc):TR base w H (β.set i L) u (t.mp (T.killF i)) B:=
  h.mp _ fun j L' hj B hB=>by
    unfold T.killF
    by_cases e:i=j
    · subst e;rw [Bh];exact .any _ B hB
    · rw [Bp e];exact .own (by rw [Bt.set_ne β L e];exact hj) B hB
inductive XO where
  |box (l:List S)
  |row (e:TypeId) (sz:Nat) (l:List (List D))
  |rowS (e:TypeId) (sz:Nat) (l:List (List S))
  |tree (e:TypeId) (sz:Nat) (ls:List Nat) (l:List (List T))
  |ghost (u:Array Value) (l:List (Nat × S))
abbrev Xh:=Nat→Option XO
def XO.kill (i:Nat):XO→XO
  | .box l=> .box (S.killL i l)
  | .row e sz l=> .row e sz l
  | .rowS e sz l=> .rowS e sz (l.map (S.killL i))
  | .tree e sz ls l=>bif B2 i ls then .tree e sz ls (T.mpLL (T.killF i) l) else .tree e sz ls l
  | .ghost u l=> .ghost u (S.killG i l)
def XO.isG:XO→Bool
  | .ghost _ _=>true
  |_=>false
theorem XO.isG_kill (i:Nat) (o:XO):(o.kill i).isG=o.isG:=by
  cases o with
  |tree e sz ls l=>show XO.isG (bif B2 i ls then XO.tree e sz ls (T.mpLL (T.killF i) l) else XO.tree e sz ls l)=_;cases B2 i ls<;>rfl
  |_=>rfl
def Xh.kill (h:Xh) (i:Nat):Xh:=fun j=>bif Nat.beq i j then none else (h j).map (XO.kill i)
def Xh.set (h:Xh) (i:Nat) (o:XO):Xh:=fun j=>bif Nat.beq i j then some o else h j
theorem Xh.set_same (h:Xh) (i:Nat) (o:XO):h.set i o i=some o:=by simp [Xh.set]
theorem Xh.set_ne (h:Xh) {i j:Nat} (o:XO) (e:i≠j):h.set i o j=h j:=by
  have:Nat.beq i j=false:=Bp e
  simp [Xh.set,this]
theorem Xh.kill_same (h:Xh) (i:Nat):h.kill i i=none:=by simp [Xh.kill]
theorem Xh.kill_ne (h:Xh) {i j:Nat} (e:i≠j):h.kill i j=(h j).map (XO.kill i):=by
  have:Nat.beq i j=false:=Bp e
  simp [Xh.kill,this]
def OKo (base:Nat) (w:World) (H:Hp) (β:Bt) (L:Loc):XO→Prop
  | .box l=>base≤L.b∧L.sz=l.length∧∃us t,w.heap[L.b]? =some (.cells us t (0,0))∧us.size=l.length∧∀(i:Nat) (u:Value) (s:S),us[i]? =some u→l[i]? =some s→VS H β u s
  | .row e sz l=>L.sz=sz∧(∀x∈l,x.length=sz)∧(∀b,L.v.ownBlock=some b→b=L.b)∧∃us,w.ownsRow base e sz L.v l.length us∧(∀u∈us,u.oneCell'=true)∧
      ∀(k j:Nat) (x:List D) (d:D),l[k]? =some x→x[j]? =some d→∃u,us[k*sz+j]? =some u∧VD H u d
  | .rowS e sz l=>L.sz=sz∧(∀x∈l,x.length=sz)∧(∀b,L.v.ownBlock=some b→b=L.b)∧∃us,w.ownsRow base e sz L.v l.length us∧(∀u∈us,u.oneCell'=true)∧
      ∀(k j:Nat) (x:List S) (s:S),l[k]? =some x→x[j]? =some s→∃u,us[k*sz+j]? =some u∧VS H β u s
  | .tree e sz ls l=>L.sz=sz∧(∀b,L.v.ownBlock=some b→b=L.b)∧T.inLL ls l=true∧TR base w H β L.v (.row e sz l) L.B
  | .ghost u l=>∀t s,(t,s)∈l→VS H β (u.getD t undef) s
def XO.blk (L:Loc):XO→Nat→Prop
  | .box _=>fun b=>some L.b=some b
  | .row _ _ _=>fun b=>L.v.ownBlock=some b
  | .rowS _ _ _=>fun b=>L.v.ownBlock=some b
  | .tree _ _ _ _=>L.B
  | .ghost _ _=>fun b=>none=some b
theorem XO.blk_kill (L:Loc) (i:Nat) (o:XO):(o.kill i).blk L=o.blk L:=by
  cases o with
  |tree e sz ls l=>show XO.blk L (bif B2 i ls then XO.tree e sz ls (T.mpLL (T.killF i) l) else XO.tree e sz ls l)=_;cases B2 i ls<;>rfl
  |_=>rfl
theorem OKo.lt {base:Nat} {w:World} {H:Hp} {β:Bt} {L:Loc} {o:XO} (h:OKo base w H β L o) {b:Nat} (hb:o.blk L b):base≤b∧b<w.heap.size:=by
  cases o with
  |box l=>
    obtain ⟨h1,_,us,t,h2,_⟩:=h
    simp only [XO.blk,Option.some.injEq] at hb
    subst hb
    exact ⟨h1,(Array.getElem?_eq_some_iff.1 h2).1⟩
  |row e sz l=>
    obtain ⟨_,_,_,us,h2,_⟩:=h
    exact h2.lt b hb
  |rowS e sz l=>
    obtain ⟨_,_,_,us,h2,_⟩:=h
    exact h2.lt b hb
  |tree e sz ls l=>exact h.2.2.2.lt hb
  |ghost u l=>cases hb
theorem OKo.keep {base:Nat} {w w':World} {H H':Hp} {β β':Bt} {L:Loc} {o:XO} (h:OKo base w H β L o) (hl:H.le H') (hb:Bt.le β β')
    (hw:∀b,o.blk L b→w'.heap[b]? =w.heap[b]?):OKo base w' H' β' L o:=by
  cases o with
  |box l=>
    obtain ⟨h1,h0,us,t,h2,h3,h4⟩:=h
    exact ⟨h1,h0,us,t,(hw _ rfl).trans h2,h3,fun i u s hu hs=>(h4 i u s hu hs).mono hl hb⟩
  |row e sz l=>
    obtain ⟨h0,hz,hv,us,h2,h3,h4⟩:=h
    refine ⟨h0,hz,hv,us,⟨h2.1, ?_⟩,h3,fun k j x d hx hd=> ?_⟩
    · rcases h2.2 with h|⟨g,cap,cur,e1,e2,e3,e4⟩
      · exact .inl h
      · refine .inr ⟨g,cap,cur,e1,e2, ?_,e4⟩
        rw [hw g (by simp [XO.blk,e1,Value.ownBlock])]
        exact e3
    · obtain ⟨u,hu,hd'⟩:=h4 k j x d hx hd
      exact ⟨u,hu,hd'.mono hl⟩
  |rowS e sz l=>
    obtain ⟨h0,hz,hv,us,h2,h3,h4⟩:=h
    refine ⟨h0,hz,hv,us,⟨h2.1, ?_⟩,h3,fun k j x d hx hd=> ?_⟩
    · rcases h2.2 with h|⟨g,cap,cur,e1,e2,e3,e4⟩
      · exact .inl h
      · refine .inr ⟨g,cap,cur,e1,e2, ?_,e4⟩
        rw [hw g (by simp [XO.blk,e1,Value.ownBlock])]
        exact e3
    · obtain ⟨u,hu,hd'⟩:=h4 k j x d hx hd
      exact ⟨u,hu,hd'.mono hl hb⟩
  |tree e sz ls l=>exact ⟨h.1,h.2.1,h.2.2.1,h.2.2.2.keep hl hb hw⟩
  |ghost u l=>exact fun t s hm=>(h t s hm).mono hl hb
theorem OKo.kill {base:Nat} {w:World} {H:Hp} {β:Bt} {L:Loc} {o:XO} (h:OKo base w H β L o) (i:Nat) (L':Option Loc):OKo base w H (β.set i L') L (o.kill i):=by
  cases o with
  |box l=>
    obtain ⟨h1,h0,us,t,h2,h3,h4⟩:=h
    refine ⟨h1,by rw [S.killL_length];exact h0,us,t,h2,by rw [S.killL_length];exact h3,fun j u s hu hs=> ?_⟩
    rw [S.killL_get] at hs
    cases hl:l[j]? with
    |none=>rw [hl] at hs;simp at hs
    |some s'=>rw [hl] at hs;simp at hs;subst hs;exact (h4 j u s' hu hl).kill i L'
  |row e sz l=>exact h
  |rowS e sz l=>
    obtain ⟨h0,hz,hv,us,h2,h3,h4⟩:=h
    refine ⟨h0,fun x hx=> ?_,hv,us,by rw [List.length_map];exact h2,h3,fun k j x s hx hs=> ?_⟩
    · obtain ⟨y,hy,rfl⟩:=List.mem_map.1 hx
      rw [S.killL_length];exact hz y hy
    · rw [List.getElem?_map] at hx
      cases hl:l[k]? with
      |none=>rw [hl] at hx;simp at hx
      |some y=>
        rw [hl] at hx;simp at hx;subst hx
        rw [S.killL_get] at hs
        cases hy:y[j]? with
        |none=>rw [hy] at hs;simp at hs
        |some s'=>
          rw [hy] at hs;simp at hs;subst hs
          obtain ⟨u,hu,hv⟩:=h4 k j y s' hl hy
          exact ⟨u,hu,hv.kill i L'⟩
  |tree e sz ls l=>
    have q:=h.2.2.2.kill i L'
    unfold T.mp at q
    show OKo base w H (β.set i L') L (bif B2 i ls then XO.tree e sz ls (T.mpLL (T.killF i) l) else XO.tree e sz ls l)
    cases hm:B2 i ls with
    |true=>exact ⟨h.1,h.2.1,T.inLL_mp (T.killF_in i) l h.2.2.1,q⟩
    |false=>rw [T.mpLL_id (T.killF_id hm) l h.2.2.1] at q;exact ⟨h.1,h.2.1,h.2.2.1,q⟩
  |ghost u l=>
    intro t s hm
    obtain ⟨s',h1,rfl⟩:=S.killG_mem hm
    exact (h t s' h1).kill i L'
structure Env where
  w:World
  H:Hp
structure Sim (E:Env) (H:Hp) (β:Bt) (h:Xh) (w:World):Prop where
  below:Below E.w.heap.size E.w w
  ext:E.H.le H
  new:∀b o u,H b o=some u→E.H b o=some u∨E.w.heap.size≤b
  imm:Imm H w
  obj:∀i o L,h i=some o→β i=some L→OKo E.w.heap.size w H β L o
  sep:∀i o L,h i=some o→β i=some L→∀b,o.blk L b→∀off,H b off=none
  inj:∀i j o o' L L' b,i≠j→h i=some o→h j=some o'→β i=some L→β j=some L'→o.blk L b→¬o'.blk L' b
  dom:∀i o,h i=some o→o.isG=true→∃L,β i=some L
section
variable {E:Env} {H H':Hp} {β β':Bt} {h h':Xh} {w w':World}
theorem Sim.drew (s:Sim E H β h w):Sim E H β h w.drew:=
  ⟨s.below.drew,s.ext,s.new,s.imm,fun i o L ho hL=>(s.obj i o L ho hL).keep (Hp.le.refl _) (fun _ _ h=>h) fun _ _=>rfl,s.sep,s.inj,s.dom⟩
theorem Sim.drop (s:Sim E H β h w) (hh:∀i o,h' i=some o→h i=some o):Sim E H β h' w:=
  ⟨s.below, s.ext, s.new, s.imm, fun i o L ho hL => s.obj i o L (hh i o ho) hL, fun i o L ho hL => s.sep i o L (hh i o ho) hL,
    fun i j o o' L L' b hij ho ho' hL hL' => s.inj i j o o' L L' b hij (hh i o ho) (hh j o' ho') hL hL', fun i o ho => s.dom i o (hh i o ho)⟩
theorem Sim.call (s:Sim E H β h w) (hb:Below w.heap.size w w') (hl:H.le H') (hn:∀b o u,H' b o=some u→H b o=some u∨w.heap.size≤b) (hi:Imm H' w'):Sim E H' β h w':=by
  refine ⟨s.below.trans (hb.mono s.below.size),fun b o u e=>hl _ _ _ (s.ext b o u e),fun b o u e=> ?_,hi,fun i o L ho hL=> ?_,fun i o L ho hL b hbk off=> ?_,s.inj,s.dom⟩
  · rcases hn b o u e with h1|h1
    · exact s.new b o u h1
    · right;have:=s.below.size;omega
  · exact (s.obj i o L ho hL).keep hl (fun _ _ h=>h) fun b hbk=>hb.block b ((s.obj i o L ho hL).lt hbk).2
  · have h0:=s.sep i o L ho hL b hbk off
    cases e:H' b off with
    |none=>rfl
    |some u=>
      rcases hn b off u e with h1|h1
      · rw [h0] at h1;cases h1
      · have:=((s.obj i o L ho hL).lt hbk).2;omega
theorem Sim.kill (s:Sim E H β h w) (i:Nat) (L:Option Loc):Sim E H (β.set i L) (h.kill i) w:=by
  have aux:∀j o' L',h.kill i j=some o'→(β.set i L) j=some L'→j≠i∧β j=some L'∧∃o,h j=some o∧o'=o.kill i:=by
    intro j o' L' ho hL
    by_cases e:i=j
    · subst e;rw [Xh.kill_same] at ho;cases ho
    · rw [Xh.kill_ne h e] at ho
      rw [Bt.set_ne β L e] at hL
      cases hj:h j with
      |none=>rw [hj] at ho;simp at ho
      |some o=>rw [hj] at ho;simp at ho;exact ⟨fun e'=>e e'.symm,hL,o,rfl,ho.symm⟩
  refine ⟨s.below,s.ext,s.new,s.imm,fun j o' L' ho hL=> ?_,fun j o' L' ho hL b hbk=> ?_,fun j j' o1 o2 L1 L2 b hjj ho ho' hL hL' hbk=> ?_,fun j o' ho hg=> ?_⟩
  rotate_left 3
  · by_cases e:i=j
    · subst e;rw [Xh.kill_same] at ho;cases ho
    · rw [Xh.kill_ne h e] at ho
      cases hj:h j with
      |none=>rw [hj] at ho;cases ho
      |some o=>rw [hj] at ho;cases ho;rw [XO.isG_kill] at hg;rw [Bt.set_ne β L e];exact s.dom j o hj hg
  · obtain ⟨_,h1,o,h2,rfl⟩:=aux j o' L' ho hL
    exact (s.obj j o L' h2 h1).kill i L
  · obtain ⟨_,h1,o,h2,rfl⟩:=aux j o' L' ho hL
    rw [XO.blk_kill] at hbk
    exact s.sep j o L' h2 h1 b hbk
  · obtain ⟨_,h1,o,h2,rfl⟩:=aux j o1 L1 ho hL
    obtain ⟨_,h3,o',h4,rfl⟩:=aux j' o2 L2 ho' hL'
    rw [XO.blk_kill] at hbk ⊢
    exact s.inj j j' o o' L1 L2 b hjj h2 h4 h1 h3 hbk
theorem Sim.size (s:Sim E H β h w):E.w.heap.size≤w.heap.size:=s.below.size
theorem Sim.add (s:Sim E H β h w) (i:Nat) (o:XO) (L:Loc) (obj:Obj) (hb:∀b,o.blk L b→b=w.heap.size)
    (hok:OKo E.w.heap.size (w.alloc obj) H (β.set i (some L)) L o):Sim E H (β.set i (some L)) ((h.kill i).set i o) (w.alloc obj):=by
  have k:=s.kill i (some L)
  have hbel:Below w.heap.size w (w.alloc obj):=(Below.refl _ _).alloc (Nat.le_refl _) _
  have k2:=k.call hbel (Hp.le.refl _) (fun b o u e=> .inl e) (s.imm.below hbel)
  have none_at:∀off,H w.heap.size off=none:=fun off=>by
    cases e:H w.heap.size off with
    |none=>rfl
    |some u=>have:=s.imm.lt e;omega
  have old:∀j o' L',j≠i→h.kill i j=some o'→(β.set i (some L)) j=some L'→∀b,o'.blk L' b→b<w.heap.size:=fun j o' L' _ ho hL b hbk=>((k.obj j o' L' ho hL).lt hbk).2
  refine ⟨k2.below,k2.ext,k2.new,k2.imm,fun j o' L' ho hL=> ?_,fun j o' L' ho hL b hbk off=> ?_,fun j j' o1 o2 L1 L2 b hjj ho ho' hL hL' hbk=> ?_,fun j o' ho hg=> ?_⟩
  rotate_left 3
  · by_cases e:i=j
    · subst e;exact ⟨_,Bt.set_same _ _ _⟩
    · rw [Xh.set_ne _ o e] at ho;exact k2.dom j o' ho hg
  · by_cases e:i=j
    · subst e
      rw [Xh.set_same] at ho
      rw [Bt.set_same] at hL
      cases ho;cases hL
      exact hok
    · rw [Xh.set_ne _ o e] at ho
      exact k2.obj j o' L' ho hL
  · by_cases e:i=j
    · subst e
      rw [Xh.set_same] at ho
      rw [Bt.set_same] at hL
      cases ho;cases hL
      rw [hb b hbk]
      exact none_at off
    · rw [Xh.set_ne _ o e] at ho
      exact k2.sep j o' L' ho hL b hbk off
  · by_cases e:i=j
    · subst e
      rw [Xh.set_same] at ho
      rw [Bt.set_same] at hL
      cases ho;cases hL
      rw [Xh.set_ne _ o hjj] at ho'
      intro hc
      have h1:=hb b hbk
      have h2:=old j' o2 L2 (Ne.symm hjj) ho' hL' b hc
      omega
    · by_cases e':i=j'
      · subst e'
        rw [Xh.set_same] at ho'
        rw [Bt.set_same] at hL'
        cases ho';cases hL'
        rw [Xh.set_ne _ o e] at ho
        intro hc
        have h1:=hb b hc
        have h2:=old j o1 L1 hjj ho hL b hbk
        omega
      · rw [Xh.set_ne _ o e] at ho
        rw [Xh.set_ne _ o e'] at ho'
        exact k2.inj j j' o1 o2 L1 L2 b hjj ho ho' hL hL' hbk
theorem Sim.turn (s:Sim E H β h w) {i:Nat} {o o':XO} {L:Loc} (ho:h i=some o) (hL:β i=some L) (hblk:o'.blk L=o.blk L) (hbel:Below E.w.heap.size E.w w')
    (hw:∀b,¬o.blk L b→w'.heap[b]? =w.heap[b]?) (hok:OKo E.w.heap.size w' H β L o'):Sim E H β (h.set i o') w':=by
  have im:Imm H w':=fun b off u e=>by
    refine ⟨?_,(s.imm b off u e).2⟩
    have hb':¬o.blk L b:=fun hc=>by have:=s.sep i o L ho hL b hc off;rw [e] at this;cases this
    exact (World.cell?_of_block (a:=⟨b,off,none⟩) (hw b hb')).trans (s.imm b off u e).1
  refine ⟨hbel,s.ext,s.new,im,fun j o1 L1 h1 h2=> ?_,fun j o1 L1 h1 h2 b hbk=> ?_,fun j j' o1 o2 L1 L2 b hjj h1 h1' h2 h2' hbk=> ?_,fun j o1 h1 hg=> ?_⟩
  rotate_left 3
  · by_cases e:i=j
    · subst e;exact ⟨L,hL⟩
    · rw [Xh.set_ne _ _ e] at h1;exact s.dom j o1 h1 hg
  · by_cases e:i=j
    · subst e
      rw [Xh.set_same] at h1
      rw [hL] at h2
      cases h1;cases h2
      exact hok
    · rw [Xh.set_ne _ _ e] at h1
      exact (s.obj j o1 L1 h1 h2).keep (Hp.le.refl _) (fun _ _ h=>h) fun b hbk=>hw b (fun hc=>s.inj i j o o1 L L1 b e ho h1 hL h2 hc hbk)
  · by_cases e:i=j
    · subst e
      rw [Xh.set_same] at h1
      rw [hL] at h2
      cases h1;cases h2
      rw [hblk] at hbk
      exact s.sep i o L ho hL b hbk
    · rw [Xh.set_ne _ _ e] at h1
      exact s.sep j o1 L1 h1 h2 b hbk
  · by_cases e:i=j
    · subst e
      rw [Xh.set_same] at h1
      rw [hL] at h2
      cases h1;cases h2
      rw [Xh.set_ne _ _ hjj] at h1'
      rw [hblk] at hbk
      exact s.inj i j' o o2 L L2 b hjj ho h1' hL h2' hbk
    · by_cases e':i=j'
      · subst e'
        rw [Xh.set_same] at h1'
        rw [hL] at h2'
        cases h1';cases h2'
        rw [Xh.set_ne _ _ e] at h1
        rw [hblk]
        intro hc
        exact s.inj i j o o1 L L1 b e ho h1 hL h2 hc hbk
      · rw [Xh.set_ne _ _ e] at h1
        rw [Xh.set_ne _ _ e'] at h1'
        exact s.inj j j' o1 o2 L1 L2 b hjj h1 h1' h2 h2' hbk
end
end Go.Proofs.YtaafemnkamfgnaaGreat
namespace Go.Proofs.YtaafemnkamfgnaaGreat
open Go.RowKit
abbrev Fr:=Nat→S
def Asi:Value→D
  | .agg cs=> .agg (cs.toList.map D.v)
  |v=> .v v
theorem Ap7 (H:Hp) (v:Value):VD H v (Asi v):=by
  cases v with
  |agg cs=>
    refine .agg cs _ (by simp) fun i x d hx hd=> ?_
    rw [List.getElem?_map,Array.getElem?_toList,hx] at hd
    simp at hd
    subst hd
    exact .v x
  |_=>exact .v _
def ev (f:Fr):Operand→S
  | .tmp t=>f t
  | .const v=> .d (Asi v)
  | .global g=> .d (.v (.pointer (some ⟨g,0,none⟩)))
  | .func g=> .d (.fn g [] [])
def Ds (f:Fr) (t:Nat) (s:S):Fr:=fun j=>bif Nat.beq t j then s else f j
def A7 (f:Fr) (dst:Option Tmp) (s:S):Fr:=
  match dst with
  |some t=>Ds f t s
  |none=>f
def Dw (f:Fr) (i:Nat):Fr:=fun j=>(f j).kill i
def Ti (n:Nat):Operand→Bool
  | .tmp t=>Nat.blt t n
  |_=>true
def inN (n:Nat) (o:Oper):Bool:=o.op.operands.toList.all (Ti n) && (match o.dst with|some t=>Nat.blt t n|none=>true)
structure FV (n:Nat) (H:Hp) (β:Bt) (a:Act) (f:Fr):Prop where
  defers:a.defers= []
  size:a.tmps.size=n
  slot:∀t,t<n→VS H β (a.tmps.getD t undef) (f t)
theorem Eu {t n:Nat} (h:Nat.blt t n=true):t<n:=by simpa [Nat.blt_eq] using h
theorem FV.eval {n:Nat} {H:Hp} {β:Bt} {a:Act} {f:Fr} (h:FV n H β a f) {x:Operand} (hx:Ti n x=true):VS H β (a.eval x) (ev f x):=by
  cases x with
  |tmp t=>exact h.slot t (Eu hx)
  |const v=>exact .d (Ap7 H v)
  |global g=>exact .d (.v _)
  |func g=>exact .d (.fn g #[] #[] [] [] rfl rfl (fun i x s h=>by simp at h) (fun i x s h=>by simp at h))
theorem FV.operands {n:Nat} {H:Hp} {β:Bt} {a:Act} {f:Fr} (h:FV n H β a f) {o:Oper} (ho:inN n o=true):∀x∈o.op.operands,VS H β (a.eval x) (ev f x):=by
  intro x hx
  unfold inN at ho
  rw [Bool.and_eq_true] at ho
  exact h.eval (List.all_eq_true.1 ho.1 x (by simpa using hx))
theorem FV.put {n:Nat} {H:Hp} {β:Bt} {a:Act} {f:Fr} (h:FV n H β a f) {u:Value} {s:S} (hu:VS H β u s) (dst:Option Tmp) (hd:(match dst with|some t=>Nat.blt t n|none=>true)=true):
    FV n H β (a.put dst u) (A7 f dst s):=by
  cases dst with
  |none=>exact h
  |some t=>
    refine ⟨h.defers,by simpa [Act.put] using h.size,fun j hj=> ?_⟩
    by_cases e:t=j
    · subst e
      simp only [A7,Ds,Bh,cond_true,Act.put]
      have:(a.tmps.setIfInBounds t u).getD t undef=u:=by
        have ht:t<a.tmps.size:=by rw [h.size];exact hj
        simp [Array.getD_eq_getD_getElem?,ht]
      rw [this]
      exact hu
    · simp only [A7,Ds,Bp e,cond_false,Act.put]
      have:(a.tmps.setIfInBounds t u).getD j undef=a.tmps.getD j undef:=by
        simp [Array.getD_eq_getD_getElem?,Array.getElem?_setIfInBounds_ne e]
      rw [this]
      exact h.slot j hj
theorem FV.mono {n:Nat} {H H':Hp} {β β':Bt} {a:Act} {f:Fr} (h:FV n H β a f) (hl:H.le H') (hb:Bt.le β β'):FV n H' β' a f:=
  ⟨h.defers,h.size,fun t ht=>(h.slot t ht).mono hl hb⟩
theorem FV.kill {n:Nat} {H:Hp} {β:Bt} {a:Act} {f:Fr} (h:FV n H β a f) (i:Nat) (L:Option Loc):FV n H (β.set i L) a (Dw f i):=
  ⟨h.defers,h.size,fun t ht=>(h.slot t ht).kill i L⟩
abbrev Cu:=Exit→Fr→Xh→Prop
def Ac6 (E:Env) (n:Nat) (K:Cu):Exit→Act→World→Prop:=fun e a w=>∃H β f h,Sim E H β h w∧FV n H β a f∧K e f h
def NoQ:Exit→Act→World→Prop:=fun _ _ _=>False
theorem Dm {P:Program} {o:Oper} {a:Act} {w:World} {K K':Act→World→Prop} {Q:Exit→Act→World→Prop} (h:o.wp P a w K NoQ) (hk:∀a w,K a w→K' a w):o.wp P a w K' Q:=by
  unfold Oper.wp at*
  generalize (execOp a.eval o).run P w=r at*
  cases r with
  |ok x w'=>
    cases x<;>simp only [Oper.upon] at h ⊢ <;>
      first
        |exact hk _ _ h
        | exact Calls.mono h (fun e w'' he => by
            cases e with
            |returned v=>exact hk _ _ he
            |panicked c=>exact he.elim
            | outgrown => obtain ⟨_, _, he⟩ := he; exact he.elim)
        |exact Rows.mono h (fun _ _ he=>hk _ _ he)
  |halt x w'=>cases x<;>simp only [Oper.upon] at h ⊢ <;>exact h.elim
def Step (P:Program) (n:Nat) (o:Oper) (f:Fr) (h:Xh) (s:S) (f':Fr) (h':Xh):Prop:=
  ∀E H β a w,Sim E H β h w→FV n H β a f→(∀x∈o.op.operands,VS H β (a.eval x) (ev f x))→
    o.wp P a w (fun a' w'=>∃H' β' u,a'=a.put o.dst u∧Sim E H' β' h' w'∧FV n H' β' a f'∧VS H' β' u s) NoQ
def A9 (P:Program) (o:Oper) (e:Operand→S) (h:Xh) (s:S):Prop:=
  ∀E H β ρ w,Sim E H β h w→(∀x∈o.op.operands,VS H β (ρ x) (e x))→∃u,(execOp ρ o).run P w= .ok (.value u) w∧VS H β u s
theorem Step.pure {P:Program} {n:Nat} {o:Oper} {f:Fr} {h:Xh} {s:S} (hp:A9 P o (ev f) h s):Step P n o f h s f h:=by
  intro E H β a w hs hf ho
  obtain ⟨u,hr,hu⟩:=hp E H β a.eval w hs ho
  unfold Oper.wp
  rw [hr]
  exact ⟨H,β,u,rfl,hs,hf,hu⟩
def Bl (ops:Array Oper) (f:Fr) (n:Nat) (g:Option (Nat × Bool)):Option Bool:=
  match g with
  |none=>some true
  |some (j,want)=>
    match (ops[j]?).bind (·.dst) with
    |some t=>
      match f t with
      | .d (.v (.bool b))=>bif Nat.blt t n then some (b==want) else none
      | .d (.v (.tuple _))=>bif Nat.blt t n then some false else none
      |_=>none
    |none=>none
theorem Hn {ops:Array Oper} {f:Fr} {n:Nat} {o:Oper} {b:Bool} {H:Hp} {β:Bt} {a:Act} (hf:FV n H β a f) (h:Bl ops f n o.guard=some b):
    Region.wanted o (yielded ops a.tmps)=b:=by
  unfold Bl at h
  unfold Region.wanted
  split at h
  · rename_i hg;rw [hg];simpa using h
  · rename_i j want hg
    rw [hg]
    simp only
    split at h
    · rename_i t ht
      split at h
      · rename_i b' hb'
        cases hlt:Nat.blt t n with
        |false=>rw [hlt] at h;simp at h
        |true=>
          rw [hlt] at h
          simp only [cond_true,Option.some.injEq] at h
          have hv:=hf.slot t (Eu hlt)
          rw [hb'] at hv
          have ht':t<a.tmps.size:=by rw [hf.size];exact Eu hlt
          have hx:a.tmps.getD t undef= .bool b':=Dn hv
          have hy:yielded ops a.tmps j=some b':=by
            unfold yielded
            rw [ht]
            simp only [Option.bind_some]
            have:a.tmps[t]? =some (.bool b'):=by
              rw [Array.getElem?_eq_getElem ht']
              rw [Array.getD_eq_getD_getElem?,Array.getElem?_eq_getElem ht',Option.getD_some] at hx
              rw [hx]
            rw [this]
          rw [hy]
          rw [←h]
          cases b'<;>cases want<;>rfl
      · rename_i cs hb'
        cases hlt:Nat.blt t n with
        |false=>rw [hlt] at h;simp at h
        |true=>
          rw [hlt] at h
          simp only [cond_true,Option.some.injEq] at h
          have hv:=hf.slot t (Eu hlt)
          rw [hb'] at hv
          have ht':t<a.tmps.size:=by rw [hf.size];exact Eu hlt
          have hx:a.tmps.getD t undef= .tuple cs:=Dn hv
          have hy:yielded ops a.tmps j=none:=by
            unfold yielded
            rw [ht]
            simp only [Option.bind_some]
            have:a.tmps[t]? =some (.tuple cs):=by
              rw [Array.getElem?_eq_getElem ht']
              rw [Array.getD_eq_getD_getElem?,Array.getElem?_eq_getElem ht',Option.getD_some] at hx
              rw [hx]
            rw [this]
          rw [hy]
          rw [←h]
          cases want<;>rfl
      · cases h
    · cases h
def XL (P:Program) (n:Nat) (ops:Array Oper) (rest:List Oper) (K:Cu) (f:Fr) (h:Xh):Prop:=
  rest.all (inN n)=true→∀E H β a w,Sim E H β h w→FV n H β a f→wpList P ops (Ac6 E n K) rest a w
def XW (P:Program) (n:Nat) (c:Code) (K:Cu) (f:Fr) (h:Xh):Prop:=
  ∀E H β a w,Sim E H β h w→FV n H β a f→c.wp P (Ac6 E n K) a w
section
variable {P:Program} {n:Nat} {ops:Array Oper} {rest:List Oper} {K:Cu} {f f':Fr} {h h':Xh} {o:Oper} {s:S}
theorem XL.nil (hk:K .normal f h):XL P n ops [] K f h:=fun _ _ _ _ _ _ hs hf=>⟨_,_,_,_,hs,hf,hk⟩
theorem XL.stepR {R:S→Prop} (hw:Bl ops f n o.guard=some true)
    (hs : ∀ E H β a w, Sim E H β h w → FV n H β a f → (∀ x ∈ o.op.operands, VS H β (a.eval x) (ev f x)) →
      o.wp P a w (fun a' w' => ∃ H' β' u s, a' = a.put o.dst u ∧ Sim E H' β' h' w' ∧ FV n H' β' a f' ∧ VS H' β' u s ∧ R s) NoQ)
    (hr:∀s,R s→XL P n ops rest K (A7 f' o.dst s) h'):XL P n ops (o::rest) K f h:=by
  intro hin E H β a w hsim hf
  rw [List.all_cons,Bool.and_eq_true] at hin
  unfold wpList
  rw [if_pos (Hn hf hw)]
  refine .inl (Dm (hs E H β a w hsim hf (hf.operands hin.1)) ?_)
  rintro a' w' ⟨H',β',u,s,rfl,h1,h2,h3,hR⟩
  have hd:=hin.1
  unfold inN at hd
  rw [Bool.and_eq_true] at hd
  exact hr s hR hin.2 E H' β' _ w' h1 (h2.put h3 o.dst hd.2)
theorem XL.step (hw:Bl ops f n o.guard=some true) (hs:Step P n o f h s f' h') (hr:XL P n ops rest K (A7 f' o.dst s) h'):XL P n ops (o::rest) K f h:=
  XL.stepR (R:=fun t=>t=s) hw (fun E H β a w h1 h2 h3=>Dm (hs E H β a w h1 h2 h3) (by rintro a' w' ⟨H',β',u,e,g1,g2,g3⟩;exact ⟨H',β',u,s,e,g1,g2,g3,rfl⟩)) (by rintro t rfl;exact hr)
theorem XL.pure (hw:Bl ops f n o.guard=some true) (hp:A9 P o (ev f) h s) (hr:XL P n ops rest K (A7 f o.dst s) h):XL P n ops (o::rest) K f h:=
  XL.step hw (Step.pure hp) hr
theorem XL.skip (hw:Bl ops f n o.guard=some false) (hr:XL P n ops rest K (A7 f o.dst (.d (.v undef))) h):XL P n ops (o::rest) K f h:=by
  intro hin E H β a w hsim hf
  rw [List.all_cons,Bool.and_eq_true] at hin
  unfold wpList
  rw [if_neg (by rw [Hn hf hw];simp)]
  have hd:=hin.1
  unfold inN at hd
  rw [Bool.and_eq_true] at hd
  exact hr hin.2 E H β _ w hsim (hf.put (.d (.v undef)) o.dst hd.2)
theorem Vu {H:Hp} {β:Bt} {a:Act} (hf:FV n H β a f) (t:Nat) {s:S} (hs:VS H β (a.tmps.getD t undef) s):FV n H β a (Ds f t s):=
  ⟨hf.defers, hf.size, fun j hj => by
    by_cases e:t=j
    · subst e;simp only [Ds,Bh,cond_true];exact hs
    · simp only [Ds, Bp e, cond_false]; exact hf.slot j hj⟩
theorem XL.bool (t:Nat) {b:Bool} (ht:f t= .d (.v (.bool b))) (h1:b=true→XL P n ops rest K (Ds f t (.d (.v (.bool true)))) h) (h2:b=false→XL P n ops rest K (Ds f t (.d (.v (.bool false)))) h):
    XL P n ops rest K f h:=by
  have e:Ds f t (.d (.v (.bool b)))=f:=by
    funext j
    by_cases e:t=j
    · subst e;simp [Ds,ht]
    · simp [Ds,Bp e]
  cases b with
  |true=>have:=h1 rfl;rwa [e] at this
  |false=>have:=h2 rfl;rwa [e] at this
theorem XL.dec (t:Nat) {p:Prop} [Decidable p] (ht:f t= .d (.v (.bool (decide p)))) (h1:p→XL P n ops rest K (Ds f t (.d (.v (.bool true)))) h) (h2:¬p→XL P n ops rest K (Ds f t (.d (.v (.bool false)))) h):
    XL P n ops rest K f h:=XL.bool t ht (fun h=>h1 (of_decide_eq_true h)) (fun h=>h2 (of_decide_eq_false h))
def N6 (next:Fr→Xh→Prop) (K:Cu):Cu
  | .normal,f,h=>next f h
  |e,f,h=>K e f h
def U4 (id:Nat) (K:Cu):Cu
  | .exit id',f,h=>bif Nat.beq id' id then K .normal f h else K (.exit id') f h
  |e,f,h=>K e f h
theorem Aou (hk:K .normal f h):XW P n .skip K f h:=fun _ _ _ _ _ hs hf=>wp_skip ⟨_,_,_,_,hs,hf,hk⟩
theorem At {id:Nat} (hk:K (.exit id) f h):XW P n (.exit id) K f h:=fun _ _ _ _ _ hs hf=>wp_exit ⟨_,_,_,_,hs,hf,hk⟩
theorem Aq6 (hk:K .ret f h):XW P n .ret K f h:=fun _ _ _ _ _ hs hf=>wp_ret ⟨_,_,_,_,hs,hf,hk⟩
theorem Aih {x y:Code} (hx:XW P n x (N6 (XW P n y K) K) f h):XW P n (.seq x y) K f h:=fun E H β a w hs hf=>by
  refine wp_seq (wp_mono (hx E H β a w hs hf) ?_)
  rintro e a' w' ⟨H',β',f',h',h1,h2,h3⟩
  cases e with
  |normal=>exact h3 E H' β' a' w' h1 h2
  |_=>exact ⟨H',β',f',h',h1,h2,h3⟩
theorem Ah {id:Nat} {c:Code} (hc:XW P n c (U4 id K) f h):XW P n (.block id c) K f h:=fun E H β a w hs hf=>by
  refine wp_block (wp_mono (hc E H β a w hs hf) ?_)
  rintro e a' w' ⟨H',β',f',h',h1,h2,h3⟩
  cases e with
  |exit id'=>
    unfold Exit.inBlock
    simp only
    by_cases e:id'=id
    · subst e
      rw [if_pos rfl]
      unfold U4 at h3
      simp only [Bh,cond_true] at h3
      exact ⟨H',β',f',h',h1,h2,h3⟩
    · rw [if_neg e]
      unfold U4 at h3
      simp only [Bp e,cond_false] at h3
      exact ⟨H',β',f',h',h1,h2,h3⟩
  |_=>exact ⟨H',β',f',h',h1,h2,h3⟩
theorem Ff {c:Operand} {x y:Code} {b:Bool} (hi:Ti n c=true) (hc:ev f c= .d (.v (.bool b))) (h1:b=true→XW P n x K f h) (h2:b=false→XW P n y K f h):XW P n (.cond c x y) K f h:=fun E H β a w hs hf=>by
  have hv:=hf.eval hi
  rw [hc] at hv
  have hx:a.eval c= .bool b:=Dn hv
  exact wp_cond_split hx (fun e=>h1 e E H β a w hs hf) (fun e=>h2 e E H β a w hs hf)
theorem Av {c:Operand} {x y:Code} (hi:Ti n c=true) (hc:ev f c= .d (.v (.bool true))) (h1:XW P n x K f h):XW P n (.cond c x y) K f h:=Ff hi hc (fun _=>h1) (fun e=>by cases e)
theorem A8 {c:Operand} {x y:Code} (hi:Ti n c=true) (hc:ev f c= .d (.v (.bool false))) (h1:XW P n y K f h):XW P n (.cond c x y) K f h:=Ff hi hc (fun e=>by cases e) (fun _=>h1)
theorem Aq7 {c:Operand} {x y:Code} {p:Prop} [Decidable p] (hi:Ti n c=true) (hc:ev f c= .d (.v (.bool (decide p)))) (h1:p→XW P n x K f h) (h2:¬p→XW P n y K f h):XW P n (.cond c x y) K f h:=
  Ff hi hc (fun e=>h1 (of_decide_eq_true e)) (fun e=>h2 (of_decide_eq_false e))
theorem Ag {id:Nat} {l:List Oper} (hin:l.all (inN n)=true) (hl:XL P n l.toArray l K f h):XW P n (.region id l.toArray false) K f h:=
  fun E H β a w hs hf=>wp_region_lit (hl hin E H β a w hs hf)
inductive Sub:S→S→Prop where
  |any (s:S):Sub s .any
  |same {s s':S} (h:s=s'):Sub s s'
  |nil (sz:Nat):Sub (.d (.v (.slice none 0 0))) (.d (.sl sz []))
theorem Sub.vs {H:Hp} {β:Bt} {u:Value} {s s':S} (hs:Sub s s') (hu:VS H β u s):VS H β u s':=by
  cases hs with
  |any=>exact .any u
  |same e=>subst e;exact hu
  |nil sz=>
    have e:=Dn hu
    subst e
    exact .d (.emp none 0 sz (fun _=>rfl) (Nat.zero_le _))
def FSub (n:Nat) (f f':Fr):Prop:=∀t,t<n→Sub (f t) (f' t)
theorem FSub.fv {H:Hp} {β:Bt} {a:Act} (hs:FSub n f f') (hf:FV n H β a f):FV n H β a f':=⟨hf.defers,hf.size,fun t ht=>(hs t ht).vs (hf.slot t ht)⟩
def mkF:List (Nat × S)→Fr
  | []=>fun _=> .any
  |(t,s)::l=>Ds (mkF l) t s
theorem FSub.nil:FSub n f (mkF []):=fun _ _=> .any _
theorem FSub.cons {t:Nat} {s:S} {l:List (Nat × S)} (hs:Sub (f t) s) (hl:FSub n f (mkF l)):FSub n f (mkF ((t,s)::l)):=fun j hj=>by
  by_cases e:t=j
  · subst e;simp only [mkF,Ds,Bh,cond_true];exact hs
  · simp only [mkF,Ds,Bp e,cond_false];exact hl j hj
def mkH:List (Nat × XO)→Xh
  | []=>fun _=>none
  |(i,o)::l=>Xh.set (mkH l) i o
def HSub (h h':Xh):Prop:=∀i o,h' i=some o→h i=some o
theorem HSub.nil:HSub h (mkH []):=fun _ _ e=>by cases e
theorem HSub.cons {i:Nat} {o:XO} {l:List (Nat × XO)} (hs:h i=some o) (hl:HSub h (mkH l)):HSub h (mkH ((i,o)::l)):=fun j o' e=>by
  by_cases e':i=j
  · subst e';simp only [mkH,Xh.set_same] at e;cases e;exact hs
  · simp only [mkH] at e;rw [Xh.set_ne _ _ e'] at e;exact hl j o' e
theorem Az {α:Type} {c:Code} (I:α→Prop) (F:α→Fr) (G:α→Xh) (μ:α→Nat) (x0:α) (h0:I x0) (hf:FSub n f (F x0)) (hh:HSub h (G x0))
    (hc:∀x,I x→XW P n c (N6 (fun f' h'=>∃x',I x'∧μ x'<μ x∧FSub n f' (F x')∧HSub h' (G x')) K) (F x) (G x)):XW P n (.loop c) K f h:=
  fun E H β a w hs hfv=>by
    refine wp_loop_ghost (fun m a w=>∃x H β,I x∧μ x=m∧Sim E H β (G x) w∧FV n H β a (F x)) (μ x0) ⟨x0,H,β,h0,rfl,hs.drop hh,hf.fv hfv⟩ ?_
    rintro m a w ⟨x,H,β,hI,rfl,hs,hfv⟩
    refine wp_mono (hc x hI E H β a w hs hfv) ?_
    rintro e a' w' ⟨H',β',f',h',h1,h2,h3⟩
    cases e with
    |normal=>
      obtain ⟨x',hI',hm,hf',hh'⟩:=h3
      exact ⟨μ x',hm,x',H',β',hI',rfl,h1.drop hh',hf'.fv h2⟩
    |_=>exact ⟨H',β',f',h',h1,h2,h3⟩
end
end Go.Proofs.YtaafemnkamfgnaaGreat
namespace Go.Proofs.YtaafemnkamfgnaaGreat
open Go.RowKit
def Callable (P : Program) (F : FuncId) : Prop := ∃ fn, P.funcs[F]? = some fn ∧ fn.body.isSome = true ∧ (fn.name == "runtime.NumGoroutine") = false
theorem Callable.run {P:Program} {F:FuncId} (h:Callable P F) (vs:Array Value) (w:World):(callFunc F vs).run P w= .ok (.enter F vs) w:=by
  obtain ⟨fn,h1,h2,h3⟩:=h
  have h4:fn.body.isNone=false:=by
    cases hb:fn.body with
    |none=>rw [hb] at h2;cases h2
    |some c=>rfl
  unfold callFunc
  simp only [Sem.run_bind,run_program,Result.andThen_ok,h1,h3,h4,Bool.false_eq_true,if_false,Sem.run_pure]
structure XC (P:Program) (F:FuncId) (ds:List D) (R:D→Prop):Prop where
  callable:Callable P F
  calls:∀(H:Hp) (w:World) (vs:Array Value),Imm H w→vs.size=ds.length→(∀(i:Nat) (x:Value) (d:D),vs[i]? =some x→ds[i]? =some d→VD H x d)→
    Calls P F vs w fun e w'=>∃H' u r,e= .returned u∧R r∧H.le H'∧(∀b o u,H' b o=some u→H b o=some u∨w.heap.size≤b)∧Imm H' w'∧Below w.heap.size w w'∧VD H' u r
def V3 (ds:List D):Fr:=fun t=>
  match ds[t]? with
  |some d=> .d d
  |none=> .d (.v undef)
def Lf (P:Program) (n:Nat) (fn:Func) (R:D→Prop) (f:Fr) (h:Xh):Prop:=
  ∀E H β a w,Sim E H β h w→FV n H β a f→∃H' u r,(results fn a.tmps).run P w= .ok u w∧R r∧H.le H'∧(∀b o u,H' b o=some u→H b o=some u∨E.w.heap.size≤b)∧Imm H' w∧VD H' u r
def Ave (P:Program) (n:Nat) (fn:Func) (R:D→Prop):Cu
  | .normal,f,h=>Lf P n fn R f h
  | .ret,f,h=>Lf P n fn R f h
  |_,_,_=>False
theorem An {P:Program} {F:FuncId} {fn:Func} {c:Code} {n:Nat} {ds:List D} {R:D→Prop} (hc:Callable P F) (hf:P.funcs[F]? =some fn) (hb:fn.body=some c) (hn:fn.ntmps=n)
    (hl:ds.length≤n) (h:XW P n c (Ave P n fn R) (V3 ds) (mkH [])):XC P F ds R:=by
  refine ⟨hc,fun H w vs him hsz hvs=>calls_of_wp hf hb ?_⟩
  have hs:Sim ⟨w,H⟩ H (fun _=>none) (mkH []) w:=
    ⟨Below.refl _ _,Hp.le.refl _,fun b o u e=> .inl e,him,fun i o L e=>(by cases e),fun i o L e=>(by cases e),fun i j o o' L L' b _ e=>(by cases e),fun i o e=>(by cases e)⟩
  have hfv:FV n H (fun _=>none) {tmps:=vs++Array.replicate (fn.ntmps - vs.size) undef,defers:= []} (V3 ds):=by
    refine ⟨rfl,by simp [hn,hsz];omega,fun t ht=> ?_⟩
    unfold V3
    cases hd:ds[t]? with
    |none=>
      have hge:ds.length≤t:=List.getElem?_eq_none_iff.1 hd
      have:(vs++Array.replicate (fn.ntmps - vs.size) undef).getD t undef=undef:=by
        rw [Array.getD_eq_getD_getElem?,Array.getElem?_append_right (by omega)]
        rw [Array.getElem?_replicate]
        split<;>rfl
      show VS H (fun _=>none) ((vs++Array.replicate (fn.ntmps - vs.size) undef).getD t undef) (.d (.v undef))
      rw [this]
      exact .d (.v _)
    |some d=>
      have hlt:t<ds.length:=(List.getElem?_eq_some_iff.1 hd).1
      have hx : vs[t]? = some (vs[t]'(by omega)) := Array.getElem?_eq_getElem (by omega)
      have : (vs ++ Array.replicate (fn.ntmps - vs.size) undef).getD t undef = vs[t]'(by omega) := by
        rw [Array.getD_eq_getD_getElem?,Array.getElem?_append_left (by omega),hx]
        rfl
      show VS H (fun _=>none) ((vs++Array.replicate (fn.ntmps - vs.size) undef).getD t undef) (.d d)
      rw [this]
      exact .d (hvs t _ d hx hd)
  refine wp_mono (h ⟨w,H⟩ H _ _ w hs hfv) ?_
  rintro e a w' ⟨H',β',f',h',h1,h2,h3⟩
  have fin:Lf P n fn R f' h'→a.defers= []∧∃v,(results fn a.tmps).run P w'= .ok v w'∧∃H' u r,Ending.returned v= .returned u∧R r∧H.le H'∧(∀b o u,H' b o=some u→H b o=some u∨w.heap.size≤b)∧Imm H' w'∧Below w.heap.size w w'∧VD H' u r:=by
    intro h3
    obtain ⟨H2,u,r,g1,g2,g3,g4,g5,g6⟩:=h3 ⟨w,H⟩ H' β' a w' h1 h2
    refine ⟨h2.defers,u,g1,H2,u,r,rfl,g2,h1.ext.trans g3,fun b o u e=> ?_,g5,h1.below,g6⟩
    rcases g4 b o u e with k|k
    · exact h1.new b o u k
    · exact .inr k
  cases e with
  |normal=>exact fin h3
  |ret=>exact fin h3
  |_=>exact h3.elim
def Uq (tmps:Array Value) (rv:ResultVar):Sem Value:=
  match rv with
  | .tmp t=>pure (tmps.getD t undef)
  | .cell a t=>do loadVar t (←asAddr (tmps.getD a undef))
theorem Gp (fn : Func) (tmps : Array Value) : results fn tmps = (do
    let vs←fn.results.mapM (Uq tmps)
    pure (if h : vs.size = 1 then vs[0] else .tuple vs)) := rfl
def RV (P:Program) (n:Nat) (f:Fr) (h:Xh) (rv:ResultVar) (d:D):Prop:=
  ∀E H β a w,Sim E H β h w→FV n H β a f→∃u,(Uq a.tmps rv).run P w= .ok u w∧VD H u d
section
variable {P:Program} {n:Nat} {f f':Fr} {h h':Xh} {fn:Func} {R:D→Prop}
theorem RV.tmp {t:Nat} {d:D} (ht:Nat.blt t n=true) (hf:f t= .d d):RV P n f h (.tmp t) d:=fun E H β a w _ hfv=>⟨_,rfl,by have:=hfv.slot t (Eu ht);rw [hf] at this;exact D5 this⟩
theorem RV.nil {t sz : Nat} (ht : Nat.blt t n = true) (hf : f t = .d (.v (.slice none 0 0))) : RV P n f h (.tmp t) (.sl sz []) := fun E H β a w _ hfv => ⟨_, rfl, by
  have:=hfv.slot t (Eu ht)
  rw [hf] at this
  rw [Dn this]
  exact .emp none 0 sz (fun _ => rfl) (Nat.zero_le _)⟩
theorem Jb {rv:ResultVar} {d:D} (hr:fn.results= #[rv]) (h1:RV P n f h rv d) (hR:R d):Lf P n fn R f h:=fun E H β a w hs hf=>by
  obtain ⟨u,e1,v1⟩:=h1 E H β a w hs hf
  refine ⟨H,u,d, ?_,hR,Hp.le.refl _,fun b o u e=> .inl e,hs.imm,v1⟩
  rw [Gp,hr]
  simp [e1]
theorem A6 {r1 r2:ResultVar} {d1 d2:D} (hr:fn.results= #[r1,r2]) (h1:RV P n f h r1 d1) (h2:RV P n f h r2 d2) (hR:R (.tup [d1,d2])):Lf P n fn R f h:=fun E H β a w hs hf=>by
  obtain ⟨u1,e1,v1⟩:=h1 E H β a w hs hf
  obtain ⟨u2,e2,v2⟩:=h2 E H β a w hs hf
  refine ⟨H, .tuple #[u1,u2],_, ?_,hR,Hp.le.refl _,fun b o u e=> .inl e,hs.imm, .tup _ _ rfl fun i x d hx hd=> ?_⟩
  · rw [Gp,hr]
    simp [e1,e2]
  · match i with
    |0=>simp at hx hd;subst hx hd;exact v1
    |1=>simp at hx hd;subst hx hd;exact v2
    |i+2=>simp at hd
theorem Vk {r1 r2 r3:ResultVar} {d1 d2 d3:D} (hr:fn.results= #[r1,r2,r3]) (h1:RV P n f h r1 d1) (h2:RV P n f h r2 d2) (h3:RV P n f h r3 d3) (hR:R (.tup [d1,d2,d3])):Lf P n fn R f h:=fun E H β a w hs hf=>by
  obtain ⟨u1,e1,v1⟩:=h1 E H β a w hs hf
  obtain ⟨u2,e2,v2⟩:=h2 E H β a w hs hf
  obtain ⟨u3,e3,v3⟩:=h3 E H β a w hs hf
  refine ⟨H, .tuple #[u1,u2,u3],_, ?_,hR,Hp.le.refl _,fun b o u e=> .inl e,hs.imm, .tup _ _ rfl fun i x d hx hd=> ?_⟩
  · rw [Gp,hr]
    simp [e1,e2,e3]
  · match i with
    |0=>simp at hx hd;subst hx hd;exact v1
    |1=>simp at hx hd;subst hx hd;exact v2
    |2=>simp at hx hd;subst hx hd;exact v3
    |i+3=>simp at hd
theorem Hu {r1 r2 r3 r4:ResultVar} {d1 d2 d3 d4:D} (hr:fn.results= #[r1,r2,r3,r4]) (h1:RV P n f h r1 d1) (h2:RV P n f h r2 d2) (h3:RV P n f h r3 d3) (h4:RV P n f h r4 d4) (hR:R (.tup [d1,d2,d3,d4])):Lf P n fn R f h:=fun E H β a w hs hf=>by
  obtain ⟨u1,e1,v1⟩:=h1 E H β a w hs hf
  obtain ⟨u2,e2,v2⟩:=h2 E H β a w hs hf
  obtain ⟨u3,e3,v3⟩:=h3 E H β a w hs hf
  obtain ⟨u4,e4,v4⟩:=h4 E H β a w hs hf
  refine ⟨H, .tuple #[u1,u2,u3,u4],_, ?_,hR,Hp.le.refl _,fun b o u e=> .inl e,hs.imm, .tup _ _ rfl fun i x d hx hd=> ?_⟩
  · rw [Gp,hr]
    simp [e1,e2,e3,e4]
  · match i with
    |0=>simp at hx hd;subst hx hd;exact v1
    |1=>simp at hx hd;subst hx hd;exact v2
    |2=>simp at hx hd;subst hx hd;exact v3
    |3=>simp at hx hd;subst hx hd;exact v4
    |i+4=>simp at hd
end
mutual
def S.frz (i:Nat) (x:D):S→S
  | .any=> .any
  | .d y=> .d y
  | .ptr j k off=> .ptr j k off
  | .own j=>bif Nat.beq i j then .d x else .own j
  | .sub j a b=>bif Nat.beq i j then .any else .sub j a b
  | .agg l=> .agg (S.frzL i x l)
  | .fn f a c=> .fn f (S.frzL i x a) (S.frzL i x c)
  | .tup l=> .tup (S.frzL i x l)
def S.frzL (i:Nat) (x:D):List S→List S
  | []=> []
  |s::l=>S.frz i x s::S.frzL i x l
end
theorem S.frzL_length (i:Nat) (x:D) (l:List S):(S.frzL i x l).length=l.length:=by
  induction l with
  |nil=>rfl
  |cons a l ih=>simp [S.frzL,ih]
theorem S.frzL_get (i:Nat) (x:D) (l:List S) (j:Nat):(S.frzL i x l)[j]? =(l[j]?).map (S.frz i x):=by
  induction l generalizing j with
  |nil=>rfl
  |cons a l ih=>
    cases j with
    |zero=>rfl
    |succ j=>simpa [S.frzL] using ih j
theorem VS.frz {H:Hp} {β:Bt} {u:Value} {s:S} (hs:VS H β u s) (i:Nat) (x:D) (hx:∀L,β i=some L→VD H L.v x):VS H β u (s.frz i x):=by
  induction hs with
  |any u=>unfold S.frz;exact .any u
  |d h=>unfold S.frz;exact .d h
  |ptr k off h=>unfold S.frz;exact .ptr k off h
  | @own j L h=>
    unfold S.frz
    by_cases e:i=j
    · subst e;rw [Bh];exact .d (hx _ h)
    · rw [Bp e];exact .own h
  | @sub j L A n c a b h hv hab hn=>
    unfold S.frz
    by_cases e:i=j
    · subst e;rw [Bh];exact .any _
    · rw [Bp e];exact .sub a b h hv hab hn
  |agg cs l e h ih=>
    unfold S.frz
    refine .agg cs _ (by rw [S.frzL_length];exact e) fun j y s hy hs=> ?_
    rw [S.frzL_get] at hs
    cases hl:l[j]? with
    |none=>rw [hl] at hs;simp at hs
    |some s'=>rw [hl] at hs;simp at hs;subst hs;exact ih j y s' hy hl
  |fn f A C a c ha hc h h' ih ih'=>
    unfold S.frz
    refine .fn f A C _ _ (by rw [S.frzL_length];exact ha) (by rw [S.frzL_length];exact hc) (fun j y s hy hs=> ?_) (fun j y s hy hs=> ?_)
    · rw [S.frzL_get] at hs
      cases hl:a[j]? with
      |none=>rw [hl] at hs;simp at hs
      |some s'=>rw [hl] at hs;simp at hs;subst hs;exact ih j y s' hy hl
    · rw [S.frzL_get] at hs
      cases hl:c[j]? with
      |none=>rw [hl] at hs;simp at hs
      |some s'=>rw [hl] at hs;simp at hs;subst hs;exact ih' j y s' hy hl
  |tup cs l e h ih=>
    unfold S.frz
    refine .tup cs _ (by rw [S.frzL_length];exact e) fun j y s hy hs=> ?_
    rw [S.frzL_get] at hs
    cases hl:l[j]? with
    |none=>rw [hl] at hs;simp at hs
    |some s'=>rw [hl] at hs;simp at hs;subst hs;exact ih j y s' hy hl
def S.frzG (i:Nat) (x:D):List (Nat × S)→List (Nat × S)
  | []=> []
  |(t,s)::l=>(t,s.frz i x)::S.frzG i x l
theorem S.frzG_mem {i:Nat} {x:D} {l:List (Nat × S)} {t:Nat} {s:S} (h:(t,s)∈S.frzG i x l):∃s',(t,s')∈l∧s=s'.frz i x:=by
  induction l with
  |nil=>cases h
  |cons a l ih=>
    obtain ⟨t',s'⟩:=a
    rcases List.mem_cons.1 h with e|e
    · cases e;exact ⟨s',List.mem_cons_self,rfl⟩
    · obtain ⟨s2,h1,h2⟩:=ih e;exact ⟨s2,List.mem_cons_of_mem _ h1,h2⟩
def T.frzF (i:Nat) (x:D) (j:Nat):T:=bif Nat.beq i j then .d x else .own j
theorem TR.frz {base:Nat} {w:World} {H:Hp} {β:Bt} {u:Value} {t:T} {B:Nat→Prop} (h:TR base w H β u t B) (i:Nat) (x:D) (hx:∀L,β i=some L→VD H L.v x):TR base w H β u (t.mp (T.frzF i x)) B:=
  h.mp _ fun j L' hj B hB=>by
    unfold T.frzF
    by_cases e:i=j
    · subst e;rw [Bh];exact .d (hx _ hj) B hB
    · rw [Bp e];exact .own hj B hB
def XO.frz (i:Nat) (x:D):XO→XO
  | .box l=> .box (S.frzL i x l)
  | .row e sz l=> .row e sz l
  | .rowS e sz l=> .rowS e sz (l.map (S.frzL i x))
  | .tree e sz ls l=>bif B2 i ls then .tree e sz ls (T.mpLL (T.frzF i x) l) else .tree e sz ls l
  | .ghost u l=> .ghost u (S.frzG i x l)
theorem XO.isG_frz (i:Nat) (x:D) (o:XO):(o.frz i x).isG=o.isG:=by
  cases o with
  |tree e sz ls l=>show XO.isG (bif B2 i ls then XO.tree e sz ls (T.mpLL (T.frzF i x) l) else XO.tree e sz ls l)=_;cases B2 i ls<;>rfl
  |_=>rfl
theorem T.frzF_in {ls:List Nat} (i:Nat) (x:D):∀j,B2 j ls=true→(T.frzF i x j).inn ls=true:=fun j h=>by
  unfold T.frzF
  cases Nat.beq i j with
  |true=>rfl
  |false=>exact h
def Xh.frz (h:Xh) (i:Nat) (x:D):Xh:=fun j=>bif Nat.beq i j then none else (h j).map (XO.frz i x)
def Vw (f:Fr) (i:Nat) (x:D):Fr:=fun j=>(f j).frz i x
theorem FV.frz {n:Nat} {H:Hp} {β:Bt} {a:Act} {f:Fr} (hf:FV n H β a f) (i:Nat) (x:D) (hx:∀L,β i=some L→VD H L.v x):FV n H β a (Vw f i x):=
  ⟨hf.defers,hf.size,fun t ht=>(hf.slot t ht).frz i x hx⟩
theorem XO.blk_frz (L:Loc) (i:Nat) (x:D) (o:XO):(o.frz i x).blk L=o.blk L:=by
  cases o with
  |tree e sz ls l=>show XO.blk L (bif B2 i ls then XO.tree e sz ls (T.mpLL (T.frzF i x) l) else XO.tree e sz ls l)=_;cases B2 i ls<;>rfl
  |_=>rfl
theorem OKo.frz {base:Nat} {w:World} {H:Hp} {β:Bt} {L:Loc} {o:XO} (h:OKo base w H β L o) (i:Nat) (x:D) (hx:∀L,β i=some L→VD H L.v x):OKo base w H β L (o.frz i x):=by
  cases o with
  |box l=>
    obtain ⟨h1,h0,us,t,h2,h3,h4⟩:=h
    refine ⟨h1,by rw [S.frzL_length];exact h0,us,t,h2,by rw [S.frzL_length];exact h3,fun j u s hu hs=> ?_⟩
    rw [S.frzL_get] at hs
    cases hl:l[j]? with
    |none=>rw [hl] at hs;simp at hs
    |some s'=>rw [hl] at hs;simp at hs;subst hs;exact (h4 j u s' hu hl).frz i x hx
  |row e sz l=>exact h
  |rowS e sz l=>
    obtain ⟨h0,hz,hv,us,h2,h3,h4⟩:=h
    refine ⟨h0,fun y hy=> ?_,hv,us,by rw [List.length_map];exact h2,h3,fun k j y s hy hs=> ?_⟩
    · obtain ⟨z,hz',rfl⟩:=List.mem_map.1 hy
      rw [S.frzL_length];exact hz z hz'
    · rw [List.getElem?_map] at hy
      cases hl:l[k]? with
      |none=>rw [hl] at hy;simp at hy
      |some z=>
        rw [hl] at hy;simp at hy;subst hy
        rw [S.frzL_get] at hs
        cases hq:z[j]? with
        |none=>rw [hq] at hs;simp at hs
        |some s'=>
          rw [hq] at hs;simp at hs;subst hs
          obtain ⟨u,hu,hv⟩:=h4 k j z s' hl hq
          exact ⟨u,hu,hv.frz i x hx⟩
  |tree e sz ls l=>
    have q:=h.2.2.2.frz i x hx
    unfold T.mp at q
    show OKo base w H β L (bif B2 i ls then XO.tree e sz ls (T.mpLL (T.frzF i x) l) else XO.tree e sz ls l)
    cases hm:B2 i ls with
    |true=>exact ⟨h.1,h.2.1,T.inLL_mp (T.frzF_in i x) l h.2.2.1,q⟩
    |false=>exact h
  |ghost u l=>
    intro t s hm
    obtain ⟨s',h1,rfl⟩:=S.frzG_mem hm
    exact (h t s' h1).frz i x hx
def Hp.plus (H:Hp) (g:Nat) (us:Nat→Option Value):Hp:=fun b o=>
  match H b o with
  |some u=>some u
  |none=>if b=g then us o else none
theorem Hp.plus_le (H:Hp) (g:Nat) (us:Nat→Option Value):H.le (H.plus g us):=fun b o u e=>by simp [Hp.plus,e]
theorem Hp.plus_new {H:Hp} {g:Nat} {us:Nat→Option Value} {b o:Nat} {u:Value} (e:H.plus g us b o=some u):H b o=some u∨(b=g∧us o=some u):=by
  unfold Hp.plus at e
  split at e
  · rename_i v hv;cases e;exact .inl hv
  · split at e
    · rename_i hb;exact .inr ⟨hb,e⟩
    · cases e
theorem Hp.plus_at {H:Hp} {g:Nat} {us:Nat→Option Value} (hn:∀o,H g o=none) (o:Nat):H.plus g us g o=us o:=by simp [Hp.plus,hn]
theorem Sim.share {E:Env} {H:Hp} {β:Bt} {h:Xh} {w:World} (s:Sim E H β h w) {i:Nat} {o:XO} {L:Loc} (ho:h i=some o) (hL:β i=some L) {g:Nat} (hg:o.blk L g)
    (us:Nat→Option Value) (hus:∀k u,us k=some u→w.cell? ⟨g,k,none⟩=some u∧u.oneCell'=true) (x:D)
    (hx:VD (H.plus g us) L.v x):Sim E (H.plus g us) β (h.frz i x) w:=by
  have hx':∀L',β i=some L'→VD (H.plus g us) L'.v x:=fun L' e=>by rw [hL] at e;cases e;exact hx
  have aux:∀j o',h.frz i x j=some o'→i≠j∧∃o1,h j=some o1∧o'=o1.frz i x:=by
    intro j o' e
    unfold Xh.frz at e
    by_cases hij:i=j
    · subst hij;rw [Bh] at e;cases e
    · rw [Bp hij] at e
      cases hj:h j with
      |none=>rw [hj] at e;cases e
      |some o1=>rw [hj] at e;cases e;exact ⟨hij,o1,rfl,rfl⟩
  have hgl:=(s.obj i o L ho hL).lt hg
  refine ⟨s.below,s.ext.trans (Hp.plus_le _ _ _),fun b k u e=> ?_,fun b k u e=> ?_,fun j o' L' ho' hL'=> ?_,fun j o' L' ho' hL' b hb off=> ?_,fun j j' o1 o2 L1 L2 b hjj h1 h1' h2 h2' hb=> ?_,fun j o' ho' hg'=> ?_⟩
  rotate_left 5
  · obtain ⟨_,o1,h1,rfl⟩:=aux j o' ho'
    rw [XO.isG_frz] at hg'
    exact s.dom j o1 h1 hg'
  · rcases Hp.plus_new e with k1|⟨rfl,_⟩
    · exact s.new b k u k1
    · exact .inr hgl.1
  · rcases Hp.plus_new e with k1|⟨rfl,k2⟩
    · exact s.imm b k u k1
    · exact hus k u k2
  · obtain ⟨_,o1,h1,rfl⟩:=aux j o' ho'
    exact ((s.obj j o1 L' h1 hL').keep (Hp.plus_le _ _ _) (fun _ _ h=>h) fun _ _=>rfl).frz i x hx'
  · obtain ⟨hij,o1,h1,rfl⟩:=aux j o' ho'
    rw [XO.blk_frz] at hb
    cases e:H.plus g us b off with
    |none=>rfl
    |some u=>
      rcases Hp.plus_new e with k1|⟨rfl,_⟩
      · rw [s.sep j o1 L' h1 hL' b hb off] at k1;cases k1
      · exact absurd hb (s.inj i j o o1 L L' b hij ho h1 hL hL' hg)
  · obtain ⟨_,o3,h3,rfl⟩:=aux j o1 h1
    obtain ⟨_,o4,h4,rfl⟩:=aux j' o2 h1'
    rw [XO.blk_frz] at hb ⊢
    exact s.inj j j' o3 o4 L1 L2 b hjj h3 h4 h2 h2' hb
theorem Sim.noshare {E:Env} {H:Hp} {β:Bt} {h:Xh} {w:World} (s:Sim E H β h w) (i:Nat) (x:D) (hx:∀L,β i=some L→VD H L.v x):Sim E H β (h.frz i x) w:=by
  have aux:∀j o',h.frz i x j=some o'→∃o1,h j=some o1∧o'=o1.frz i x:=by
    intro j o' e
    unfold Xh.frz at e
    by_cases hij:i=j
    · subst hij;rw [Bh] at e;cases e
    · rw [Bp hij] at e
      cases hj:h j with
      |none=>rw [hj] at e;cases e
      |some o1=>rw [hj] at e;cases e;exact ⟨o1,rfl,rfl⟩
  refine ⟨s.below,s.ext,s.new,s.imm,fun j o' L' ho' hL'=> ?_,fun j o' L' ho' hL' b hb off=> ?_,fun j j' o1 o2 L1 L2 b hjj h1 h1' h2 h2' hb=> ?_,fun j o' ho' hg'=> ?_⟩
  rotate_left 3
  · obtain ⟨o1,h1,rfl⟩:=aux j o' ho'
    rw [XO.isG_frz] at hg'
    exact s.dom j o1 h1 hg'
  · obtain ⟨o1,h1,rfl⟩:=aux j o' ho'
    exact (s.obj j o1 L' h1 hL').frz i x hx
  · obtain ⟨o1,h1,rfl⟩:=aux j o' ho'
    rw [XO.blk_frz] at hb
    exact s.sep j o1 L' h1 hL' b hb off
  · obtain ⟨o3,h3,rfl⟩:=aux j o1 h1
    obtain ⟨o4,h4,rfl⟩:=aux j' o2 h1'
    rw [XO.blk_frz] at hb ⊢
    exact s.inj j j' o3 o4 L1 L2 b hjj h3 h4 h2 h2' hb
theorem Sim.freeze {E:Env} {H:Hp} {β:Bt} {h:Xh} {w:World} (s:Sim E H β h w) {i:Nat} {e:TypeId} {sz:Nat} {l:List (List D)} (ho:h i=some (.row e sz l)):
    ∃H',H.le H'∧(∀L,β i=some L→VD H' L.v (.sl sz l))∧Sim E H' β (h.frz i (.sl sz l)) w:=by
  cases hL:β i with
  |none=>exact ⟨H,Hp.le.refl _,(fun L e=>by cases e),s.noshare i _ (fun L e=>by rw [hL] at e;cases e)⟩
  |some L=>
    obtain ⟨hsz,hz,hvb,us,hown,hone,hcells⟩:=s.obj i _ L ho hL
    have hown0:=hown
    obtain ⟨hlen,hcase⟩:=hown
    rcases hcase with ⟨hnil,hn0⟩|⟨g,cap,cur,hv,hbase,hheap,hncap,hcap,hcur,htake⟩
    · have hl:l= []:=List.eq_nil_of_length_eq_zero hn0
      subst hl
      have hx:VD H L.v (.sl sz []):=by rw [hnil];exact .emp none 0 sz (fun _=>rfl) (Nat.zero_le _)
      exact ⟨H,Hp.le.refl _,(fun L' e=>by cases e;exact hx),s.noshare i _ (fun L' e=>by rw [hL] at e;cases e;exact hx)⟩
    · have hblk:(XO.row e sz l).blk L g:=by simp [XO.blk,hv,Value.ownBlock]
      have hnone:=s.sep i _ L ho hL g hblk
      have hx:VD (H.plus g (us[·]?)) L.v (.sl sz l):=by
        rw [hv]
        have hget:∀(k j:Nat) (x:List D) (d:D),l[k]? =some x→x[j]? =some d→us[0+(k*sz+j)]? =some ((us[k*sz+j]?).getD undef)∧VD H ((us[k*sz+j]?).getD undef) d:=by
          intro k j x d hx hd
          obtain ⟨u,hu,hd'⟩:=hcells k j x d hx hd
          rw [Nat.zero_add,hu]
          exact ⟨rfl,hd'⟩
        exact .sl g 0 l.length cap sz l (fun k j=>(us[k*sz+j]?).getD undef) rfl hncap hcap hz (fun k j x d h1 h2=>by rw [Hp.plus_at hnone];exact (hget k j x d h1 h2).1)
          (fun k j x d h1 h2=>((hget k j x d h1 h2).2).mono (Hp.plus_le _ _ _))
      refine ⟨H.plus g (us[·]?),Hp.plus_le _ _ _,(fun L' e=>by cases e;exact hx),s.share ho hL hblk _ (fun k u hu=> ?_) _ hx⟩
      refine ⟨?_,hone u (List.mem_of_getElem? hu)⟩
      have:=hown0.cells (g:=g) (by rw [hv];rfl) k u hu
      rw [Go.WideShapes.add_plain] at this
      simpa using this
section
variable {P:Program} {n:Nat} {ops:Array Oper} {rest:List Oper} {K:Cu} {f:Fr} {h:Xh} {fn:Func} {R:D→Prop} {c:Code} {i:Nat} {e:TypeId} {sz:Nat} {l:List (List D)}
theorem If (ho:h i=some (.row e sz l)) (hc:XW P n c K (Vw f i (.sl sz l)) (h.frz i (.sl sz l))):XW P n c K f h:=fun E H β a w hs hf=>by
  obtain ⟨H',h1,h2,h3⟩:=hs.freeze ho
  exact hc E H' β a w h3 ((hf.mono h1 fun _ _ h=>h).frz i _ h2)
theorem XL.freeze (ho:h i=some (.row e sz l)) (hc:XL P n ops rest K (Vw f i (.sl sz l)) (h.frz i (.sl sz l))):XL P n ops rest K f h:=fun hin E H β a w hs hf=>by
  obtain ⟨H',h1,h2,h3⟩:=hs.freeze ho
  exact hc hin E H' β a w h3 ((hf.mono h1 fun _ _ h=>h).frz i _ h2)
theorem Cd (ho:h i=some (.row e sz l)) (hc:Lf P n fn R (Vw f i (.sl sz l)) (h.frz i (.sl sz l))):Lf P n fn R f h:=fun E H β a w hs hf=>by
  obtain ⟨H',h1,h2,h3⟩:=hs.freeze ho
  obtain ⟨H2,u,r,g1,g2,g3,g4,g5⟩:=hc E H' β a w h3 ((hf.mono h1 fun _ _ h=>h).frz i _ h2)
  refine ⟨H2,u,r,g1,g2,h1.trans g3,fun b o u e=> ?_,g5⟩
  rcases g4 b o u e with k|k
  · rcases h3.new b o u k with k'|k'
    · exact .inl (hs.ext _ _ _ k')
    · exact .inr k'
  · exact .inr k
end
section
variable {P:Program} {n:Nat} {ops:Array Oper} {rest:List Oper} {K:Cu} {f:Fr} {h:Xh} {o:Oper} {F:FuncId} {ds:List D} {R:D→Prop} {args:Array Operand} {tys:Array TypeId}
theorem O2 {H:Hp} {β:Bt} {a:Act} (args:Array Operand) (ds:List D) (ha:args.toList.map (ev f)=ds.map S.d) (hv:∀x∈args,VS H β (a.eval x) (ev f x)):
    (args.map a.eval).size=ds.length∧∀(i:Nat) (x:Value) (d:D),(args.map a.eval)[i]? =some x→ds[i]? =some d→VD H x d:=by
  have hl:=congrArg List.length ha
  simp only [List.length_map,Array.length_toList] at hl
  refine ⟨by simpa using hl,fun i x d hx hd=> ?_⟩
  have hi:i<args.size:=by have:=(List.getElem?_eq_some_iff.1 hd).1;omega
  have hx':x=a.eval args[i]:=by
    rw [Array.getElem?_map,Array.getElem?_eq_getElem hi] at hx
    simpa using hx.symm
  have hg:(args.toList.map (ev f))[i]? =(ds.map S.d)[i]? :=by rw [ha]
  rw [List.getElem?_map,List.getElem?_map,hd,Array.getElem?_toList,Array.getElem?_eq_getElem hi] at hg
  simp only [Option.map_some,Option.some.injEq] at hg
  have:=hv args[i] (Array.getElem_mem hi)
  rw [hg] at this
  rw [hx']
  exact D5 this
theorem XL.call (ho:o.op= .call {callee:= .value (.func F),args:=args,argTypes:=tys}) (hw:Bl ops f n o.guard=some true) (hx:XC P F ds R)
    (ha:args.toList.map (ev f)=ds.map S.d) (hr:∀r,R r→XL P n ops rest K (A7 f o.dst (.d r)) h):XL P n ops (o::rest) K f h:=by
  refine XL.stepR (f':=f) (h':=h) (R:=fun s=>∃r,s= .d r∧R r) hw (fun E H β a w hs hf hop=> ?_) (by rintro s ⟨r,rfl,h⟩;exact hr r h)
  have hop':∀x∈args,VS H β (a.eval x) (ev f x):=fun x hx=>hop x (by rw [ho];simp [Op.operands,Call.operands,hx])
  obtain ⟨hsz,hvd⟩:=O2 (a:=a) args ds ha hop'
  have hrun:(execOp a.eval o).run P w= .ok (.enter F (args.map a.eval)) w:=by
    have:=hx.callable.run (args.map a.eval) w
    unfold execOp
    simp only [ho,resolve,Act.eval,Deferred.ofValue,Sem.run_bind,Sem.run_pure,Result.andThen_ok,invoke,Array.append_empty,Array.empty_append]
    exact this
  unfold Oper.wp
  rw [hrun]
  refine (hx.calls H w _ hs.imm hsz hvd).mono ?_
  rintro e w' ⟨H',u,r,rfl,hR,hle,hnew,him,hb,hu⟩
  exact ⟨H',β,u, .d r,rfl,hs.call hb hle hnew him,hf.mono hle (fun _ _ h=>h), .d hu,r,rfl,hR⟩
theorem XL.callv {x:Operand} {ps cs:List D} (ho:o.op= .call {callee:= .value x,args:=args,argTypes:=tys}) (hw:Bl ops f n o.guard=some true) (hxe:ev f x= .d (.fn F ps cs))
    (hx:XC P F (ps++ds++cs) R) (ha:args.toList.map (ev f)=ds.map S.d) (hr:∀r,R r→XL P n ops rest K (A7 f o.dst (.d r)) h):XL P n ops (o::rest) K f h:=by
  refine XL.stepR (f':=f) (h':=h) (R:=fun s=>∃r,s= .d r∧R r) hw (fun E H β a w hs hf hop=> ?_) (by rintro s ⟨r,rfl,h⟩;exact hr r h)
  have hop':∀y∈args,VS H β (a.eval y) (ev f y):=fun y hy=>hop y (by rw [ho];simp [Op.operands,Call.operands,hy])
  obtain ⟨hsz,hvd⟩:=O2 (a:=a) args ds ha hop'
  have hxv:=hop x (by rw [ho];simp [Op.operands,Call.operands])
  rw [hxe] at hxv
  obtain ⟨A,C,hA,hA1,hC1,hA2,hC2⟩:=An6 (D5 hxv)
  have hrun:(execOp a.eval o).run P w= .ok (.enter F (A++args.map a.eval++C)) w:=by
    have:=hx.callable.run (A++args.map a.eval++C) w
    unfold execOp
    simp only [ho,resolve,hA,Deferred.ofValue,Sem.run_bind,Sem.run_pure,Result.andThen_ok,invoke]
    exact this
  unfold Oper.wp
  rw [hrun]
  refine (hx.calls H w _ hs.imm (by simp at hsz ⊢;omega) ?_).mono ?_
  · intro i y d hy hd
    by_cases h1:i<ps.length
    · rw [List.append_assoc,List.getElem?_append_left h1] at hd
      rw [Array.append_assoc,Array.getElem?_append_left (by omega)] at hy
      exact hA2 i y d hy hd
    · by_cases h2:i<ps.length+ds.length
      · rw [List.append_assoc,List.getElem?_append_right (by omega),List.getElem?_append_left (by omega)] at hd
        rw [Array.append_assoc,Array.getElem?_append_right (by omega),Array.getElem?_append_left (by omega),hA1] at hy
        exact hvd _ y d hy hd
      · rw [List.getElem?_append_right (by simp;omega)] at hd
        rw [Array.getElem?_append_right (by simp at hsz ⊢;omega)] at hy
        have e:(A++args.map a.eval).size=(ps++ds).length:=by simp at hsz ⊢;omega
        rw [e] at hy
        exact hC2 _ y d hy hd
  · rintro e w' ⟨H',u,r,rfl,hR,hle,hnew,him,hb,hu⟩
    exact ⟨H',β,u, .d r,rfl,hs.call hb hle hnew him,hf.mono hle (fun _ _ h=>h), .d hu,r,rfl,hR⟩
end
end Go.Proofs.YtaafemnkamfgnaaGreat
