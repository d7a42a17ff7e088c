/- Part 9 of what the statements need: lemmas and walks. -/
import Derived.ProofKit
import Derived.OpenShut
import Derived.Deep.Slices
import Derived.Deep.Fields
import Derived.ChangeSame
import Derived.Test.YtcihalbakenleaaGreatRs8
set_option linter.unusedVariables false
set_option linter.unusedSimpArgs false
set_option linter.unusedSectionVars false
set_option maxRecDepth 20000
set_option maxHeartbeats 8000000
namespace Go.Proofs.YtcihalbakenleaaGreat
open Go.RowKit Go.ChangeShapes Go.WideShapes Go.ChangeAt Go.Deep
theorem Asg:ownKnob Tryz.prog.godebug=none:=by kernel_rfl
theorem Akx:laidOutB Tryz.prog=true:=by kernel_rfl
section
variable {H:Type} {enc:TypeId × Value→H} {P:Program}
theorem Wy (hl:laidOutB P=true) {ts:List TypeId} (hts:∀t∈ts,P.readableRec t=true∧t<P.types.size) {W W':World} {sp:Nat→Bool}:
  ∀{vs:List Value} {ds:List (DataW H)} {ps:List MemPlace},DataW.TrodAll enc P W 0 (fun _=>true) true ts vs ds ps→(∀p∈ps,W.sameAt W' p)→(∀p∈ps,sp p.block=true)→
   DataW.TrodAll enc P W' 0 sp true ts vs ds ps:=by
 induction ts with
 |nil=>
  intro vs ds ps h _ _
  obtain ⟨rfl,rfl,rfl⟩:=trodAll_nil h
  exact trodAll_mk0
 |cons t ts ih=>
  intro vs ds ps h hs hp
  obtain ⟨v,vs',d,ds',p,q,rfl,rfl,rfl,h1,h2⟩:=trodAll_cons h
  have ht:=hts t (by simp)
  exact trodAll_cons_mk (WideElems.Trod_stays hl ht.1 ht.2 h1 (fun x hx=>hs x (by simp [hx])) fun x hx=>hp x (by simp [hx]))
   (ih (fun t ht=>hts t (by simp [ht])) h2 (fun x hx=>hs x (by simp [hx])) fun x hx=>hp x (by simp [hx]))
theorem Akw {f:Func} {s:ChangeSpec} {fresh:Bool} {W W':World} {args:Array Value} {ds gs:List (DataW H)} {before:List MemPlace} {tb:TypeId}
  (hl:laidOutB P=true) (hts:∀t∈f.params.toList,P.readableRec t=true∧t<P.types.size) (hr:f.resultTypes= #[tb]) (hb:P.underlying tb=some .bool)
  (hv:s.vars= []) (hs:s.fn H (ds++gs)={results:= [.lit (.bool true)],args:=ds,vars:= []})
  (hW:DataW.Whole enc P f.params.toList s.vars false W args.toList ds gs before) (hbel:Below W.heap.size W W'):
  s.post enc P f false fresh false false W args (.bool true) W':=by
 have hlt:∀p∈before,p.block<W.heap.size:=fun p hp=>hW.lt p hp
 have hW0:=hW
 obtain ⟨p,q,hA,hV,hbe,hz,hn⟩:=hW0
 have hq:q= []:=by
  rw [hv] at hV
  exact (trodVars_none hV).2
 subst hq
 simp only [List.append_nil] at hbe
 subst hbe
 have hargs:∀sp:Nat→Bool,(∀x∈before,sp x.block=true)→DataW.TrodAll enc P W' 0 sp true f.params.toList args.toList (s.fn H (ds++gs)).args before:=by
  intro sp hsp
  rw [hs]
  exact Wy hl hts hA (fun x hx=>hbel.same (hlt x hx)) hsp
 have hold:∀x∈before,(fun b=>decide (b<W.heap.size)) x.block=true:=fun x hx=>by simpa using hlt x hx
 refine ⟨ds,gs,before, [],before, [],hW, ?_,hargs _ hold, ?_, ?_,fun h=>by cases h⟩
 ·rw [hs,hr]
  exact trodAll_cons_mk (shut_bool hb _) trodAll_mk0
 ·rw [hs,hv]
  rfl
 ·exact World.keptBut_mono (fun x hx=>⟨hx,Or.inr (Or.inl hx)⟩) (hbel.frame (· ∈before))
end
def Dec (P:Program) (t:TypeId) {α:Type} (f:α→List Value) (ok:World→α→Prop):Prop:=
 ∀(H:Type) (enc:TypeId × Value→H) (w:World) (fuel:Nat) (cs:List Value) (x:DataW H × List MemPlace),
  DataW.trod enc P w 0 (fun _=>true) true fuel t cs=some x→∃a,cs=f a∧ok w a
structure Sl (α:Type) where
 A:Option Addr
 n:Nat
 c:Nat
 l:List α
def Sl.val {α:Type} (s:Sl α):Value:= .slice s.A s.n s.c
structure Sl.Good {α:Type} (f:α→List Value) (okw:World→α→Prop) (w:World) (s:Sl α):Prop where
 len:s.n=s.l.length
 cap:s.n≤s.c
 max:s.c≤maxLen
 nil:s.A=none→s.c=0
 rds:Rds w w.heap.size s.A (s.l.flatMap f)
 all:∀a∈s.l,okw w a
section
variable {H:Type} {enc:TypeId × Value→H} {P:Program} {w:World}
end
end Go.Proofs.YtcihalbakenleaaGreat
namespace Go.Proofs.YtcihalbakenleaaGreat
open Go.RowKit Go.ChangeShapes Go.WideShapes Go.ChangeAt Go.Deep
def Hw (w:World):Hp:=fun b o=>match w.cell? ⟨b,o,none⟩ with
  |some u=>if u.oneCell'=true then some u else none
  |none=>none
theorem Hw.imm (w:World):Imm (Hw w) w:=fun b o u h=>by
  unfold Hw at h
  split at h
  · rename_i v hv
    split at h
    · rename_i h1;cases h;exact ⟨hv,h1⟩
    · cases h
  · cases h
theorem Hw.mk {w:World} {b o:Nat} {u:Value} (h:w.cell? ⟨b,o,none⟩=some u) (h1:u.oneCell'=true):Hw w b o=some u:=by
  unfold Hw;rw [h];simp [h1]
structure VDs (H:Hp) (cs:List Value) (ds:List D):Prop where
  len:cs.length=ds.length
  vd:∀(i:Nat) (x:Value) (d:D),cs[i]? =some x→ds[i]? =some d→VD H x d
  one:∀x∈cs,x.oneCell'=true
theorem VDs.nil (H:Hp):VDs H [] []:=⟨rfl,fun i x d h _=>by simp at h,fun x h=>by cases h⟩
theorem VDs.app {H:Hp} {a b:List Value} {x y:List D} (h:VDs H a x) (k:VDs H b y):VDs H (a++b) (x++y):=by
  refine ⟨by rw [List.length_append,List.length_append,h.len,k.len],fun i u d hu hd=> ?_,fun u hu=> ?_⟩
  · by_cases hi:i<a.length
    · rw [List.getElem?_append_left hi] at hu
      rw [List.getElem?_append_left (by rw [←h.len];exact hi)] at hd
      exact h.vd i u d hu hd
    · rw [List.getElem?_append_right (by omega)] at hu
      rw [List.getElem?_append_right (by rw [←h.len];omega), ←h.len] at hd
      exact k.vd _ u d hu hd
  · rcases List.mem_append.1 hu with e|e
    · exact h.one u e
    · exact k.one u e
theorem VDs.single {H:Hp} {u:Value} {d:D} (h:VD H u d) (h1:u.oneCell'=true):VDs H [u] [d]:=by
  refine ⟨rfl,fun i x e hx he=> ?_,fun x hx=>by rw [List.mem_singleton.1 hx];exact h1⟩
  match i with
  |0=>cases hx;cases he;exact h
  |i+1=>simp at hx
def DecQ (P:Program) (t:TypeId) (Q:List D→Prop):Prop:=
  ∀(H:Type) (enc:TypeId × Value→H) (w:World) (fuel:Nat) (cs:List Value) (x:DataW H × List MemPlace),
    DataW.trod enc P w 0 (fun _=>true) true fuel t cs=some x→∃ds,VDs (Hw w) cs ds∧Q ds
def Fp (ds:List D):Prop:=∃n:Int,ds= [.v (.int .i64 n)]∧ -9223372036854775808≤n∧n≤9223372036854775807
def Ag0 (ds:List D):Prop:=∃b:Bool,ds= [.v (.bool b)]
def Aqv (ds:List D):Prop:=∃s:ByteArray,ds= [.v (.string s)]
def QSl (sz:Nat) (Q:List D→Prop) (ds:List D):Prop:=∃l:List (List D),ds= [.sl sz l]∧∀x∈l,Q x
def QS:List (List D→Prop)→List D→Prop
  | [],ds=>ds= []
  |Q::r,ds=>∃a b,ds=a++b∧Q a∧QS r b
theorem DecQ.int {P:Program} {t:TypeId} (ht:P.underlying t=some (.int .i64)):DecQ P t Fp:=by
  intro H enc w fuel cs x h
  obtain ⟨n,rfl,_,hw⟩:=DataW.trod_int ht h
  refine ⟨[.v (.int .i64 n)],VDs.single (.v _) rfl,n,rfl, ?_⟩
  simp [Lit.wf,IntKind.min,IntKind.max,IntKind.signed,IntKind.bits] at hw
  omega
theorem DecQ.bool {P:Program} {t:TypeId} (ht:P.underlying t=some .bool):DecQ P t Ag0:=by
  intro H enc w fuel cs x h
  obtain ⟨b,rfl,_⟩:=DataW.trod_bool ht h
  exact ⟨[.v (.bool b)],VDs.single (.v _) rfl,b,rfl⟩
theorem DecQ.str {P:Program} {t:TypeId} (ht:P.underlying t=some .string):DecQ P t Aqv:=by
  intro H enc w fuel cs x h
  obtain ⟨s,rfl,_,_⟩:=DataW.trod_string ht h
  exact ⟨[.v (.string s)],VDs.single (.v _) rfl,s,rfl⟩
def contB (P:Program):Nat→List (TypeId × Nat)→Nat→Bool
  |o, [],n=>o==n
  |o,(t,f)::r,n=>f==o && contB P (o+P.cellsOf t) r n
theorem Yd {P:Program} {H:Type} {enc:TypeId × Value→H} {w:World} {m:Nat} {cs:List Value}:∀(ps:List (TypeId × Nat)) (Qs:List (List D→Prop)) (o:Nat),ps.length=Qs.length→contB P o ps cs.length=true→
    (∀(i:Nat) t f Q,ps[i]? =some (t,f)→Qs[i]? =some Q→DecQ P t Q)→
    (∀(i:Nat) t f,ps[i]? =some (t,f)→∃y,DataW.trod enc P w 0 (fun _=>true) true m t ((cs.drop f).take (P.cellsOf t))=some y)→
    ∃ds,VDs (Hw w) (cs.drop o) ds∧QS Qs ds
  | [], [],o,_,hc,_,_=>by
    simp [contB] at hc
    exact ⟨[],by rw [List.drop_eq_nil_of_le (by omega)];exact VDs.nil _,rfl⟩
  |(t,f)::ps,Q::Qs,o,hl,hc,hq,ht=>by
    simp only [contB,Bool.and_eq_true,beq_iff_eq] at hc
    obtain ⟨rfl,hc⟩:=hc
    obtain ⟨y,hy⟩:=ht 0 t f rfl
    obtain ⟨a,ha,hQ⟩:=hq 0 t f Q rfl rfl _ _ _ _ _ _ hy
    obtain ⟨b,hb,hR⟩:=Yd ps Qs (f+P.cellsOf t) (by simpa using hl) hc (fun i t' f' Q' h1 h2=>hq (i+1) t' f' Q' h1 h2) fun i t' f' h1=>ht (i+1) t' f' h1
    refine ⟨a++b, ?_,a,b,rfl,hQ,hR⟩
    have:cs.drop f=(cs.drop f).take (P.cellsOf t)++cs.drop (f+P.cellsOf t):=by rw [←List.drop_drop,List.take_append_drop]
    rw [this]
    exact ha.app hb
theorem DecQ.struct {P:Program} {t:TypeId} {fs:Array Field} (Qs:List (List D→Prop)) (ht:P.underlying t=some (.struct fs)) (hl:fs.toList.length=Qs.length) (hc:contB P 0 (fs.toList.map fun f=>(f.type,f.offset)) (P.cellsOf t)=true)
    (hq:∀(i:Nat) f Q,fs.toList[i]? =some f→Qs[i]? =some Q→DecQ P f.type Q):DecQ P t (QS Qs):=by
  intro H enc w fuel cs x h
  obtain ⟨xs,n,_,_,hcl,hxl,hg⟩:=DataW.trod_struct ht h
  have:=Yd (P:=P) (enc:=enc) (w:=w) (m:=n) (cs:=cs) (fs.toList.map fun f=>(f.type,f.offset)) Qs 0 (by rw [List.length_map];exact hl) (by rw [hcl];exact hc) (fun i t' f' Q' h1 h2=> ?_) fun i t' f' h1=> ?_
  · rwa [List.drop_zero] at this
  · rw [List.getElem?_map] at h1
    cases hf:fs.toList[i]? with
    |none=>rw [hf] at h1;cases h1
    |some f=>rw [hf] at h1;cases h1;exact hq i f Q' hf h2
  · rw [List.getElem?_map] at h1
    cases hf:fs.toList[i]? with
    |none=>rw [hf] at h1;cases h1
    |some f=>
      rw [hf] at h1;cases h1
      have hfa:fs[i]? =some f:=by simpa using hf
      have hi:i<xs.length:=by rw [hxl];exact (Array.getElem?_eq_some_iff.1 hfa).1
      exact ⟨xs[i],by rw [hg i f hfa,List.getElem?_eq_getElem hi]⟩
theorem DecQ.array {P:Program} {t e:TypeId} {n:Nat} {Q:List D→Prop} (ht:P.underlying t=some (.array n e)) (hc:contB P 0 ((List.range n).map fun i=>(e,i*P.cellsOf e)) (P.cellsOf t)=true) (hq:DecQ P e Q):DecQ P t (QS (List.replicate n Q)):=by
  intro H enc w fuel cs x h
  obtain ⟨xs,m,_,_,hcl,hxl,hg⟩:=DataW.trod_array ht h
  have:=Yd (P:=P) (enc:=enc) (w:=w) (m:=m) (cs:=cs) ((List.range n).map fun i=>(e,i*P.cellsOf e)) (List.replicate n Q) 0 (by simp) (by rw [hcl];exact hc) (fun i t' f' Q' h1 h2=> ?_) fun i t' f' h1=> ?_
  · rwa [List.drop_zero] at this
  · rw [List.getElem?_map] at h1
    rw [List.getElem?_replicate] at h2
    split at h2
    · cases h2
      rename_i hi
      rw [List.getElem?_range hi] at h1
      cases h1;exact hq
    · cases h2
  · have hi:i<n:=by have:=(List.getElem?_eq_some_iff.1 h1).1;simpa using this
    rw [List.getElem?_map,List.getElem?_range hi] at h1
    cases h1
    exact ⟨xs[i],by rw [hg i hi,List.getElem?_eq_getElem (by omega)]⟩
theorem DecQ.slice {P:Program} {t e:TypeId} {Q:List D→Prop} {sz:Nat} (ht:P.underlying t=some (.slice e)) (he:DecQ P e Q) (hsz:P.cellsOf e=sz) (hpos:0<sz):DecQ P t (QSl sz Q):=by
  intro H enc w fuel cs x h
  rcases Go.Deep.open_slice ht h with ⟨rfl,rfl⟩|⟨a,len,cap,m,n,D0,Pl,rfl,hb,hl,hm,hmm,rfl,hx⟩
  · exact ⟨[.sl sz []],VDs.single (.emp none 0 sz (fun _=>rfl) (Nat.zero_le _)) rfl, [],rfl,fun x h=>by cases h⟩
  · simp only [if_true] at hmm
    obtain rfl:cap=m:=hmm.symm
    rw [hsz] at hx
    by_cases hl0:len=0
    · subst hl0
      exact ⟨[.sl sz []],VDs.single (.emp (some a) cap sz (fun h=>by cases h) hm) rfl, [],rfl,fun x h=>by cases h⟩
    obtain ⟨F,hF⟩:∃F:Nat→List Value × List D,∀i,i<len→w.cells? 0 (a.add (i*sz)) sz=some (F i).1∧VDs (Hw w) (F i).1 (F i).2∧Q (F i).2:=by
      have:∀i,∃y:List Value × List D,i<len→w.cells? 0 (a.add (i*sz)) sz=some y.1∧VDs (Hw w) y.1 y.2∧Q y.2:=by
        intro i
        by_cases hi:i<len
        · obtain ⟨cs',h1,h2⟩:=hx i (by omega)
          obtain ⟨ds,h3,h4⟩:=he _ _ _ _ _ _ h2
          exact ⟨(cs',ds),fun _=>⟨h1,h3,h4⟩⟩
        · exact ⟨([], []),fun h=>absurd h hi⟩
      exact ⟨fun i=>Classical.choose (this i),fun i hi=>Classical.choose_spec (this i) hi⟩
    have hlen:∀i,i<len→(F i).1.length=sz:=fun i hi=>by
      obtain ⟨_,h,_⟩:=World.cells?_some (hF i hi).1
      exact h
    obtain ⟨b,off,sp⟩:=a
    have hc:∀i j,i<len→j<sz→w.cell? ((⟨b,off,sp⟩:Addr).add (i*sz+j))=(F i).1[j]? :=by
      intro i j hi hj
      obtain ⟨_,_,hat⟩:=World.cells?_some (hF i hi).1
      rw [←Go.Deep.add_add]
      exact hat j hj
    have h00:=hc 0 0 (by omega) hpos
    have hv0 : (F 0).1[0]? = some ((F 0).1[0]'(by rw [hlen 0 (by omega)]; exact hpos)) := List.getElem?_eq_getElem _
    rw [hv0] at h00
    have hsp:sp=none:=by simpa [Addr.add] using World.cell?_spot h00
    subst hsp
    have hcell:∀i j u,i<len→(F i).1[j]? =some u→Hw w b (off+(i*sz+j))=some u:=by
      intro i j u hi hu
      have hj:j<sz:=by rw [←hlen i hi];exact (List.getElem?_eq_some_iff.1 hu).1
      have:=hc i j hi hj
      rw [Go.WideShapes.add_plain,hu] at this
      exact Hw.mk this ((hF i hi).2.1.one u (List.mem_of_getElem? hu))
    have hk:∀k e,((List.range len).map fun i=>(F i).2)[k]? =some e→k<len∧e=(F k).2:=by
      intro k e he
      have hkl:k<len:=by have:=(List.getElem?_eq_some_iff.1 he).1;simpa using this
      rw [List.getElem?_map,List.getElem?_range hkl] at he
      cases he;exact ⟨hkl,rfl⟩
    refine ⟨[.sl sz ((List.range len).map fun i=>(F i).2)],VDs.single (.sl b off len cap sz _ (fun k j=>(F k).1[j]?.getD undef) (by simp) hl hm (fun e he=> ?_) (fun k j e d h1 h2=> ?_) (fun k j e d h1 h2=> ?_)) rfl,_,rfl,fun y hy=> ?_⟩
    · obtain ⟨i,hi,rfl⟩:=List.mem_map.1 he
      have hi:=List.mem_range.1 hi
      rw [←(hF i hi).2.1.len,hlen i hi]
    · obtain ⟨hkl,rfl⟩:=hk k e h1
      have hj:j<(F k).1.length:=by rw [(hF k hkl).2.1.len];exact (List.getElem?_eq_some_iff.1 h2).1
      have hu:(F k).1[j]? =some (F k).1[j]:=List.getElem?_eq_getElem hj
      rw [hcell k j _ hkl hu,hu];rfl
    · obtain ⟨hkl,rfl⟩:=hk k e h1
      have hj:j<(F k).1.length:=by rw [(hF k hkl).2.1.len];exact (List.getElem?_eq_some_iff.1 h2).1
      have hu:(F k).1[j]? =some (F k).1[j]:=List.getElem?_eq_getElem hj
      rw [hu]
      exact (hF k hkl).2.1.vd j _ d hu h2
    · obtain ⟨i,hi,rfl⟩:=List.mem_map.1 hy
      exact (hF i (List.mem_range.1 hi)).2.2
section
variable {H:Type} {enc:TypeId × Value→H} {P:Program} {w:World}
theorem Yk {Q:List D→Prop} {r:Reach} {b0:Nat} {t:TypeId} {fs:Array Field} {v:Value} {d:DataW H} {p:List MemPlace} (ht:P.underlying t=some (.struct fs))
    (hD:DecQ P t Q) (hv:Value.okWide P w r b0 t v) (h:DataW.Trod enc P w 0 (fun _=>true) true t v d p):∃ds,VD (Hw w) v (.agg ds)∧Q ds:=by
  obtain ⟨cs,rfl,_⟩:=okWide_struct ht hv
  obtain ⟨fuel,hf⟩:=h
  obtain ⟨ds,h1,h2⟩:=hD _ _ _ _ _ _ hf
  exact ⟨ds, .agg cs ds (by have:=h1.len;simpa [Value.cells] using this) fun i x d hx hd=>h1.vd i x d (by simpa [Value.cells] using hx) hd,h2⟩
theorem Akk {Q:List D→Prop} {r:Reach} {b0:Nat} {t e:TypeId} {n:Nat} {v:Value} {d:DataW H} {p:List MemPlace} (ht:P.underlying t=some (.array n e))
    (hD:DecQ P t Q) (hv:Value.okWide P w r b0 t v) (h:DataW.Trod enc P w 0 (fun _=>true) true t v d p):∃ds,VD (Hw w) v (.agg ds)∧Q ds:=by
  obtain ⟨cs,rfl⟩:∃cs,v= .agg cs:=by
    simp only [Value.okWide,ht] at hv
    obtain ⟨cs,h1,_⟩:=hv
    exact ⟨cs,h1⟩
  obtain ⟨fuel,hf⟩:=h
  obtain ⟨ds,h1,h2⟩:=hD _ _ _ _ _ _ hf
  exact ⟨ds, .agg cs ds (by have:=h1.len;simpa [Value.cells] using this) fun i x d hx hd=>h1.vd i x d (by simpa [Value.cells] using hx) hd,h2⟩
end
theorem XC.law {P:Program} {F:FuncId} {ds:List D} {w:World} {vs:Array Value} (hx:XC P F ds (fun r=>r= .v (.bool true))) (hs:vs.size=ds.length) (hv:∀(i:Nat) (x:Value) (d:D),vs[i]? =some x→ds[i]? =some d→VD (Hw w) x d):
    Calls P F vs w fun e w'=>e= .returned (.bool true)∧Below w.heap.size w w':=
  (hx.calls (Hw w) w vs (Hw.imm w) hs hv).mono fun e w' ⟨H',u,r,e1,e2,_,_,_,hb,hu⟩=>by
    subst e2
    cases hu
    exact ⟨e1,hb⟩
end Go.Proofs.YtcihalbakenleaaGreat
namespace Go.Proofs.YtcihalbakenleaaGreat
def Jp {α:Type} (f:Nat→α→α) (l:List α) (k:Nat):List α:=l.mapIdx fun i a=>if i<k then f i a else a
theorem Sa {α:Type} (f:Nat→α→α) (l:List α) (k:Nat):(Jp f l k).length=l.length:=by rw [Jp,List.length_mapIdx]
theorem Ve {α:Type} (f:Nat→α→α) (l:List α):Jp f l 0=l:=by
 refine List.ext_getElem? fun i=> ?_
 rw [Jp,List.getElem?_mapIdx]
 cases l[i]? <;>simp
theorem Xs {α:Type} {f:Nat→α→α} {l:List α} {k:Nat} (h:l.length≤k):Jp f l k=l.mapIdx f:=by
 refine List.ext_getElem? fun i=> ?_
 rw [Jp,List.getElem?_mapIdx,List.getElem?_mapIdx]
 cases hi:l[i]? with
 |none=>rfl
 |some a=>have:=(List.getElem?_eq_some_iff.1 hi).1;simp only [Option.map_some];rw [if_pos (by omega)]
theorem Xr {α:Type} {f:Nat→α→α} {l:List α} {k:Nat} {x:α} (h:l[k]? =some x):(Jp f l k)[k]? =some x:=by
 rw [Jp,List.getElem?_mapIdx,h];simp
theorem Xq {α:Type} {f:Nat→α→α} {l:List α} {k:Nat} {x:α} (h:l[k]? =some x):Jp f l (k+1)=(Jp f l k).set k (f k x):=by
 refine List.ext_getElem? fun i=> ?_
 have hk:=(List.getElem?_eq_some_iff.1 h).1
 rw [List.getElem?_set,Jp,List.getElem?_mapIdx]
 by_cases e:k=i
 ·subst e
  rw [if_pos rfl,if_pos (by rw [Sa];exact hk),h]
  simp
 ·rw [if_neg e,Jp,List.getElem?_mapIdx]
  cases l[i]? with
  |none=>rfl
  |some a=>simp only [Option.map_some];by_cases c:i<k<;>simp [c]<;>omega
def Ev.reh (x:Ev) (hs:List Hd):Ev:=⟨x.site,x.num,x.kind,x.v,hs,x.graces,x.art,x.orn,x.dyn,x.lyr,x.stem,x.beam⟩
def Ev.reid (x o:Ev):Ev:=⟨o.site,o.num,x.kind,x.v,x.heads,x.graces,x.art,x.orn,x.dyn,x.lyr,x.stem,x.beam⟩
theorem Ev.err_reh {x:Ev} (h:x.err=0) (hk:x.kind≠3) {hs:List Hd} (h1:x.heads= []→hs= []) (h2:Cf x.heads=0→Cf hs=0):(x.reh hs).err=0:=by
 rw [err_iff] at h ⊢
 obtain ⟨q1,q2,q3,q4,q5,q6⟩:=h
 refine ⟨q1,q2, ?_,q4,fun k=> ?_,q6⟩
 ·by_cases c:x.kind=1
  ·have:(x.reh hs).strip=x.reh hs:=(Q8 (e:=x.reh hs) c).symm
   rw [this];exact ⟨rfl,rfl,rfl,rfl,rfl,rfl,rfl,rfl,rfl,rfl⟩
  ·have hs1:x.strip=⟨x.site,x.num,x.kind,x.v, [], [],if x.kind≠4 then D3 x.art else 0,0,x.dyn, [],0,0⟩:=by rw [Ev.strip,if_neg (by omega),if_pos hk]
   have hs2:(x.reh hs).strip=⟨x.site,x.num,x.kind,x.v, [], [],if x.kind≠4 then D3 x.art else 0,0,x.dyn, [],0,0⟩:=by
    have:¬((x.reh hs).kind=1∨¬(1≤(x.reh hs).kind∧(x.reh hs).kind≤4)):=by show ¬(x.kind=1∨¬(1≤x.kind∧x.kind≤4));omega
    rw [Ev.strip,if_neg this,if_pos (show (x.reh hs).kind≠3 from hk)];rfl
   rw [hs1] at q3
   rw [hs2]
   obtain ⟨k1,k2,k3,k4,k5,k6,k7,k8,k9,k10⟩:=q3
   exact ⟨k1,k2,k3,k4,k5,k6,k7,h1 k8,k9,k10⟩
 ·have:=q5 k
  unfold Ev.e2 at this ⊢
  rw [first_zero] at this ⊢
  intro y hy
  simp only [List.mem_cons,List.not_mem_nil,or_false] at hy
  rcases hy with e|e|e
  ·rw [e];exact h2 (this (Cf x.heads) (by simp))
  ·rw [e];exact this _ (by simp [Ev.reh])
  ·rw [e];exact this _ (by simp [Ev.reh])
theorem Ev.err_reid {x o:Ev} (h:x.err=0) (ho:o.err=0):(x.reid o).err=0:=by
 rw [err_iff] at h ho ⊢
 refine ⟨ho.1,h.2.1, ?_,h.2.2.2.1,h.2.2.2.2.1,h.2.2.2.2.2⟩
 have h3:=h.2.2.1
 by_cases c:x.kind=1∨¬(1≤x.kind∧x.kind≤4)
 ·rw [Ev.strip,if_pos (show (x.reid o).kind=1∨¬(1≤(x.reid o).kind∧(x.reid o).kind≤4) from c)]
  exact ⟨rfl,rfl,rfl,rfl,rfl,rfl,rfl,rfl,rfl,rfl⟩
 ·rw [Ev.strip,if_neg c] at h3
  rw [Ev.strip,if_neg (show ¬((x.reid o).kind=1∨¬(1≤(x.reid o).kind∧(x.reid o).kind≤4)) from c)]
  exact h3
theorem Ev.no_heads {x:Ev} (h:x.err=0) (hk:x.kind≠1):x.heads= []:=by
 rw [err_iff] at h
 obtain ⟨q1,q2,q3,q4,q5,q6⟩:=h
 rw [Ev.strip,if_neg (by omega)] at q3
 exact q3.2.2.2.2.2.2.2.1
theorem Qt:∀{l l':List Hd} {n:Int},l.length=l'.length→(∀(j:Nat) a b,l[j]? =some a→l'[j]? =some b→a.p=b.p∧a.sh=b.sh)→Eb n l'=Eb n l
 | [], [],n,_,_=>rfl
 |a::l,b::l',n,hl,h=>by
  obtain ⟨h1,h2⟩:=h 0 a b rfl rfl
  have h3:Eb a.p.num l'=Eb a.p.num l:=Qt (by simpa using hl) fun j x y hx hy=>h (j+1) x y hx hy
  rw [Eb,Eb, ←h1,h3,show Hj b=Hj a by rw [Hj,Hj,h1,h2]]
theorem W3 {l l':List Hd} (hl:l.length=l'.length) (h:∀(j:Nat) a b,l[j]? =some a→l'[j]? =some b→a.p=b.p∧a.sh=b.sh):Cf l'=Cf l:=by
 unfold Cf
 rw [hl,Qt hl h]
def Kd (b:List Hd) (j:Nat) (h:Hd):Hd:=match b[j]? with|some g=>⟨h.p,g.tied,h.sh⟩|none=>h
def F2 (a b:List Hd):List Hd:=a.mapIdx (Kd b)
theorem Aju {b:List Hd} {j:Nat} {h g:Hd} (hg:b[j]? =some g):Kd b j h=⟨h.p,g.tied,h.sh⟩:=by rw [Kd,hg]
theorem Amv (b:List Hd) (j:Nat) (h:Hd):(Kd b j h).p=h.p∧(Kd b j h).sh=h.sh:=by unfold Kd;split<;>exact ⟨rfl,rfl⟩
theorem Vh (a b:List Hd):(F2 a b).length=a.length:=by rw [F2,List.length_mapIdx]
theorem Ahc (a b:List Hd):Cf (F2 a b)=Cf a:=by
 refine W3 (Vh a b).symm fun j x y hx hy=> ?_
 rw [F2,List.getElem?_mapIdx,hx] at hy
 cases hy
 have:=Amv b j x
 exact ⟨this.1.symm,this.2.symm⟩
def Lv (os:List Ev) (j:Nat) (e:Ev):Ev:=match os[j]? with|some o=>e.reid o|none=>e
def Pj (js os:List Ev):List Ev:=js.mapIdx (Lv os)
theorem An2 {os:List Ev} {j:Nat} {e o:Ev} (h:os[j]? =some o):Lv os j e=e.reid o:=by rw [Lv,h]
theorem Yx (js os:List Ev):(Pj js os).length=js.length:=by rw [Pj,List.length_mapIdx]
theorem Aey {os:List Ev} {j:Nat} {e:Ev} (h:e.err=0∧e.kind≠3) (ho:∀o∈os,o.err=0):(Lv os j e).err=0∧(Lv os j e).kind≠3∧(Lv os j e).len=e.len:=by
 unfold Lv
 split
 ·rename_i o hj
  have h1:=Ev.err_reid h.1 (ho o (List.mem_of_getElem? hj))
  exact ⟨h1,h.2,by rw [Ev.len_ok h1 h.2,Ev.len_ok h.1 h.2];rfl⟩
 ·exact ⟨h.1,h.2,rfl⟩
theorem An1 {js os:List Ev} (h:∀e∈js,e.err=0∧e.kind≠3) (ho:∀o∈os,o.err=0):(∀e∈Pj js os,e.err=0∧e.kind≠3)∧wrS (Pj js os)=wrS js:=by
 constructor
 ·intro e he
  obtain ⟨j,hj⟩:=List.getElem?_of_mem he
  rw [Pj,List.getElem?_mapIdx] at hj
  cases hv:js[j]? with
  |none=>rw [hv] at hj;cases hj
  |some x=>
   rw [hv] at hj;cases hj
   have:=Aey (os:=os) (j:=j) (h x (List.mem_of_getElem? hv)) ho
   exact ⟨this.1,this.2.1⟩
 ·unfold wrS
  refine List.ext_getElem? fun j=> ?_
  rw [List.getElem?_map,List.getElem?_map,Pj,List.getElem?_mapIdx]
  cases hv:js[j]? with
  |none=>rfl
  |some x=>simp only [Option.map_some];rw [(Aey (os:=os) (j:=j) (h x (List.mem_of_getElem? hv)) ho).2.2]
theorem Ak6 {js os:List Ev} (h:∀e∈js,e.fit):∀e∈Pj js os,e.fit:=by
 intro e he
 obtain ⟨j,hj⟩:=List.getElem?_of_mem he
 rw [Pj,List.getElem?_mapIdx] at hj
 cases hv:js[j]? with
 |none=>rw [hv] at hj;cases hj
 |some x=>
  rw [hv] at hj;cases hj
  have:=h x (List.mem_of_getElem? hv)
  unfold Lv
  split
  ·exact this
  ·exact this
theorem Aej {x:Ev} (h:x.fit) (b:List Hd):(x.reh (F2 x.heads b)).fit:=⟨by show (F2 x.heads b).length≤1000;rw [Vh];exact h.1,h.2⟩
theorem Aeg (v:Vo) (i:Nat):∀f k,k≤K1 v i f k
 |0,k=>Nat.le_refl _
 |f+1,k=>by
  rw [K1];split
  ·have:=Aeg v i f (k+1);omega
  ·exact Nat.le_refl _
theorem Mv {v:Vo} {i:Nat}:∀f k j,k≤j→j<K1 v i f k→(Kl v i∧Kl v j)∧I7 v i j
 |0,k,j,h1,h2=>by rw [K1] at h2;omega
 |f+1,k,j,h1,h2=>by
  rw [K1] at h2
  split at h2
  ·rename_i c
   by_cases e:k=j
   ·rw [←e];exact c
   ·exact Mv f (k+1) j (by omega) h2
  ·omega
theorem X1 {v:Vo} {i:Nat} (hi:i<v.evs.length):i+1≤Bc v i∧Bc v i≤v.evs.length:=by
 have h1:i+1≤Bc v i:=Aeg v i _ _
 refine ⟨h1, ?_⟩
 by_cases c:Bc v i=i+1
 ·omega
 ·have:=(Mv (v:=v) (i:=i) _ (i+1) (Bc v i - 1) (by omega) (by show _<Bc v i;omega)).1.2.1
  omega
theorem X0 {v:Vo} {i:Nat} (h:1<Bc v i - i) {j:Nat} (h1:i≤j) (h2:j<Bc v i):Hu v.tups j=0:=by
 by_cases c:j=i
 ·rw [c];exact (Mv (v:=v) (i:=i) _ (i+1) (i+1) (by omega) (by show _<Bc v i;omega)).1.1.2
 ·exact (Mv (v:=v) (i:=i) _ (i+1) j (by omega) h2).1.2.2
theorem Wh {x y:Ev} {s:Int} (hx:x.err=0) (hy:y.err=0) (h:Ri x y s):x.heads.length=y.heads.length∧x.kind≠3:=by
 rcases h with ⟨⟨h1,h2⟩,h3⟩|h
 ·unfold Ev.silent at h1 h2
  rw [Ev.no_heads hx (by omega),Ev.no_heads hy (by omega)]
  exact ⟨rfl,by omega⟩
 ·exact ⟨h.2.1,by have:=h.1;omega⟩
theorem Xz {v:Vo} {i j:Nat} (h1:i<j) (h2:j<Bc v i):I7 v i j:=(Mv (v:=v) (i:=i) _ (i+1) j (by omega) h2).2
theorem Wi {v:Vo} {i j:Nat} (h:I7 v i j):∃x y z,v.evs[j - 1]? =some x∧v.evs[j]? =some y∧v.evs[i]? =some z∧Ri x y z.stem:=by
 unfold I7 at h
 split at h
 ·rename_i x y z hx hy hz;exact ⟨x,y,z,hx,hy,hz,h⟩
 ·exact h.elim
theorem Vq {v:Vo} (hE:∀e∈v.evs,e.err=0) {i:Nat} {x:Ev} (hx:v.evs[i]? =some x):∀(n:Nat) {y:Ev},i+n<Bc v i→v.evs[i+n]? =some y→x.heads.length=y.heads.length
 |0,y,_,hy=>by rw [Nat.add_zero,hx] at hy;cases hy;rfl
 |n+1,y,h,hy=>by
  obtain ⟨a,b,z,ha,hb,hz,hj⟩:=Wi (Xz (v:=v) (i:=i) (j:=i+(n+1)) (by omega) h)
  rw [hy] at hb;cases hb
  rw [show i+(n+1) - 1=i+n by omega] at ha
  have:=Vq hE hx n (by omega) ha
  rw [this]
  exact (Wh (hE a (List.mem_of_getElem? ha)) (hE _ (List.mem_of_getElem? hy)) hj).1
theorem Aj2 {v:Vo} (hE:∀e∈v.evs,e.err=0) {i:Nat} {x:Ev} (hx:v.evs[i]? =some x) (h:1<Bc v i - i):x.kind≠3:=by
 obtain ⟨a,b,z,ha,hb,hz,hj⟩:=Wi (Xz (v:=v) (i:=i) (j:=i+1) (by omega) (by omega))
 rw [show i+1 - 1=i by omega,hx] at ha
 cases ha
 exact (Wh (hE _ (List.mem_of_getElem? hx)) (hE _ (List.mem_of_getElem? hb)) hj).2
def smJ (p:Pl) (a b:Int) (n:Nat):Prop:=((1<n∧(p.off+a) % 7560=0)∧(p.off+b) % 7560=0)∧p.m.splitE (p.off+a) (p.off+b)=0∧(p.m.split (p.off+a) (p.off+b)).length<n
instance (p:Pl) (a b:Int) (n:Nat):Decidable (smJ p a b n):=by unfold smJ;exact inferInstance
def smA (v:Vo) (p:Pl) (i:Nat):Int:=tot ((ckL v p.len).take i)
def De (v:Vo) (p:Pl) (i:Nat) (x y:Ev):List Ev:=Pj (Bj (x.reh (F2 x.heads y.heads)) (p.m.split (p.off+smA v p i) (p.off+smA v p (Bc v i))) false) (v.evs.drop i)
def U0 (v:Vo) (p:Pl) (i:Nat):List Ev:=match v.evs[i]?,v.evs[Bc v i - 1]? with
 |some x,some y=>De v p i x y
 |_,_=> []
def smN (v:Vo) (p:Pl) (i:Nat):Vo × Nat:=
 if smJ p (smA v p i) (smA v p (Bc v i)) (Bc v i - i) then (A8 v i (Bc v i - i) ⟨U0 v p i, []⟩,i+(U0 v p i).length) else (v,Bc v i)
def Tn (p:Pl):Nat→Vo × Nat→Vo
 |0,q=>q.1
 |f+1,q=>if q.2<q.1.evs.length then Tn p f (smN q.1 p q.2) else q.1
def Afn (v:Vo) (p:Pl):Vo:=Tn p v.evs.length (v,0)
def Sf (v:Vo) (p:Pl):Vo × Int:=if p.chk v≠0 then (⟨[], []⟩,p.chk v) else (Afn v p,0)
theorem Gi {v:Vo} {p:Pl} {i:Nat} (h:¬smJ p (smA v p i) (smA v p (Bc v i)) (Bc v i - i)):smN v p i=(v,Bc v i):=by rw [smN,if_neg h]
theorem Q9 {v:Vo} {p:Pl} {i:Nat} {x y:Ev} (hx:v.evs[i]? =some x) (hy:v.evs[Bc v i - 1]? =some y) (h:smJ p (smA v p i) (smA v p (Bc v i)) (Bc v i - i)):smN v p i=(A8 v i (Bc v i - i) ⟨De v p i x y, []⟩,i+(De v p i x y).length):=by
 rw [smN,if_pos h,U0,hx,hy]
theorem Ahx {v:Vo} {k n:Nat} {l:List Ev} (hv:v.fit) (hl:∀e∈l,e.fit) (hs:Sml v) (h:(A8 v k n ⟨l, []⟩).evs.length≤1000):(A8 v k n ⟨l, []⟩).fit:=by
 refine ⟨h, ?_,fun e he=> ?_⟩
 ·have h1:=Qd (v:=v) (a:=k) (n:=n) (l:=l)
  have h2:=hs.tups
  omega
 ·simp only [A8] at he
  rcases List.mem_append.1 he with he|he
  ·rcases List.mem_append.1 he with he|he
   ·exact hv.ev e (List.mem_of_mem_take he)
   ·exact hl e he
  ·exact hv.ev e (List.mem_of_mem_drop he)
theorem Sm {v:Vo} {a n:Nat} {l:List Ev} (h:a+n≤v.evs.length):(A8 v a n ⟨l, []⟩).evs.length=v.evs.length - n+l.length:=by
 show (v.evs.take a++l++v.evs.drop (a+n)).length=_
 rw [List.length_append,List.length_append,List.length_take,List.length_drop];omega
theorem Mf (l:List Int) (i k:Nat) (h:i≤k):tot (l.take k)=tot (l.take i)+tot ((l.take k).drop i):=by
 have h1:tot (l.take k)=tot ((l.take k).take i++(l.take k).drop i):=by rw [List.take_append_drop]
 rw [h1,Hn,List.take_take,Nat.min_eq_left h]
structure JoinR (v:Vo) (p:Pl) (i:Nat) (js:List Ev):Prop where
 chk:p.chk (A8 v i (Bc v i - i) ⟨js, []⟩)=0
 ck:ckE (A8 v i (Bc v i - i) ⟨js, []⟩) p.len=0
 lens:ckL (A8 v i (Bc v i - i) ⟨js, []⟩) p.len=(ckL v p.len).take i++wrS js++(ckL v p.len).drop (Bc v i)
 sum:tot (wrS js)=smA v p (Bc v i) - smA v p i
 len:js.length=(p.m.split (p.off+smA v p i) (p.off+smA v p (Bc v i))).length
 ok:∀e∈js,e.err=0∧e.kind≠3
theorem Anw {v:Vo} {p:Pl} {i:Nat} {x y:Ev} (hc:p.chk v=0) (hx:v.evs[i]? =some x) (hJ:smJ p (smA v p i) (smA v p (Bc v i)) (Bc v i - i)):JoinR v p i (De v p i x y):=by
 obtain ⟨hme,hpb,hck⟩:=Ds hc
 have hi:=(List.getElem?_eq_some_iff.1 hx).1
 obtain ⟨hk1,hk2⟩:=X1 hi
 obtain ⟨⟨⟨j1,j2⟩,j3⟩,j4,j5⟩:=hJ
 have hE:=(Hv hck).1
 have hr:¬v.rest:=fun k=>by have:=k.2;omega
 have hxe:=hE x (List.mem_of_getElem? hx)
 have hxk:=Aj2 hE hx (by omega)
 obtain ⟨q1,q2⟩:=Li j4
 have hxe2:=Ev.err_reh (hs:=F2 x.heads y.heads) hxe hxk (fun e=>by rw [e];rfl) (fun e=>by rw [Ahc];exact e)
 obtain ⟨n1,n2⟩:=Nl (x:=x.reh (F2 x.heads y.heads)) hxe2 hxk q2 false
 obtain ⟨n3,n4⟩:=An1 (os:=v.evs.drop i) n1 fun o ho=>hE o (List.mem_of_mem_drop ho)
 have hlen:(De v p i x y).length=(p.m.split (p.off+smA v p i) (p.off+smA v p (Bc v i))).length:=by rw [De,Yx,Ew]
 obtain ⟨hvl1,hvl2,hv,_⟩:=(Jo hr).1 ⟨hck,rfl⟩
 have hev:=hv.evs
 have hX:VL ⟨De v p i x y, []⟩ (wrS (De v p i x y)):=VL.nil n3 (by omega)
 have hs:tot (wrS (De v p i x y))=smA v p (Bc v i) - smA v p i:=by rw [De,n4,n2,q1];omega
 obtain ⟨ws,ls,hT⟩:=Rn hck
 have f1:=(U4 (T:=v.tups) (k:=(i:Int)) (Nu (by have:=Ma hT i;have:=X0 j1 (Nat.le_refl i) (by omega);omega))).1
 have f2:=(U4 (T:=v.tups) (k:=((Bc v i - 1:Nat):Int)) (Nu (by have:=Ma hT ((Bc v i - 1:Nat):Int);have:=X0 (j:=Bc v i - 1) j1 (by omega) (by omega);omega))).2
 have hrl:=Sm (v:=v) (a:=i) (n:=Bc v i - i) (l:=De v p i x y) (by omega)
 have hcut:=Mf (ckL v p.len) i (Bc v i) (by omega)
 have hR:=Ae9 (x:=⟨De v p i x y, []⟩) hck hr (a:=i) (n:=Bc v i - i) (by omega) f1 (by rw [show ((i:Int)+(Bc v i - i:Nat))=((Bc v i - 1:Nat):Int)+1 by omega];exact f2) hX
  (by show v.evs.length - (Bc v i - i)+(De v p i x y).length≤128;omega) (Nat.le_trans Qd hv.tl.tl)
  (fun _=>by rw [hs, ←List.drop_take];unfold smA;omega) (fun _ h=>by rw [h] at hi;simp at hi)
 rw [show i+(Bc v i - i)=Bc v i by omega] at hR
 exact ⟨by rw [Pl.chk,if_neg (by omega),if_neg hpb];exact hR.1,hR.1,hR.2.1,hs,hlen,n3⟩
structure SmI (v:Vo) (p:Pl) (q:Vo × Nat):Prop where
 chk:p.chk q.1=0
 fit:q.1.fit
 le:q.2≤q.1.evs.length
 go:∃f,q.1.evs.length - q.2≤f∧Tn p f q=Afn v p
theorem SmI.zero {v:Vo} {p:Pl} (hc:p.chk v=0) (hF:v.fit):SmI v p (v,0):=⟨hc,hF,Nat.zero_le _,v.evs.length,Nat.sub_le _ _,rfl⟩
theorem SmI.done {v:Vo} {p:Pl} {q:Vo × Nat} (h:SmI v p q) (hq:¬q.2<q.1.evs.length):q.1=Afn v p:=by
 obtain ⟨f,hf,hg⟩:=h.go
 rw [←hg]
 cases f with
 |zero=>rfl
 |succ f=>rw [Tn,if_neg hq]
theorem Ahk {v:Vo} {p:Pl} {i:Nat} (hc:p.chk v=0) (hi:i<v.evs.length):(smN v p i).2≤(smN v p i).1.evs.length∧(smN v p i).1.evs.length - (smN v p i).2<v.evs.length - i∧(smN v p i).1.evs.length≤v.evs.length∧p.chk (smN v p i).1=0∧(v.fit→(smN v p i).1.fit)
  ∧smA (smN v p i).1 p (smN v p i).2=smA v p (Bc v i):=by
 obtain ⟨hk1,hk2⟩:=X1 hi
 obtain ⟨x,hx⟩:∃x,v.evs[i]? =some x:=Ap hi
 obtain ⟨y,hy⟩:∃y,v.evs[Bc v i - 1]? =some y:=Ap (by omega)
 by_cases c:smJ p (smA v p i) (smA v p (Bc v i)) (Bc v i - i)
 ·have hj:=Anw (y:=y) hc hx c
  have hl:=Sm (v:=v) (a:=i) (n:=Bc v i - i) (l:=De v p i x y) (by omega)
  have hc4:=c.2.2
  have hjl:=hj.len
  rw [Q9 hx hy c]
  refine ⟨?_, ?_, ?_,hj.chk,fun hF=> ?_, ?_⟩
  ·show i+(De v p i x y).length≤(A8 v i (Bc v i - i) ⟨De v p i x y, []⟩).evs.length;omega
  ·show (A8 v i (Bc v i - i) ⟨De v p i x y, []⟩).evs.length - (i+(De v p i x y).length)<_;omega
  ·show (A8 v i (Bc v i - i) ⟨De v p i x y, []⟩).evs.length≤_;omega
  ·have hsm:=Kp (Ds hc).2.2
   exact Ahx hF (Ak6 (Pe (Aej (hF.ev x (List.mem_of_getElem? hx)) _) _ _)) hsm.1 (by have:=hsm.2;omega)
  ·show tot ((ckL (A8 v i (Bc v i - i) ⟨De v p i x y, []⟩) p.len).take (i+(De v p i x y).length))=_
   have hcl:=Io (Ds hc).2.2
   have h1:((ckL v p.len).take i++wrS (De v p i x y)).length=i+(De v p i x y).length:=by rw [List.length_append,List.length_take,Gc];omega
   rw [hj.lens, ←h1,List.take_left,Hn,hj.sum];unfold smA;omega
 ·rw [Gi c]
  exact ⟨hk2,by show v.evs.length - Bc v i<_;omega,Nat.le_refl _,hc,fun h=>h,rfl⟩
theorem SmI.next {v:Vo} {p:Pl} {q:Vo × Nat} (h:SmI v p q) (hq:q.2<q.1.evs.length):SmI v p (smN q.1 p q.2)∧(smN q.1 p q.2).1.evs.length - (smN q.1 p q.2).2<q.1.evs.length - q.2:=by
 obtain ⟨h1,h2,h3,h4,h5,_⟩:=Ahk h.chk hq
 refine ⟨⟨h4,h5 h.fit,h1, ?_⟩,h2⟩
 obtain ⟨f,hf,hg⟩:=h.go
 cases f with
 |zero=>omega
 |succ f=>exact ⟨f,by omega,by rw [←hg,Tn,if_pos hq]⟩
theorem SmI.nextJ {v:Vo} {p:Pl} {q:Vo × Nat} {r:Vo × Nat} (h:SmI v p q) (hq:q.2<q.1.evs.length) (hr:smN q.1 p q.2=r):SmI v p r∧r.1.evs.length - r.2<q.1.evs.length - q.2∧smA r.1 p r.2=smA q.1 p (Bc q.1 q.2):=by
 subst hr
 obtain ⟨h1,h2⟩:=h.next hq
 exact ⟨h1,h2,(Ahk h.chk hq).2.2.2.2.2⟩
theorem Aig {l:List Int} (h:Nums l) (k:Nat):Nums (l.drop k):=⟨by rw [List.length_drop];have:=h.len;omega,fun x hx=>h.bd x (List.mem_of_mem_drop hx)⟩
theorem Ahl (v:Vo) (p:Pl) (i:Nat):0≤smA v p i∧smA v p i≤32469952757760:=((Jw v p.len).take i).tot
theorem Ar5 {v:Vo} {p:Pl} (h:p.chk v≠0):Sf v p=(⟨[], []⟩,p.chk v):=by rw [Sf,if_pos h]
theorem Ar4 {v:Vo} {p:Pl} (h:¬p.chk v≠0):Sf v p=(Afn v p,0):=by rw [Sf,if_neg h]
end Go.Proofs.YtcihalbakenleaaGreat
namespace Go.Proofs.YtcihalbakenleaaGreat
open Go.RowKit
theorem Ab0 (v:Vo) (p:Pl) (hE:Evs v.evs) (hF:v.fit):XC Tryz.prog 20 [.agg (Vo.c v), .agg (Pl.c p)] (fun r=>r= .tup [.agg (Vo.c (Sf v p).1),dI (Sf v p).2]):=by
 refine Ao Adu Tryz.func20 R R lb<|zr<|XL.step R (As 2 (l:= [.d (.sl 13 (v.evs.map Ev.c)), .d (.sl 4 (v.tups.map Tp.c))]) R R (by kernel_rfl))<|XL.step R (As 3 (l:= [.d (dI p.m.count), .d (dI p.m.unit), .d (dI p.m.g0), .d (dI p.m.g1), .d (dI p.m.g2), .d (dI p.m.g3), .d (dI p.m.g4), .d (dI p.m.g5), .d (dI p.off), .d (dI p.len)]) R R (by kernel_rfl))<|?_
 refine XL.step R (A0 4 (l:= [.d (.v (.slice none 0 0)), .d (.v (.slice none 0 0))]) R Ba (by kernel_rfl))<|za R R<|zn<|zs<|zr<|zp (Ae (s':= .d (.agg (Pl.c p))) (Ac (Ad R R Fu R lb)) (by kernel_rfl))<|zp (Ae (s':= .d (.agg (Vo.c v))) (Ac (Ad R R Au R lb)) (by kernel_rfl))<|XL.call1 R R (O7 _ _ (by assumption)) R<|za R R<|znr<|?_
 refine zm R R<|zp (A9 R R R)<|zn<|?_
 refine zd R (fun c24=> ?_) (fun c24=> ?_)
 refine zr<|zp (Ae (s':= .d (.agg [.v (.slice none 0 0), .v (.slice none 0 0)])) (Ac (Be R Cg Ba R)) (by kernel_rfl))<|zm R R<|XL.step R (Ag (l':= [.d (.v (.slice none 0 0)), .d (.v (.slice none 0 0))]) R R R R Bu R lb (by kernel_rfl))<|za R R<|zn<|zt<|?_
 exact Bl R (RV.sub (RV.cells R R R Au lb R) (.agg (.cons (.nil 13) (.cons (.nil 4) (.nil))))) (RV.tmp R R) (r2v (Ar5 c24))
 refine zi<|zs<|?_
 have hc0:p.chk v=0:=by omega
 refine Af (by kernel_rfl)<|zp (Ae (s':= .d (.agg (Vo.c v))) (Ac (Ad R R Au R lb)) (by kernel_rfl))<|XL.call1 R R (Gp _ (by assumption)) R<|XL.step R (A0 7 (l:= [.d (.v (.slice none 0 0)), .d (.v (.slice none 0 0))]) R Ba (by kernel_rfl))<|?_
 refine XL.step R (Ag (l':= [.d (.sl 13 (v.evs.map Ev.c)), .d (.sl 4 (v.tups.map Tp.c))]) R R R R Bu R lb (by kernel_rfl))<|znr<|za R R<|zn<|zs<|zr<|za R R<|zn<|Ai<|?_
 refine Av (α:=Vo × Nat) (fun q=>SmI v p q) (fun q=>mkF [(3, .ptr 3 0 0),(4, .ptr 4 0 0),(5, .d (dI 0)),(7, .ptr 7 0 0),(8, .d (dI (smA q.1 p q.2))),(9, .d (dI (q.2:Nat)))]) (fun q=>mkH [(3, .box ((Pl.c p).map S.d)),(4, .box [.d (.v (.slice none 0 0)), .d (.v (.slice none 0 0))]),(7, .box ((Vo.c q.1).map S.d))]) (fun q=>q.1.evs.length - q.2) ((v,0)) (SmI.zero hc0 hF) ?_ ?_ ?_
 exact fz ⟨sr,sr,sr,sr,sr,sr,trivial⟩
 exact gz ⟨R,R,R,trivial⟩
 intro q hk0
 have hS:=hk0
 have hcq:=hS.chk
 have hFq:=hS.fit
 obtain ⟨hme,hpb,hck⟩:=Ds hcq
 obtain ⟨hsv,hev⟩:=Kp hck
 have hEq:=(Hv hck).2
 have hN:=Jw q.1 p.len
 have hcl:=Io hck
 have hb1:=Ahl q.1 p q.2
 have hb2:=Ahl q.1 p (Bc q.1 q.2)
 unfold Pl.bad at hpb
 refine zs<|zr<|zm R R<|zp (Ab R R A1)<|zp (Aa R R Br R R)<|XL.len R R R Tryz.underlying22 fun hl32=>zp (Aq R R R)<|zn<|?_
 refine zd R (fun c33=> ?_) (fun c33=> ?_)
 have hq2:q.2<q.1.evs.length:=by omega
 obtain ⟨hrn1,hrn2⟩:=X1 hq2
 have hNs:=Aig (hN.take (Bc q.1 q.2)) q.2
 have hNb:=hNs.tot
 have hcut:smA q.1 p (Bc q.1 q.2)=smA q.1 p q.2+tot (((ckL q.1 p.len).take (Bc q.1 q.2)).drop q.2):=Mf (ckL q.1 p.len) q.2 (Bc q.1 q.2) (by omega)
 refine zi<|Ai<|zr<|zp (Ae (s':= .d (.agg (Vo.c q.1))) (Ac (Ad R R Au R lb)) (by kernel_rfl))<|zp (Ab R R Hg)<|zp (Aa R R Ah R R)<|XL.call1 R R (Ag1 _ _ (by assumption)) R<|zm R R<|zp (A6 R R R)<|zp (A6 R R R)<|za R R<|za R R<|znr<|zp (Ae (s':= .d (.agg (Vo.c q.1))) (Ac (Ad R R Au R lb)) (by kernel_rfl))<|?_
 refine zm R R<|XL.call1 R R (Ao5 q.1 q.2 hFq (by omega) hq2) R<|za R R<|znr<|zm R R<|zm R R<|zm R R<|zm R R<|zp (Js R R C9 (Bd.at R) (Bd.at R) (by omega) (by omega))<|XL.call1 R R (Sb _ hNs) R<|zp (Ae (s':= .d (dI (smA q.1 p (Bc q.1 q.2)))) (Ak R R R (by omega) (by omega)) (sI ((Mf (ckL q.1 p.len) q.2 (Bc q.1 q.2) (by omega)).symm)))<|za R R<|zn<|zs<|?_
 refine zr<|zm R R<|zm R R<|zp (Di R R R (by omega) (by omega))<|zp (A5 R R R)<|zm R R<|?_
 refine XL.dec 55 R (fun g55=> ?_) (fun g55=> ?_)
 refine zp (Ab R R Hh)<|zp (Aa R R Ah R R)<|zm R R<|zp (Ak R R R (by omega) (by omega))<|zp (F5 R R R (by omega) (by omega))<|zp (Az R R R)<|zq R R R<|zm R R<|?_
 refine XL.dec 63 R (fun g63=> ?_) (fun g63=> ?_)
 refine zp (Ab R R Hh)<|zp (Aa R R Ah R R)<|zm R R<|zp (Ak R R R (by omega) (by omega))<|zp (F5 R R R (by omega) (by omega))<|zp (Az R R R)<|zq R R R<|zn<|?_
 refine zd R (fun c70=> ?_) (fun c70=> ?_)
 refine zs<|?_
 obtain ⟨x,hx⟩:∃x,q.1.evs[q.2]? =some x:=Ap hq2
 obtain ⟨y,hy⟩:∃y,q.1.evs[Bc q.1 q.2 - 1]? =some y:=Ap (by omega)
 have hsl:=P4 p.m (p.off+smA q.1 p q.2) (p.off+smA q.1 p (Bc q.1 q.2))
 refine Af (by kernel_rfl)<|zp (Ab R R Pm)<|zp (Ae (s':= .d (.agg (Me.c p.m))) (Ac (Ad R R Ci R lb)) (by kernel_rfl))<|zp (Ab R R Hh)<|zp (Aa R R Ah R R)<|zm R R<|zp (Ak R R R (by omega) (by omega))<|zp (Ab R R Hh)<|zp (Aa R R Ah R R)<|zm R R<|zp (Ak R R R (by omega) (by omega))<|?_
 refine XL.call1 R R (Qo _ _ _) R<|zm R R<|zp (A6 R R R)<|zp (A6 R R R)<|za R R<|za R R<|znr<|zm R R<|zp (Az R R R)<|zm R R<|?_
 refine XL.dec 87 R (fun g87=> ?_) (fun g87=> ?_)
 refine zm R R<|XL.len R R R Tryz.underlying106 fun hl89=>zm R R<|zm R R<|zp (Di R R R (by omega) (by omega))<|zp (Aq R R R)<|zq R R R<|zn<|?_
 refine zd R (fun c94=> ?_) (fun c94=> ?_)
 refine zs<|?_
 have hJ:smJ p (smA q.1 p q.2) (smA q.1 p (Bc q.1 q.2)) (Bc q.1 q.2 - q.2):=⟨⟨⟨by omega,by omega⟩,by omega⟩,by omega,by omega⟩
 have hxf:=hFq.ev x (List.mem_of_getElem? hx)
 have hxh:=hxf.1
 have hxg:=hxf.2.1
 have hxl:=hxf.2.2
 have hrf:=Aej hxf y.heads
 have hxy:x.heads.length=y.heads.length:=Vq (Hv hck).1 hx (Bc q.1 q.2 - 1 - q.2) (by omega) (by rw [show q.2+(Bc q.1 q.2 - 1 - q.2)=Bc q.1 q.2 - 1 by omega];exact hy)
 refine Af (by kernel_rfl)<|zp (Ab R R A1)<|zp (Aa R R Br R R)<|zm R R<|zp (Am R R R B7 (hx))<|zp (Ae (s':= .d (.agg (Ev.c x))) (Ar R R Ax lb) (by kernel_rfl))<|?_
 refine XL.inl 900001 [(3, .ptr 3 0 0),(4, .ptr 4 0 0),(5, .d (dI 0)),(7, .ptr 7 0 0),(8, .d (dI (smA q.1 p q.2))),(9, .d (dI (q.2:Nat))),(12, .d (dI (Bc q.1 q.2:Nat))),(13, .d (dI (smA q.1 p (Bc q.1 q.2)))),(14, .d (.sl 2 ((p.m.split (p.off+(smA q.1 p q.2)) (p.off+(smA q.1 p (Bc q.1 q.2)))).map Val.c)))] R R .d R6 Tryz.func63 R R lb (by simp only [List.forall_mem_cons];exact ⟨⟨Nat.le_of_ble_eq_true rfl,rfl⟩,⟨⟨Nat.le_of_ble_eq_true rfl,rfl⟩,⟨⟨Nat.le_of_ble_eq_true rfl,rfl⟩,⟨⟨Nat.le_of_ble_eq_true rfl,rfl⟩,⟨⟨Nat.le_of_ble_eq_true rfl,rfl⟩,⟨⟨Nat.le_of_ble_eq_true rfl,rfl⟩,⟨⟨Nat.le_of_ble_eq_true rfl,rfl⟩,⟨⟨Nat.le_of_ble_eq_true rfl,rfl⟩,⟨⟨Nat.le_of_ble_eq_true rfl,rfl⟩,fun p hp=>(by cases hp)⟩⟩⟩⟩⟩⟩⟩⟩⟩) fun u1=>?_
 refine zr<|XL.step R (As 1001 (l:= [.d (dI x.site), .d (dI x.num), .d (dI x.kind), .d (dI x.v.log), .d (dI x.v.dots), .d (.sl 5 (x.heads.map Hd.c)), .d (.sl 5 (x.graces.map Gr.c)), .d (dI x.art), .d (dI x.orn), .d (dI x.dyn), .d (.sl 2 (x.lyr.map Sy.c)), .d (dI x.stem), .d (dI x.beam)]) R R (by kernel_rfl))<|?_
 refine XL.step R (A0 1002 (l:= [.d (dI 0), .d (dI 0), .d (dI 0), .d (dI 0), .d (dI 0), .d (.v (.slice none 0 0)), .d (.v (.slice none 0 0)), .d (dI 0), .d (dI 0), .d (dI 0), .d (.v (.slice none 0 0)), .d (dI 0), .d (dI 0)]) R Cm (by kernel_rfl))<|zn<|zs<|C3 10 [7001,7002,7003] (by kernel_rfl) (by kernel_rfl) (by kernel_rfl) (by kernel_rfl) (by decide)<|yp (Ab R R Bi)<|?_
 refine yp (Aa R R Cx R R)<|ChK.cons R (CStep.callS R ((In _ (by omega)).lab 7001) R (Ft (by kernel_rfl)))<|yp (Ab R R Eg)<|yp (Aa R R It R R)<|ChK.cons R (CStep.callS R ((R3 _ (by omega)).lab 7002) R (Ft (by kernel_rfl)))<|yp (Ab R R Ee)<|yp (Aa R R Is R R)<|?_
 refine ChK.cons R (CStep.callS R ((R2 _ (by omega)).lab 7003) R (Ft (by kernel_rfl)))<|yp (Ab R R Bi)<|?_
 refine ChK.nil ⟨by kernel_rfl, ?_⟩
 refine XL.step R (Ag (l':= [.d (dI x.site), .d (dI x.num), .d (dI x.kind), .d (dI x.v.log), .d (dI x.v.dots), .own 7001, .d (.sl 5 (x.graces.map Gr.c)), .d (dI x.art), .d (dI x.orn), .d (dI x.dyn), .d (.sl 2 (x.lyr.map Sy.c)), .d (dI x.stem), .d (dI x.beam)]) R R R R Ly R lb (by kernel_rfl))<|zp (Ab R R Eg)<|?_
 refine XL.step R (Ag (l':= [.d (dI x.site), .d (dI x.num), .d (dI x.kind), .d (dI x.v.log), .d (dI x.v.dots), .own 7001, .own 7002, .d (dI x.art), .d (dI x.orn), .d (dI x.dyn), .d (.sl 2 (x.lyr.map Sy.c)), .d (dI x.stem), .d (dI x.beam)]) R R R R Alv R lb (by kernel_rfl))<|zp (Ab R R Ee)<|?_
 refine XL.step R (Ag (l':= [.d (dI x.site), .d (dI x.num), .d (dI x.kind), .d (dI x.v.log), .d (dI x.v.dots), .own 7001, .own 7002, .d (dI x.art), .d (dI x.orn), .d (dI x.dyn), .own 7003, .d (dI x.stem), .d (dI x.beam)]) R R R R Alu R lb (by kernel_rfl))<|znr<|zp (Ac (Ad R R Ax R lb))<|?_
 refine XL.step R (Ag (l':= [.d (dI x.site), .d (dI x.num), .d (dI x.kind), .d (dI x.v.log), .d (dI x.v.dots), .own 7001, .own 7002, .d (dI x.art), .d (dI x.orn), .d (dI x.dyn), .own 7003, .d (dI x.stem), .d (dI x.beam)]) R R R R Cd R lb (by kernel_rfl))<|zn<|zt<|?_
 refine (F7 (l:= [(3, .ptr 3 0 0),(4, .ptr 4 0 0),(5, .d (dI 0)),(7, .ptr 7 0 0),(8, .d (dI (smA q.1 p q.2))),(9, .d (dI (q.2:Nat))),(12, .d (dI (Bc q.1 q.2:Nat))),(13, .d (dI (smA q.1 p (Bc q.1 q.2)))),(14, .d (.sl 2 ((p.m.split (p.off+(smA q.1 p q.2)) (p.off+(smA q.1 p (Bc q.1 q.2)))).map Val.c)))]) (by kernel_rfl) (Em R (RVS.eq (s':= .agg [.d (dI x.site), .d (dI x.num), .d (dI x.kind), .d (dI x.v.log), .d (dI x.v.dots), .own 7001, .own 7002, .d (dI x.art), .d (dI x.orn), .d (dI x.dyn), .own 7003, .d (dI x.stem), .d (dI x.beam)]) (RVS.cells (i:=1002) (l:= [.d (dI x.site), .d (dI x.num), .d (dI x.kind), .d (dI x.v.log), .d (dI x.v.dots), .own 7001, .own 7002, .d (dI x.art), .d (dI x.orn), .d (dI x.dyn), .own 7003, .d (dI x.stem), .d (dI x.beam)]) R (by kernel_rfl) (by kernel_rfl) Ax lb) R)) ?_).2
 refine XL.freeze (i:=7002) R<|XL.freeze (i:=7003) R<|XL.step R (A0 16 (l:= [.d (dI 0), .d (dI 0), .d (dI 0), .d (dI 0), .d (dI 0), .d (.v (.slice none 0 0)), .d (.v (.slice none 0 0)), .d (dI 0), .d (dI 0), .d (dI 0), .d (.v (.slice none 0 0)), .d (dI 0), .d (dI 0)]) R Cm (by kernel_rfl))<|?_
 refine XL.step R (Ag (l':= [.d (dI x.site), .d (dI x.num), .d (dI x.kind), .d (dI x.v.log), .d (dI x.v.dots), .own 7001, .d (.sl 5 (x.graces.map Gr.c)), .d (dI x.art), .d (dI x.orn), .d (dI x.dyn), .d (.sl 2 (x.lyr.map Sy.c)), .d (dI x.stem), .d (dI x.beam)]) R R R R Cd R lb (by kernel_rfl))<|zn<|zs<|zr<|zp (Ab R R Bi)<|zp (Aa R R Cx R R)<|?_
 refine zp (Ce R R R Tryz.underlying48)<|zm R R<|zn<|Ai<|?_
 refine Av (α:=Nat) (fun j=>j≤x.heads.length) (fun j=>mkF [(3, .ptr 3 0 0),(4, .ptr 4 0 0),(5, .d (dI 0)),(7, .ptr 7 0 0),(8, .d (dI (smA q.1 p q.2))),(9, .d (dI (q.2:Nat))),(12, .d (dI (Bc q.1 q.2:Nat))),(13, .d (dI (smA q.1 p (Bc q.1 q.2)))),(14, .d (.sl 2 ((p.m.split (p.off+(smA q.1 p q.2)) (p.off+(smA q.1 p (Bc q.1 q.2)))).map Val.c))),(16, .ptr 16 0 0),(103, .d (dI x.heads.length)),(104, .d (dI j))]) (fun j=>mkH [(3, .box ((Pl.c p).map S.d)),(4, .box [.d (.v (.slice none 0 0)), .d (.v (.slice none 0 0))]),(7, .box ((Vo.c q.1).map S.d)),(16, .box [.d (dI x.site), .d (dI x.num), .d (dI x.kind), .d (dI x.v.log), .d (dI x.v.dots), .own 7001, .d (.sl 5 (x.graces.map Gr.c)), .d (dI x.art), .d (dI x.orn), .d (dI x.dyn), .d (.sl 2 (x.lyr.map Sy.c)), .d (dI x.stem), .d (dI x.beam)]),(7001, .row 91 5 ((Jp (Kd y.heads) x.heads j).map Hd.c))]) (fun j=>x.heads.length - j) (0) (Nat.zero_le _) ?_ ?_ ?_
 exact fz ⟨sr,sr,sr,sr,sr,sr,sr,sr,sr,sr,sr,sr,trivial⟩
 exact gz ⟨R,R,R,R,by rw [Ve];rfl,trivial⟩
 intro j hk2
 refine zr<|zp (Aq R R R)<|zn<|zs<|?_
 refine zd R (fun c105=> ?_) (fun c105=> ?_)
 have hjl:j<x.heads.length:=by omega
 obtain ⟨xj,hxj⟩:=Ap hjl
 obtain ⟨yj,hyj⟩:∃yj,y.heads[j]? =some yj:=Ap (by omega)
 have hgj:=Xr (f:=Kd y.heads) hxj
 refine zi<|zs<|Ai<|zr<|zm R R<|za R R<|zn<|C3 14 [] (by kernel_rfl) (by kernel_rfl) (by kernel_rfl) (by kernel_rfl) (by decide)<|yp (Ab R R Bi)<|yp (Aa R R Cx R R)<|ym R R<|yp (Ab R R A1)<|yp (Aa R R Br R R)<|ym R R<|?_
 refine yp (Di R R R (by omega) (by omega))<|yp (Eu R R R (by omega) B7 (hy))<|yp (Bq R R Bi)<|yp (Aw R R Cx)<|ym R R<|yp (Am R R R Gd (hyj))<|yp (Bq R R Dw)<|yp (Aw R R Jv)<|?_
 refine ChK.nil ⟨by kernel_rfl, ?_⟩
 refine zp (Dj R R R (R) R Gd (by rw [Sa];omega))<|zp (Ab R R Dw)<|XL.step R (Dl R R R (Cn hgj) R R P3 R lb)<|zn<|Af (by kernel_rfl)<|zp (Ak R R R (by omega) (by omega))<|zm R R<|zn<|?_
 exact Al (j+1) (by omega) (by omega) (fz ⟨sr,sr,sr,sr,sr,sr,sr,sr,sr,sr,sr,sr,trivial⟩) (gz ⟨R,R,R,R,Ky (a:=Kd y.heads j xj) (by rw [Aju hyj];rfl) (Xq hxj),trivial⟩)
 have hte:Jp (Kd y.heads) x.heads j=F2 x.heads y.heads:=Xs (f:=Kd y.heads) (l:=x.heads) (k:=j) (by omega)
 refine At<|zr<|XL.freeze (i:=7001) R<|zp (Ae (s':= .d (.agg (Ev.c (x.reh (F2 x.heads y.heads))))) (Ac (Ad R R Ax R lb)) (by rw [←hte];kernel_rfl))<|zm R R<|XL.callS R R ((M0 (x.reh (F2 x.heads y.heads)) (p.m.split (p.off+smA q.1 p q.2) (p.off+smA q.1 p (Bc q.1 q.2))) false hrf (by omega)).lab 7004) R<|zp (A4 R (by conv=>lhs;whnf))<|?_
 refine zn<|zs<|zr<|zp (A3 R (by conv=>lhs;whnf))<|?_
 refine zp (Ce R R R Tryz.underlying22)<|zm R R<|zn<|Ai<|?_
 refine Av (α:=Nat) (fun n=>n≤(Bj (x.reh (F2 x.heads y.heads)) (p.m.split (p.off+smA q.1 p q.2) (p.off+smA q.1 p (Bc q.1 q.2))) false).length) (fun n=>mkF [(3, .ptr 3 0 0),(4, .ptr 4 0 0),(5, .d (dI 0)),(7, .ptr 7 0 0),(8, .d (dI (smA q.1 p q.2))),(9, .d (dI (q.2:Nat))),(12, .d (dI (Bc q.1 q.2:Nat))),(13, .d (dI (smA q.1 p (Bc q.1 q.2)))),(18, .own 7004),(128, .d (dI (Bj (x.reh (F2 x.heads y.heads)) (p.m.split (p.off+smA q.1 p q.2) (p.off+smA q.1 p (Bc q.1 q.2))) false).length)),(129, .d (dI n))]) (fun n=>mkH [(3, .box ((Pl.c p).map S.d)),(4, .box [.d (.v (.slice none 0 0)), .d (.v (.slice none 0 0))]),(7, .box ((Vo.c q.1).map S.d)),(7004, .row 60 13 ((Jp (Lv (q.1.evs.drop q.2)) (Bj (x.reh (F2 x.heads y.heads)) (p.m.split (p.off+smA q.1 p q.2) (p.off+smA q.1 p (Bc q.1 q.2))) false) n).map Ev.c))]) (fun n=>(Bj (x.reh (F2 x.heads y.heads)) (p.m.split (p.off+smA q.1 p q.2) (p.off+smA q.1 p (Bc q.1 q.2))) false).length - n) (0) (Nat.zero_le _) ?_ ?_ ?_
 exact fz ⟨sr,sr,sr,sr,sr,sr,sr,sr,sr,sr,sr,trivial⟩
 exact gz ⟨R,R,R,by rw [Ve];rfl,trivial⟩
 intro n hk4
 have hnl:=Ew (x.reh (F2 x.heads y.heads)) (p.m.split (p.off+smA q.1 p q.2) (p.off+smA q.1 p (Bc q.1 q.2))) false
 refine zr<|zp (Aq R R R)<|zn<|zs<|?_
 refine zd R (fun c130=> ?_) (fun c130=> ?_)
 have hjl:n<(Bj (x.reh (F2 x.heads y.heads)) (p.m.split (p.off+smA q.1 p q.2) (p.off+smA q.1 p (Bc q.1 q.2))) false).length:=by omega
 obtain ⟨e,he⟩:=Ap hjl
 obtain ⟨o,hon⟩:∃o,q.1.evs[q.2+n]? =some o:=Ap (by omega)
 have hge:=Xr (f:=Lv (q.1.evs.drop q.2)) he
 refine zi<|zs<|Ai<|zr<|zm R R<|za R R<|zng<|zp (A3 R (by conv=>lhs;whnf))<|?_
 refine zm R R<|zp (Ab R R A1)<|zp (Aa R R Br R R)<|zm R R<|zm R R<|zp (Ak R R R (by omega) (by omega))<|zp (Eu R R R (by omega) B7 (hon))<|zp (Bq R R Ey)<|zp (Ar R R Ju lb)<|zp (Dj R R R (R) R B7 (by rw [Sa];omega))<|zp (Ab R R Ey)<|XL.step R (Dl R R R (Cn hge) R R Aqz R lb)<|zn<|?_
 refine Af (by kernel_rfl)<|zp (Ak R R R (by omega) (by omega))<|zm R R<|zn<|?_
 exact Al (n+1) (by omega) (by omega) (fz ⟨sr,sr,sr,sr,sr,sr,sr,sr,sr,sr,sr,trivial⟩) (gz ⟨R,R,R,Ky (a:=Lv (q.1.evs.drop q.2) n e) (by rw [An2 (o:=o) (by rw [List.getElem?_drop];exact hon)];rfl) (Xq he),trivial⟩)
 have hie:Jp (Lv (q.1.evs.drop q.2)) (Bj (x.reh (F2 x.heads y.heads)) (p.m.split (p.off+smA q.1 p q.2) (p.off+smA q.1 p (Bc q.1 q.2))) false) n=De q.1 p q.2 x y:=Xs (by omega)
 have hjl2:(De q.1 p q.2 x y).length=(p.m.split (p.off+smA q.1 p q.2) (p.off+smA q.1 p (Bc q.1 q.2))).length:=by rw [De,Yx,Ew]
 refine At<|zr<|XL.freeze (i:=7004) R<|zp (Ae (s':= .d (.agg (Vo.c q.1))) (Ac (Ad R R Au R lb)) (by kernel_rfl))<|zm R R<|zm R R<|zm R R<|zp (Ae (s':= .d (dI (Bc q.1 q.2 - q.2:Nat))) (Di R R R (by omega) (by omega)) (sI (by omega)))<|zp (Ae (s':= .d (.sl 13 ((De q.1 p q.2 x y).map Ev.c))) (A3 R (by conv=>lhs;whnf)) (by rw [←hie]))<|?_
 refine zp (Ae (s':= .d (.agg [.sl 13 ((De q.1 p q.2 x y).map Ev.c), .v (.slice none 0 0)])) (Ac (Be R Cg Ba R)) (by kernel_rfl))<|XL.calls R R (O5 q.1 q.2 (Bc q.1 q.2 - q.2) ⟨De q.1 p q.2 x y, []⟩ hsv (Up (by omega)) (by omega)) (.cons R (.same R) (.cons R (.same R) (.cons R (.same R) (.cons R (.agg (.cons (.same R) (.cons (.nil 4) (.nil)))) (.nil)))))<|?_
 refine XL.step R (Ag (l':= [.d (.sl 13 ((A8 q.1 q.2 (Bc q.1 q.2 - q.2) ⟨De q.1 p q.2 x y, []⟩).evs.map Ev.c)), .d (.sl 4 ((A8 q.1 q.2 (Bc q.1 q.2 - q.2) ⟨De q.1 p q.2 x y, []⟩).tups.map Tp.c))]) R R R R Bu R lb (by kernel_rfl))<|zng<|zm R R<|zp (Ae (s':= .d (.sl 13 ((De q.1 p q.2 x y).map Ev.c))) (A3 R (by conv=>lhs;whnf)) (by rw [←hie]))<|?_
 refine XL.len R R R Tryz.underlying22 fun hl155=>zp (Ak R R R (by omega) (by omega))<|za R R<|zng<|zm R R<|zm R R<|za R R<|za R R<|zn<|Hl<|?_
 exact Al ((A8 q.1 q.2 (Bc q.1 q.2 - q.2) ⟨De q.1 p q.2 x y, []⟩,q.2+(De q.1 p q.2 x y).length)) ((hS.nextJ hq2 (Q9 hx hy hJ)).1) ((hS.nextJ hq2 (Q9 hx hy hJ)).2.1) (fz ⟨sr,sr,sr,sr, .same (sI (hS.nextJ hq2 (Q9 hx hy hJ)).2.2.symm), .same (sI (by omega)),trivial⟩) (gz ⟨R,R,R,trivial⟩)
 refine zi<|Af (by kernel_rfl)<|zm R R<|zm R R<|za R R<|za R R<|zn<|Hl<|?_
 exact Al ((q.1,Bc q.1 q.2)) ((hS.nextJ hq2 (Gi (by unfold smJ;omega))).1) ((hS.nextJ hq2 (Gi (by unfold smJ;omega))).2.1) (fz ⟨sr,sr,sr,sr, .same (sI (hS.nextJ hq2 (Gi (by unfold smJ;omega))).2.2.symm),sr,trivial⟩) (gz ⟨R,R,R,trivial⟩)
 refine zk 6 R<|zq R R R<|zn<|Bb (by kernel_rfl) R<|zi<|Af (by kernel_rfl)<|zm R R<|zm R R<|za R R<|za R R<|zn<|Hl<|?_
 exact Al ((q.1,Bc q.1 q.2)) ((hS.nextJ hq2 (Gi (by unfold smJ;omega))).1) ((hS.nextJ hq2 (Gi (by unfold smJ;omega))).2.1) (fz ⟨sr,sr,sr,sr, .same (sI (hS.nextJ hq2 (Gi (by unfold smJ;omega))).2.2.symm),sr,trivial⟩) (gz ⟨R,R,R,trivial⟩)
 refine zi<|Af (by kernel_rfl)<|zm R R<|zm R R<|za R R<|za R R<|zn<|Hl<|?_
 exact Al ((q.1,Bc q.1 q.2)) ((hS.nextJ hq2 (Gi (by unfold smJ;omega))).1) ((hS.nextJ hq2 (Gi (by unfold smJ;omega))).2.1) (fz ⟨sr,sr,sr,sr, .same (sI (hS.nextJ hq2 (Gi (by unfold smJ;omega))).2.2.symm),sr,trivial⟩) (gz ⟨R,R,R,trivial⟩)
 refine zk 6 R<|zq R R R<|zn<|Bb (by kernel_rfl) R<|zi<|Af (by kernel_rfl)<|zm R R<|zm R R<|za R R<|za R R<|zn<|Hl<|?_
 exact Al ((q.1,Bc q.1 q.2)) ((hS.nextJ hq2 (Gi (by unfold smJ;omega))).1) ((hS.nextJ hq2 (Gi (by unfold smJ;omega))).2.1) (fz ⟨sr,sr,sr,sr, .same (sI (hS.nextJ hq2 (Gi (by unfold smJ;omega))).2.2.symm),sr,trivial⟩) (gz ⟨R,R,R,trivial⟩)
 refine zk 6 R<|zq R R R<|zm R R<|zk 6 R<|zq R R R<|zn<|Bb (by kernel_rfl) R<|zi<|Af (by kernel_rfl)<|zm R R<|zm R R<|za R R<|za R R<|zn<|?_
 refine Hl<|?_
 exact Al ((q.1,Bc q.1 q.2)) ((hS.nextJ hq2 (Gi (by unfold smJ;omega))).1) ((hS.nextJ hq2 (Gi (by unfold smJ;omega))).2.1) (fz ⟨sr,sr,sr,sr, .same (sI (hS.nextJ hq2 (Gi (by unfold smJ;omega))).2.2.symm),sr,trivial⟩) (gz ⟨R,R,R,trivial⟩)
 have hdn:=hS.done (by omega)
 refine At<|zr<|zp (Ae (s':= .d (.agg (Vo.c q.1))) (Ac (Ad R R Au R lb)) (by kernel_rfl))<|XL.call1 R R (Gp _ (by assumption)) R<|XL.step R (Ag (l':= [.d (.sl 13 (q.1.evs.map Ev.c)), .d (.sl 4 (q.1.tups.map Tp.c))]) R R R R Bu R lb (by kernel_rfl))<|za R R<|zn<|zt<|?_
 exact Bl R (RV.cells R R R Au lb R) (RV.tmp R R) (r2v ((Ar4 c24).trans (by rw [←hdn])))
end Go.Proofs.YtcihalbakenleaaGreat
namespace Go.Proofs.YtcihalbakenleaaGreat
def kH (t:Bool):Hd:=⟨⟨0,0,5⟩,t,0⟩
def kE (s:Int) (v:Val) (t:Bool):Ev:=⟨s,s,1,v, [kH t], [],0,0,0, [],0,0⟩
def kV:Vo:=⟨[kE 1 ⟨0,0⟩ false], []⟩
def kP:Pl:=⟨⟨4,4,0,0,0,0,0,0⟩,0,1935360⟩
def kW:Vo:=⟨[kE 1 ⟨2,0⟩ true,kE 0 ⟨2,0⟩ true,kE 0 ⟨1,0⟩ false], []⟩
set_option maxRecDepth 100000 in
theorem Ap1:J3 kV kP 483840=(kW,0):=by kernel_rfl
set_option maxRecDepth 100000 in
theorem Ap0:Sf kW kP=(kV,0):=by kernel_rfl
end Go.Proofs.YtcihalbakenleaaGreat
namespace Go.Proofs.YtcihalbakenleaaGreat
open Go.RowKit
theorem D9 (n a b:Int):XC Tryz.prog 77 [.v (.int .i64 n), .v (.int .i64 a), .v (.int .i64 b)] (fun r=>r=dB (decide (a≤n∧n≤b))):=by
 refine Ao Acx Tryz.func77 R R lb<|zr<|za R R<|znr<|zm R R<|zm R R<|zp (E4 R R R)<|zm R R<|?_
 refine XL.dec 10 R (fun g10=> ?_) (fun g10=> ?_)
 exact zm R R<|zm R R<|zp (Ha R R R)<|zq R R R<|za R R<|zn<|zt<|z1 R R (rB (by rw [decide_eq_decide];omega))
 exact zk 3 R<|zq R R R<|za R R<|zn<|zt<|z1 R R (rB (by rw [eq_comm,decide_eq_false_iff_not];omega))
def Hr (p:Pit):Int:=if p.good then p.n else -1
theorem Ni {p:Pit} (h:¬p.good): -1=Hr p:=by rw [Hr,if_neg h]
theorem Tt {p:Pit} (h:p.good):Hr p=p.num:=by rw [Hr,if_pos h,p.num_ok h]
theorem rn_neg {p:Pit}:Hr p<0↔¬p.good:=by
 unfold Hr
 split
 ·rename_i h;have:=h.2;exact ⟨fun k=>by omega,fun k=>absurd h k⟩
 ·rename_i h;exact ⟨fun _=>h,fun _=>by decide⟩
theorem Ao3 (k:Nat) (h:k<7):([0,2,4,5,7,9,11]:List Int)[k]? =some (Sg k):=by
 match k,h with
 |0,_=>rfl|1,_=>rfl|2,_=>rfl|3,_=>rfl|4,_=>rfl|5,_=>rfl|6,_=>rfl
 |k+7,h=>omega
theorem Rb (p:Pit):XC Tryz.prog 127 [.agg (Pit.c p)] (fun r=>r=dI (Hr p)):=by
 refine Ao Aa0 Tryz.func127 R R lb<|zr<|XL.step R (As 1 (l:= [.d (dI p.step), .d (dI p.alter), .d (dI p.oct)]) R R (by kernel_rfl))<|za R R<|zn<|zs<|zr<|zp (Ab R R K9)<|zp (Aa R R Ah R R)<|zp (Aq R R R)<|zm R R<|?_
 refine XL.dec 7 R (fun g7=> ?_) (fun g7=> ?_)
 refine zk 3 R<|zq R R R<|zm R R<|zk 3 R<|zq R R R<|zm R R<|zk 3 R<|zq R R R<|zm R R<|zk 3 R<|zq R R R<|zm R R<|zk 3 R<|zq R R R<|?_
 exact zn<|An (by kernel_rfl) R<|zr<|za R R<|zn<|zt<|z1 R R (rI (Ni fun h=>by obtain ⟨⟨h1,h2,h3,h4,h5,h6⟩,_⟩:=h;omega))
 refine zp (Ab R R K9)<|zp (Aa R R Ah R R)<|zp (A5 R R R)<|zq R R R<|zm R R<|?_
 refine XL.dec 12 R (fun g12=> ?_) (fun g12=> ?_)
 refine zk 3 R<|zq R R R<|zm R R<|zk 3 R<|zq R R R<|zm R R<|zk 3 R<|zq R R R<|zm R R<|zk 3 R<|zq R R R<|zn<|An (by kernel_rfl) R<|zr<|?_
 exact za R R<|zn<|zt<|z1 R R (rI (Ni fun h=>by obtain ⟨⟨h1,h2,h3,h4,h5,h6⟩,_⟩:=h;omega))
 refine zp (Ab R R K8)<|zp (Aa R R Ah R R)<|zp (Aq R R R)<|zq R R R<|zm R R<|?_
 refine XL.dec 17 R (fun g17=> ?_) (fun g17=> ?_)
 exact zk 3 R<|zq R R R<|zm R R<|zk 3 R<|zq R R R<|zm R R<|zk 3 R<|zq R R R<|zn<|An (by kernel_rfl) R<|zr<|za R R<|zn<|zt<|z1 R R (rI (Ni fun h=>by obtain ⟨⟨h1,h2,h3,h4,h5,h6⟩,_⟩:=h;omega))
 refine zp (Ab R R K8)<|zp (Aa R R Ah R R)<|zp (A5 R R R)<|zq R R R<|zm R R<|?_
 refine XL.dec 22 R (fun g22=> ?_) (fun g22=> ?_)
 exact zk 3 R<|zq R R R<|zm R R<|zk 3 R<|zq R R R<|zn<|An (by kernel_rfl) R<|zr<|za R R<|zn<|zt<|z1 R R (rI (Ni fun h=>by obtain ⟨⟨h1,h2,h3,h4,h5,h6⟩,_⟩:=h;omega))
 refine zp (Ab R R K7)<|zp (Aa R R Ah R R)<|zp (Aq R R R)<|zq R R R<|zm R R<|?_
 refine XL.dec 27 R (fun g27=> ?_) (fun g27=> ?_)
 exact zk 3 R<|zq R R R<|zn<|An (by kernel_rfl) R<|zr<|za R R<|zn<|zt<|z1 R R (rI (Ni fun h=>by obtain ⟨⟨h1,h2,h3,h4,h5,h6⟩,_⟩:=h;omega))
 refine zp (Ab R R K7)<|zp (Aa R R Ah R R)<|zp (A5 R R R)<|zq R R R<|zn<|?_
 refine zd R (fun c31=> ?_) (fun c31=> ?_)
 exact zr<|za R R<|zn<|zt<|z1 R R (rI (Ni fun h=>by obtain ⟨⟨h1,h2,h3,h4,h5,h6⟩,_⟩:=h;omega))
 refine zi<|zs<|?_
 have hin:p.inR:=by refine Pit.inR_mk ?_ ?_ ?_ ?_ ?_ ?_<;>assumption
 obtain ⟨k,hk⟩:∃k:Nat,p.step=k:=⟨p.step.toNat,by have:=hin.1;omega⟩
 have hb:=Aec k
 have hk7:k<7:=by have:=hin.2.1;omega
 have hn:p.n=Sg k+p.alter+12*(p.oct+1):=by rw [Pit.n,hk,Int.toNat_natCast];omega
 refine Bg [] (by kernel_rfl) (by kernel_rfl) (by kernel_rfl) (by decide)<|ChK.cons R (CStep.slice (l:=B4 [0,2,4,5,7,9,11]) R Tryz.underlying64 Df Gt (by kernel_rfl) R (by omega) (by omega))<|yp (Ab R R K9)<|yp (Aa R R Ah R R)<|yp (Eu R R R (hk) C9 (Ao3 k hk7))<|yp (Aw R R Ah)<|yp (Ab R R K8)<|yp (Aa R R Ah R R)<|?_
 refine yp (Ak R R R (by omega) (by omega))<|yp (Ab R R K7)<|yp (Aa R R Ah R R)<|yp (Ak R R R (by omega) (by omega))<|yp (Id R R R (by omega) (by omega))<|yp (Ak R R R (by omega) (by omega))<|ya R R<|?_
 refine ChK.nil ⟨by kernel_rfl, ?_⟩
 refine zs<|zr<|zm R R<|zp (Aq R R R)<|zm R R<|?_
 refine XL.dec 47 R (fun g47=> ?_) (fun g47=> ?_)
 exact zk 2 R<|zq R R R<|zn<|An (by kernel_rfl) R<|zr<|za R R<|zn<|zt<|z1 R R (rI (Ni fun h=>by obtain ⟨_,h1,h2⟩:=h;omega))
 refine zm R R<|zp (A5 R R R)<|zq R R R<|zn<|?_
 refine zd R (fun c50=> ?_) (fun c50=> ?_)
 exact zr<|za R R<|zn<|zt<|z1 R R (rI (Ni fun h=>by obtain ⟨_,h1,h2⟩:=h;omega))
 exact zi<|zr<|zm R R<|za R R<|zn<|zt<|z1 R R (rI (by rw [Tt ⟨hin,by omega,by omega⟩,Pit.num_ok ⟨hin,by omega,by omega⟩];omega))
theorem Y7 {p:Pit} (h:Hr p<0):p.err=18:=by rw [Pit.err,if_neg (rn_neg.1 h)]
theorem Om {p:Pit} (h:¬Hr p<0):p.good:=Decidable.not_not.1 fun k=>h (rn_neg.2 k)
theorem Ui {p:Pit} (h:¬Hr p<0):p.err=0:=by rw [Pit.err,if_pos (Om h)]
theorem Ad5 {x:Hd} (h:Hr x.p<0):Hj x=18:=by rw [Hj,Cq,Y7 h,if_pos (by decide)]
theorem Ag6 {x:Hd} (h:¬Hr x.p<0) (h2:¬(0≤x.sh∧x.sh≤2)):Hj x=2:=by
 have:Bk x.sh 2=2:=by rw [Bk,if_pos (by omega)]
 rw [Hj,Cq,Ui h,if_neg (by decide),Cq,this,if_pos (by decide)]
theorem Xn {x:Hd} (h:¬Hr x.p<0) (h2:¬ ¬(0≤x.sh∧x.sh≤2)):Hj x=0:=by
 have:Bk x.sh 2=0:=by rw [Bk,if_neg (by omega)]
 rw [Hj,Cq,Ui h,if_neg (by decide),Cq,this,if_neg (by decide)];rfl
theorem Ue {l:List Hd} {k:Nat} {y:Hd} (h:l[k - 1]? =some y) (hk:0<k):Jh (l.take k)=y.p.num:=by
 have:=I6 h
 rwa [show k - 1+1=k by omega] at this
theorem Air {l:List Hd} {k:Nat} (hk:¬(0:Int)<(k:Int)):Jh (l.take k)= -1:=by
 rw [show k=0 by omega];rfl
theorem Vs (l:List Hd):XC Tryz.prog 80 [.sl 5 (l.map Hd.c)] (fun r=>r=dI (Cf l)):=by
 refine Ao Acu Tryz.func80 R R lb<|zr<|za R R<|zn<|zs<|zr<|zm R R<|XL.len R R R Tryz.underlying48 fun hl5=>zp (Az R R R)<|zn<|?_
 refine zd R (fun c6=> ?_) (fun c6=> ?_)
 exact zr<|za R R<|zn<|zt<|z1 R R (rI (by rw [Cf,if_pos (by omega)]))
 refine zi<|zs<|zr<|zm R R<|XL.len R R R Tryz.underlying48 fun hl8=>zp (A5 R R R)<|zn<|?_
 refine zd R (fun c9=> ?_) (fun c9=> ?_)
 exact zr<|za R R<|zn<|zt<|z1 R R (rI (by rw [Cf,if_neg (by omega),if_pos (by omega)]))
 refine zi<|zs<|zr<|za R R<|zn<|Ai<|?_
 refine Av (α:=Nat) (fun k=>k≤l.length∧Eb (Jh (l.take k)) (l.drop k)=Eb (-1) l∧(∀y,l[k - 1]? =some y→0<k→y.p.good)) (fun k=>mkF [(0, .d (.sl 5 (l.map Hd.c))),(3, .d (dI k))]) (fun k=>mkH []) (fun k=>l.length - k) (0) (⟨Nat.zero_le _,by rw [List.drop_zero];rfl,fun y _ h=>absurd h (Nat.lt_irrefl _)⟩) ?_ ?_ ?_
 exact fz ⟨sr,sr,trivial⟩
 exact HSub.nil
 intro k hk0
 obtain ⟨hk,hf,hgd⟩:=hk0
 refine zs<|zr<|zm R R<|zm R R<|XL.len R R R Tryz.underlying48 fun hl12=>zp (Aq R R R)<|zn<|?_
 refine zd R (fun c13=> ?_) (fun c13=> ?_)
 have hk0a:k<l.length:=by omega
 obtain ⟨x0,hx0⟩:=Ap hk0a
 rw [Cj hx0,Eb] at hf
 refine zi<|zs<|Ai<|zs<|zr<|zm R R<|zm R R<|zp (Am R R R Gd hx0)<|zp (Bq R R Gy)<|zp (Ae (s':= .d (.agg (Pit.c x0.p))) (Ar R R Eq lb) (by kernel_rfl))<|XL.call1 R R (Rb _) R<|zp (Aq R R R)<|zn<|?_
 refine zd R (fun c22=> ?_) (fun c22=> ?_)
 exact zr<|za R R<|zn<|zt<|z1 R R (rI (by rw [Hf c6 c9, ←hf,if_pos (by rw [Ad5 c22];decide),Ad5 c22]))
 refine zi<|zs<|zr<|zm R R<|zm R R<|zp (Am R R R Gd hx0)<|zp (Bq R R S2)<|zp (Aw R R Ah)<|XL.call1 R R (D9 _ _ _) R<|zp (Bo R R)<|zn<|?_
 refine zd R (fun c29=> ?_) (fun c29=> ?_)
 exact zr<|za R R<|zn<|zt<|z1 R R (rI (by rw [Hf c6 c9, ←hf,if_pos (by rw [Ag6 c22 c29];decide),Ag6 c22 c29]))
 refine zi<|zs<|?_
 by_cases q31:(0:Int)<(k:Int)
 obtain ⟨y,hy⟩:∃y,l[k - 1]? =some y:=Ap (by omega)
 have hyg:=hgd y hy (by omega)
 refine Bg [] (by kernel_rfl) (by kernel_rfl) (by kernel_rfl) (by decide)<|ym R R<|yp (Dv (A5 R R R) (q31))<|ym R R<|ym R R<|ym R R<|yp (Am R R R Gd hx0)<|yp (Bq R R Gy)<|yp (Ae (s':= .d (.agg (Pit.c x0.p))) (Ar R R Eq lb) (by kernel_rfl))<|ChK.cons R (CStep.call R (Rb _) R)<|ym R R<|ym R R<|yp (Di R R R (by omega) (by omega))<|?_
 refine yp (Eu R R R (by omega) Gd (hy))<|yp (Bq R R Gy)<|yp (Ae (s':= .d (.agg (Pit.c y.p))) (Ar R R Eq lb) (by kernel_rfl))<|ChK.cons R (CStep.call R (Rb _) R)<|yp (Ha R R R)<|yp (A7 R R (by conv=>lhs;whnf))<|?_
 refine ChK.nil ⟨by kernel_rfl, ?_⟩
 refine zd R (fun c47=> ?_) (fun c47=> ?_)
 exact zr<|za R R<|zn<|zt<|z1 R R (rI (by rw [Hf c6 c9, ←hf,if_neg (by rw [Xn c22 c29];decide),if_pos (by rw [Ue hy (by omega), ←Tt (Om c22), ←Tt hyg];exact c47)]))
 refine zi<|Af (by kernel_rfl)<|zm R R<|zp (Ak R R R (by omega) (by omega))<|za R R<|zn<|?_
 have hle:¬x0.p.num≤Jh (l.take k):=by rw [Ue hy (by omega), ←Tt (Om c22), ←Tt hyg];exact c47
 exact Al (k+1) (⟨by omega,by rw [I6 hx0, ←hf,if_neg (by rw [Xn c22 c29];decide),if_neg hle],fun y2 hy2 _=>by rw [Nat.add_sub_cancel,hx0] at hy2;cases hy2;exact Om c22⟩) (by omega) (fz ⟨sr,sr,trivial⟩) (HSub.nil)
 refine Bg [] (by kernel_rfl) (by kernel_rfl) (by kernel_rfl) (by decide)<|ym R R<|yp (G4 (A5 R R R) (q31))<|ym R R<|ChK.skip R<|ChK.skip R<|ChK.skip R<|ChK.skip R<|ChK.skip R<|ChK.skip R<|ChK.skip R<|ChK.skip R<|ChK.skip R<|ChK.skip R<|?_
 refine ChK.skip R<|ChK.skip R<|ChK.skip R<|ChK.skip R<|yp (A7 R R (by conv=>lhs;whnf))<|?_
 refine ChK.nil ⟨by kernel_rfl, ?_⟩
 refine Bb (by kernel_rfl) R<|zi<|Af (by kernel_rfl)<|zm R R<|zp (Ak R R R (by omega) (by omega))<|za R R<|zn<|?_
 have hle:¬x0.p.num≤Jh (l.take k):=by rw [Air q31];have:=x0.p.num_bd;omega
 exact Al (k+1) (⟨by omega,by rw [I6 hx0, ←hf,if_neg (by rw [Xn c22 c29];decide),if_neg hle],fun y2 hy2 _=>by rw [Nat.add_sub_cancel,hx0] at hy2;cases hy2;exact Om c22⟩) (by omega) (fz ⟨sr,sr,trivial⟩) (HSub.nil)
 have hk0b:k=l.length:=by omega
 exact At<|zr<|za R R<|zn<|zt<|z1 R R (rI (by rw [Hf c6 c9, ←hf,hk0b,List.drop_length];rfl))
theorem Tv (l:List Gr):XC Tryz.prog 81 [.sl 5 (l.map Gr.c)] (fun r=>r=dI (E0 l)):=by
 refine Ao Acs Tryz.func81 R R lb<|zr<|za R R<|zn<|zs<|zr<|zm R R<|XL.len R R R Tryz.underlying57 fun hl5=>zp (A5 R R R)<|zn<|?_
 refine zd R (fun c6=> ?_) (fun c6=> ?_)
 exact zr<|za R R<|zn<|zt<|z1 R R (rI (by rw [E0,if_pos (by omega)]))
 refine zi<|zs<|zr<|za R R<|zn<|Ai<|?_
 refine Av (α:=Nat) (fun k=>k≤l.length∧Ii (l.drop k)=Ii l) (fun k=>mkF [(0, .d (.sl 5 (l.map Gr.c))),(3, .d (dI k))]) (fun k=>mkH []) (fun k=>l.length - k) (0) (⟨Nat.zero_le _,by rw [List.drop_zero]⟩) ?_ ?_ ?_
 exact fz ⟨sr,sr,trivial⟩
 exact HSub.nil
 intro k hk0
 obtain ⟨hk,hf⟩:=hk0
 refine zs<|zr<|zm R R<|zm R R<|XL.len R R R Tryz.underlying57 fun hl9=>zp (Aq R R R)<|zn<|?_
 refine zd R (fun c10=> ?_) (fun c10=> ?_)
 have hk0a:k<l.length:=by omega
 obtain ⟨x0,hx0⟩:=Ap hk0a
 rw [Cj hx0,Ii] at hf
 refine zi<|zs<|Ai<|zs<|zr<|zm R R<|zm R R<|zp (Am R R R Po hx0)<|zp (Bq R R Wo)<|zp (Ae (s':= .d (.agg (Pit.c x0.p))) (Ar R R Eq lb) (by kernel_rfl))<|XL.call1 R R (Rb _) R<|zp (Aq R R R)<|zn<|?_
 refine zd R (fun c19=> ?_) (fun c19=> ?_)
 exact zr<|za R R<|zn<|zt<|z1 R R (rI (by rw [Gx c6, ←hf,if_pos (by rw [Y7 c19];decide),Y7 c19]))
 refine zi<|zr<|zm R R<|zm R R<|zp (Am R R R Po hx0)<|zp (Bq R R Qv)<|zp (Aw R R Ah)<|XL.call1 R R (D9 _ _ _) R<|zp (Bo R R)<|zn<|?_
 refine zd R (fun c26=> ?_) (fun c26=> ?_)
 exact zr<|za R R<|zn<|zt<|z1 R R (rI (by rw [Gx c6, ←hf,if_neg (by rw [Ui c19];decide),if_pos (by omega)]))
 refine zi<|Af (by kernel_rfl)<|zm R R<|zp (Ak R R R (by omega) (by omega))<|za R R<|zn<|?_
 exact Al (k+1) (⟨by omega,by rw [if_neg (by rw [Ui c19];decide),if_neg (by omega)] at hf;exact hf⟩) (by omega) (fz ⟨sr,sr,trivial⟩) (HSub.nil)
 have hk0b:k=l.length:=by omega
 exact At<|zr<|za R R<|zn<|zt<|z1 R R (rI (by rw [Gx c6, ←hf,hk0b,List.drop_length];rfl))
theorem Afq (s:Sy):XC Tryz.prog 128 [.agg (Sy.c s)] (fun r=>r=dB (decide s.none)):=by
 refine Ao Aaz Tryz.func128 R R lb<|zr<|XL.step R (As 1 (l:= [.d (.v (.string ⟨s.text.toArray⟩)), .d (dI s.link)]) R R (by kernel_rfl))<|za R R<|znr<|zp (Ab R R Ga)<|zp (Aa R R Kx R R)<|zp (Uu R R R)<|zm R R<|?_
 refine XL.bool 6 R (fun g6=> ?_) (fun g6=> ?_)
 exact zp (Ab R R Ka)<|zp (Aa R R Ah R R)<|zp (Az R R R)<|zq R R R<|za R R<|zn<|zt<|z1 R R (rB (by rw [Kv] at g6;rw [decide_eq_decide];exact ⟨fun h=>⟨of_decide_eq_true g6,h⟩,fun h=>h.2⟩))
 exact zk 3 R<|zq R R R<|za R R<|zn<|zt<|z1 R R (rB (by rw [Kv] at g6;rw [eq_comm,decide_eq_false_iff_not];exact fun h=>of_decide_eq_false g6 h.1))
theorem Ar2 {s:Sy} (h:¬(0≤s.link∧s.link≤2)):F4 s=2:=by rw [F4,if_pos (by omega)]
theorem Ar1 {s:Sy} (h:¬ ¬(0≤s.link∧s.link≤2)) (h2:256<(s.text.length:Int)):F4 s=5:=by rw [F4,if_neg (by omega),if_pos (by omega)]
theorem Aov {s:Sy} {k:Nat} {b:UInt8} (h:¬ ¬(0≤s.link∧s.link≤2)) (h2:¬256<(s.text.length:Int)) (hb:s.text[k]? =some b) (h3:G6 b):F4 s=6:=(Un (by omega) (by omega) h2 hb h3).symm
theorem Ar0 {s:Sy} (h:¬ ¬(0≤s.link∧s.link≤2)) (h2:¬256<(s.text.length:Int)) (h3:∀j b,j<s.text.length→s.text[j]? =some b→¬G6 b):F4 s=if s.text= []∧s.link=1 then 3 else 0:=Ad9 (by omega) (by omega) h2 h3
theorem Ol {l:List Sy} {k:Nat} {x:Sy} {n:Int} (h:l[k]? =some x) (hl:¬4<(l.length:Int)) (hf:G3 (l.drop k)=G3 l) (hx:F4 x=n) (hn:n≠0):Gw l=n:=by
 have:G3 l=n:=by rw [←hf,We h (by rw [hx];exact hn),hx]
 rw [Np hl,this,if_pos hn]
theorem Tu (l:List Sy):XC Tryz.prog 82 [.sl 2 (l.map Sy.c)] (fun r=>r=dI (Gw l)):=by
 refine Ao Acr Tryz.func82 R R lb<|zr<|za R R<|zn<|zs<|zr<|zm R R<|XL.len R R R Tryz.underlying58 fun hl7=>zp (A5 R R R)<|zn<|?_
 refine zd R (fun c8=> ?_) (fun c8=> ?_)
 exact zr<|za R R<|zn<|zt<|z1 R R (rI (by rw [Gw,if_pos (by omega)]))
 refine zi<|zs<|zr<|za R R<|zn<|Ai<|?_
 refine Av (α:=Nat) (fun k=>k≤l.length∧G3 (l.drop k)=G3 l) (fun k=>mkF [(0, .d (.sl 2 (l.map Sy.c))),(3, .d (dI k))]) (fun k=>mkH []) (fun k=>l.length - k) (0) (⟨Nat.zero_le _,by rw [List.drop_zero]⟩) ?_ ?_ ?_
 exact fz ⟨sr,sr,trivial⟩
 exact HSub.nil
 intro k hk0
 obtain ⟨hk,hf⟩:=hk0
 refine zs<|zr<|zm R R<|zm R R<|XL.len R R R Tryz.underlying58 fun hl11=>zp (Aq R R R)<|zn<|?_
 refine zd R (fun c12=> ?_) (fun c12=> ?_)
 have hk0a:k<l.length:=by omega
 obtain ⟨x0,hx0⟩:=Ap hk0a
 refine zi<|zs<|Ai<|zr<|zm R R<|zm R R<|zp (Am R R R N0 hx0)<|zp (Ae (s':= .d (.agg (Sy.c x0))) (Ar R R Iq lb) (by kernel_rfl))<|XL.step R (A0 4 (l:= [.d (.v (.string ⟨#[]⟩)), .d (dI 0)]) R Ov (by kernel_rfl))<|XL.step R (Ag (l':= [.d (.v (.string ⟨x0.text.toArray⟩)), .d (dI x0.link)]) R R R R Xu R lb (by kernel_rfl))<|zn<|zs<|zr<|?_
 refine zp (Ab R R Ka)<|zp (Aa R R Ah R R)<|XL.call1 R R (D9 _ _ _) R<|zp (Bo R R)<|zn<|?_
 refine zd R (fun c22=> ?_) (fun c22=> ?_)
 exact zr<|za R R<|zn<|zt<|z1 R R (rI (Ol hx0 c8 hf (Ar2 c22) (by decide)).symm)
 refine zi<|zs<|zr<|zp (Ab R R Ga)<|zp (Aa R R Kx R R)<|zp (Nk R R Tryz.underlying9)<|zp (A5 R R R)<|zn<|?_
 refine zd R (fun c26=> ?_) (fun c26=> ?_)
 exact zr<|za R R<|zn<|zt<|z1 R R (rI (Ol hx0 c8 hf (Ar1 c22 (by have:=c26;rw [Ez] at this;omega)) (by decide)).symm)
 refine zi<|zs<|zr<|za R R<|zn<|Ai<|?_
 refine Av (α:=Nat) (fun m=>m≤x0.text.length∧∀j b,j<m→x0.text[j]? =some b→¬G6 b) (fun m=>mkF [(0, .d (.sl 2 (l.map Sy.c))),(3, .d (dI k)),(4, .ptr 4 0 0),(5, .d (dI m))]) (fun m=>mkH [(4, .box ((Sy.c x0).map S.d))]) (fun m=>x0.text.length - m) (0) (⟨Nat.zero_le _,fun j b h=>absurd h (Nat.not_lt_zero _)⟩) ?_ ?_ ?_
 exact fz ⟨sr,sr,sr,sr,trivial⟩
 exact gz ⟨R,trivial⟩
 intro m hk2
 obtain ⟨hm,hfm⟩:=hk2
 refine zs<|zr<|zm R R<|zp (Ab R R Ga)<|zp (Aa R R Kx R R)<|zp (Nk R R Tryz.underlying9)<|zp (Aq R R R)<|zn<|?_
 refine zd R (fun c31=> ?_) (fun c31=> ?_)
 rw [Ez] at c31
 have hkl:m<x0.text.length:=by omega
 have hsz:(x0.text.length:Int)≤256:=by have:=c26;rw [Ez] at this;omega
 obtain ⟨b,hb⟩:=Ap hkl
 refine zi<|zs<|Ai<|zr<|zp (Ab R R Ga)<|zp (Aa R R Kx R R)<|zm R R<|zp (T4 R R R Tryz.underlying9 (Oy hb))<|zp (Aq R R R)<|zm R R<|?_
 refine XL.dec 39 R (fun g39=> ?_) (fun g39=> ?_)
 exact zk 5 R<|zq R R R<|zn<|An (by kernel_rfl) R<|zr<|za R R<|zn<|zt<|z1 R R (rI (Ol hx0 c8 hf (Aov c22 (by rw [←Ez];exact c26) hb (Afc g39)) (by decide)).symm)
 refine zp (Ab R R Ga)<|zp (Aa R R Kx R R)<|zm R R<|zp (T4 R R R Tryz.underlying9 (Oy hb))<|zp (Az R R R)<|zq R R R<|zn<|?_
 refine zd R (fun c45=> ?_) (fun c45=> ?_)
 exact zr<|za R R<|zn<|zt<|z1 R R (rI (Ol hx0 c8 hf (Aov c22 (by rw [←Ez];exact c26) hb (Abo c45)) (by decide)).symm)
 refine zi<|Af (by kernel_rfl)<|zm R R<|zp (Ak R R R (by omega) (by omega))<|za R R<|zn<|?_
 exact Al (m+1) (⟨by omega,fun j b' hj hb'=>by by_cases e:j=m;(· subst e;rw [hb] at hb';cases hb';exact Afb g39 c45);(· exact hfm j b' (by omega) hb')⟩) (by omega) (fz ⟨sr,sr,sr,sr,trivial⟩) (gz ⟨rfl,trivial⟩)
 rw [Ez] at c31
 have hke:m=x0.text.length:=by omega
 have he:=Ar0 c22 (by rw [←Ez];exact c26) (fun j b hj=>hfm j b (by omega))
 refine At<|zr<|zp (Ab R R Ga)<|zp (Aa R R Kx R R)<|zp (Uu R R R)<|zm R R<|?_
 refine XL.bool 49 R (fun g49=> ?_) (fun g49=> ?_)
 refine zp (Ab R R Ka)<|zp (Aa R R Ah R R)<|zp (Az R R R)<|zq R R R<|zn<|?_
 refine zd R (fun c53=> ?_) (fun c53=> ?_)
 exact zr<|za R R<|zn<|zt<|z1 R R (rI (by rw [Kv] at g49;exact (Ol hx0 c8 hf (by rw [he,if_pos ⟨of_decide_eq_true g49,c53⟩]) (by decide)).symm))
 refine zi<|Af (by kernel_rfl)<|zm R R<|zp (Ak R R R (by omega) (by omega))<|za R R<|zn<|?_
 have hz0:F4 x0=0:=by rw [he,if_neg (fun h=>c53 h.2)]
 exact Al (k+1) (⟨by omega,by rw [←Ph hx0 (by rw [hz0];decide)];exact hf⟩) (by omega) (fz ⟨sr,sr,trivial⟩) (HSub.nil)
 refine zk 3 R<|zq R R R<|zn<|Bb (by kernel_rfl) R<|zi<|Af (by kernel_rfl)<|zm R R<|zp (Ak R R R (by omega) (by omega))<|za R R<|zn<|?_
 rw [Kv] at g49
 have hz0:F4 x0=0:=by rw [he,if_neg (fun h=>of_decide_eq_false g49 h.1)]
 exact Al (k+1) (⟨by omega,by rw [←Ph hx0 (by rw [hz0];decide)];exact hf⟩) (by omega) (fz ⟨sr,sr,trivial⟩) (HSub.nil)
 have hk0b:k=l.length:=by omega
 have hz:G3 l=0:=by rw [←hf,hk0b,List.drop_length];rfl
 have hz2:Gw l=if Ih l then 3 else 0:=by rw [Np c8,hz,if_neg (by simp)]
 refine At<|zs<|zr<|zm R R<|XL.len R R R Tryz.underlying58 fun hl55=>zp (A5 R R R)<|zm R R<|?_
 refine XL.dec 57 R (fun g57=> ?_) (fun g57=> ?_)
 obtain ⟨s,hs⟩:∃s,l[l.length - 1]? =some s:=Ap (by omega)
 refine zm R R<|zm R R<|XL.len R R R Tryz.underlying58 fun hl60=>zp (Di R R R (by omega) (by omega))<|zp (Eu R R R (by omega) N0 (hs))<|zp (Ae (s':= .d (.agg (Sy.c s))) (Ar R R Iq lb) (by kernel_rfl))<|XL.call1 R R (Afq _) R<|zq R R R<|zn<|?_
 refine zd R (fun c65=> ?_) (fun c65=> ?_)
 exact zr<|za R R<|zn<|zt<|z1 R R (rI (by rw [hz2,if_pos ((Lc hs).2 c65)]))
 exact zi<|zr<|za R R<|zn<|zt<|z1 R R (rI (by rw [hz2,if_neg (fun h=>c65 ((Lc hs).1 h))]))
 exact zk 7 R<|zq R R R<|zn<|Bb (by kernel_rfl) R<|zi<|zr<|za R R<|zn<|zt<|z1 R R (rI (by rw [hz2,if_neg (Qr g57)]))
end Go.Proofs.YtcihalbakenleaaGreat
namespace Go.Proofs.YtcihalbakenleaaGreat
open Go.RowKit
def Na (v:Val):Prop:=(-1≤v.log∧v.log≤8)∧0≤v.dots∧v.dots≤3
instance (v:Val):Decidable (Na v):=by unfold Na;exact inferInstance
theorem valOk_iff {v:Val}:Na v↔C1 v=0:=by
 unfold Na C1
 split
 ·rename_i h;exact ⟨fun _=>rfl,fun _=>⟨⟨h.1,h.2.1⟩,h.2.2⟩⟩
 ·rename_i h;exact ⟨fun k=>absurd ⟨k.1.1,k.1.2,k.2⟩ h,fun k=>by omega⟩
theorem Ak1 (v:Val):XC Tryz.prog 79 [.agg (Val.c v)] (fun r=>r=dB (decide (Na v))):=by
 refine Ao Acv Tryz.func79 R R lb<|zr<|XL.step R (As 1 (l:= [.d (dI v.log), .d (dI v.dots)]) R R (by kernel_rfl))<|za R R<|znr<|zp (Ab R R M5)<|zp (Aa R R Ah R R)<|XL.call1 R R (D9 _ _ _) R<|zm R R<|?_
 refine XL.dec 6 R (fun g6=> ?_) (fun g6=> ?_)
 exact zp (Ab R R J0)<|zp (Aa R R Ah R R)<|XL.call1 R R (D9 _ _ _) R<|zq R R R<|za R R<|zn<|zt<|z1 R R (rB (by rw [decide_eq_decide];exact ⟨fun h=>⟨g6,h⟩,fun h=>h.2⟩))
 exact zk 3 R<|zq R R R<|za R R<|zn<|zt<|z1 R R (rB (by rw [eq_comm,decide_eq_false_iff_not];exact fun h=>g6 h.1))
def I8 (k:Nat):Int:=3870720 / 2 ^ k
theorem Wm (k:Nat):0≤I8 k∧I8 k≤3870720:=by
 have h:(0:Int)<2 ^ k:=Int.pow_pos (by omega)
 exact ⟨Int.ediv_nonneg (by omega) (by omega),Int.ediv_le_self _ (by omega)⟩
theorem Rz (k:Nat):I8 k / 2=I8 (k+1):=by
 unfold I8
 have h:(0:Int)<2 ^ k:=Int.pow_pos (by omega)
 rw [Int.pow_succ,Int.ediv_ediv,if_neg (by omega),Int.sub_zero]
theorem Agh {v:Val} {k:Nat} (h:(k:Int)=v.log+1):I8 k=Ed v:=by rw [I8,Ed, ←h,Int.toNat_natCast]
theorem Ahu (v:Val) (h:C1 v=0):XC Tryz.prog 114 [.agg (Val.c v)] (fun r=>r=dI (Ct v)):=by
 have hv:=Qk (v:=v) (by omega)
 have hp:=N5 v
 refine Ao Aba Tryz.func114 R R lb<|zr<|XL.step R (As 1 (l:= [.d (dI v.log), .d (dI v.dots)]) R R (by kernel_rfl))<|za R R<|znr<|za R R<|zn<|zs<|zr<|za R R<|zn<|Ai<|?_
 refine Av (α:=Nat) (fun k=>(k:Int)≤v.log+1) (fun k=>mkF [(1, .ptr 1 0 0),(2, .d (dI 0)),(3, .d (dI (I8 k))),(4, .d (dI ((k:Int) - 1)))]) (fun k=>mkH [(1, .box ((Val.c v).map S.d))]) (fun k=>(v.log+1).toNat - k) (0) (by omega) ?_ ?_ ?_
 exact fz ⟨sr,sr, .same (sI (by decide)), .same (sI (by decide)),trivial⟩
 exact gz ⟨R,trivial⟩
 intro k hk0
 have hh:=Wm k
 refine zs<|zr<|zm R R<|zp (Ab R R M5)<|zp (Aa R R Ah R R)<|zp (Aq R R R)<|zn<|?_
 refine zd R (fun c11=> ?_) (fun c11=> ?_)
 refine zi<|zs<|Ai<|Af (by kernel_rfl)<|zm R R<|zp (G2 R R R (by omega) (by omega) (by omega))<|za R R<|zn<|Af (by kernel_rfl)<|zm R R<|zp (Ak R R R (by omega) (by omega))<|za R R<|zn<|?_
 exact Al (k+1) (by omega) (by omega) (fz ⟨sr,sr, .same (sI (Rz k)), .same (sI (by omega)),trivial⟩) (gz ⟨R,trivial⟩)
 have hpl:=Agh (v:=v) (k:=k) (by omega)
 refine At<|zr<|zm R R<|zm R R<|za R R<|za R R<|zn<|zs<|zr<|za R R<|zn<|Ai<|?_
 refine Av (α:=Nat) (fun m=>(m:Int)≤v.dots) (fun m=>mkF [(1, .ptr 1 0 0),(2, .d (dI 0)),(5, .d (dI (E2 (Ed v) m).2)),(6, .d (dI (E2 (Ed v) m).1)),(7, .d (dI (m:Nat)))]) (fun m=>mkH [(1, .box ((Val.c v).map S.d))]) (fun m=>v.dots.toNat - m) (0) (hv.2.2.1) ?_ ?_ ?_
 exact fz ⟨sr,sr, .same (sI hpl), .same (sI hpl),sr,trivial⟩
 exact gz ⟨R,trivial⟩
 intro m hk2
 refine zs<|zr<|zm R R<|zp (Ab R R J0)<|zp (Aa R R Ah R R)<|zp (Aq R R R)<|zn<|?_
 refine zd R (fun c21=> ?_) (fun c21=> ?_)
 have hb:=Lo hp.1 m
 have hb2:Ed v*((m:Int)+1)≤3870720*4:=Int.mul_le_mul hp.2 (by omega) (by omega) (by omega)
 refine zi<|zs<|Ai<|zr<|zm R R<|zp (G2 R R R (by omega) (by omega) (by omega))<|za R R<|zng<|zm R R<|zm R R<|zp (Ak R R R (by omega) (by omega))<|za R R<|zn<|Af (by kernel_rfl)<|?_
 refine zm R R<|zp (Ak R R R (by omega) (by omega))<|za R R<|zn<|?_
 exact Al (m+1) (by omega) (by omega) (fz ⟨sr,sr,sr,sr,sr,trivial⟩) (gz ⟨R,trivial⟩)
 have hke:v.dots.toNat=m:=by omega
 exact At<|zr<|zm R R<|za R R<|zn<|zt<|z1 R R (rI (by rw [Ct,hke]))
theorem Cb {n:Int} (h:0≤n) (h2:n / 16 % 2=1):D3 n=16:=by rw [D3,if_neg (by omega),if_pos h2]
theorem Co {n:Int} (h:¬(0≤n∧n / 16 % 2=1)):D3 n=0:=by
 by_cases c:n<0
 ·rw [D3,if_pos c]
 ·rw [D3,if_neg c,if_neg (by omega)]
theorem El {e:Ev} (h:e.kind=2) (a:Int) (ha:D3 e.art=a):(⟨e.site,e.num,e.kind,e.v, [], [],a,0,e.dyn, [],0,0⟩:Ev)=e.strip:=by
 subst ha;rw [Ev.strip,if_neg (by omega),if_pos (by omega),if_pos (by omega)]
theorem Ek {e:Ev} (h:e.kind=3) (a:Int) (ha:D3 e.art=a):(⟨e.site,e.num,e.kind,⟨0,0⟩, [], [],a,0,e.dyn, [],0,0⟩:Ev)=e.strip:=by
 subst ha;rw [Ev.strip,if_neg (by omega),if_neg (by omega),if_pos (by omega)]
theorem Jq {e:Ev} (h:e.kind=4):(⟨e.site,e.num,e.kind,e.v, [], [],0,0,e.dyn, [],0,0⟩:Ev)=e.strip:=by
 rw [Ev.strip,if_neg (by omega),if_pos (by omega),if_neg (by omega)]
theorem Jr {e:Ev} (h2:¬e.kind=2) (h3:¬e.kind=3) (h4:¬e.kind=4):e=e.strip:=by rw [Ev.strip,if_pos (by omega)]
theorem Ahv (e:Ev) (he:e.art≤9223372036854775807):XC Tryz.prog 78 [.agg (Ev.c e)] (fun r=>r= .agg (Ev.c e.strip)):=by
 refine Ao Acw Tryz.func78 R R lb<|zr<|XL.step R (As 1 (l:= [.d (dI e.site), .d (dI e.num), .d (dI e.kind), .d (dI e.v.log), .d (dI e.v.dots), .d (.sl 5 (e.heads.map Hd.c)), .d (.sl 5 (e.graces.map Gr.c)), .d (dI e.art), .d (dI e.orn), .d (dI e.dyn), .d (.sl 2 (e.lyr.map Sy.c)), .d (dI e.stem), .d (dI e.beam)]) R R (by kernel_rfl))<|?_
 refine XL.step R (A0 2 (l:= [.d (dI 0), .d (dI 0), .d (dI 0), .d (dI 0), .d (dI 0), .d (.v (.slice none 0 0)), .d (.v (.slice none 0 0)), .d (dI 0), .d (dI 0), .d (dI 0), .d (.v (.slice none 0 0)), .d (dI 0), .d (dI 0)]) R Cm (by kernel_rfl))<|znr<|zp (Ab R R Ey)<|zp (Ae (s':= .d (.agg [dI e.site,dI e.num])) (Ac (Ad R R Ju R lb)) (by kernel_rfl))<|?_
 refine zp (Ab R R Bn)<|zp (Aa R R Ah R R)<|zp (Ab R R Cz)<|zp (Ae (s':= .d (.agg (Val.c e.v))) (Ac (Ad R R Da R lb)) (by kernel_rfl))<|zp (Ab R R Ef)<|zp (Aa R R Ah R R)<|?_
 refine zp (Ae (s':= .d (.agg [dI e.site,dI e.num,dI e.kind,dI e.v.log,dI e.v.dots, .v (.slice none 0 0), .v (.slice none 0 0),dI 0,dI 0,dI e.dyn, .v (.slice none 0 0),dI 0,dI 0])) (Ac (Be R Oh Cm R)) (by kernel_rfl))<|?_
 refine XL.step R (A0 3 (l:= [.d (dI 0), .d (dI 0), .d (dI 0), .d (dI 0), .d (dI 0), .d (.v (.slice none 0 0)), .d (.v (.slice none 0 0)), .d (dI 0), .d (dI 0), .d (dI 0), .d (.v (.slice none 0 0)), .d (dI 0), .d (dI 0)]) R Cm (by kernel_rfl))<|?_
 refine XL.step R (Ag (l':= [.d (dI e.site), .d (dI e.num), .d (dI e.kind), .d (dI e.v.log), .d (dI e.v.dots), .d (.v (.slice none 0 0)), .d (.v (.slice none 0 0)), .d (dI 0), .d (dI 0), .d (dI e.dyn), .d (.v (.slice none 0 0)), .d (dI 0), .d (dI 0)]) R R R R Cd R lb (by kernel_rfl))<|zn<|zs<|zr<|zp (Ab R R Bn)<|zp (Aa R R Ah R R)<|zn<|Ai<|zs<|zr<|zp (Az R R R)<|?_
 refine za R R<|zn<|?_
 refine zd R (fun c16=> ?_) (fun c16=> ?_)
 refine zi<|?_
 refine zd R (fun c16=> ?_) (fun c16=> ?_)
 refine zs<|zr<|zp (Ab R R Cy)<|zp (Aa R R Ah R R)<|zp (E4 R R R)<|zm R R<|?_
 refine XL.dec 22 R (fun g22=> ?_) (fun g22=> ?_)
 refine zp (Ab R R Cy)<|zp (Aa R R Ah R R)<|zp (G2 R R R (by omega) (by omega) (by omega))<|zp (F5 R R R (by omega) (by omega))<|zp (Az R R R)<|zq R R R<|zn<|?_
 refine zd R (fun c28=> ?_) (fun c28=> ?_)
 refine Af (by kernel_rfl)<|zp (Ab R R Cy)<|XL.step R (Ag (l':= [.d (dI e.site), .d (dI e.num), .d (dI e.kind), .d (dI e.v.log), .d (dI e.v.dots), .d (.v (.slice none 0 0)), .d (.v (.slice none 0 0)), .d (dI 16), .d (dI 0), .d (dI e.dyn), .d (.v (.slice none 0 0)), .d (dI 0), .d (dI 0)]) R R R R Df R lb (by kernel_rfl))<|znr<|zp (Ab R R Bn)<|?_
 refine zp (Aa R R Ah R R)<|zp (Az R R R)<|zn<|?_
 refine zd R (fun c32=> ?_) (fun c32=> ?_)
 refine Af (by kernel_rfl)<|zp (Ae (s':= .d (.agg [dI 0,dI 0])) (Ac (Be R Kf D8 R)) (by kernel_rfl))<|zp (Ab R R Cz)<|?_
 refine XL.step R (Ag (l':= [.d (dI e.site), .d (dI e.num), .d (dI e.kind), .d (dI 0), .d (dI 0), .d (.v (.slice none 0 0)), .d (.v (.slice none 0 0)), .d (dI 16), .d (dI 0), .d (dI e.dyn), .d (.v (.slice none 0 0)), .d (dI 0), .d (dI 0)]) R R R R F3 R lb (by kernel_rfl))<|zn<|zr<|?_
 refine zp (Ae (s':= .d (.agg [dI e.site,dI e.num,dI e.kind,dI 0,dI 0, .v (.slice none 0 0), .v (.slice none 0 0),dI 16,dI 0,dI e.dyn, .v (.slice none 0 0),dI 0,dI 0])) (Ac (Ad R R Ax R lb)) (by kernel_rfl))<|?_
 refine XL.step R (Ag (l':= [.d (dI e.site), .d (dI e.num), .d (dI e.kind), .d (dI 0), .d (dI 0), .d (.v (.slice none 0 0)), .d (.v (.slice none 0 0)), .d (dI 16), .d (dI 0), .d (dI e.dyn), .d (.v (.slice none 0 0)), .d (dI 0), .d (dI 0)]) R R R R Cd R lb (by kernel_rfl))<|zn<|zt<|?_
 exact F8 R (RV.sub (RV.cells R R R Ax lb R) (.agg (.cons (.same R) (.cons (.same R) (.cons (.same R) (.cons (.same R) (.cons (.same R) (.cons (.nil 5) (.cons (.nil 5) (.cons (.same R) (.cons (.same R) (.cons (.same R) (.cons (.nil 2) (.cons (.same R) (.cons (.same R) (.nil)))))))))))))))) (by first|exact Bh (El (by omega) 16 (Cb (by omega) (by omega)))|exact Bh (Ek (by omega) 16 (Cb (by omega) (by omega)))|exact Bh (El (by omega) 0 (Co (by omega)))|exact Bh (Ek (by omega) 0 (Co (by omega)))|exact Bh (Jq (by omega))|exact Bh (Jr (by omega) (by omega) (by omega))|(exfalso;omega))
 refine zi<|zr<|zp (Ae (s':= .d (.agg [dI e.site,dI e.num,dI e.kind,dI e.v.log,dI e.v.dots, .v (.slice none 0 0), .v (.slice none 0 0),dI 16,dI 0,dI e.dyn, .v (.slice none 0 0),dI 0,dI 0])) (Ac (Ad R R Ax R lb)) (by kernel_rfl))<|?_
 refine XL.step R (Ag (l':= [.d (dI e.site), .d (dI e.num), .d (dI e.kind), .d (dI e.v.log), .d (dI e.v.dots), .d (.v (.slice none 0 0)), .d (.v (.slice none 0 0)), .d (dI 16), .d (dI 0), .d (dI e.dyn), .d (.v (.slice none 0 0)), .d (dI 0), .d (dI 0)]) R R R R Cd R lb (by kernel_rfl))<|zn<|zt<|?_
 exact F8 R (RV.sub (RV.cells R R R Ax lb R) (.agg (.cons (.same R) (.cons (.same R) (.cons (.same R) (.cons (.same R) (.cons (.same R) (.cons (.nil 5) (.cons (.nil 5) (.cons (.same R) (.cons (.same R) (.cons (.same R) (.cons (.nil 2) (.cons (.same R) (.cons (.same R) (.nil)))))))))))))))) (by first|exact Bh (El (by omega) 16 (Cb (by omega) (by omega)))|exact Bh (Ek (by omega) 16 (Cb (by omega) (by omega)))|exact Bh (El (by omega) 0 (Co (by omega)))|exact Bh (Ek (by omega) 0 (Co (by omega)))|exact Bh (Jq (by omega))|exact Bh (Jr (by omega) (by omega) (by omega))|(exfalso;omega))
 refine zi<|zr<|zp (Ab R R Bn)<|zp (Aa R R Ah R R)<|zp (Az R R R)<|zn<|?_
 refine zd R (fun c32=> ?_) (fun c32=> ?_)
 refine Af (by kernel_rfl)<|zp (Ae (s':= .d (.agg [dI 0,dI 0])) (Ac (Be R Kf D8 R)) (by kernel_rfl))<|zp (Ab R R Cz)<|?_
 refine XL.step R (Ag (l':= [.d (dI e.site), .d (dI e.num), .d (dI e.kind), .d (dI 0), .d (dI 0), .d (.v (.slice none 0 0)), .d (.v (.slice none 0 0)), .d (dI 0), .d (dI 0), .d (dI e.dyn), .d (.v (.slice none 0 0)), .d (dI 0), .d (dI 0)]) R R R R F3 R lb (by kernel_rfl))<|zn<|zr<|?_
 refine zp (Ae (s':= .d (.agg [dI e.site,dI e.num,dI e.kind,dI 0,dI 0, .v (.slice none 0 0), .v (.slice none 0 0),dI 0,dI 0,dI e.dyn, .v (.slice none 0 0),dI 0,dI 0])) (Ac (Ad R R Ax R lb)) (by kernel_rfl))<|?_
 refine XL.step R (Ag (l':= [.d (dI e.site), .d (dI e.num), .d (dI e.kind), .d (dI 0), .d (dI 0), .d (.v (.slice none 0 0)), .d (.v (.slice none 0 0)), .d (dI 0), .d (dI 0), .d (dI e.dyn), .d (.v (.slice none 0 0)), .d (dI 0), .d (dI 0)]) R R R R Cd R lb (by kernel_rfl))<|zn<|zt<|?_
 exact F8 R (RV.sub (RV.cells R R R Ax lb R) (.agg (.cons (.same R) (.cons (.same R) (.cons (.same R) (.cons (.same R) (.cons (.same R) (.cons (.nil 5) (.cons (.nil 5) (.cons (.same R) (.cons (.same R) (.cons (.same R) (.cons (.nil 2) (.cons (.same R) (.cons (.same R) (.nil)))))))))))))))) (by first|exact Bh (El (by omega) 16 (Cb (by omega) (by omega)))|exact Bh (Ek (by omega) 16 (Cb (by omega) (by omega)))|exact Bh (El (by omega) 0 (Co (by omega)))|exact Bh (Ek (by omega) 0 (Co (by omega)))|exact Bh (Jq (by omega))|exact Bh (Jr (by omega) (by omega) (by omega))|(exfalso;omega))
 refine zi<|zr<|zp (Ae (s':= .d (.agg [dI e.site,dI e.num,dI e.kind,dI e.v.log,dI e.v.dots, .v (.slice none 0 0), .v (.slice none 0 0),dI 0,dI 0,dI e.dyn, .v (.slice none 0 0),dI 0,dI 0])) (Ac (Ad R R Ax R lb)) (by kernel_rfl))<|?_
 refine XL.step R (Ag (l':= [.d (dI e.site), .d (dI e.num), .d (dI e.kind), .d (dI e.v.log), .d (dI e.v.dots), .d (.v (.slice none 0 0)), .d (.v (.slice none 0 0)), .d (dI 0), .d (dI 0), .d (dI e.dyn), .d (.v (.slice none 0 0)), .d (dI 0), .d (dI 0)]) R R R R Cd R lb (by kernel_rfl))<|zn<|zt<|?_
 exact F8 R (RV.sub (RV.cells R R R Ax lb R) (.agg (.cons (.same R) (.cons (.same R) (.cons (.same R) (.cons (.same R) (.cons (.same R) (.cons (.nil 5) (.cons (.nil 5) (.cons (.same R) (.cons (.same R) (.cons (.same R) (.cons (.nil 2) (.cons (.same R) (.cons (.same R) (.nil)))))))))))))))) (by first|exact Bh (El (by omega) 16 (Cb (by omega) (by omega)))|exact Bh (Ek (by omega) 16 (Cb (by omega) (by omega)))|exact Bh (El (by omega) 0 (Co (by omega)))|exact Bh (Ek (by omega) 0 (Co (by omega)))|exact Bh (Jq (by omega))|exact Bh (Jr (by omega) (by omega) (by omega))|(exfalso;omega))
 refine zk 5 R<|zq R R R<|zn<|Bb (by kernel_rfl) R<|zi<|zr<|zp (Ab R R Bn)<|zp (Aa R R Ah R R)<|zp (Az R R R)<|zn<|?_
 refine zd R (fun c32=> ?_) (fun c32=> ?_)
 refine Af (by kernel_rfl)<|zp (Ae (s':= .d (.agg [dI 0,dI 0])) (Ac (Be R Kf D8 R)) (by kernel_rfl))<|zp (Ab R R Cz)<|?_
 refine XL.step R (Ag (l':= [.d (dI e.site), .d (dI e.num), .d (dI e.kind), .d (dI 0), .d (dI 0), .d (.v (.slice none 0 0)), .d (.v (.slice none 0 0)), .d (dI 0), .d (dI 0), .d (dI e.dyn), .d (.v (.slice none 0 0)), .d (dI 0), .d (dI 0)]) R R R R F3 R lb (by kernel_rfl))<|zn<|zr<|?_
 refine zp (Ae (s':= .d (.agg [dI e.site,dI e.num,dI e.kind,dI 0,dI 0, .v (.slice none 0 0), .v (.slice none 0 0),dI 0,dI 0,dI e.dyn, .v (.slice none 0 0),dI 0,dI 0])) (Ac (Ad R R Ax R lb)) (by kernel_rfl))<|?_
 refine XL.step R (Ag (l':= [.d (dI e.site), .d (dI e.num), .d (dI e.kind), .d (dI 0), .d (dI 0), .d (.v (.slice none 0 0)), .d (.v (.slice none 0 0)), .d (dI 0), .d (dI 0), .d (dI e.dyn), .d (.v (.slice none 0 0)), .d (dI 0), .d (dI 0)]) R R R R Cd R lb (by kernel_rfl))<|zn<|zt<|?_
 exact F8 R (RV.sub (RV.cells R R R Ax lb R) (.agg (.cons (.same R) (.cons (.same R) (.cons (.same R) (.cons (.same R) (.cons (.same R) (.cons (.nil 5) (.cons (.nil 5) (.cons (.same R) (.cons (.same R) (.cons (.same R) (.cons (.nil 2) (.cons (.same R) (.cons (.same R) (.nil)))))))))))))))) (by first|exact Bh (El (by omega) 16 (Cb (by omega) (by omega)))|exact Bh (Ek (by omega) 16 (Cb (by omega) (by omega)))|exact Bh (El (by omega) 0 (Co (by omega)))|exact Bh (Ek (by omega) 0 (Co (by omega)))|exact Bh (Jq (by omega))|exact Bh (Jr (by omega) (by omega) (by omega))|(exfalso;omega))
 refine zi<|zr<|zp (Ae (s':= .d (.agg [dI e.site,dI e.num,dI e.kind,dI e.v.log,dI e.v.dots, .v (.slice none 0 0), .v (.slice none 0 0),dI 0,dI 0,dI e.dyn, .v (.slice none 0 0),dI 0,dI 0])) (Ac (Ad R R Ax R lb)) (by kernel_rfl))<|?_
 refine XL.step R (Ag (l':= [.d (dI e.site), .d (dI e.num), .d (dI e.kind), .d (dI e.v.log), .d (dI e.v.dots), .d (.v (.slice none 0 0)), .d (.v (.slice none 0 0)), .d (dI 0), .d (dI 0), .d (dI e.dyn), .d (.v (.slice none 0 0)), .d (dI 0), .d (dI 0)]) R R R R Cd R lb (by kernel_rfl))<|zn<|zt<|?_
 exact F8 R (RV.sub (RV.cells R R R Ax lb R) (.agg (.cons (.same R) (.cons (.same R) (.cons (.same R) (.cons (.same R) (.cons (.same R) (.cons (.nil 5) (.cons (.nil 5) (.cons (.same R) (.cons (.same R) (.cons (.same R) (.cons (.nil 2) (.cons (.same R) (.cons (.same R) (.nil)))))))))))))))) (by first|exact Bh (El (by omega) 16 (Cb (by omega) (by omega)))|exact Bh (Ek (by omega) 16 (Cb (by omega) (by omega)))|exact Bh (El (by omega) 0 (Co (by omega)))|exact Bh (Ek (by omega) 0 (Co (by omega)))|exact Bh (Jq (by omega))|exact Bh (Jr (by omega) (by omega) (by omega))|(exfalso;omega))
 refine zr<|zp (Az R R R)<|za R R<|zn<|?_
 refine zd R (fun c35=> ?_) (fun c35=> ?_)
 refine zi<|zr<|zp (Ae (s':= .d (.agg [dI e.site,dI e.num,dI e.kind,dI e.v.log,dI e.v.dots, .v (.slice none 0 0), .v (.slice none 0 0),dI 0,dI 0,dI e.dyn, .v (.slice none 0 0),dI 0,dI 0])) (Ac (Ad R R Ax R lb)) (by kernel_rfl))<|?_
 refine XL.step R (Ag (l':= [.d (dI e.site), .d (dI e.num), .d (dI e.kind), .d (dI e.v.log), .d (dI e.v.dots), .d (.v (.slice none 0 0)), .d (.v (.slice none 0 0)), .d (dI 0), .d (dI 0), .d (dI e.dyn), .d (.v (.slice none 0 0)), .d (dI 0), .d (dI 0)]) R R R R Cd R lb (by kernel_rfl))<|zn<|zt<|?_
 exact F8 R (RV.sub (RV.cells R R R Ax lb R) (.agg (.cons (.same R) (.cons (.same R) (.cons (.same R) (.cons (.same R) (.cons (.same R) (.cons (.nil 5) (.cons (.nil 5) (.cons (.same R) (.cons (.same R) (.cons (.same R) (.cons (.nil 2) (.cons (.same R) (.cons (.same R) (.nil)))))))))))))))) (by first|exact Bh (El (by omega) 16 (Cb (by omega) (by omega)))|exact Bh (Ek (by omega) 16 (Cb (by omega) (by omega)))|exact Bh (El (by omega) 0 (Co (by omega)))|exact Bh (Ek (by omega) 0 (Co (by omega)))|exact Bh (Jq (by omega))|exact Bh (Jr (by omega) (by omega) (by omega))|(exfalso;omega))
 refine zr<|zp (Ae (s':= .d (.agg (Ev.c e))) (Ac (Ad R R Ax R lb)) (by kernel_rfl))<|?_
 refine XL.step R (Ag (l':= [.d (dI e.site), .d (dI e.num), .d (dI e.kind), .d (dI e.v.log), .d (dI e.v.dots), .d (.sl 5 (e.heads.map Hd.c)), .d (.sl 5 (e.graces.map Gr.c)), .d (dI e.art), .d (dI e.orn), .d (dI e.dyn), .d (.sl 2 (e.lyr.map Sy.c)), .d (dI e.stem), .d (dI e.beam)]) R R R R Cd R lb (by kernel_rfl))<|zn<|zt<|?_
 exact F8 R (RV.cells R R R Ax lb R) (by first|exact Bh (El (by omega) 16 (Cb (by omega) (by omega)))|exact Bh (Ek (by omega) 16 (Cb (by omega) (by omega)))|exact Bh (El (by omega) 0 (Co (by omega)))|exact Bh (Ek (by omega) 0 (Co (by omega)))|exact Bh (Jq (by omega))|exact Bh (Jr (by omega) (by omega) (by omega))|(exfalso;omega))
 refine Af (by kernel_rfl)<|zp (Az R R R)<|za R R<|zn<|?_
 refine zd R (fun c16=> ?_) (fun c16=> ?_)
 refine zs<|zr<|zp (Ab R R Cy)<|zp (Aa R R Ah R R)<|zp (E4 R R R)<|zm R R<|?_
 refine XL.dec 22 R (fun g22=> ?_) (fun g22=> ?_)
 refine zp (Ab R R Cy)<|zp (Aa R R Ah R R)<|zp (G2 R R R (by omega) (by omega) (by omega))<|zp (F5 R R R (by omega) (by omega))<|zp (Az R R R)<|zq R R R<|zn<|?_
 refine zd R (fun c28=> ?_) (fun c28=> ?_)
 refine Af (by kernel_rfl)<|zp (Ab R R Cy)<|XL.step R (Ag (l':= [.d (dI e.site), .d (dI e.num), .d (dI e.kind), .d (dI e.v.log), .d (dI e.v.dots), .d (.v (.slice none 0 0)), .d (.v (.slice none 0 0)), .d (dI 16), .d (dI 0), .d (dI e.dyn), .d (.v (.slice none 0 0)), .d (dI 0), .d (dI 0)]) R R R R Df R lb (by kernel_rfl))<|znr<|zp (Ab R R Bn)<|?_
 refine zp (Aa R R Ah R R)<|zp (Az R R R)<|zn<|?_
 refine zd R (fun c32=> ?_) (fun c32=> ?_)
 refine Af (by kernel_rfl)<|zp (Ae (s':= .d (.agg [dI 0,dI 0])) (Ac (Be R Kf D8 R)) (by kernel_rfl))<|zp (Ab R R Cz)<|?_
 refine XL.step R (Ag (l':= [.d (dI e.site), .d (dI e.num), .d (dI e.kind), .d (dI 0), .d (dI 0), .d (.v (.slice none 0 0)), .d (.v (.slice none 0 0)), .d (dI 16), .d (dI 0), .d (dI e.dyn), .d (.v (.slice none 0 0)), .d (dI 0), .d (dI 0)]) R R R R F3 R lb (by kernel_rfl))<|zn<|zr<|?_
 refine zp (Ae (s':= .d (.agg [dI e.site,dI e.num,dI e.kind,dI 0,dI 0, .v (.slice none 0 0), .v (.slice none 0 0),dI 16,dI 0,dI e.dyn, .v (.slice none 0 0),dI 0,dI 0])) (Ac (Ad R R Ax R lb)) (by kernel_rfl))<|?_
 refine XL.step R (Ag (l':= [.d (dI e.site), .d (dI e.num), .d (dI e.kind), .d (dI 0), .d (dI 0), .d (.v (.slice none 0 0)), .d (.v (.slice none 0 0)), .d (dI 16), .d (dI 0), .d (dI e.dyn), .d (.v (.slice none 0 0)), .d (dI 0), .d (dI 0)]) R R R R Cd R lb (by kernel_rfl))<|zn<|zt<|?_
 exact F8 R (RV.sub (RV.cells R R R Ax lb R) (.agg (.cons (.same R) (.cons (.same R) (.cons (.same R) (.cons (.same R) (.cons (.same R) (.cons (.nil 5) (.cons (.nil 5) (.cons (.same R) (.cons (.same R) (.cons (.same R) (.cons (.nil 2) (.cons (.same R) (.cons (.same R) (.nil)))))))))))))))) (by first|exact Bh (El (by omega) 16 (Cb (by omega) (by omega)))|exact Bh (Ek (by omega) 16 (Cb (by omega) (by omega)))|exact Bh (El (by omega) 0 (Co (by omega)))|exact Bh (Ek (by omega) 0 (Co (by omega)))|exact Bh (Jq (by omega))|exact Bh (Jr (by omega) (by omega) (by omega))|(exfalso;omega))
 refine zi<|zr<|zp (Ae (s':= .d (.agg [dI e.site,dI e.num,dI e.kind,dI e.v.log,dI e.v.dots, .v (.slice none 0 0), .v (.slice none 0 0),dI 16,dI 0,dI e.dyn, .v (.slice none 0 0),dI 0,dI 0])) (Ac (Ad R R Ax R lb)) (by kernel_rfl))<|?_
 refine XL.step R (Ag (l':= [.d (dI e.site), .d (dI e.num), .d (dI e.kind), .d (dI e.v.log), .d (dI e.v.dots), .d (.v (.slice none 0 0)), .d (.v (.slice none 0 0)), .d (dI 16), .d (dI 0), .d (dI e.dyn), .d (.v (.slice none 0 0)), .d (dI 0), .d (dI 0)]) R R R R Cd R lb (by kernel_rfl))<|zn<|zt<|?_
 exact F8 R (RV.sub (RV.cells R R R Ax lb R) (.agg (.cons (.same R) (.cons (.same R) (.cons (.same R) (.cons (.same R) (.cons (.same R) (.cons (.nil 5) (.cons (.nil 5) (.cons (.same R) (.cons (.same R) (.cons (.same R) (.cons (.nil 2) (.cons (.same R) (.cons (.same R) (.nil)))))))))))))))) (by first|exact Bh (El (by omega) 16 (Cb (by omega) (by omega)))|exact Bh (Ek (by omega) 16 (Cb (by omega) (by omega)))|exact Bh (El (by omega) 0 (Co (by omega)))|exact Bh (Ek (by omega) 0 (Co (by omega)))|exact Bh (Jq (by omega))|exact Bh (Jr (by omega) (by omega) (by omega))|(exfalso;omega))
 refine zi<|zr<|zp (Ab R R Bn)<|zp (Aa R R Ah R R)<|zp (Az R R R)<|zn<|?_
 refine zd R (fun c32=> ?_) (fun c32=> ?_)
 refine Af (by kernel_rfl)<|zp (Ae (s':= .d (.agg [dI 0,dI 0])) (Ac (Be R Kf D8 R)) (by kernel_rfl))<|zp (Ab R R Cz)<|?_
 refine XL.step R (Ag (l':= [.d (dI e.site), .d (dI e.num), .d (dI e.kind), .d (dI 0), .d (dI 0), .d (.v (.slice none 0 0)), .d (.v (.slice none 0 0)), .d (dI 0), .d (dI 0), .d (dI e.dyn), .d (.v (.slice none 0 0)), .d (dI 0), .d (dI 0)]) R R R R F3 R lb (by kernel_rfl))<|zn<|zr<|?_
 refine zp (Ae (s':= .d (.agg [dI e.site,dI e.num,dI e.kind,dI 0,dI 0, .v (.slice none 0 0), .v (.slice none 0 0),dI 0,dI 0,dI e.dyn, .v (.slice none 0 0),dI 0,dI 0])) (Ac (Ad R R Ax R lb)) (by kernel_rfl))<|?_
 refine XL.step R (Ag (l':= [.d (dI e.site), .d (dI e.num), .d (dI e.kind), .d (dI 0), .d (dI 0), .d (.v (.slice none 0 0)), .d (.v (.slice none 0 0)), .d (dI 0), .d (dI 0), .d (dI e.dyn), .d (.v (.slice none 0 0)), .d (dI 0), .d (dI 0)]) R R R R Cd R lb (by kernel_rfl))<|zn<|zt<|?_
 exact F8 R (RV.sub (RV.cells R R R Ax lb R) (.agg (.cons (.same R) (.cons (.same R) (.cons (.same R) (.cons (.same R) (.cons (.same R) (.cons (.nil 5) (.cons (.nil 5) (.cons (.same R) (.cons (.same R) (.cons (.same R) (.cons (.nil 2) (.cons (.same R) (.cons (.same R) (.nil)))))))))))))))) (by first|exact Bh (El (by omega) 16 (Cb (by omega) (by omega)))|exact Bh (Ek (by omega) 16 (Cb (by omega) (by omega)))|exact Bh (El (by omega) 0 (Co (by omega)))|exact Bh (Ek (by omega) 0 (Co (by omega)))|exact Bh (Jq (by omega))|exact Bh (Jr (by omega) (by omega) (by omega))|(exfalso;omega))
 refine zi<|zr<|zp (Ae (s':= .d (.agg [dI e.site,dI e.num,dI e.kind,dI e.v.log,dI e.v.dots, .v (.slice none 0 0), .v (.slice none 0 0),dI 0,dI 0,dI e.dyn, .v (.slice none 0 0),dI 0,dI 0])) (Ac (Ad R R Ax R lb)) (by kernel_rfl))<|?_
 refine XL.step R (Ag (l':= [.d (dI e.site), .d (dI e.num), .d (dI e.kind), .d (dI e.v.log), .d (dI e.v.dots), .d (.v (.slice none 0 0)), .d (.v (.slice none 0 0)), .d (dI 0), .d (dI 0), .d (dI e.dyn), .d (.v (.slice none 0 0)), .d (dI 0), .d (dI 0)]) R R R R Cd R lb (by kernel_rfl))<|zn<|zt<|?_
 exact F8 R (RV.sub (RV.cells R R R Ax lb R) (.agg (.cons (.same R) (.cons (.same R) (.cons (.same R) (.cons (.same R) (.cons (.same R) (.cons (.nil 5) (.cons (.nil 5) (.cons (.same R) (.cons (.same R) (.cons (.same R) (.cons (.nil 2) (.cons (.same R) (.cons (.same R) (.nil)))))))))))))))) (by first|exact Bh (El (by omega) 16 (Cb (by omega) (by omega)))|exact Bh (Ek (by omega) 16 (Cb (by omega) (by omega)))|exact Bh (El (by omega) 0 (Co (by omega)))|exact Bh (Ek (by omega) 0 (Co (by omega)))|exact Bh (Jq (by omega))|exact Bh (Jr (by omega) (by omega) (by omega))|(exfalso;omega))
 refine zk 5 R<|zq R R R<|zn<|Bb (by kernel_rfl) R<|zi<|zr<|zp (Ab R R Bn)<|zp (Aa R R Ah R R)<|zp (Az R R R)<|zn<|?_
 refine zd R (fun c32=> ?_) (fun c32=> ?_)
 refine Af (by kernel_rfl)<|zp (Ae (s':= .d (.agg [dI 0,dI 0])) (Ac (Be R Kf D8 R)) (by kernel_rfl))<|zp (Ab R R Cz)<|?_
 refine XL.step R (Ag (l':= [.d (dI e.site), .d (dI e.num), .d (dI e.kind), .d (dI 0), .d (dI 0), .d (.v (.slice none 0 0)), .d (.v (.slice none 0 0)), .d (dI 0), .d (dI 0), .d (dI e.dyn), .d (.v (.slice none 0 0)), .d (dI 0), .d (dI 0)]) R R R R F3 R lb (by kernel_rfl))<|zn<|zr<|?_
 refine zp (Ae (s':= .d (.agg [dI e.site,dI e.num,dI e.kind,dI 0,dI 0, .v (.slice none 0 0), .v (.slice none 0 0),dI 0,dI 0,dI e.dyn, .v (.slice none 0 0),dI 0,dI 0])) (Ac (Ad R R Ax R lb)) (by kernel_rfl))<|?_
 refine XL.step R (Ag (l':= [.d (dI e.site), .d (dI e.num), .d (dI e.kind), .d (dI 0), .d (dI 0), .d (.v (.slice none 0 0)), .d (.v (.slice none 0 0)), .d (dI 0), .d (dI 0), .d (dI e.dyn), .d (.v (.slice none 0 0)), .d (dI 0), .d (dI 0)]) R R R R Cd R lb (by kernel_rfl))<|zn<|zt<|?_
 exact F8 R (RV.sub (RV.cells R R R Ax lb R) (.agg (.cons (.same R) (.cons (.same R) (.cons (.same R) (.cons (.same R) (.cons (.same R) (.cons (.nil 5) (.cons (.nil 5) (.cons (.same R) (.cons (.same R) (.cons (.same R) (.cons (.nil 2) (.cons (.same R) (.cons (.same R) (.nil)))))))))))))))) (by first|exact Bh (El (by omega) 16 (Cb (by omega) (by omega)))|exact Bh (Ek (by omega) 16 (Cb (by omega) (by omega)))|exact Bh (El (by omega) 0 (Co (by omega)))|exact Bh (Ek (by omega) 0 (Co (by omega)))|exact Bh (Jq (by omega))|exact Bh (Jr (by omega) (by omega) (by omega))|(exfalso;omega))
 refine zi<|zr<|zp (Ae (s':= .d (.agg [dI e.site,dI e.num,dI e.kind,dI e.v.log,dI e.v.dots, .v (.slice none 0 0), .v (.slice none 0 0),dI 0,dI 0,dI e.dyn, .v (.slice none 0 0),dI 0,dI 0])) (Ac (Ad R R Ax R lb)) (by kernel_rfl))<|?_
 refine XL.step R (Ag (l':= [.d (dI e.site), .d (dI e.num), .d (dI e.kind), .d (dI e.v.log), .d (dI e.v.dots), .d (.v (.slice none 0 0)), .d (.v (.slice none 0 0)), .d (dI 0), .d (dI 0), .d (dI e.dyn), .d (.v (.slice none 0 0)), .d (dI 0), .d (dI 0)]) R R R R Cd R lb (by kernel_rfl))<|zn<|zt<|?_
 exact F8 R (RV.sub (RV.cells R R R Ax lb R) (.agg (.cons (.same R) (.cons (.same R) (.cons (.same R) (.cons (.same R) (.cons (.same R) (.cons (.nil 5) (.cons (.nil 5) (.cons (.same R) (.cons (.same R) (.cons (.same R) (.cons (.nil 2) (.cons (.same R) (.cons (.same R) (.nil)))))))))))))))) (by first|exact Bh (El (by omega) 16 (Cb (by omega) (by omega)))|exact Bh (Ek (by omega) 16 (Cb (by omega) (by omega)))|exact Bh (El (by omega) 0 (Co (by omega)))|exact Bh (Ek (by omega) 0 (Co (by omega)))|exact Bh (Jq (by omega))|exact Bh (Jr (by omega) (by omega) (by omega))|(exfalso;omega))
 refine zr<|zp (Az R R R)<|za R R<|zn<|?_
 refine zd R (fun c35=> ?_) (fun c35=> ?_)
 refine zi<|zr<|zp (Ae (s':= .d (.agg [dI e.site,dI e.num,dI e.kind,dI e.v.log,dI e.v.dots, .v (.slice none 0 0), .v (.slice none 0 0),dI 0,dI 0,dI e.dyn, .v (.slice none 0 0),dI 0,dI 0])) (Ac (Ad R R Ax R lb)) (by kernel_rfl))<|?_
 refine XL.step R (Ag (l':= [.d (dI e.site), .d (dI e.num), .d (dI e.kind), .d (dI e.v.log), .d (dI e.v.dots), .d (.v (.slice none 0 0)), .d (.v (.slice none 0 0)), .d (dI 0), .d (dI 0), .d (dI e.dyn), .d (.v (.slice none 0 0)), .d (dI 0), .d (dI 0)]) R R R R Cd R lb (by kernel_rfl))<|zn<|zt<|?_
 exact F8 R (RV.sub (RV.cells R R R Ax lb R) (.agg (.cons (.same R) (.cons (.same R) (.cons (.same R) (.cons (.same R) (.cons (.same R) (.cons (.nil 5) (.cons (.nil 5) (.cons (.same R) (.cons (.same R) (.cons (.same R) (.cons (.nil 2) (.cons (.same R) (.cons (.same R) (.nil)))))))))))))))) (by first|exact Bh (El (by omega) 16 (Cb (by omega) (by omega)))|exact Bh (Ek (by omega) 16 (Cb (by omega) (by omega)))|exact Bh (El (by omega) 0 (Co (by omega)))|exact Bh (Ek (by omega) 0 (Co (by omega)))|exact Bh (Jq (by omega))|exact Bh (Jr (by omega) (by omega) (by omega))|(exfalso;omega))
 refine zr<|zp (Ae (s':= .d (.agg (Ev.c e))) (Ac (Ad R R Ax R lb)) (by kernel_rfl))<|?_
 refine XL.step R (Ag (l':= [.d (dI e.site), .d (dI e.num), .d (dI e.kind), .d (dI e.v.log), .d (dI e.v.dots), .d (.sl 5 (e.heads.map Hd.c)), .d (.sl 5 (e.graces.map Gr.c)), .d (dI e.art), .d (dI e.orn), .d (dI e.dyn), .d (.sl 2 (e.lyr.map Sy.c)), .d (dI e.stem), .d (dI e.beam)]) R R R R Cd R lb (by kernel_rfl))<|zn<|zt<|?_
 exact F8 R (RV.cells R R R Ax lb R) (by first|exact Bh (El (by omega) 16 (Cb (by omega) (by omega)))|exact Bh (Ek (by omega) 16 (Cb (by omega) (by omega)))|exact Bh (El (by omega) 0 (Co (by omega)))|exact Bh (Ek (by omega) 0 (Co (by omega)))|exact Bh (Jq (by omega))|exact Bh (Jr (by omega) (by omega) (by omega))|(exfalso;omega))
theorem X3 (a b:Ev):XC Tryz.prog 56 [.agg (Ev.c a), .agg (Ev.c b)] (fun r=>r=dB (decide (a.same b))):=by
 refine Ao Ade Tryz.func56 R R lb<|zr<|XL.step R (As 2 (l:= [.d (dI a.site), .d (dI a.num), .d (dI a.kind), .d (dI a.v.log), .d (dI a.v.dots), .d (.sl 5 (a.heads.map Hd.c)), .d (.sl 5 (a.graces.map Gr.c)), .d (dI a.art), .d (dI a.orn), .d (dI a.dyn), .d (.sl 2 (a.lyr.map Sy.c)), .d (dI a.stem), .d (dI a.beam)]) R R (by kernel_rfl))<|?_
 refine XL.step R (As 3 (l:= [.d (dI b.site), .d (dI b.num), .d (dI b.kind), .d (dI b.v.log), .d (dI b.v.dots), .d (.sl 5 (b.heads.map Hd.c)), .d (.sl 5 (b.graces.map Gr.c)), .d (dI b.art), .d (dI b.orn), .d (dI b.dyn), .d (.sl 2 (b.lyr.map Sy.c)), .d (dI b.stem), .d (dI b.beam)]) R R (by kernel_rfl))<|za R R<|zn<|zs<|zr<|zp (Ab R R Bn)<|zp (Aa R R Ah R R)<|?_
 refine zp (Ab R R Bn)<|zp (Aa R R Ah R R)<|zp (A9 R R R)<|zm R R<|?_
 refine XL.dec 13 R (fun g13=> ?_) (fun g13=> ?_)
 refine zk 5 R<|zq R R R<|zm R R<|zk 5 R<|zq R R R<|zm R R<|zk 5 R<|zq R R R<|zm R R<|zk 5 R<|zq R R R<|zm R R<|zk 5 R<|zq R R R<|?_
 refine zm R R<|zk 5 R<|zq R R R<|zm R R<|zk 7 R<|zq R R R<|zm R R<|zk 7 R<|zq R R R<|zm R R<|zk 7 R<|zq R R R<|zn<|An (by kernel_rfl) R<|?_
 exact zr<|za R R<|zn<|zt<|z1 R R (rB (Dt fun h=>g13 h.1))
 refine zp (Ab R R Cz)<|zp (Ae (s':= .d (.agg (Val.c a.v))) (Ac (Ad R R Da R lb)) (by kernel_rfl))<|zp (Ab R R Cz)<|zp (Ae (s':= .d (.agg (Val.c b.v))) (Ac (Ad R R Da R lb)) (by kernel_rfl))<|zp (Akc R R R)<|zq R R R<|zm R R<|?_
 refine XL.dec 20 R (fun g20=> ?_) (fun g20=> ?_)
 refine zk 5 R<|zq R R R<|zm R R<|zk 5 R<|zq R R R<|zm R R<|zk 5 R<|zq R R R<|zm R R<|zk 5 R<|zq R R R<|zm R R<|zk 5 R<|zq R R R<|?_
 refine zm R R<|zk 7 R<|zq R R R<|zm R R<|zk 7 R<|zq R R R<|zm R R<|zk 7 R<|zq R R R<|zn<|An (by kernel_rfl) R<|zr<|za R R<|zn<|?_
 exact zt<|z1 R R (rB (Dt fun h=>g20 (by rw [h.2.1];exact ⟨rfl,rfl⟩)))
 refine zp (Ab R R Cy)<|zp (Aa R R Ah R R)<|zp (Ab R R Cy)<|zp (Aa R R Ah R R)<|zp (A9 R R R)<|zq R R R<|zm R R<|?_
 refine XL.dec 27 R (fun g27=> ?_) (fun g27=> ?_)
 refine zk 5 R<|zq R R R<|zm R R<|zk 5 R<|zq R R R<|zm R R<|zk 5 R<|zq R R R<|zm R R<|zk 5 R<|zq R R R<|zm R R<|zk 7 R<|zq R R R<|?_
 exact zm R R<|zk 7 R<|zq R R R<|zm R R<|zk 7 R<|zq R R R<|zn<|An (by kernel_rfl) R<|zr<|za R R<|zn<|zt<|z1 R R (rB (Dt fun h=>g27 h.2.2.1))
 refine zp (Ab R R Gf)<|zp (Aa R R Ah R R)<|zp (Ab R R Gf)<|zp (Aa R R Ah R R)<|zp (A9 R R R)<|zq R R R<|zm R R<|?_
 refine XL.dec 34 R (fun g34=> ?_) (fun g34=> ?_)
 refine zk 5 R<|zq R R R<|zm R R<|zk 5 R<|zq R R R<|zm R R<|zk 5 R<|zq R R R<|zm R R<|zk 7 R<|zq R R R<|zm R R<|zk 7 R<|zq R R R<|?_
 exact zm R R<|zk 7 R<|zq R R R<|zn<|An (by kernel_rfl) R<|zr<|za R R<|zn<|zt<|z1 R R (rB (Dt fun h=>g34 h.2.2.2.1))
 refine zp (Ab R R Ef)<|zp (Aa R R Ah R R)<|zp (Ab R R Ef)<|zp (Aa R R Ah R R)<|zp (A9 R R R)<|zq R R R<|zm R R<|?_
 refine XL.dec 41 R (fun g41=> ?_) (fun g41=> ?_)
 refine zk 5 R<|zq R R R<|zm R R<|zk 5 R<|zq R R R<|zm R R<|zk 7 R<|zq R R R<|zm R R<|zk 7 R<|zq R R R<|zm R R<|zk 7 R<|zq R R R<|?_
 exact zn<|An (by kernel_rfl) R<|zr<|za R R<|zn<|zt<|z1 R R (rB (Dt fun h=>g41 h.2.2.2.2.1))
 refine zp (Ab R R Ea)<|zp (Aa R R Ah R R)<|zp (Ab R R Ea)<|zp (Aa R R Ah R R)<|zp (A9 R R R)<|zq R R R<|zm R R<|?_
 refine XL.dec 48 R (fun g48=> ?_) (fun g48=> ?_)
 refine zk 5 R<|zq R R R<|zm R R<|zk 7 R<|zq R R R<|zm R R<|zk 7 R<|zq R R R<|zm R R<|zk 7 R<|zq R R R<|zn<|An (by kernel_rfl) R<|zr<|?_
 exact za R R<|zn<|zt<|z1 R R (rB (Dt fun h=>g48 h.2.2.2.2.2.1))
 refine zp (Ab R R Fl)<|zp (Aa R R Ah R R)<|zp (Ab R R Fl)<|zp (Aa R R Ah R R)<|zp (A9 R R R)<|zq R R R<|zm R R<|?_
 refine XL.dec 55 R (fun g55=> ?_) (fun g55=> ?_)
 exact zk 7 R<|zq R R R<|zm R R<|zk 7 R<|zq R R R<|zm R R<|zk 7 R<|zq R R R<|zn<|An (by kernel_rfl) R<|zr<|za R R<|zn<|zt<|z1 R R (rB (Dt fun h=>g55 h.2.2.2.2.2.2.1))
 refine zp (Ab R R Bi)<|zp (Aa R R Cx R R)<|XL.len R R R Tryz.underlying48 fun hl58=>zp (Ab R R Bi)<|zp (Aa R R Cx R R)<|XL.len R R R Tryz.underlying48 fun hl61=>zp (A9 R R R)<|zq R R R<|zm R R<|?_
 refine XL.dec 64 R (fun g64=> ?_) (fun g64=> ?_)
 exact zk 7 R<|zq R R R<|zm R R<|zk 7 R<|zq R R R<|zn<|An (by kernel_rfl) R<|zr<|za R R<|zn<|zt<|z1 R R (rB (Dt fun h=>g64 (by rw [h.2.2.2.2.2.2.2.1])))
 refine zp (Ab R R Eg)<|zp (Aa R R It R R)<|XL.len R R R Tryz.underlying57 fun hl67=>zp (Ab R R Eg)<|zp (Aa R R It R R)<|XL.len R R R Tryz.underlying57 fun hl70=>zp (A9 R R R)<|zq R R R<|zm R R<|?_
 refine XL.dec 73 R (fun g73=> ?_) (fun g73=> ?_)
 exact zk 7 R<|zq R R R<|zn<|An (by kernel_rfl) R<|zr<|za R R<|zn<|zt<|z1 R R (rB (Dt fun h=>g73 (by rw [h.2.2.2.2.2.2.2.2.1])))
 refine zp (Ab R R Ee)<|zp (Aa R R Is R R)<|XL.len R R R Tryz.underlying58 fun hl76=>zp (Ab R R Ee)<|zp (Aa R R Is R R)<|XL.len R R R Tryz.underlying58 fun hl79=>zp (A9 R R R)<|zq R R R<|zn<|?_
 refine zd R (fun c81=> ?_) (fun c81=> ?_)
 exact zr<|za R R<|zn<|zt<|z1 R R (rB (Dt fun h=>c81 (by rw [h.2.2.2.2.2.2.2.2.2])))
 refine zi<|zs<|zr<|za R R<|zn<|Ai<|?_
 refine Av (α:=Nat) (fun k=>k≤a.heads.length∧∀j x y,j<k→a.heads[j]? =some x→b.heads[j]? =some y→x=y) (fun k=>mkF [(2, .ptr 2 0 0),(3, .ptr 3 0 0),(5, .d (dI k))]) (fun k=>mkH [(2, .box ((Ev.c a).map S.d)),(3, .box ((Ev.c b).map S.d))]) (fun k=>a.heads.length - k) (0) (⟨Nat.zero_le _,fun j x y h=>absurd h (Nat.not_lt_zero _)⟩) ?_ ?_ ?_
 exact fz ⟨sr,sr,sr,trivial⟩
 exact gz ⟨R,R,trivial⟩
 intro k hk0
 obtain ⟨hk,hf0⟩:=hk0
 refine zs<|zr<|zm R R<|zp (Ab R R Bi)<|zp (Aa R R Cx R R)<|XL.len R R R Tryz.underlying48 fun hl85=>zp (Aq R R R)<|zn<|?_
 refine zd R (fun c86=> ?_) (fun c86=> ?_)
 have hk0a:k<a.heads.length:=by omega
 obtain ⟨x,hx0⟩:=Ap hk0a
 obtain ⟨y,hy0⟩:∃y,b.heads[k]? =some y:=Ap (by omega)
 refine zi<|zs<|Ai<|zs<|Bg [] (by kernel_rfl) (by kernel_rfl) (by kernel_rfl) (by decide)<|yp (Ab R R Bi)<|yp (Aa R R Cx R R)<|ym R R<|yp (Am R R R Gd hx0)<|yp (Ae (s':= .d (.agg (Hd.c x))) (Ar R R Kr lb) (by kernel_rfl))<|yp (Ab R R Bi)<|yp (Aa R R Cx R R)<|ym R R<|yp (Am R R R Gd (hy0))<|?_
 refine yp (Ae (s':= .d (.agg (Hd.c y))) (Ar R R Kr lb) (by kernel_rfl))<|yp (Yf R R R)<|?_
 refine ChK.nil ⟨by kernel_rfl, ?_⟩
 refine zd R (fun c99=> ?_) (fun c99=> ?_)
 exact zr<|za R R<|zn<|zt<|z1 R R (rB (Dt fun h=>Hd.ne_of c99 (by have e:=h.2.2.2.2.2.2.2.1;rw [e] at hx0;rw [hx0] at hy0;cases hy0;rfl)))
 refine zi<|Af (by kernel_rfl)<|zm R R<|zp (Ak R R R (by omega) (by omega))<|za R R<|zn<|?_
 exact Al (k+1) (⟨by omega,fun j x' y' hj hx' hy'=>by by_cases e:j=k;(· subst e;rw [hx0] at hx';rw [hy0] at hy';cases hx';cases hy';exact Hd.eq_of c99);(· exact hf0 j x' y' (by omega) hx' hy')⟩) (by omega) (fz ⟨sr,sr,sr,trivial⟩) (gz ⟨rfl,rfl,trivial⟩)
 have hk0b:k=a.heads.length:=by omega
 have hq0:a.heads=b.heads:=H4 (by omega) (fun j x y hj=>hf0 j x y (by omega))
 refine At<|zs<|zr<|za R R<|zn<|Ai<|?_
 refine Av (α:=Nat) (fun m=>m≤a.graces.length∧∀j x y,j<m→a.graces[j]? =some x→b.graces[j]? =some y→x=y) (fun m=>mkF [(2, .ptr 2 0 0),(3, .ptr 3 0 0),(6, .d (dI m))]) (fun m=>mkH [(2, .box ((Ev.c a).map S.d)),(3, .box ((Ev.c b).map S.d))]) (fun m=>a.graces.length - m) (0) (⟨Nat.zero_le _,fun j x y h=>absurd h (Nat.not_lt_zero _)⟩) ?_ ?_ ?_
 exact fz ⟨sr,sr,sr,trivial⟩
 exact gz ⟨R,R,trivial⟩
 intro m hk2
 obtain ⟨hk,hf2⟩:=hk2
 refine zs<|zr<|zm R R<|zp (Ab R R Eg)<|zp (Aa R R It R R)<|XL.len R R R Tryz.underlying57 fun hl103=>zp (Aq R R R)<|zn<|?_
 refine zd R (fun c104=> ?_) (fun c104=> ?_)
 have hk2a:m<a.graces.length:=by omega
 obtain ⟨x,hx2⟩:=Ap hk2a
 obtain ⟨y,hy2⟩:∃y,b.graces[m]? =some y:=Ap (by omega)
 refine zi<|zs<|Ai<|zs<|Bg [] (by kernel_rfl) (by kernel_rfl) (by kernel_rfl) (by decide)<|yp (Ab R R Eg)<|yp (Aa R R It R R)<|ym R R<|yp (Am R R R Po hx2)<|yp (Ae (s':= .d (.agg (Gr.c x))) (Ar R R Ou lb) (by kernel_rfl))<|yp (Ab R R Eg)<|yp (Aa R R It R R)<|ym R R<|yp (Am R R R Po (hy2))<|?_
 refine yp (Ae (s':= .d (.agg (Gr.c y))) (Ar R R Ou lb) (by kernel_rfl))<|yp (Vy R R R)<|?_
 refine ChK.nil ⟨by kernel_rfl, ?_⟩
 refine zd R (fun c117=> ?_) (fun c117=> ?_)
 exact zr<|za R R<|zn<|zt<|z1 R R (rB (Dt fun h=>Gr.ne_of c117 (by have e:=h.2.2.2.2.2.2.2.2.1;rw [e] at hx2;rw [hx2] at hy2;cases hy2;rfl)))
 refine zi<|Af (by kernel_rfl)<|zm R R<|zp (Ak R R R (by omega) (by omega))<|za R R<|zn<|?_
 exact Al (m+1) (⟨by omega,fun j x' y' hj hx' hy'=>by by_cases e:j=m;(· subst e;rw [hx2] at hx';rw [hy2] at hy';cases hx';cases hy';exact Gr.eq_of c117);(· exact hf2 j x' y' (by omega) hx' hy')⟩) (by omega) (fz ⟨sr,sr,sr,trivial⟩) (gz ⟨rfl,rfl,trivial⟩)
 have hk2b:m=a.graces.length:=by omega
 have hq2:a.graces=b.graces:=H4 (by omega) (fun j x y hj=>hf2 j x y (by omega))
 refine At<|zs<|zr<|za R R<|zn<|Ai<|?_
 refine Av (α:=Nat) (fun n=>n≤a.lyr.length∧∀j x y,j<n→a.lyr[j]? =some x→b.lyr[j]? =some y→x=y) (fun n=>mkF [(2, .ptr 2 0 0),(3, .ptr 3 0 0),(7, .d (dI n))]) (fun n=>mkH [(2, .box ((Ev.c a).map S.d)),(3, .box ((Ev.c b).map S.d))]) (fun n=>a.lyr.length - n) (0) (⟨Nat.zero_le _,fun j x y h=>absurd h (Nat.not_lt_zero _)⟩) ?_ ?_ ?_
 exact fz ⟨sr,sr,sr,trivial⟩
 exact gz ⟨R,R,trivial⟩
 intro n hk4
 obtain ⟨hk,hf4⟩:=hk4
 refine zs<|zr<|zm R R<|zp (Ab R R Ee)<|zp (Aa R R Is R R)<|XL.len R R R Tryz.underlying58 fun hl121=>zp (Aq R R R)<|zn<|?_
 refine zd R (fun c122=> ?_) (fun c122=> ?_)
 have hk4a:n<a.lyr.length:=by omega
 obtain ⟨x,hx4⟩:=Ap hk4a
 obtain ⟨y,hy4⟩:∃y,b.lyr[n]? =some y:=Ap (by omega)
 refine zi<|zs<|Ai<|zs<|Bg [] (by kernel_rfl) (by kernel_rfl) (by kernel_rfl) (by decide)<|yp (Ab R R Ee)<|yp (Aa R R Is R R)<|ym R R<|yp (Am R R R N0 hx4)<|yp (Ae (s':= .d (.agg (Sy.c x))) (Ar R R Iq lb) (by kernel_rfl))<|yp (Ab R R Ee)<|yp (Aa R R Is R R)<|ym R R<|yp (Am R R R N0 (hy4))<|?_
 refine yp (Ae (s':= .d (.agg (Sy.c y))) (Ar R R Iq lb) (by kernel_rfl))<|yp (Vx R R R)<|?_
 refine ChK.nil ⟨by kernel_rfl, ?_⟩
 refine zd R (fun c135=> ?_) (fun c135=> ?_)
 exact zr<|za R R<|zn<|zt<|z1 R R (rB (Dt fun h=>Sy.ne_of c135 (by have e:=h.2.2.2.2.2.2.2.2.2;rw [e] at hx4;rw [hx4] at hy4;cases hy4;rfl)))
 refine zi<|Af (by kernel_rfl)<|zm R R<|zp (Ak R R R (by omega) (by omega))<|za R R<|zn<|?_
 exact Al (n+1) (⟨by omega,fun j x' y' hj hx' hy'=>by by_cases e:j=n;(· subst e;rw [hx4] at hx';rw [hy4] at hy';cases hx';cases hy';exact Sy.eq_of c135);(· exact hf4 j x' y' (by omega) hx' hy')⟩) (by omega) (fz ⟨sr,sr,sr,trivial⟩) (gz ⟨rfl,rfl,trivial⟩)
 have hk4b:n=a.lyr.length:=by omega
 have hq4:a.lyr=b.lyr:=H4 (by omega) (fun j x y hj=>hf4 j x y (by omega))
 exact At<|zr<|za R R<|zn<|zt<|z1 R R (rB (by rw [eq_comm,decide_eq_true_iff];exact ⟨Decidable.not_not.1 g13,Val.eq_of (Decidable.not_not.1 g20),Decidable.not_not.1 g27,Decidable.not_not.1 g34,Decidable.not_not.1 g41,Decidable.not_not.1 g48,Decidable.not_not.1 g55,hq0,hq2,hq4⟩))
theorem Iw {n m:Int} (h:¬(0≤n∧n≤m)):Bk n m=2:=by rw [Bk,if_pos (by omega)]
theorem Iv {n m:Int} (h:0≤n∧n≤m):Bk n m=0:=by rw [Bk,if_neg (by omega)]
theorem Ae1 {l:List Int} (h:∀x∈l,x=0∨x=2) (h2:∃x∈l,x=2):Cq l=2:=by
 induction l with
 |nil=>obtain ⟨_,h,_⟩:=h2;cases h
 |cons x l ih=>
  rw [Cq]
  rcases h x List.mem_cons_self with e|e
  ·rw [if_neg (by omega)]
   refine ih (fun y hy=>h y (List.mem_cons_of_mem _ hy)) ?_
   obtain ⟨y,hy,hy2⟩:=h2
   rcases List.mem_cons.1 hy with k|k
   ·omega
   ·exact ⟨y,k,hy2⟩
  ·rw [if_pos (by omega),e]
theorem Vb (n m:Int):Bk n m=0∨Bk n m=2:=by unfold Bk;split<;>simp
theorem Aqj {e:Ev} (h:¬(0≤e.site∧e.site≤99)∨¬(0≤e.num∧e.num≤1073741824)):e.err=2:=by
 have:e.e1=2:=by
  unfold Ev.e1
  refine Ae1 (fun x hx=> ?_) ?_
  ·simp only [List.mem_cons,List.not_mem_nil,or_false] at hx
   rcases hx with rfl|rfl<;>exact Vb _ _
  ·rcases h with h|h
   ·exact ⟨_,by simp,Iw h⟩
   ·exact ⟨_,by simp,Iw h⟩
 rw [Ev.err,this,if_pos (by decide)]
theorem Eh {e:Ev} (h:0≤e.site∧e.site≤99) (h2:0≤e.num∧e.num≤1073741824):¬e.e1≠0:=by
 refine fun k=>k (first_zero.2 fun x hx=> ?_)
 simp only [List.mem_cons,List.not_mem_nil,or_false] at hx
 rcases hx with rfl|rfl
 ·exact Iv h
 ·exact Iv h2
def Ev.okE (e:Ev):Prop:=(0≤e.art∧e.art≤31)∧(0≤e.orn∧e.orn≤4)∧(0≤e.dyn∧e.dyn≤9)∧(0≤e.stem∧e.stem≤2)∧(0≤e.beam∧e.beam≤2)
theorem Ht {e:Ev} (h:¬e.okE):e.e3=2:=by
 unfold Ev.e3
 refine Ae1 (fun x hx=> ?_) ?_
 ·simp only [List.mem_cons,List.not_mem_nil,or_false] at hx
  rcases hx with rfl|rfl|rfl|rfl|rfl<;>exact Vb _ _
 ·by_cases a:0≤e.art∧e.art≤31
  ·by_cases b:0≤e.orn∧e.orn≤4
   ·by_cases c:0≤e.dyn∧e.dyn≤9
    ·by_cases d:0≤e.stem∧e.stem≤2
     ·by_cases f:0≤e.beam∧e.beam≤2
      ·exact absurd ⟨a,b,c,d,f⟩ h
      ·exact ⟨_,by simp,Iw f⟩
     ·exact ⟨_,by simp,Iw d⟩
    ·exact ⟨_,by simp,Iw c⟩
   ·exact ⟨_,by simp,Iw b⟩
  ·exact ⟨_,by simp,Iw a⟩
theorem Agq {e:Ev} (h:e.okE):e.e3=0:=by
 refine first_zero.2 fun x hx=> ?_
 simp only [List.mem_cons,List.not_mem_nil,or_false] at hx
 obtain ⟨a,b,c,d,f⟩:=h
 rcases hx with rfl|rfl|rfl|rfl|rfl
 ·exact Iv a
 ·exact Iv b
 ·exact Iv c
 ·exact Iv d
 ·exact Iv f
theorem Aqi {e:Ev} (h:Cf e.heads≠0):e.e2=Cf e.heads:=by rw [Ev.e2,Cq,if_pos h]
theorem Aqh {e:Ev} (h:¬Cf e.heads≠0) (h2:E0 e.graces≠0):e.e2=E0 e.graces:=by rw [Ev.e2,Cq,if_neg h,Cq,if_pos h2]
theorem Aqg {e:Ev} (h:¬Cf e.heads≠0) (h2:¬E0 e.graces≠0) (h3:Gw e.lyr≠0):e.e2=Gw e.lyr:=by rw [Ev.e2,Cq,if_neg h,Cq,if_neg h2,Cq,if_pos h3]
theorem Gm {e:Ev} (h:¬Cf e.heads≠0) (h2:¬E0 e.graces≠0) (h3:¬Gw e.lyr≠0):e.e2=0:=by rw [Ev.e2,Cq,if_neg h,Cq,if_neg h2,Cq,if_neg h3];rfl
theorem Ask {e:Ev} (h:¬e.e1≠0) (h2:1≤e.kind∧e.kind≤4) (h3:¬e.same e.strip):e.err=3:=(Al8 h (fun k=>k h2) h3).symm
theorem Ark {e:Ev} (h:¬e.e1≠0) (h2:1≤e.kind∧e.kind≤4) (h3:¬ ¬e.same e.strip) (h4:e.kind≠3) (h5:¬Na e.v):e.err=17:=(Al7 h (fun k=>k h2) h3 h4 (fun k=>h5 (valOk_iff.2 k))).symm
theorem Rj {e:Ev} (h:¬e.e1≠0) (h2:1≤e.kind∧e.kind≤4) (h3:¬ ¬e.same e.strip) (h4:e.kind≠3→Na e.v) (h5:e.kind=1) {n:Int} (h6:e.e2=n) (h7:n≠0):e.err=n:=by
 subst h6;exact (Al6 h (fun k=>k h2) h3 (fun k=>k.2 (valOk_iff.1 (h4 k.1))) h5 h7).symm
theorem E5 {e:Ev} (h:¬e.e1≠0) (h2:1≤e.kind∧e.kind≤4) (h3:¬ ¬e.same e.strip) (h4:e.kind≠3→Na e.v) (h5:e.kind=1→e.e2=0) {n:Int} (h6:e.e3=n):e.err=n:=by
 subst h6;exact (Xc h (fun k=>k h2) h3 (fun k=>k.2 (valOk_iff.1 (h4 k.1))) (fun k=>k.2 (h5 k.1))).symm
theorem Ab3 (e:Ev) (he:e.art≤9223372036854775807):XC Tryz.prog 38 [.agg (Ev.c e)] (fun r=>r=dI e.err):=by
 refine Ao Adn Tryz.func38 R R lb<|zr<|XL.step R (As 1 (l:= [.d (dI e.site), .d (dI e.num), .d (dI e.kind), .d (dI e.v.log), .d (dI e.v.dots), .d (.sl 5 (e.heads.map Hd.c)), .d (.sl 5 (e.graces.map Gr.c)), .d (dI e.art), .d (dI e.orn), .d (dI e.dyn), .d (.sl 2 (e.lyr.map Sy.c)), .d (dI e.stem), .d (dI e.beam)]) R R (by kernel_rfl))<|za R R<|zn<|zs<|zr<|zp (Ab R R Ey)<|?_
 refine zp (Ab R R Y3)<|zp (Aa R R Ah R R)<|XL.call1 R R (D9 _ _ _) R<|zp (Bo R R)<|zm R R<|?_
 refine XL.dec 11 R (fun g11=> ?_) (fun g11=> ?_)
 exact zk 5 R<|zq R R R<|zn<|An (by kernel_rfl) R<|zr<|za R R<|zn<|zt<|z1 R R (rI (Aqj (.inl g11)).symm)
 refine zp (Ab R R Ey)<|zp (Ab R R Y2)<|zp (Aa R R Ah R R)<|XL.call1 R R (D9 _ _ _) R<|zp (Bo R R)<|zq R R R<|zn<|?_
 refine zd R (fun c17=> ?_) (fun c17=> ?_)
 exact zr<|za R R<|zn<|zt<|z1 R R (rI (Aqj (.inr c17)).symm)
 refine zi<|zs<|zr<|zp (Ab R R Bn)<|zp (Aa R R Ah R R)<|XL.call1 R R (D9 _ _ _) R<|zp (Bo R R)<|zn<|?_
 refine zd R (fun c21=> ?_) (fun c21=> ?_)
 exact zr<|za R R<|zn<|zt<|z1 R R (rI (Al9 (Eh (Decidable.not_not.1 g11) (Decidable.not_not.1 c17)) c21))
 refine zi<|zs<|zs<|Bg [] (by kernel_rfl) (by kernel_rfl) (by kernel_rfl) (by decide)<|yp (Ae (s':= .d (.agg (Ev.c e))) (Ac (Ad R R Ax R lb)) (by kernel_rfl))<|yp (Ae (s':= .d (.agg (Ev.c e))) (Ac (Ad R R Ax R lb)) (by kernel_rfl))<|ChK.cons R (CStep.call R (Ahv _ (by assumption)) R)<|ChK.cons R (CStep.call R (X3 _ _) R)<|?_
 refine yp (Bo R R)<|?_
 refine ChK.nil ⟨by kernel_rfl, ?_⟩
 refine zd R (fun c26=> ?_) (fun c26=> ?_)
 exact zr<|za R R<|zn<|zt<|z1 R R (rI (Ask (Eh (Decidable.not_not.1 g11) (Decidable.not_not.1 c17)) (Decidable.not_not.1 c21) c26).symm)
 refine zi<|zs<|zr<|zp (Ab R R Bn)<|zp (Aa R R Ah R R)<|zp (A9 R R R)<|zm R R<|?_
 refine XL.dec 30 R (fun g30=> ?_) (fun g30=> ?_)
 refine zp (Ab R R Cz)<|zp (Ae (s':= .d (.agg (Val.c e.v))) (Ac (Ad R R Da R lb)) (by kernel_rfl))<|XL.call1 R R (Ak1 _) R<|zp (Bo R R)<|zq R R R<|zn<|?_
 refine zd R (fun c35=> ?_) (fun c35=> ?_)
 exact zr<|za R R<|zn<|zt<|z1 R R (rI (Ark (Eh (Decidable.not_not.1 g11) (Decidable.not_not.1 c17)) (Decidable.not_not.1 c21) c26 g30 c35).symm)
 refine zi<|zs<|zr<|zp (Ab R R Bn)<|zp (Aa R R Ah R R)<|zp (Az R R R)<|zn<|?_
 refine zd R (fun c38=> ?_) (fun c38=> ?_)
 refine zs<|zr<|zp (Ab R R Bi)<|zp (Aa R R Cx R R)<|XL.call1 R R (Vs _) R<|za R R<|znr<|zm R R<|zp (A9 R R R)<|zn<|?_
 refine zd R (fun c43=> ?_) (fun c43=> ?_)
 exact zr<|zm R R<|za R R<|zn<|zt<|z1 R R (rI (Rj (Eh (Decidable.not_not.1 g11) (Decidable.not_not.1 c17)) (Decidable.not_not.1 c21) c26 (by first|exact fun _=>Decidable.not_not.1 c35|exact fun k=>absurd k g30) c38 (Aqi c43) c43).symm)
 refine zi<|zs<|zr<|zp (Ab R R Eg)<|zp (Aa R R It R R)<|XL.call1 R R (Tv _) R<|za R R<|znr<|zm R R<|zp (A9 R R R)<|zn<|?_
 refine zd R (fun c49=> ?_) (fun c49=> ?_)
 exact zr<|zm R R<|za R R<|zn<|zt<|z1 R R (rI (Rj (Eh (Decidable.not_not.1 g11) (Decidable.not_not.1 c17)) (Decidable.not_not.1 c21) c26 (by first|exact fun _=>Decidable.not_not.1 c35|exact fun k=>absurd k g30) c38 (Aqh c43 c49) c49).symm)
 refine zi<|zr<|zp (Ab R R Ee)<|zp (Aa R R Is R R)<|XL.call1 R R (Tu _) R<|za R R<|znr<|zm R R<|zp (A9 R R R)<|zn<|?_
 refine zd R (fun c55=> ?_) (fun c55=> ?_)
 exact zr<|zm R R<|za R R<|zn<|zt<|z1 R R (rI (Rj (Eh (Decidable.not_not.1 g11) (Decidable.not_not.1 c17)) (Decidable.not_not.1 c21) c26 (by first|exact fun _=>Decidable.not_not.1 c35|exact fun k=>absurd k g30) c38 (Aqg c43 c49 c55) c55).symm)
 refine zi<|zs<|zr<|zp (Ab R R Cy)<|zp (Aa R R Ah R R)<|XL.call1 R R (D9 _ _ _) R<|zp (Bo R R)<|zm R R<|?_
 refine XL.dec 61 R (fun g61=> ?_) (fun g61=> ?_)
 refine zk 4 R<|zq R R R<|zm R R<|zk 4 R<|zq R R R<|zm R R<|zk 4 R<|zq R R R<|zm R R<|zk 4 R<|zq R R R<|zn<|An (by kernel_rfl) R<|zr<|?_
 exact za R R<|zn<|zt<|z1 R R (rI (E5 (Eh (Decidable.not_not.1 g11) (Decidable.not_not.1 c17)) (Decidable.not_not.1 c21) c26 (by first|exact fun _=>Decidable.not_not.1 c35|exact fun k=>absurd k g30) (by first|exact fun _=>Gm c43 c49 c55|exact fun k=>absurd k c38) (Ht (by unfold Ev.okE;omega))).symm)
 refine zp (Ab R R Gf)<|zp (Aa R R Ah R R)<|XL.call1 R R (D9 _ _ _) R<|zp (Bo R R)<|zq R R R<|zm R R<|?_
 refine XL.dec 67 R (fun g67=> ?_) (fun g67=> ?_)
 exact zk 4 R<|zq R R R<|zm R R<|zk 4 R<|zq R R R<|zm R R<|zk 4 R<|zq R R R<|zn<|An (by kernel_rfl) R<|zr<|za R R<|zn<|zt<|z1 R R (rI (E5 (Eh (Decidable.not_not.1 g11) (Decidable.not_not.1 c17)) (Decidable.not_not.1 c21) c26 (by first|exact fun _=>Decidable.not_not.1 c35|exact fun k=>absurd k g30) (by first|exact fun _=>Gm c43 c49 c55|exact fun k=>absurd k c38) (Ht (by unfold Ev.okE;omega))).symm)
 refine zp (Ab R R Ef)<|zp (Aa R R Ah R R)<|XL.call1 R R (D9 _ _ _) R<|zp (Bo R R)<|zq R R R<|zm R R<|?_
 refine XL.dec 73 R (fun g73=> ?_) (fun g73=> ?_)
 exact zk 4 R<|zq R R R<|zm R R<|zk 4 R<|zq R R R<|zn<|An (by kernel_rfl) R<|zr<|za R R<|zn<|zt<|z1 R R (rI (E5 (Eh (Decidable.not_not.1 g11) (Decidable.not_not.1 c17)) (Decidable.not_not.1 c21) c26 (by first|exact fun _=>Decidable.not_not.1 c35|exact fun k=>absurd k g30) (by first|exact fun _=>Gm c43 c49 c55|exact fun k=>absurd k c38) (Ht (by unfold Ev.okE;omega))).symm)
 refine zp (Ab R R Ea)<|zp (Aa R R Ah R R)<|XL.call1 R R (D9 _ _ _) R<|zp (Bo R R)<|zq R R R<|zm R R<|?_
 refine XL.dec 79 R (fun g79=> ?_) (fun g79=> ?_)
 exact zk 4 R<|zq R R R<|zn<|An (by kernel_rfl) R<|zr<|za R R<|zn<|zt<|z1 R R (rI (E5 (Eh (Decidable.not_not.1 g11) (Decidable.not_not.1 c17)) (Decidable.not_not.1 c21) c26 (by first|exact fun _=>Decidable.not_not.1 c35|exact fun k=>absurd k g30) (by first|exact fun _=>Gm c43 c49 c55|exact fun k=>absurd k c38) (Ht (by unfold Ev.okE;omega))).symm)
 refine zp (Ab R R Fl)<|zp (Aa R R Ah R R)<|XL.call1 R R (D9 _ _ _) R<|zp (Bo R R)<|zq R R R<|zn<|?_
 refine zd R (fun c84=> ?_) (fun c84=> ?_)
 exact zr<|za R R<|zn<|zt<|z1 R R (rI (E5 (Eh (Decidable.not_not.1 g11) (Decidable.not_not.1 c17)) (Decidable.not_not.1 c21) c26 (by first|exact fun _=>Decidable.not_not.1 c35|exact fun k=>absurd k g30) (by first|exact fun _=>Gm c43 c49 c55|exact fun k=>absurd k c38) (Ht (by unfold Ev.okE;omega))).symm)
 exact zi<|zr<|za R R<|zn<|zt<|z1 R R (rI (E5 (Eh (Decidable.not_not.1 g11) (Decidable.not_not.1 c17)) (Decidable.not_not.1 c21) c26 (by first|exact fun _=>Decidable.not_not.1 c35|exact fun k=>absurd k g30) (by first|exact fun _=>Gm c43 c49 c55|exact fun k=>absurd k c38) (Agq (by unfold Ev.okE;omega))).symm)
 refine zi<|zs<|zr<|zp (Ab R R Cy)<|zp (Aa R R Ah R R)<|XL.call1 R R (D9 _ _ _) R<|zp (Bo R R)<|zm R R<|?_
 refine XL.dec 61 R (fun g61=> ?_) (fun g61=> ?_)
 refine zk 4 R<|zq R R R<|zm R R<|zk 4 R<|zq R R R<|zm R R<|zk 4 R<|zq R R R<|zm R R<|zk 4 R<|zq R R R<|zn<|An (by kernel_rfl) R<|zr<|?_
 exact za R R<|zn<|zt<|z1 R R (rI (E5 (Eh (Decidable.not_not.1 g11) (Decidable.not_not.1 c17)) (Decidable.not_not.1 c21) c26 (by first|exact fun _=>Decidable.not_not.1 c35|exact fun k=>absurd k g30) (by first|exact fun _=>Gm c43 c49 c55|exact fun k=>absurd k c38) (Ht (by unfold Ev.okE;omega))).symm)
 refine zp (Ab R R Gf)<|zp (Aa R R Ah R R)<|XL.call1 R R (D9 _ _ _) R<|zp (Bo R R)<|zq R R R<|zm R R<|?_
 refine XL.dec 67 R (fun g67=> ?_) (fun g67=> ?_)
 exact zk 4 R<|zq R R R<|zm R R<|zk 4 R<|zq R R R<|zm R R<|zk 4 R<|zq R R R<|zn<|An (by kernel_rfl) R<|zr<|za R R<|zn<|zt<|z1 R R (rI (E5 (Eh (Decidable.not_not.1 g11) (Decidable.not_not.1 c17)) (Decidable.not_not.1 c21) c26 (by first|exact fun _=>Decidable.not_not.1 c35|exact fun k=>absurd k g30) (by first|exact fun _=>Gm c43 c49 c55|exact fun k=>absurd k c38) (Ht (by unfold Ev.okE;omega))).symm)
 refine zp (Ab R R Ef)<|zp (Aa R R Ah R R)<|XL.call1 R R (D9 _ _ _) R<|zp (Bo R R)<|zq R R R<|zm R R<|?_
 refine XL.dec 73 R (fun g73=> ?_) (fun g73=> ?_)
 exact zk 4 R<|zq R R R<|zm R R<|zk 4 R<|zq R R R<|zn<|An (by kernel_rfl) R<|zr<|za R R<|zn<|zt<|z1 R R (rI (E5 (Eh (Decidable.not_not.1 g11) (Decidable.not_not.1 c17)) (Decidable.not_not.1 c21) c26 (by first|exact fun _=>Decidable.not_not.1 c35|exact fun k=>absurd k g30) (by first|exact fun _=>Gm c43 c49 c55|exact fun k=>absurd k c38) (Ht (by unfold Ev.okE;omega))).symm)
 refine zp (Ab R R Ea)<|zp (Aa R R Ah R R)<|XL.call1 R R (D9 _ _ _) R<|zp (Bo R R)<|zq R R R<|zm R R<|?_
 refine XL.dec 79 R (fun g79=> ?_) (fun g79=> ?_)
 exact zk 4 R<|zq R R R<|zn<|An (by kernel_rfl) R<|zr<|za R R<|zn<|zt<|z1 R R (rI (E5 (Eh (Decidable.not_not.1 g11) (Decidable.not_not.1 c17)) (Decidable.not_not.1 c21) c26 (by first|exact fun _=>Decidable.not_not.1 c35|exact fun k=>absurd k g30) (by first|exact fun _=>Gm c43 c49 c55|exact fun k=>absurd k c38) (Ht (by unfold Ev.okE;omega))).symm)
 refine zp (Ab R R Fl)<|zp (Aa R R Ah R R)<|XL.call1 R R (D9 _ _ _) R<|zp (Bo R R)<|zq R R R<|zn<|?_
 refine zd R (fun c84=> ?_) (fun c84=> ?_)
 exact zr<|za R R<|zn<|zt<|z1 R R (rI (E5 (Eh (Decidable.not_not.1 g11) (Decidable.not_not.1 c17)) (Decidable.not_not.1 c21) c26 (by first|exact fun _=>Decidable.not_not.1 c35|exact fun k=>absurd k g30) (by first|exact fun _=>Gm c43 c49 c55|exact fun k=>absurd k c38) (Ht (by unfold Ev.okE;omega))).symm)
 exact zi<|zr<|za R R<|zn<|zt<|z1 R R (rI (E5 (Eh (Decidable.not_not.1 g11) (Decidable.not_not.1 c17)) (Decidable.not_not.1 c21) c26 (by first|exact fun _=>Decidable.not_not.1 c35|exact fun k=>absurd k g30) (by first|exact fun _=>Gm c43 c49 c55|exact fun k=>absurd k c38) (Agq (by unfold Ev.okE;omega))).symm)
 refine zk 4 R<|zq R R R<|zn<|Bb (by kernel_rfl) R<|zi<|zs<|zr<|zp (Ab R R Bn)<|zp (Aa R R Ah R R)<|zp (Az R R R)<|zn<|?_
 refine zd R (fun c38=> ?_) (fun c38=> ?_)
 refine zs<|zr<|zp (Ab R R Bi)<|zp (Aa R R Cx R R)<|XL.call1 R R (Vs _) R<|za R R<|znr<|zm R R<|zp (A9 R R R)<|zn<|?_
 refine zd R (fun c43=> ?_) (fun c43=> ?_)
 exact zr<|zm R R<|za R R<|zn<|zt<|z1 R R (rI (Rj (Eh (Decidable.not_not.1 g11) (Decidable.not_not.1 c17)) (Decidable.not_not.1 c21) c26 (by first|exact fun _=>Decidable.not_not.1 c35|exact fun k=>absurd k g30) c38 (Aqi c43) c43).symm)
 refine zi<|zs<|zr<|zp (Ab R R Eg)<|zp (Aa R R It R R)<|XL.call1 R R (Tv _) R<|za R R<|znr<|zm R R<|zp (A9 R R R)<|zn<|?_
 refine zd R (fun c49=> ?_) (fun c49=> ?_)
 exact zr<|zm R R<|za R R<|zn<|zt<|z1 R R (rI (Rj (Eh (Decidable.not_not.1 g11) (Decidable.not_not.1 c17)) (Decidable.not_not.1 c21) c26 (by first|exact fun _=>Decidable.not_not.1 c35|exact fun k=>absurd k g30) c38 (Aqh c43 c49) c49).symm)
 refine zi<|zr<|zp (Ab R R Ee)<|zp (Aa R R Is R R)<|XL.call1 R R (Tu _) R<|za R R<|znr<|zm R R<|zp (A9 R R R)<|zn<|?_
 refine zd R (fun c55=> ?_) (fun c55=> ?_)
 exact zr<|zm R R<|za R R<|zn<|zt<|z1 R R (rI (Rj (Eh (Decidable.not_not.1 g11) (Decidable.not_not.1 c17)) (Decidable.not_not.1 c21) c26 (by first|exact fun _=>Decidable.not_not.1 c35|exact fun k=>absurd k g30) c38 (Aqg c43 c49 c55) c55).symm)
 refine zi<|zs<|zr<|zp (Ab R R Cy)<|zp (Aa R R Ah R R)<|XL.call1 R R (D9 _ _ _) R<|zp (Bo R R)<|zm R R<|?_
 refine XL.dec 61 R (fun g61=> ?_) (fun g61=> ?_)
 refine zk 4 R<|zq R R R<|zm R R<|zk 4 R<|zq R R R<|zm R R<|zk 4 R<|zq R R R<|zm R R<|zk 4 R<|zq R R R<|zn<|An (by kernel_rfl) R<|zr<|?_
 exact za R R<|zn<|zt<|z1 R R (rI (E5 (Eh (Decidable.not_not.1 g11) (Decidable.not_not.1 c17)) (Decidable.not_not.1 c21) c26 (by first|exact fun _=>Decidable.not_not.1 c35|exact fun k=>absurd k g30) (by first|exact fun _=>Gm c43 c49 c55|exact fun k=>absurd k c38) (Ht (by unfold Ev.okE;omega))).symm)
 refine zp (Ab R R Gf)<|zp (Aa R R Ah R R)<|XL.call1 R R (D9 _ _ _) R<|zp (Bo R R)<|zq R R R<|zm R R<|?_
 refine XL.dec 67 R (fun g67=> ?_) (fun g67=> ?_)
 exact zk 4 R<|zq R R R<|zm R R<|zk 4 R<|zq R R R<|zm R R<|zk 4 R<|zq R R R<|zn<|An (by kernel_rfl) R<|zr<|za R R<|zn<|zt<|z1 R R (rI (E5 (Eh (Decidable.not_not.1 g11) (Decidable.not_not.1 c17)) (Decidable.not_not.1 c21) c26 (by first|exact fun _=>Decidable.not_not.1 c35|exact fun k=>absurd k g30) (by first|exact fun _=>Gm c43 c49 c55|exact fun k=>absurd k c38) (Ht (by unfold Ev.okE;omega))).symm)
 refine zp (Ab R R Ef)<|zp (Aa R R Ah R R)<|XL.call1 R R (D9 _ _ _) R<|zp (Bo R R)<|zq R R R<|zm R R<|?_
 refine XL.dec 73 R (fun g73=> ?_) (fun g73=> ?_)
 exact zk 4 R<|zq R R R<|zm R R<|zk 4 R<|zq R R R<|zn<|An (by kernel_rfl) R<|zr<|za R R<|zn<|zt<|z1 R R (rI (E5 (Eh (Decidable.not_not.1 g11) (Decidable.not_not.1 c17)) (Decidable.not_not.1 c21) c26 (by first|exact fun _=>Decidable.not_not.1 c35|exact fun k=>absurd k g30) (by first|exact fun _=>Gm c43 c49 c55|exact fun k=>absurd k c38) (Ht (by unfold Ev.okE;omega))).symm)
 refine zp (Ab R R Ea)<|zp (Aa R R Ah R R)<|XL.call1 R R (D9 _ _ _) R<|zp (Bo R R)<|zq R R R<|zm R R<|?_
 refine XL.dec 79 R (fun g79=> ?_) (fun g79=> ?_)
 exact zk 4 R<|zq R R R<|zn<|An (by kernel_rfl) R<|zr<|za R R<|zn<|zt<|z1 R R (rI (E5 (Eh (Decidable.not_not.1 g11) (Decidable.not_not.1 c17)) (Decidable.not_not.1 c21) c26 (by first|exact fun _=>Decidable.not_not.1 c35|exact fun k=>absurd k g30) (by first|exact fun _=>Gm c43 c49 c55|exact fun k=>absurd k c38) (Ht (by unfold Ev.okE;omega))).symm)
 refine zp (Ab R R Fl)<|zp (Aa R R Ah R R)<|XL.call1 R R (D9 _ _ _) R<|zp (Bo R R)<|zq R R R<|zn<|?_
 refine zd R (fun c84=> ?_) (fun c84=> ?_)
 exact zr<|za R R<|zn<|zt<|z1 R R (rI (E5 (Eh (Decidable.not_not.1 g11) (Decidable.not_not.1 c17)) (Decidable.not_not.1 c21) c26 (by first|exact fun _=>Decidable.not_not.1 c35|exact fun k=>absurd k g30) (by first|exact fun _=>Gm c43 c49 c55|exact fun k=>absurd k c38) (Ht (by unfold Ev.okE;omega))).symm)
 exact zi<|zr<|za R R<|zn<|zt<|z1 R R (rI (E5 (Eh (Decidable.not_not.1 g11) (Decidable.not_not.1 c17)) (Decidable.not_not.1 c21) c26 (by first|exact fun _=>Decidable.not_not.1 c35|exact fun k=>absurd k g30) (by first|exact fun _=>Gm c43 c49 c55|exact fun k=>absurd k c38) (Agq (by unfold Ev.okE;omega))).symm)
 refine zi<|zs<|zr<|zp (Ab R R Cy)<|zp (Aa R R Ah R R)<|XL.call1 R R (D9 _ _ _) R<|zp (Bo R R)<|zm R R<|?_
 refine XL.dec 61 R (fun g61=> ?_) (fun g61=> ?_)
 refine zk 4 R<|zq R R R<|zm R R<|zk 4 R<|zq R R R<|zm R R<|zk 4 R<|zq R R R<|zm R R<|zk 4 R<|zq R R R<|zn<|An (by kernel_rfl) R<|zr<|?_
 exact za R R<|zn<|zt<|z1 R R (rI (E5 (Eh (Decidable.not_not.1 g11) (Decidable.not_not.1 c17)) (Decidable.not_not.1 c21) c26 (by first|exact fun _=>Decidable.not_not.1 c35|exact fun k=>absurd k g30) (by first|exact fun _=>Gm c43 c49 c55|exact fun k=>absurd k c38) (Ht (by unfold Ev.okE;omega))).symm)
 refine zp (Ab R R Gf)<|zp (Aa R R Ah R R)<|XL.call1 R R (D9 _ _ _) R<|zp (Bo R R)<|zq R R R<|zm R R<|?_
 refine XL.dec 67 R (fun g67=> ?_) (fun g67=> ?_)
 exact zk 4 R<|zq R R R<|zm R R<|zk 4 R<|zq R R R<|zm R R<|zk 4 R<|zq R R R<|zn<|An (by kernel_rfl) R<|zr<|za R R<|zn<|zt<|z1 R R (rI (E5 (Eh (Decidable.not_not.1 g11) (Decidable.not_not.1 c17)) (Decidable.not_not.1 c21) c26 (by first|exact fun _=>Decidable.not_not.1 c35|exact fun k=>absurd k g30) (by first|exact fun _=>Gm c43 c49 c55|exact fun k=>absurd k c38) (Ht (by unfold Ev.okE;omega))).symm)
 refine zp (Ab R R Ef)<|zp (Aa R R Ah R R)<|XL.call1 R R (D9 _ _ _) R<|zp (Bo R R)<|zq R R R<|zm R R<|?_
 refine XL.dec 73 R (fun g73=> ?_) (fun g73=> ?_)
 exact zk 4 R<|zq R R R<|zm R R<|zk 4 R<|zq R R R<|zn<|An (by kernel_rfl) R<|zr<|za R R<|zn<|zt<|z1 R R (rI (E5 (Eh (Decidable.not_not.1 g11) (Decidable.not_not.1 c17)) (Decidable.not_not.1 c21) c26 (by first|exact fun _=>Decidable.not_not.1 c35|exact fun k=>absurd k g30) (by first|exact fun _=>Gm c43 c49 c55|exact fun k=>absurd k c38) (Ht (by unfold Ev.okE;omega))).symm)
 refine zp (Ab R R Ea)<|zp (Aa R R Ah R R)<|XL.call1 R R (D9 _ _ _) R<|zp (Bo R R)<|zq R R R<|zm R R<|?_
 refine XL.dec 79 R (fun g79=> ?_) (fun g79=> ?_)
 exact zk 4 R<|zq R R R<|zn<|An (by kernel_rfl) R<|zr<|za R R<|zn<|zt<|z1 R R (rI (E5 (Eh (Decidable.not_not.1 g11) (Decidable.not_not.1 c17)) (Decidable.not_not.1 c21) c26 (by first|exact fun _=>Decidable.not_not.1 c35|exact fun k=>absurd k g30) (by first|exact fun _=>Gm c43 c49 c55|exact fun k=>absurd k c38) (Ht (by unfold Ev.okE;omega))).symm)
 refine zp (Ab R R Fl)<|zp (Aa R R Ah R R)<|XL.call1 R R (D9 _ _ _) R<|zp (Bo R R)<|zq R R R<|zn<|?_
 refine zd R (fun c84=> ?_) (fun c84=> ?_)
 exact zr<|za R R<|zn<|zt<|z1 R R (rI (E5 (Eh (Decidable.not_not.1 g11) (Decidable.not_not.1 c17)) (Decidable.not_not.1 c21) c26 (by first|exact fun _=>Decidable.not_not.1 c35|exact fun k=>absurd k g30) (by first|exact fun _=>Gm c43 c49 c55|exact fun k=>absurd k c38) (Ht (by unfold Ev.okE;omega))).symm)
 exact zi<|zr<|za R R<|zn<|zt<|z1 R R (rI (E5 (Eh (Decidable.not_not.1 g11) (Decidable.not_not.1 c17)) (Decidable.not_not.1 c21) c26 (by first|exact fun _=>Decidable.not_not.1 c35|exact fun k=>absurd k g30) (by first|exact fun _=>Gm c43 c49 c55|exact fun k=>absurd k c38) (Agq (by unfold Ev.okE;omega))).symm)
end Go.Proofs.YtcihalbakenleaaGreat
namespace Go.Proofs.YtcihalbakenleaaGreat
open Go.RowKit
theorem dno {p:Prop} [Decidable p] (h:¬p):false=decide p:=(decide_eq_false h).symm
theorem Asl {p:Prop} [Decidable p] (h:p):true=decide p:=(decide_eq_true h).symm
theorem Ev.eqv_iff {a b:Ev}:a.eqv b↔a=b:=by
 constructor
 ·rintro ⟨⟨h1,h2⟩,h3,h4,h5,h6,h7,h8,h9,h10,h11,h12⟩
  obtain ⟨a1,a2,a3,a4,a5,a6,a7,a8,a9,a10,a11,a12⟩:=a
  obtain ⟨b1,b2,b3,b4,b5,b6,b7,b8,b9,b10,b11,b12⟩:=b
  simp only at h1 h2 h3 h4 h5 h6 h7 h8 h9 h10 h11 h12
  subst h1 h2 h3 h4 h5 h6 h7 h8 h9 h10 h11 h12;rfl
 ·rintro rfl
  exact ⟨⟨rfl,rfl⟩,rfl,rfl,rfl,rfl,rfl,rfl,rfl,rfl,rfl,rfl⟩
instance:DecidableEq Ev:=fun a b=>decidable_of_iff _ Ev.eqv_iff
instance:DecidableEq Vo:=fun a b=>decidable_of_iff (a.evs=b.evs∧a.tups=b.tups) ⟨fun h=>by obtain ⟨x,y⟩:=a;obtain ⟨z,t⟩:=b;obtain ⟨rfl,rfl⟩:=h;rfl,fun h=>by rw [h];exact ⟨rfl,rfl⟩⟩
theorem Vo.ext {a b:Vo} (h:a.evs=b.evs) (h2:a.tups=b.tups):a=b:=by obtain ⟨x,y⟩:=a;obtain ⟨z,t⟩:=b;simp only at h h2;subst h h2;rfl
theorem Tp.eq_of {x y:Tp} (h:¬ ¬(x.first=y.first∧x.count=y.count∧x.actual=y.actual∧x.normal=y.normal)):x=y:=by
 obtain ⟨a,b,c,d⟩:=x;obtain ⟨a',b',c',d'⟩:=y;simp only [Decidable.not_not] at h;obtain ⟨rfl,rfl,rfl,rfl⟩:=h;rfl
theorem Tp.ne_of {x y:Tp} (h:¬(x.first=y.first∧x.count=y.count∧x.actual=y.actual∧x.normal=y.normal)):x≠y:=by rintro rfl;exact h ⟨rfl,rfl,rfl,rfl⟩
def G9 (l:List Hd):List Pit:=l.map Hd.p
theorem Yu (a b:Vo):XC Tryz.prog 18 [.agg (Vo.c a), .agg (Vo.c b)] (fun r=>r=dB (decide (a=b))):=by
 refine Ao Adw Tryz.func18 R R lb<|zr<|XL.step R (As 2 (l:= [.d (.sl 13 (a.evs.map Ev.c)), .d (.sl 4 (a.tups.map Tp.c))]) R R (by kernel_rfl))<|XL.step R (As 3 (l:= [.d (.sl 13 (b.evs.map Ev.c)), .d (.sl 4 (b.tups.map Tp.c))]) R R (by kernel_rfl))<|za R R<|zn<|zs<|zr<|zp (Ab R R A1)<|zp (Aa R R Br R R)<|XL.len R R R Tryz.underlying22 fun hl9=>?_
 refine zp (Ab R R A1)<|zp (Aa R R Br R R)<|XL.len R R R Tryz.underlying22 fun hl12=>zp (A9 R R R)<|zm R R<|?_
 refine XL.dec 14 R (fun g14=> ?_) (fun g14=> ?_)
 exact zk 7 R<|zq R R R<|zn<|An (by kernel_rfl) R<|zr<|za R R<|zn<|zt<|z1 R R (rB (dno (fun h=>g14 (by rw [h]))))
 refine zp (Ab R R B3)<|zp (Aa R R B0 R R)<|XL.len R R R Tryz.underlying23 fun hl17=>zp (Ab R R B3)<|zp (Aa R R B0 R R)<|XL.len R R R Tryz.underlying23 fun hl20=>zp (A9 R R R)<|zq R R R<|zn<|?_
 refine zd R (fun c22=> ?_) (fun c22=> ?_)
 exact zr<|za R R<|zn<|zt<|z1 R R (rB (dno (fun h=>c22 (by rw [h]))))
 refine zi<|zs<|zr<|za R R<|zn<|Ai<|?_
 refine Av (α:=Nat) (fun k=>k≤a.evs.length∧∀j x y,j<k→a.evs[j]? =some x→b.evs[j]? =some y→x=y) (fun k=>mkF [(2, .ptr 2 0 0),(3, .ptr 3 0 0),(5, .d (dI k))]) (fun k=>mkH [(2, .box ((Vo.c a).map S.d)),(3, .box ((Vo.c b).map S.d))]) (fun k=>a.evs.length - k) (0) (⟨Nat.zero_le _,fun j x y h=>absurd h (Nat.not_lt_zero _)⟩) ?_ ?_ ?_
 exact fz ⟨sr,sr,sr,trivial⟩
 exact gz ⟨R,R,trivial⟩
 intro k hk0
 obtain ⟨hk,hf0⟩:=hk0
 refine zs<|zr<|zm R R<|zp (Ab R R A1)<|zp (Aa R R Br R R)<|XL.len R R R Tryz.underlying22 fun hl26=>zp (Aq R R R)<|zn<|?_
 refine zd R (fun c27=> ?_) (fun c27=> ?_)
 have hk0a:k<a.evs.length:=by omega
 obtain ⟨x,hx0⟩:=Ap hk0a
 obtain ⟨y,hy0⟩:∃y,b.evs[k]? =some y:=Ap (by omega)
 refine zi<|zs<|Ai<|zs<|?_
 by_cases q42:¬(x.site=y.site∧x.num=y.num)
 refine Bg [] (by kernel_rfl) (by kernel_rfl) (by kernel_rfl) (by decide)<|yp (Ab R R A1)<|yp (Aa R R Br R R)<|ym R R<|yp (Am R R R B7 (hx0))<|yp (Bq R R Ey)<|yp (Ar R R Ju lb)<|yp (Ab R R A1)<|yp (Aa R R Br R R)<|ym R R<|yp (Am R R R B7 (hy0))<|yp (Bq R R Ey)<|yp (Ar R R Ju lb)<|?_
 refine yp (Dv (Yg R R R) (q42))<|ym R R<|ChK.skip R<|ChK.skip R<|ChK.skip R<|ChK.skip R<|ChK.skip R<|ChK.skip R<|ChK.skip R<|ChK.skip R<|ChK.skip R<|ChK.skip R<|ChK.skip R<|ChK.skip R<|?_
 refine yp (A7 R R (by conv=>lhs;whnf))<|?_
 refine ChK.nil ⟨by kernel_rfl, ?_⟩
 exact An (by kernel_rfl) R<|zr<|za R R<|zn<|zt<|z1 R R (rB (dno (fun h=>by subst h;rw [hx0] at hy0;cases hy0;first|exact q42 ⟨rfl,rfl⟩|exact c56 (Ev.eqv_iff.2 rfl).2)))
 refine Bg [] (by kernel_rfl) (by kernel_rfl) (by kernel_rfl) (by decide)<|yp (Ab R R A1)<|yp (Aa R R Br R R)<|ym R R<|yp (Am R R R B7 (hx0))<|yp (Bq R R Ey)<|yp (Ar R R Ju lb)<|yp (Ab R R A1)<|yp (Aa R R Br R R)<|ym R R<|yp (Am R R R B7 (hy0))<|yp (Bq R R Ey)<|yp (Ar R R Ju lb)<|?_
 refine yp (G4 (Yg R R R) (q42))<|ym R R<|yp (Ab R R A1)<|yp (Aa R R Br R R)<|ym R R<|yp (Am R R R B7 (hx0))<|yp (Ae (s':= .d (.agg (Ev.c x))) (Ar R R Ax lb) (by kernel_rfl))<|yp (Ab R R A1)<|yp (Aa R R Br R R)<|ym R R<|yp (Am R R R B7 (hy0))<|?_
 refine yp (Ae (s':= .d (.agg (Ev.c y))) (Ar R R Ax lb) (by kernel_rfl))<|ChK.cons R (CStep.call R (X3 _ _) R)<|yp (Bo R R)<|yp (A7 R R (by conv=>lhs;whnf))<|?_
 refine ChK.nil ⟨by kernel_rfl, ?_⟩
 refine zd R (fun c56=> ?_) (fun c56=> ?_)
 exact zr<|za R R<|zn<|zt<|z1 R R (rB (dno (fun h=>by subst h;rw [hx0] at hy0;cases hy0;first|exact q42 ⟨rfl,rfl⟩|exact c56 (Ev.eqv_iff.2 rfl).2)))
 refine zi<|Af (by kernel_rfl)<|zm R R<|zp (Ak R R R (by omega) (by omega))<|za R R<|zn<|?_
 exact Al (k+1) (⟨by omega,fun j x' y' hj hx' hy'=>by by_cases e:j=k;(· subst e;rw [hx0] at hx';rw [hy0] at hy';cases hx';cases hy';exact Ev.eqv_iff.1 ⟨Decidable.not_not.1 q42,Decidable.not_not.1 c56⟩);(· exact hf0 j x' y' (by omega) hx' hy')⟩) (by omega) (fz ⟨sr,sr,sr,trivial⟩) (gz ⟨rfl,rfl,trivial⟩)
 have hk0b:k=a.evs.length:=by omega
 have hq0:a.evs=b.evs:=H4 (by omega) (fun j x y hj=>hf0 j x y (by omega))
 refine At<|zs<|zr<|za R R<|zn<|Ai<|?_
 refine Av (α:=Nat) (fun m=>m≤a.tups.length∧∀j x y,j<m→a.tups[j]? =some x→b.tups[j]? =some y→x=y) (fun m=>mkF [(2, .ptr 2 0 0),(3, .ptr 3 0 0),(6, .d (dI m))]) (fun m=>mkH [(2, .box ((Vo.c a).map S.d)),(3, .box ((Vo.c b).map S.d))]) (fun m=>a.tups.length - m) (0) (⟨Nat.zero_le _,fun j x y h=>absurd h (Nat.not_lt_zero _)⟩) ?_ ?_ ?_
 exact fz ⟨sr,sr,sr,trivial⟩
 exact gz ⟨R,R,trivial⟩
 intro m hk2
 obtain ⟨hk,hf2⟩:=hk2
 refine zs<|zr<|zm R R<|zp (Ab R R B3)<|zp (Aa R R B0 R R)<|XL.len R R R Tryz.underlying23 fun hl60=>zp (Aq R R R)<|zn<|?_
 refine zd R (fun c61=> ?_) (fun c61=> ?_)
 have hk2a:m<a.tups.length:=by omega
 obtain ⟨x,hx2⟩:=Ap hk2a
 obtain ⟨y,hy2⟩:∃y,b.tups[m]? =some y:=Ap (by omega)
 refine zi<|zs<|Ai<|zs<|Bg [] (by kernel_rfl) (by kernel_rfl) (by kernel_rfl) (by decide)<|yp (Ab R R B3)<|yp (Aa R R B0 R R)<|ym R R<|yp (Am R R R Ex hx2)<|yp (Ae (s':= .d (.agg (Tp.c x))) (Ar R R B8 lb) (by kernel_rfl))<|yp (Ab R R B3)<|yp (Aa R R B0 R R)<|ym R R<|yp (Am R R R Ex (hy2))<|?_
 refine yp (Ae (s':= .d (.agg (Tp.c y))) (Ar R R B8 lb) (by kernel_rfl))<|yp (Ah8 R R R)<|?_
 refine ChK.nil ⟨by kernel_rfl, ?_⟩
 refine zd R (fun c74=> ?_) (fun c74=> ?_)
 exact zr<|za R R<|zn<|zt<|z1 R R (rB (dno (fun h=>by subst h;rw [hx2] at hy2;cases hy2;exact Tp.ne_of c74 rfl)))
 refine zi<|Af (by kernel_rfl)<|zm R R<|zp (Ak R R R (by omega) (by omega))<|za R R<|zn<|?_
 exact Al (m+1) (⟨by omega,fun j x' y' hj hx' hy'=>by by_cases e:j=m;(· subst e;rw [hx2] at hx';rw [hy2] at hy';cases hx';cases hy';exact Tp.eq_of c74);(· exact hf2 j x' y' (by omega) hx' hy')⟩) (by omega) (fz ⟨sr,sr,sr,trivial⟩) (gz ⟨rfl,rfl,trivial⟩)
 have hk2b:m=a.tups.length:=by omega
 have hq2:a.tups=b.tups:=H4 (by omega) (fun j x y hj=>hf2 j x y (by omega))
 exact At<|zr<|za R R<|zn<|zt<|z1 R R (rB (Asl (Vo.ext hq0 hq2)))
def Vo.few (v:Vo):Prop:=(∀e∈v.evs,e.heads.length≤12∧e.graces.length≤12∧e.lyr.length≤12)∧v.evs.length≤130∧v.tups.length≤20
instance (v:Vo):Decidable v.few:=by unfold Vo.few;exact inferInstance
theorem Vo.few.fit {v:Vo} (h:v.few):v.fit:=⟨by have:=h.2.1;omega,by have:=h.2.2;omega,fun e he=>by have:=h.1 e he;exact ⟨by omega,by omega,by omega⟩⟩
theorem Aoc {v:Vo} (h:∀(j:Nat) e,j<v.evs.length→v.evs[j]? =some e→e.heads.length≤12∧e.graces.length≤12∧e.lyr.length≤12):∀e∈v.evs,e.heads.length≤12∧e.graces.length≤12∧e.lyr.length≤12:=fun e he=>by
 obtain ⟨j,hj⟩:=List.getElem?_of_mem he
 exact h j e (List.getElem?_eq_some_iff.1 hj).1 hj
theorem Ap8 (v:Vo):XC Tryz.prog 14 [.agg (Vo.c v)] (fun r=>r=dB (decide v.few)):=by
 refine Ao Adz Tryz.func14 R R lb<|zr<|XL.step R (As 1 (l:= [.d (.sl 13 (v.evs.map Ev.c)), .d (.sl 4 (v.tups.map Tp.c))]) R R (by kernel_rfl))<|za R R<|zn<|zs<|zr<|za R R<|zn<|Ai<|?_
 refine Av (α:=Nat) (fun k=>k≤v.evs.length∧∀(j:Nat) e,j<k→v.evs[j]? =some e→e.heads.length≤12∧e.graces.length≤12∧e.lyr.length≤12) (fun k=>mkF [(1, .ptr 1 0 0),(3, .d (dI k))]) (fun k=>mkH [(1, .box ((Vo.c v).map S.d))]) (fun k=>v.evs.length - k) (0) (⟨Nat.zero_le _,fun j x h=>absurd h (Nat.not_lt_zero _)⟩) ?_ ?_ ?_
 exact fz ⟨sr,sr,trivial⟩
 exact gz ⟨R,trivial⟩
 intro k hk0
 obtain ⟨hk,hf⟩:=hk0
 refine zs<|zr<|zm R R<|zp (Ab R R A1)<|zp (Aa R R Br R R)<|XL.len R R R Tryz.underlying22 fun hl8=>zp (Aq R R R)<|zn<|?_
 refine zd R (fun c9=> ?_) (fun c9=> ?_)
 have hk0a:k<v.evs.length:=by omega
 obtain ⟨x0,hx0⟩:=Ap hk0a
 refine zi<|zs<|Ai<|zr<|zp (Ab R R A1)<|zp (Aa R R Br R R)<|zm R R<|zp (Am R R R B7 hx0)<|zp (Ae (s':= .d (.agg (Ev.c x0))) (Ar R R Ax lb) (by kernel_rfl))<|?_
 refine XL.step R (A0 4 (l:= [.d (dI 0), .d (dI 0), .d (dI 0), .d (dI 0), .d (dI 0), .d (.v (.slice none 0 0)), .d (.v (.slice none 0 0)), .d (dI 0), .d (dI 0), .d (dI 0), .d (.v (.slice none 0 0)), .d (dI 0), .d (dI 0)]) R Cm (by kernel_rfl))<|?_
 refine XL.step R (Ag (l':= [.d (dI x0.site), .d (dI x0.num), .d (dI x0.kind), .d (dI x0.v.log), .d (dI x0.v.dots), .d (.sl 5 (x0.heads.map Hd.c)), .d (.sl 5 (x0.graces.map Gr.c)), .d (dI x0.art), .d (dI x0.orn), .d (dI x0.dyn), .d (.sl 2 (x0.lyr.map Sy.c)), .d (dI x0.stem), .d (dI x0.beam)]) R R R R Cd R lb (by kernel_rfl))<|znr<|zp (Ab R R Bi)<|zp (Aa R R Cx R R)<|?_
 refine XL.len R R R Tryz.underlying48 fun hl19=>zp (A5 R R R)<|zm R R<|?_
 refine XL.dec 21 R (fun g21=> ?_) (fun g21=> ?_)
 exact zk 4 R<|zq R R R<|zm R R<|zk 4 R<|zq R R R<|zn<|An (by kernel_rfl) R<|zr<|za R R<|zn<|zt<|z1 R R (rB (by rw [eq_comm,decide_eq_false_iff_not];intro h;have:=h.1 x0 (List.mem_of_getElem? hx0);omega))
 refine zp (Ab R R Eg)<|zp (Aa R R It R R)<|XL.len R R R Tryz.underlying57 fun hl24=>zp (A5 R R R)<|zq R R R<|zm R R<|?_
 refine XL.dec 27 R (fun g27=> ?_) (fun g27=> ?_)
 exact zk 4 R<|zq R R R<|zn<|An (by kernel_rfl) R<|zr<|za R R<|zn<|zt<|z1 R R (rB (by rw [eq_comm,decide_eq_false_iff_not];intro h;have:=h.1 x0 (List.mem_of_getElem? hx0);omega))
 refine zp (Ab R R Ee)<|zp (Aa R R Is R R)<|XL.len R R R Tryz.underlying58 fun hl30=>zp (A5 R R R)<|zq R R R<|zn<|?_
 refine zd R (fun c32=> ?_) (fun c32=> ?_)
 exact zr<|za R R<|zn<|zt<|z1 R R (rB (by rw [eq_comm,decide_eq_false_iff_not];intro h;have:=h.1 x0 (List.mem_of_getElem? hx0);omega))
 refine zi<|Af (by kernel_rfl)<|zm R R<|zp (Ak R R R (by omega) (by omega))<|za R R<|zn<|?_
 exact Al (k+1) (⟨by omega,fun j e hj he=>by by_cases q:j=k;(· subst q;rw [hx0] at he;cases he;omega);(· exact hf j e (by omega) he)⟩) (by omega) (fz ⟨sr,sr,trivial⟩) (gz ⟨rfl,trivial⟩)
 have hk0b:k=v.evs.length:=by omega
 have hfa:=Aoc (v:=v) (fun j e hj=>hf j e (by omega))
 refine At<|zr<|zp (Ab R R A1)<|zp (Aa R R Br R R)<|XL.len R R R Tryz.underlying22 fun hl35=>zp (Ha R R R)<|zm R R<|?_
 refine XL.dec 37 R (fun g37=> ?_) (fun g37=> ?_)
 exact zp (Ab R R B3)<|zp (Aa R R B0 R R)<|XL.len R R R Tryz.underlying23 fun hl40=>zp (Ha R R R)<|zq R R R<|za R R<|zn<|zt<|z1 R R (rB (by rw [decide_eq_decide];exact ⟨fun h=>⟨hfa,by omega,by omega⟩,fun h=>by have:=h.2.2;omega⟩))
 exact zk 4 R<|zq R R R<|za R R<|zn<|zt<|z1 R R (rB (by rw [eq_comm,decide_eq_false_iff_not];intro h;have:=h.2.1;omega))
theorem Anv:XC Tryz.prog 15 [.agg (Vo.c kV), .agg (Pl.c kP),dI 483840] (fun r=>r= .tup [.agg (Vo.c kW),dI 0]):=by
 have:=Wx kV kP 483840 (fun e he=>by have:=List.mem_singleton.1 he;subst this;decide) (Vo.few.fit (by decide))
 rw [Ap1] at this;exact this
theorem Ant:XC Tryz.prog 20 [.agg (Vo.c kW), .agg (Pl.c kP)] (fun r=>r= .tup [.agg (Vo.c kV),dI 0]):=by
 have:=Ab0 kW kP (fun e he=>by simp [kW] at he;rcases he with rfl|rfl|rfl<;>decide) (Vo.few.fit (by decide))
 rw [Ap0] at this;exact this
theorem Pi  :XC Tryz.prog 13 [] (fun r=>r=dB true):=by
 refine Ao Ad0 Tryz.func13 R R lb<|zr<|za R R<|znr<|zp (Ae (s':= .d (.agg [dI 1,dI 1])) (Ac (Be R Aoy Amd R)) (by kernel_rfl))<|zp (Ae (s':= .d (.agg [dI 0,dI 0,dI 5])) (Ac (Be R Aox Amc R)) (by kernel_rfl))<|zp (Ae (s':= .d (.agg [dI 0,dI 0,dI 5,dB false,dI 0])) (Ac (Be R Aow Md R)) (by kernel_rfl))<|?_
 refine XL.step R (J6 (l:= [kH false].map Hd.c) R Tryz.underlying48 Tk Md (by kernel_rfl) R (by omega) (by omega))<|?_
 refine zp (X8 (.agg (Ev.c (kE 1 ⟨0,0⟩ false))) (Ae (s':= .d (.agg [dI 1,dI 1,dI 1,dI 0,dI 0, .sl 5 ([kH false].map Hd.c), .v (.slice none 0 0),dI 0,dI 0,dI 0, .v (.slice none 0 0),dI 0,dI 0])) (Ac (Be R Oh Cm R)) (by kernel_rfl)) (.agg (.cons (.same R) (.cons (.same R) (.cons (.same R) (.cons (.same R) (.cons (.same R) (.cons (.same R) (.cons (.nil 5) (.cons (.same R) (.cons (.same R) (.cons (.same R) (.cons (.nil 2) (.cons (.same R) (.cons (.same R) (.nil))))))))))))))))<|?_
 refine XL.step R (A0 1 (l:= [.d (dI 0), .d (dI 0), .d (dI 0), .d (dI 0), .d (dI 0), .d (.v (.slice none 0 0)), .d (.v (.slice none 0 0)), .d (dI 0), .d (dI 0), .d (dI 0), .d (.v (.slice none 0 0)), .d (dI 0), .d (dI 0)]) R Cm (by kernel_rfl))<|?_
 refine XL.step R (Ag (l':= [.d (dI (kE 1 ⟨0,0⟩ false).site), .d (dI (kE 1 ⟨0,0⟩ false).num), .d (dI (kE 1 ⟨0,0⟩ false).kind), .d (dI (kE 1 ⟨0,0⟩ false).v.log), .d (dI (kE 1 ⟨0,0⟩ false).v.dots), .d (.sl 5 ((kE 1 ⟨0,0⟩ false).heads.map Hd.c)), .d (.sl 5 ((kE 1 ⟨0,0⟩ false).graces.map Gr.c)), .d (dI (kE 1 ⟨0,0⟩ false).art), .d (dI (kE 1 ⟨0,0⟩ false).orn), .d (dI (kE 1 ⟨0,0⟩ false).dyn), .d (.sl 2 ((kE 1 ⟨0,0⟩ false).lyr.map Sy.c)), .d (dI (kE 1 ⟨0,0⟩ false).stem), .d (dI (kE 1 ⟨0,0⟩ false).beam)]) R R R R Cd R lb (by kernel_rfl))<|?_
 refine znr<|zp (Ae (s':= .d (.agg (Ev.c (kE 1 ⟨0,0⟩ false)))) (Ac (Ad R R Ax R lb)) (by kernel_rfl))<|XL.step R (J6 (l:= [kE 1 ⟨0,0⟩ false].map Ev.c) R Tryz.underlying22 Cd Cm (by kernel_rfl) R (by omega) (by omega))<|?_
 refine zp (X8 (.agg (Vo.c kV)) (Ae (s':= .d (.agg [.sl 13 ([kE 1 ⟨0,0⟩ false].map Ev.c), .v (.slice none 0 0)])) (Ac (Be R Cg Ba R)) (by kernel_rfl)) (.agg (.cons (.same R) (.cons (.nil 4) (.nil)))))<|XL.step R (A0 2 (l:= [.d (.v (.slice none 0 0)), .d (.v (.slice none 0 0))]) R Ba (by kernel_rfl))<|?_
 refine XL.step R (Ag (l':= [.d (.sl 13 (kV.evs.map Ev.c)), .d (.sl 4 (kV.tups.map Tp.c))]) R R R R Bu R lb (by kernel_rfl))<|znr<|zp (Ae (s':= .d (.agg (Me.c kP.m))) (Ac (Be R Ao0 Ame R)) (by kernel_rfl))<|zp (Ae (s':= .d (.agg (Pl.c kP))) (Ac (Be R Aoz Ad2 R)) (by kernel_rfl))<|?_
 refine XL.step R (A0 3 (l:= [.d (dI 0), .d (dI 0), .d (dI 0), .d (dI 0), .d (dI 0), .d (dI 0), .d (dI 0), .d (dI 0), .d (dI 0), .d (dI 0)]) R Ad2 (by kernel_rfl))<|?_
 refine XL.step R (Ag (l':= [.d (dI kP.m.count), .d (dI kP.m.unit), .d (dI kP.m.g0), .d (dI kP.m.g1), .d (dI kP.m.g2), .d (dI kP.m.g3), .d (dI kP.m.g4), .d (dI kP.m.g5), .d (dI kP.off), .d (dI kP.len)]) R R R R Aq0 R lb (by kernel_rfl))<|znr<|zp (Ae (s':= .d (.agg (Vo.c kV))) (Ac (Ad R R Au R lb)) (by kernel_rfl))<|?_
 refine zp (Ae (s':= .d (.agg (Pl.c kP))) (Ac (Ad R R Fu R lb)) (by kernel_rfl))<|XL.call1 R R (Anv) R<|zm R R<|zp (A6 R R R)<|zp (A6 R R R)<|XL.step R (A0 4 (l:= [.d (.v (.slice none 0 0)), .d (.v (.slice none 0 0))]) R Ba (by kernel_rfl))<|?_
 refine XL.step R (Ag (l':= [.d (.sl 13 (kW.evs.map Ev.c)), .d (.sl 4 (kW.tups.map Tp.c))]) R R R R Bu R lb (by kernel_rfl))<|za R R<|znr<|zp (Ae (s':= .d (.agg (Vo.c kW))) (Ac (Ad R R Au R lb)) (by kernel_rfl))<|zp (Ae (s':= .d (.agg (Pl.c kP))) (Ac (Ad R R Fu R lb)) (by kernel_rfl))<|XL.call1 R R (Ant) R<|zm R R<|zp (A6 R R R)<|?_
 refine zp (A6 R R R)<|XL.step R (A0 6 (l:= [.d (.v (.slice none 0 0)), .d (.v (.slice none 0 0))]) R Ba (by kernel_rfl))<|XL.step R (Ag (l':= [.d (.sl 13 (kV.evs.map Ev.c)), .d (.sl 4 (kV.tups.map Tp.c))]) R R R R Bu R lb (by kernel_rfl))<|za R R<|znr<|zm R R<|zp (Dv (Az R R R) (R))<|zm R R<|zp (Ab R R A1)<|zp (Aa R R Br R R)<|?_
 refine XL.len R R R Tryz.underlying22 fun hl35=>zp (Dv (Az R R R) (by decide))<|zq R R R<|zm R R<|zp (Ab R R A1)<|zp (Aa R R Br R R)<|zp (Am (k:=0) R R R B7 ((R:kW.evs[0]? =some (kE 1 ⟨2,0⟩ true))))<|zp (Bq R R Cz)<|zp (Ae (s':= .d (.agg (Val.c (kE 1 ⟨2,0⟩ true).v))) (Ar R R Da lb) (by kernel_rfl))<|?_
 refine zp (Ae (s':= .d (.agg [dI 2,dI 0])) (Ac (Be R Kf D8 R)) (by kernel_rfl))<|zp (Dv (O9 R R R) (by decide))<|zq R R R<|zm R R<|zp (Ab R R A1)<|zp (Aa R R Br R R)<|zp (Am (k:=2) R R R B7 ((R:kW.evs[2]? =some (kE 0 ⟨1,0⟩ false))))<|zp (Bq R R Cz)<|?_
 refine zp (Ae (s':= .d (.agg (Val.c (kE 0 ⟨1,0⟩ false).v))) (Ar R R Da lb) (by kernel_rfl))<|zp (Ae (s':= .d (.agg [dI 1,dI 0])) (Ac (Be R Kf D8 R)) (by kernel_rfl))<|zp (Dv (O9 R R R) (by decide))<|zq R R R<|zm R R<|zp (Ab R R A1)<|zp (Aa R R Br R R)<|?_
 refine zp (Am (k:=1) R R R B7 ((R:kW.evs[1]? =some (kE 0 ⟨2,0⟩ true))))<|zp (Bq R R Bi)<|zp (Aw R R Cx)<|zp (Am (k:=0) R R R Gd ((R:(kE 0 ⟨2,0⟩ true).heads[0]? =some (kH true))))<|zp (Bq R R Dw)<|zp (Ae (s':= .d (dB true)) (Aw R R Jv) (by kernel_rfl))<|zq R R R<|zm R R<|zm R R<|zp (Dv (Az R R R) (R))<|zq R R R<|?_
 refine zm R R<|zp (Ab R R A1)<|zp (Aa R R Br R R)<|XL.len R R R Tryz.underlying22 fun hl73=>zp (Dv (Az R R R) (by decide))<|zq R R R<|zm R R<|zp (Ab R R A1)<|zp (Aa R R Br R R)<|zp (Am (k:=0) R R R B7 ((R:kV.evs[0]? =some (kE 1 ⟨0,0⟩ false))))<|zp (Bq R R Cz)<|?_
 exact zp (Ae (s':= .d (.agg (Val.c (kE 1 ⟨0,0⟩ false).v))) (Ar R R Da lb) (by kernel_rfl))<|zp (Ae (s':= .d (.agg [dI 0,dI 0])) (Ac (Be R Kf D8 R)) (by kernel_rfl))<|zp (Dv (O9 R R R) (by decide))<|zq R R R<|za R R<|zn<|zt<|z1 R R (R)
end Go.Proofs.YtcihalbakenleaaGreat
namespace Go.Proofs.YtcihalbakenleaaGreat
open Go.RowKit
theorem Oj (t:Tp) (n:Int) (ht:t.ok):XC Tryz.prog 97 [.agg (Tp.c t), .v (.int .i64 n)] (fun r=>r=dB (decide (t.has n))):=by
 have h2t:=ht
 simp only [Tp.ok] at h2t
 refine Ao Acg Tryz.func97 R R lb<|zr<|XL.step R (As 2 (l:= [.d (dI t.first), .d (dI t.count), .d (dI t.actual), .d (dI t.normal)]) R R (by kernel_rfl))<|za R R<|znr<|zp (Ab R R Fm)<|zp (Aa R R Ah R R)<|zm R R<|zp (Ha R R R)<|zm R R<|?_
 refine XL.dec 9 R (fun g9=> ?_) (fun g9=> ?_)
 exact zm R R<|zp (Ab R R Fm)<|zp (Aa R R Ah R R)<|zp (Ab R R H3)<|zp (Aa R R Ah R R)<|zp (Ak R R R (by omega) (by omega))<|zp (Aq R R R)<|zq R R R<|za R R<|zn<|zt<|z1 R R (rB (by rw [decide_eq_decide];unfold Tp.has;omega))
 exact zk 7 R<|zq R R R<|za R R<|zn<|zt<|z1 R R (rB (by rw [eq_comm,decide_eq_false_iff_not];unfold Tp.has;omega))
theorem Ah5 (a b:Tp):XC Tryz.prog 146 [.agg (Tp.c a), .agg (Tp.c b)] (fun r=>r=dB (decide (¬b.bef a))):=by
 refine Ao Aaj Tryz.func146 R R lb<|zr<|XL.step R (As 2 (l:= [.d (dI a.first), .d (dI a.count), .d (dI a.actual), .d (dI a.normal)]) R R (by kernel_rfl))<|XL.step R (As 3 (l:= [.d (dI b.first), .d (dI b.count), .d (dI b.actual), .d (dI b.normal)]) R R (by kernel_rfl))<|za R R<|znr<|zp (Ab R R Fm)<|zp (Aa R R Ah R R)<|zp (Ab R R Fm)<|?_
 refine zp (Aa R R Ah R R)<|zp (Aq R R R)<|zm R R<|?_
 refine XL.dec 10 R (fun g10=> ?_) (fun g10=> ?_)
 exact zk 12 R<|zq R R R<|za R R<|zn<|zt<|z1 R R (rB (by rw [eq_comm,decide_eq_true_iff];unfold Tp.bef;omega))
 refine zp (Ab R R Fm)<|zp (Aa R R Ah R R)<|zp (Ab R R Fm)<|zp (Aa R R Ah R R)<|zp (Az R R R)<|zm R R<|?_
 refine XL.dec 16 R (fun g16=> ?_) (fun g16=> ?_)
 exact zp (Ab R R H3)<|zp (Aa R R Ah R R)<|zp (Ab R R H3)<|zp (Aa R R Ah R R)<|zp (A5 R R R)<|zq R R R<|zq R R R<|za R R<|zn<|zt<|z1 R R (rB (by rw [decide_eq_decide];unfold Tp.bef;omega))
 exact zk 5 R<|zq R R R<|zq R R R<|za R R<|zn<|zt<|z1 R R (rB (by rw [eq_comm,decide_eq_false_iff_not];unfold Tp.bef;omega))
def Tp.inside (a b:Tp):Prop:=b.first≤a.first∧a.e≤b.e
instance (a b:Tp):Decidable (a.inside b):=by unfold Tp.inside;exact inferInstance
theorem Ty (a b:Tp) (ha:a.ok) (hb:b.ok):XC Tryz.prog 147 [.agg (Tp.c a), .agg (Tp.c b)] (fun r=>r=dB (decide (a.inside b))):=by
 have h2a:=ha
 have h2b:=hb
 simp only [Tp.ok] at h2a
 simp only [Tp.ok] at h2b
 refine Ao Aai Tryz.func147 R R lb<|zr<|XL.step R (As 2 (l:= [.d (dI a.first), .d (dI a.count), .d (dI a.actual), .d (dI a.normal)]) R R (by kernel_rfl))<|XL.step R (As 3 (l:= [.d (dI b.first), .d (dI b.count), .d (dI b.actual), .d (dI b.normal)]) R R (by kernel_rfl))<|za R R<|znr<|zp (Ab R R Fm)<|zp (Aa R R Ah R R)<|zp (Ab R R Fm)<|?_
 refine zp (Aa R R Ah R R)<|zp (Ha R R R)<|zm R R<|?_
 refine XL.dec 10 R (fun g10=> ?_) (fun g10=> ?_)
 refine zp (Ab R R Fm)<|zp (Aa R R Ah R R)<|zp (Ab R R H3)<|zp (Aa R R Ah R R)<|zp (Ak R R R (by omega) (by omega))<|zp (Ab R R Fm)<|zp (Aa R R Ah R R)<|zp (Ab R R H3)<|zp (Aa R R Ah R R)<|zp (Ak R R R (by omega) (by omega))<|zp (Ha R R R)<|zq R R R<|za R R<|zn<|?_
 exact zt<|z1 R R (rB (by rw [decide_eq_decide];unfold Tp.inside Tp.e;omega))
 exact zk 11 R<|zq R R R<|za R R<|zn<|zt<|z1 R R (rB (by rw [eq_comm,decide_eq_false_iff_not];unfold Tp.inside Tp.e;omega))
theorem Afv {l:List Tp} {k:Nat} (h:k≤l.length):L3 l k=(l.take k).getLast? :=by
 cases k with
 |zero=>rfl
 |succ k=>
  rw [Es,List.getLast?_eq_getElem?,List.length_take,Nat.min_eq_left h,Nat.add_sub_cancel,List.getElem?_take,if_pos (by omega)]
theorem Abu {l:List Tp} {k:Nat} {t:Tp} {n:Int} (h:k≤l.length) (hv:TV (l.take k) n):Hy (L3 l k) t↔¬ ∀a∈l.take k,a.bef t:=by
 rw [Afv h];exact Ps hv.ord
theorem An3 {P:List Tp} {t:Tp} {e:Int} (hb:∀a∈P,a.bef t) (he:t.has e):hits P e≤hits P t.first:=by
 unfold hits
 rw [←List.countP_eq_length_filter, ←List.countP_eq_length_filter]
 refine List.countP_mono_left fun o ho hh=> ?_
 have h7:=(hb o ho).first
 simp only [decide_eq_true_eq] at hh ⊢
 unfold Tp.has at hh he ⊢
 omega
theorem Aeo {P s:List Tp} {t o:Tp} {n e:Int} (hr:Rep P s) (hv:TV P n) (hb:∀a∈P,a.bef t) (ho:o∈P) (h1:t.has e) (h2:o.has e) (h3:¬t.inside o):Dk t (Ck t s):=
 (hr.over hv fun a ha=>(hb a ha).first).2 (.inl ⟨o,ho,by unfold Tp.has at h1 h2;unfold Tp.e;omega,by have:=(hb o ho).first;unfold Tp.inside at h3;omega⟩)
theorem Aen {P s:List Tp} {t:Tp} {n e:Int} (hr:Rep P s) (hv:TV P n) (hb:∀a∈P,a.bef t) (h1:t.has e) (h2:3≤hits P e):Dk t (Ck t s):=
 (hr.over hv fun a ha=>(hb a ha).first).2 (.inr (Nat.le_trans h2 (An3 hb h1)))
theorem Aic {P s:List Tp} {t:Tp} {n:Int} (hr:Rep P s) (hv:TV P n) (hb:∀a∈P,a.bef t) (hi:t.inR n) (h:∀e:Nat,(e:Int)<n→t.has e→(∀o∈P,o.has e→t.inside o)∧hits P e≤2):¬Dk t (Ck t s):=fun k=>by
 have hi2:=hi
 unfold Tp.inR at hi2
 have hf:((t.first.toNat:Nat):Int)=t.first:=by omega
 obtain ⟨h1,h2⟩:=h t.first.toNat (by omega) (by unfold Tp.has;omega)
 rcases (hr.over hv fun a ha=>(hb a ha).first).1 k with ⟨o,ho,k1,k2⟩|k
 ·have:=h1 o ho (by have:=(hb o ho).first;unfold Tp.has;unfold Tp.e at k1;omega)
  unfold Tp.inside at this;omega
 ·rw [hf] at h2;omega
theorem Rq {P s:List Tp} {t:Tp} {n:Int} (hr:Rep P s) (hv:TV P n) (hb:∀a∈P,a.bef t) (hi:t.inR n) (ho:¬Dk t (Ck t s)):TV (P++ [t]) n∧Rep (P++ [t]) (t::Ck t s):=
 ⟨(hv.step hi hb).2 fun k=>ho ((hr.over hv fun a ha=>(hb a ha).first).2 k),hr.snoc (fun a ha=>(hb a ha).first) ho⟩
theorem Ab6 (l:List Tp) (n:Int):XC Tryz.prog 112 [.sl 4 (l.map Tp.c), .v (.int .i64 n)] (fun r=>r=dI (D2 l n)):=by
 refine Ao Abc Tryz.func112 R R lb<|zr<|za R R<|zn<|zs<|zr<|zm R R<|zp (Aq R R R)<|zm R R<|?_
 refine XL.dec 12 R (fun g12=> ?_) (fun g12=> ?_)
 exact zk 2 R<|zq R R R<|zn<|An (by kernel_rfl) R<|zr<|za R R<|zn<|zt<|z1 R R (rI (W4 (by omega)))
 refine zm R R<|zp (A5 R R R)<|zq R R R<|zn<|?_
 refine zd R (fun c15=> ?_) (fun c15=> ?_)
 exact zr<|za R R<|zn<|zt<|z1 R R (rI (W4 (by omega)))
 refine zi<|zs<|zr<|zm R R<|XL.len R R R Tryz.underlying98 fun hl17=>zp (A5 R R R)<|zn<|?_
 refine zd R (fun c18=> ?_) (fun c18=> ?_)
 exact zr<|za R R<|zn<|zt<|z1 R R (rI (Alt (by omega) (by omega) c18))
 refine zi<|zs<|zr<|za R R<|zn<|Ai<|?_
 refine Av (α:=Nat) (fun k=>k≤l.length∧TV (l.take k) n∧Rep (l.take k) (stk l k)∧Ei n (L3 l k) (stk l k) (l.drop k)=Ei n none [] l) (fun k=>mkF [(0, .d (.sl 4 (l.map Tp.c))),(1, .d (dI n)),(5, .d (dI k))]) (fun k=>mkH []) (fun k=>l.length - k) (0) (⟨Nat.zero_le _,TV.nil n,Rep.nil,by rw [List.drop_zero];rfl⟩) ?_ ?_ ?_
 exact fz ⟨sr,sr,sr,trivial⟩
 exact HSub.nil
 intro k hk0
 obtain ⟨hk,hv,hr,hgo⟩:=hk0
 refine zs<|zr<|zm R R<|zm R R<|XL.len R R R Tryz.underlying98 fun hl21=>zp (Aq R R R)<|zn<|?_
 refine zd R (fun c22=> ?_) (fun c22=> ?_)
 have hk0a:k<l.length:=by omega
 obtain ⟨x0,hx0⟩:=Ap hk0a
 refine zi<|zs<|Ai<|zr<|zm R R<|zm R R<|zp (Am R R R Kn hx0)<|zp (Ae (s':= .d (.agg (Tp.c x0))) (Ar R R Gs lb) (by kernel_rfl))<|XL.step R (A0 6 (l:= [.d (dI 0), .d (dI 0), .d (dI 0), .d (dI 0)]) R R8 (by kernel_rfl))<|?_
 refine XL.step R (Ag (l':= [.d (dI x0.first), .d (dI x0.count), .d (dI x0.actual), .d (dI x0.normal)]) R R R R Ahf R lb (by kernel_rfl))<|zn<|zs<|zr<|zp (Ab R R H3)<|zp (Aa R R Ah R R)<|zp (Aq R R R)<|zm R R<|?_
 refine XL.dec 32 R (fun g32=> ?_) (fun g32=> ?_)
 refine zk 4 R<|zq R R R<|zm R R<|zk 3 R<|zq R R R<|zm R R<|zk 7 R<|zq R R R<|zm R R<|zk 3 R<|zq R R R<|zm R R<|zk 3 R<|zq R R R<|?_
 refine zm R R<|zk 3 R<|zq R R R<|zm R R<|zk 3 R<|zq R R R<|zm R R<|zk 5 R<|zq R R R<|zn<|An (by kernel_rfl) R<|zr<|za R R<|zn<|?_
 exact zt<|z1 R R (rI (Dm (by omega) (by omega) (by omega) (by rw [←hgo,C4 hx0 (by unfold Tp.inR;omega)])))
 refine zp (Ab R R H3)<|zp (Aa R R Ah R R)<|zm R R<|zp (A5 R R R)<|zq R R R<|zm R R<|?_
 refine XL.dec 38 R (fun g38=> ?_) (fun g38=> ?_)
 refine zk 3 R<|zq R R R<|zm R R<|zk 7 R<|zq R R R<|zm R R<|zk 3 R<|zq R R R<|zm R R<|zk 3 R<|zq R R R<|zm R R<|zk 3 R<|zq R R R<|?_
 exact zm R R<|zk 3 R<|zq R R R<|zm R R<|zk 5 R<|zq R R R<|zn<|An (by kernel_rfl) R<|zr<|za R R<|zn<|zt<|z1 R R (rI (Dm (by omega) (by omega) (by omega) (by rw [←hgo,C4 hx0 (by unfold Tp.inR;omega)])))
 refine zp (Ab R R Fm)<|zp (Aa R R Ah R R)<|zp (Aq R R R)<|zq R R R<|zm R R<|?_
 refine XL.dec 43 R (fun g43=> ?_) (fun g43=> ?_)
 refine zk 7 R<|zq R R R<|zm R R<|zk 3 R<|zq R R R<|zm R R<|zk 3 R<|zq R R R<|zm R R<|zk 3 R<|zq R R R<|zm R R<|zk 3 R<|zq R R R<|?_
 exact zm R R<|zk 5 R<|zq R R R<|zn<|An (by kernel_rfl) R<|zr<|za R R<|zn<|zt<|z1 R R (rI (Dm (by omega) (by omega) (by omega) (by rw [←hgo,C4 hx0 (by unfold Tp.inR;omega)])))
 refine zp (Ab R R Fm)<|zp (Aa R R Ah R R)<|zm R R<|zp (Ab R R H3)<|zp (Aa R R Ah R R)<|zp (Di R R R (by omega) (by omega))<|zp (A5 R R R)<|zq R R R<|zm R R<|?_
 refine XL.dec 52 R (fun g52=> ?_) (fun g52=> ?_)
 refine zk 3 R<|zq R R R<|zm R R<|zk 3 R<|zq R R R<|zm R R<|zk 3 R<|zq R R R<|zm R R<|zk 3 R<|zq R R R<|zm R R<|zk 5 R<|zq R R R<|?_
 exact zn<|An (by kernel_rfl) R<|zr<|za R R<|zn<|zt<|z1 R R (rI (Dm (by omega) (by omega) (by omega) (by rw [←hgo,C4 hx0 (by unfold Tp.inR;omega)])))
 refine zp (Ab R R Ll)<|zp (Aa R R Ah R R)<|zp (Aq R R R)<|zq R R R<|zm R R<|?_
 refine XL.dec 57 R (fun g57=> ?_) (fun g57=> ?_)
 refine zk 3 R<|zq R R R<|zm R R<|zk 3 R<|zq R R R<|zm R R<|zk 3 R<|zq R R R<|zm R R<|zk 5 R<|zq R R R<|zn<|An (by kernel_rfl) R<|zr<|?_
 exact za R R<|zn<|zt<|z1 R R (rI (Dm (by omega) (by omega) (by omega) (by rw [←hgo,C4 hx0 (by unfold Tp.inR;omega)])))
 refine zp (Ab R R Ll)<|zp (Aa R R Ah R R)<|zp (A5 R R R)<|zq R R R<|zm R R<|?_
 refine XL.dec 62 R (fun g62=> ?_) (fun g62=> ?_)
 exact zk 3 R<|zq R R R<|zm R R<|zk 3 R<|zq R R R<|zm R R<|zk 5 R<|zq R R R<|zn<|An (by kernel_rfl) R<|zr<|za R R<|zn<|zt<|z1 R R (rI (Dm (by omega) (by omega) (by omega) (by rw [←hgo,C4 hx0 (by unfold Tp.inR;omega)])))
 refine zp (Ab R R Nx)<|zp (Aa R R Ah R R)<|zp (Aq R R R)<|zq R R R<|zm R R<|?_
 refine XL.dec 67 R (fun g67=> ?_) (fun g67=> ?_)
 exact zk 3 R<|zq R R R<|zm R R<|zk 5 R<|zq R R R<|zn<|An (by kernel_rfl) R<|zr<|za R R<|zn<|zt<|z1 R R (rI (Dm (by omega) (by omega) (by omega) (by rw [←hgo,C4 hx0 (by unfold Tp.inR;omega)])))
 refine zp (Ab R R Nx)<|zp (Aa R R Ah R R)<|zp (A5 R R R)<|zq R R R<|zm R R<|?_
 refine XL.dec 72 R (fun g72=> ?_) (fun g72=> ?_)
 exact zk 5 R<|zq R R R<|zn<|An (by kernel_rfl) R<|zr<|za R R<|zn<|zt<|z1 R R (rI (Dm (by omega) (by omega) (by omega) (by rw [←hgo,C4 hx0 (by unfold Tp.inR;omega)])))
 refine zp (Ab R R Ll)<|zp (Aa R R Ah R R)<|zp (Ab R R Nx)<|zp (Aa R R Ah R R)<|zp (Az R R R)<|zq R R R<|zn<|?_
 refine zd R (fun c78=> ?_) (fun c78=> ?_)
 exact zr<|za R R<|zn<|zt<|z1 R R (rI (Dm (by omega) (by omega) (by omega) (by rw [←hgo,C4 hx0 (by unfold Tp.inR;omega)])))
 have hin:x0.inR n:=by unfold Tp.inR;omega
 have hok:x0.ok:=hin.ok (by omega)
 refine zi<|zs<|zs<|?_
 by_cases q80:(0:Int)<(k:Int)
 obtain ⟨q,hq⟩:∃q,l[k - 1]? =some q:=Ap (by omega)
 refine Bg [] (by kernel_rfl) (by kernel_rfl) (by kernel_rfl) (by decide)<|ym R R<|yp (Dv (A5 R R R) (q80))<|ym R R<|yp (Ae (s':= .d (.agg (Tp.c x0))) (Ac (Ad R R Gs R lb)) (by kernel_rfl))<|ym R R<|ym R R<|yp (Di R R R (by omega) (by omega))<|yp (Eu R R R (by omega) Kn (hq))<|?_
 refine yp (Ae (s':= .d (.agg (Tp.c q))) (Ar R R Gs lb) (by kernel_rfl))<|ChK.cons R (CStep.call R (Ah5 _ _) R)<|yp (A7 R R (by conv=>lhs;whnf))<|?_
 refine ChK.nil ⟨by kernel_rfl, ?_⟩
 refine zd R (fun c89=> ?_) (fun c89=> ?_)
 exact zr<|za R R<|zn<|zt<|z1 R R (rI (Dm (by omega) (by omega) (by omega) (by rw [←hgo,Rs hx0 hin ((Pt (by omega) hq).2 (Decidable.not_not.1 fun hno=>c89 ((U6 _ _).2 hno)))])))
 have hna:¬Hy (L3 l k) x0:=fun h=>c89 (fun hbf=>(U6 _ _).1 hbf ((Pt (by omega) hq).1 h))
 have hb:=Decidable.not_not.1 (fun j=>hna ((Abu (by omega) hv).2 j))
 refine zi<|zr<|za R R<|zn<|Ai<|?_
 refine Av (α:=Nat) (fun m=>(m:Int)≤n∧∀e:Nat,e<m→x0.has e→(∀o∈l.take k,o.has e→x0.inside o)∧hits (l.take k) e≤2) (fun m=>mkF [(0, .d (.sl 4 (l.map Tp.c))),(1, .d (dI n)),(5, .d (dI k)),(6, .ptr 6 0 0),(7, .d (dI (m:Nat)))]) (fun m=>mkH [(6, .box ((Tp.c x0).map S.d))]) (fun m=>n.toNat - m) (0) (⟨by omega,fun e h=>absurd h (Nat.not_lt_zero _)⟩) ?_ ?_ ?_
 exact fz ⟨sr,sr,sr,sr,sr,trivial⟩
 exact gz ⟨R,trivial⟩
 intro m hk2
 obtain ⟨hm,hall⟩:=hk2
 refine zs<|zr<|zm R R<|zm R R<|zp (Aq R R R)<|zn<|?_
 refine zd R (fun c92=> ?_) (fun c92=> ?_)
 refine zi<|zs<|Ai<|zr<|za R R<|zn<|zs<|zr<|za R R<|zn<|Ai<|?_
 refine Av (α:=Nat) (fun j=>j≤k∧(x0.has m→∀o∈l.take j,o.has m→x0.inside o)) (fun j=>mkF [(0, .d (.sl 4 (l.map Tp.c))),(1, .d (dI n)),(5, .d (dI k)),(6, .ptr 6 0 0),(7, .d (dI (m:Nat))),(8, .d (dI (if x0.has m then (hits (l.take j) m:Int) else 0))),(9, .d (dI (j:Nat)))]) (fun j=>mkH [(6, .box ((Tp.c x0).map S.d))]) (fun j=>k - j) (0) (⟨Nat.zero_le _,fun _ o ho=>(by cases ho)⟩) ?_ ?_ ?_
 exact fz ⟨sr,sr,sr,sr,sr, .same (sI (by split<;>rfl)),sr,trivial⟩
 exact gz ⟨R,trivial⟩
 intro j hk4
 obtain ⟨hj,hall4⟩:=hk4
 refine zs<|zr<|zm R R<|zm R R<|zp (Aq R R R)<|zn<|?_
 refine zd R (fun c97=> ?_) (fun c97=> ?_)
 have hjk2:j<k:=by omega
 obtain ⟨y,hy⟩:∃y,l[j]? =some y:=Ap (by omega)
 have hym:y∈l.take k:=List.mem_of_getElem? (by rw [List.getElem?_take,if_pos hjk2];exact hy)
 have hyok:=(hv.inR y hym).ok (by omega)
 have hhl:=S1 (l.take j) m
 have htl:(l.take j).length≤j:=List.length_take_le _ _
 refine zi<|zs<|Ai<|zs<|zr<|zp (Ae (s':= .d (.agg (Tp.c x0))) (Ac (Ad R R Gs R lb)) (by kernel_rfl))<|zm R R<|XL.call1 R R (Oj _ _ (by assumption)) R<|zp (Bo R R)<|zm R R<|?_
 refine XL.dec 104 R (fun g104=> ?_) (fun g104=> ?_)
 refine zk 7 R<|zq R R R<|zn<|An (by kernel_rfl) R<|At<|Af (by kernel_rfl)<|zm R R<|zp (Ak R R R (by omega) (by omega))<|za R R<|zn<|?_
 exact Al (j+1) (⟨by omega,fun h=>absurd h g104⟩) (by omega) (fz ⟨sr,sr,sr,sr,sr, .same (sI (by rw [if_neg g104,if_neg g104])),sr,trivial⟩) (gz ⟨rfl,trivial⟩)
 refine zm R R<|zm R R<|zp (Am R R R Kn (hy))<|zp (Ae (s':= .d (.agg (Tp.c y))) (Ar R R Gs lb) (by kernel_rfl))<|zm R R<|XL.call1 R R (Oj _ _ (by assumption)) R<|zp (Bo R R)<|zq R R R<|zn<|?_
 refine zd R (fun c112=> ?_) (fun c112=> ?_)
 refine At<|Af (by kernel_rfl)<|zm R R<|zp (Ak R R R (by omega) (by omega))<|za R R<|zn<|?_
 exact Al (j+1) (⟨by omega,fun h o ho hh=>by rw [Bp hy] at ho;rcases List.mem_append.1 ho with q|q;(· exact hall4 h o q hh);(· rw [List.mem_singleton.1 q] at hh;exact absurd hh c112)⟩) (by omega) (fz ⟨sr,sr,sr,sr,sr, .same (sI (by rw [if_pos (Decidable.not_not.1 g104),if_pos (Decidable.not_not.1 g104),U2 hy c112])),sr,trivial⟩) (gz ⟨rfl,trivial⟩)
 refine zi<|zs<|?_
 have hd1:(if x0.has m then (hits (l.take j) m:Int) else 0)≤16:=by split<;>omega
 have hd0:0≤(if x0.has m then (hits (l.take j) m:Int) else 0):=by split<;>omega
 refine Af (by kernel_rfl)<|zm R R<|zp (Ak R R R (by omega) (by omega))<|za R R<|zn<|zs<|Bg [] (by kernel_rfl) (by kernel_rfl) (by kernel_rfl) (by decide)<|yp (Ae (s':= .d (.agg (Tp.c x0))) (Ac (Ad R R Gs R lb)) (by kernel_rfl))<|ym R R<|ym R R<|yp (Am R R R Kn (hy))<|yp (Ae (s':= .d (.agg (Tp.c y))) (Ar R R Gs lb) (by kernel_rfl))<|?_
 refine ChK.cons R (CStep.call R (Ty _ _ (by assumption) (by assumption)) R)<|yp (Bo R R)<|?_
 refine ChK.nil ⟨by kernel_rfl, ?_⟩
 refine zd R (fun c121=> ?_) (fun c121=> ?_)
 exact zr<|za R R<|zn<|zt<|z1 R R (rI (Dm (by omega) (by omega) (by omega) (by rw [←hgo,Er hx0 hin hna (Aeo hr hv hb hym (Decidable.not_not.1 g104) (Decidable.not_not.1 c112) c121)])))
 refine zi<|Af (by kernel_rfl)<|zm R R<|zp (Ak R R R (by omega) (by omega))<|za R R<|zn<|?_
 exact Al (j+1) (⟨by omega,fun h o ho hh=>by rw [Bp hy] at ho;rcases List.mem_append.1 ho with q|q;(· exact hall4 h o q hh);(· rw [List.mem_singleton.1 q];exact Decidable.not_not.1 c121)⟩) (by omega) (fz ⟨sr,sr,sr,sr,sr, .same (sI (by rw [if_pos (Decidable.not_not.1 g104),if_pos (Decidable.not_not.1 g104),S0 hy (Decidable.not_not.1 c112)];rfl)),sr,trivial⟩) (gz ⟨rfl,trivial⟩)
 have hjk:j=k:=by omega
 refine At<|zr<|zm R R<|zp (E4 R R R)<|zn<|?_
 refine zd R (fun c123=> ?_) (fun c123=> ?_)
 exact zr<|za R R<|zn<|zt<|z1 R R (rI (Dm (by omega) (by omega) (by omega) (by rw [←hgo,Er hx0 hin hna (by split at c123;(· rename_i hh;exact Aen hr hv hb hh (by rw [←hjk];omega));(· omega))])))
 refine zi<|Af (by kernel_rfl)<|zm R R<|zp (Ak R R R (by omega) (by omega))<|za R R<|zn<|?_
 exact Al (m+1) (⟨by omega,fun e he hh=>by by_cases q:e=m;(· subst q;rw [if_pos hh] at c123;exact ⟨fun o ho=>hall4 hh o (by rw [hjk];exact ho),by rw [←hjk];omega⟩);(· exact hall e (by omega) hh)⟩) (by omega) (fz ⟨sr,sr,sr,sr,sr,trivial⟩) (gz ⟨rfl,trivial⟩)
 have hov:=Aic hr hv hb hin (fun e he=>hall e (by omega))
 refine At<|Af (by kernel_rfl)<|zm R R<|zp (Ak R R R (by omega) (by omega))<|za R R<|zn<|?_
 exact Al (k+1) (⟨by omega,by rw [Bp hx0];exact (Rq hr hv hb hin hov).1,by rw [Bp hx0,B2 hx0];exact (Rq hr hv hb hin hov).2,by rw [Es,hx0,B2 hx0, ←F1 hx0 hin hna hov];exact hgo⟩) (by omega) (fz ⟨sr,sr,sr,trivial⟩) (HSub.nil)
 have hna:=Um (l:=l) (t:=x0) q80
 have hb:=Decidable.not_not.1 (fun j=>hna ((Abu (by omega) hv).2 j))
 refine Bg [] (by kernel_rfl) (by kernel_rfl) (by kernel_rfl) (by decide)<|ym R R<|yp (G4 (A5 R R R) (q80))<|ym R R<|ChK.skip R<|ChK.skip R<|ChK.skip R<|ChK.skip R<|ChK.skip R<|ChK.skip R<|ChK.skip R<|yp (A7 R R (by conv=>lhs;whnf))<|?_
 refine ChK.nil ⟨by kernel_rfl, ?_⟩
 refine Bb (by kernel_rfl) R<|zi<|zr<|za R R<|zn<|Ai<|?_
 refine Av (α:=Nat) (fun m=>(m:Int)≤n∧∀e:Nat,e<m→x0.has e→(∀o∈l.take k,o.has e→x0.inside o)∧hits (l.take k) e≤2) (fun m=>mkF [(0, .d (.sl 4 (l.map Tp.c))),(1, .d (dI n)),(5, .d (dI k)),(6, .ptr 6 0 0),(7, .d (dI (m:Nat)))]) (fun m=>mkH [(6, .box ((Tp.c x0).map S.d))]) (fun m=>n.toNat - m) (0) (⟨by omega,fun e h=>absurd h (Nat.not_lt_zero _)⟩) ?_ ?_ ?_
 exact fz ⟨sr,sr,sr,sr,sr,trivial⟩
 exact gz ⟨R,trivial⟩
 intro m hk2
 obtain ⟨hm,hall⟩:=hk2
 refine zs<|zr<|zm R R<|zm R R<|zp (Aq R R R)<|zn<|?_
 refine zd R (fun c92=> ?_) (fun c92=> ?_)
 refine zi<|zs<|Ai<|zr<|za R R<|zn<|zs<|zr<|za R R<|zn<|Ai<|?_
 refine Av (α:=Nat) (fun j=>j≤k∧(x0.has m→∀o∈l.take j,o.has m→x0.inside o)) (fun j=>mkF [(0, .d (.sl 4 (l.map Tp.c))),(1, .d (dI n)),(5, .d (dI k)),(6, .ptr 6 0 0),(7, .d (dI (m:Nat))),(8, .d (dI (if x0.has m then (hits (l.take j) m:Int) else 0))),(9, .d (dI (j:Nat)))]) (fun j=>mkH [(6, .box ((Tp.c x0).map S.d))]) (fun j=>k - j) (0) (⟨Nat.zero_le _,fun _ o ho=>(by cases ho)⟩) ?_ ?_ ?_
 exact fz ⟨sr,sr,sr,sr,sr, .same (sI (by split<;>rfl)),sr,trivial⟩
 exact gz ⟨R,trivial⟩
 intro j hk4
 obtain ⟨hj,hall4⟩:=hk4
 refine zs<|zr<|zm R R<|zm R R<|zp (Aq R R R)<|zn<|?_
 refine zd R (fun c97=> ?_) (fun c97=> ?_)
 have hjk2:j<k:=by omega
 obtain ⟨y,hy⟩:∃y,l[j]? =some y:=Ap (by omega)
 have hym:y∈l.take k:=List.mem_of_getElem? (by rw [List.getElem?_take,if_pos hjk2];exact hy)
 have hyok:=(hv.inR y hym).ok (by omega)
 have hhl:=S1 (l.take j) m
 have htl:(l.take j).length≤j:=List.length_take_le _ _
 refine zi<|zs<|Ai<|zs<|zr<|zp (Ae (s':= .d (.agg (Tp.c x0))) (Ac (Ad R R Gs R lb)) (by kernel_rfl))<|zm R R<|XL.call1 R R (Oj _ _ (by assumption)) R<|zp (Bo R R)<|zm R R<|?_
 refine XL.dec 104 R (fun g104=> ?_) (fun g104=> ?_)
 refine zk 7 R<|zq R R R<|zn<|An (by kernel_rfl) R<|At<|Af (by kernel_rfl)<|zm R R<|zp (Ak R R R (by omega) (by omega))<|za R R<|zn<|?_
 exact Al (j+1) (⟨by omega,fun h=>absurd h g104⟩) (by omega) (fz ⟨sr,sr,sr,sr,sr, .same (sI (by rw [if_neg g104,if_neg g104])),sr,trivial⟩) (gz ⟨rfl,trivial⟩)
 refine zm R R<|zm R R<|zp (Am R R R Kn (hy))<|zp (Ae (s':= .d (.agg (Tp.c y))) (Ar R R Gs lb) (by kernel_rfl))<|zm R R<|XL.call1 R R (Oj _ _ (by assumption)) R<|zp (Bo R R)<|zq R R R<|zn<|?_
 refine zd R (fun c112=> ?_) (fun c112=> ?_)
 refine At<|Af (by kernel_rfl)<|zm R R<|zp (Ak R R R (by omega) (by omega))<|za R R<|zn<|?_
 exact Al (j+1) (⟨by omega,fun h o ho hh=>by rw [Bp hy] at ho;rcases List.mem_append.1 ho with q|q;(· exact hall4 h o q hh);(· rw [List.mem_singleton.1 q] at hh;exact absurd hh c112)⟩) (by omega) (fz ⟨sr,sr,sr,sr,sr, .same (sI (by rw [if_pos (Decidable.not_not.1 g104),if_pos (Decidable.not_not.1 g104),U2 hy c112])),sr,trivial⟩) (gz ⟨rfl,trivial⟩)
 refine zi<|zs<|?_
 have hd1:(if x0.has m then (hits (l.take j) m:Int) else 0)≤16:=by split<;>omega
 have hd0:0≤(if x0.has m then (hits (l.take j) m:Int) else 0):=by split<;>omega
 refine Af (by kernel_rfl)<|zm R R<|zp (Ak R R R (by omega) (by omega))<|za R R<|zn<|zs<|Bg [] (by kernel_rfl) (by kernel_rfl) (by kernel_rfl) (by decide)<|yp (Ae (s':= .d (.agg (Tp.c x0))) (Ac (Ad R R Gs R lb)) (by kernel_rfl))<|ym R R<|ym R R<|yp (Am R R R Kn (hy))<|yp (Ae (s':= .d (.agg (Tp.c y))) (Ar R R Gs lb) (by kernel_rfl))<|?_
 refine ChK.cons R (CStep.call R (Ty _ _ (by assumption) (by assumption)) R)<|yp (Bo R R)<|?_
 refine ChK.nil ⟨by kernel_rfl, ?_⟩
 refine zd R (fun c121=> ?_) (fun c121=> ?_)
 exact zr<|za R R<|zn<|zt<|z1 R R (rI (Dm (by omega) (by omega) (by omega) (by rw [←hgo,Er hx0 hin hna (Aeo hr hv hb hym (Decidable.not_not.1 g104) (Decidable.not_not.1 c112) c121)])))
 refine zi<|Af (by kernel_rfl)<|zm R R<|zp (Ak R R R (by omega) (by omega))<|za R R<|zn<|?_
 exact Al (j+1) (⟨by omega,fun h o ho hh=>by rw [Bp hy] at ho;rcases List.mem_append.1 ho with q|q;(· exact hall4 h o q hh);(· rw [List.mem_singleton.1 q];exact Decidable.not_not.1 c121)⟩) (by omega) (fz ⟨sr,sr,sr,sr,sr, .same (sI (by rw [if_pos (Decidable.not_not.1 g104),if_pos (Decidable.not_not.1 g104),S0 hy (Decidable.not_not.1 c112)];rfl)),sr,trivial⟩) (gz ⟨rfl,trivial⟩)
 have hjk:j=k:=by omega
 refine At<|zr<|zm R R<|zp (E4 R R R)<|zn<|?_
 refine zd R (fun c123=> ?_) (fun c123=> ?_)
 exact zr<|za R R<|zn<|zt<|z1 R R (rI (Dm (by omega) (by omega) (by omega) (by rw [←hgo,Er hx0 hin hna (by split at c123;(· rename_i hh;exact Aen hr hv hb hh (by rw [←hjk];omega));(· omega))])))
 refine zi<|Af (by kernel_rfl)<|zm R R<|zp (Ak R R R (by omega) (by omega))<|za R R<|zn<|?_
 exact Al (m+1) (⟨by omega,fun e he hh=>by by_cases q:e=m;(· subst q;rw [if_pos hh] at c123;exact ⟨fun o ho=>hall4 hh o (by rw [hjk];exact ho),by rw [←hjk];omega⟩);(· exact hall e (by omega) hh)⟩) (by omega) (fz ⟨sr,sr,sr,sr,sr,trivial⟩) (gz ⟨rfl,trivial⟩)
 have hov:=Aic hr hv hb hin (fun e he=>hall e (by omega))
 refine At<|Af (by kernel_rfl)<|zm R R<|zp (Ak R R R (by omega) (by omega))<|za R R<|zn<|?_
 exact Al (k+1) (⟨by omega,by rw [Bp hx0];exact (Rq hr hv hb hin hov).1,by rw [Bp hx0,B2 hx0];exact (Rq hr hv hb hin hov).2,by rw [Es,hx0,B2 hx0, ←F1 hx0 hin hna hov];exact hgo⟩) (by omega) (fz ⟨sr,sr,sr,trivial⟩) (HSub.nil)
 have hk0b:k=l.length:=by omega
 have hz:Ei n none [] l=0:=by rw [←hgo,hk0b,List.drop_length];rfl
 exact At<|zr<|za R R<|zn<|zt<|z1 R R (rI (Dm (by omega) (by omega) (by omega) hz.symm))
end Go.Proofs.YtcihalbakenleaaGreat
namespace Go.Proofs.YtcihalbakenleaaGreat
open Go.RowKit
theorem Apr {p:Prop} [Decidable p] (h:(!decide p)=true):¬p:=by simpa using h
theorem Aps {p:Prop} [Decidable p] (h:(!decide p)=false):¬ ¬p:=by simpa using h
def Mi (n:Int) (p:Int × Int) (t:Tp):Int × Int:=if t.has n then (p.1*t.normal,p.2*t.actual) else p
def E6 (l:List Tp) (n w:Int):Int × Int:=l.foldl (Mi n) (w,1)
theorem Nj (l:List Tp) (t:Tp) (n w:Int):E6 (l++ [t]) n w=Mi n (E6 l n w) t:=by unfold E6;rw [List.foldl_append];rfl
theorem So {l:List Tp} {k:Nat} {t:Tp} {n w:Int} (h:l[k]? =some t) (ht:t.has n):E6 (l.take (k+1)) n w=((E6 (l.take k) n w).1*t.normal,(E6 (l.take k) n w).2*t.actual):=by rw [Bp h,Nj,Mi,if_pos ht]
theorem Vt {l:List Tp} {k:Nat} {t:Tp} {n w:Int} (h:l[k]? =some t) (ht:¬t.has n):E6 (l.take (k+1)) n w=E6 (l.take k) n w:=by rw [Bp h,Nj,Mi,if_neg ht]
theorem Ane (l:List Tp) (n w:Int) (hw:0≤w):(∀t∈l,t.ok)→0≤(E6 l n w).1∧(E6 l n w).1≤w*32 ^ hits l n∧1≤(E6 l n w).2∧(E6 l n w).2≤32 ^ hits l n:=by
 refine Kw (p:=fun l=>(∀t∈l,t.ok)→0≤(E6 l n w).1∧(E6 l n w).1≤w*32 ^ hits l n∧1≤(E6 l n w).2∧(E6 l n w).2≤32 ^ hits l n) (fun _=>by simp [E6,hits];omega) (fun l t ih hl=> ?_) l
 obtain ⟨h1,h2,h3,h4⟩:=ih (fun t ht=>hl t (List.mem_append_left _ ht))
 obtain ⟨_,_,_,_,q1,q2,q3,q4⟩:=hl t (List.mem_append_right _ (List.mem_singleton.2 rfl))
 rw [Nj,H1,Mi]
 by_cases h:t.has n
 ·rw [if_pos h,if_pos h,Int.pow_succ, ←Int.mul_assoc]
  exact ⟨Int.mul_nonneg h1 (by omega),Int.mul_le_mul h2 q4 (by omega) (by omega),Int.le_trans h3 (K4 (by omega) q1),Int.mul_le_mul h4 q2 (by omega) (by omega)⟩
 ·rw [if_neg h,if_neg h];exact ⟨h1,h2,h3,h4⟩
theorem Aq4 {k:Nat} (h:k≤3):(32:Int) ^ k≤32768:=by
 match k,h with
 |0,_=>decide
 |1,_=>decide
 |2,_=>decide
 |3,_=>decide
 |k+4,h=>omega
theorem Ah2 {l:List Tp} {n w:Int} (hw:0≤w) (hw2:w≤7741440) (hl:∀t∈l,t.ok) (h:hits l n≤3):0≤(E6 l n w).1∧(E6 l n w).1≤253671505920∧1≤(E6 l n w).2∧(E6 l n w).2≤32768:=by
 obtain ⟨h1,h2,h3,h4⟩:=Ane l n w hw hl
 have e:=Aq4 h
 have e2:w*32 ^ hits l n≤7741440*32768:=Int.mul_le_mul hw2 e (by omega) (by omega)
 omega
theorem Anc (l:List Tp) (n w:Int):(∀t∈l,t.ok)→∃g:Int,0<g∧E6 l n w=(w*(Ay l n).1*g,(Ay l n).2*g):=by
 refine Kw (p:=fun l=>(∀t∈l,t.ok)→∃g:Int,0<g∧E6 l n w=(w*(Ay l n).1*g,(Ay l n).2*g)) (fun _=>⟨1,by decide,by simp [E6,Ay]⟩) (fun l t ih hl=> ?_) l
 have hl':∀t∈l,t.ok:=fun t ht=>hl t (List.mem_append_left _ ht)
 obtain ⟨g,hg,e⟩:=ih hl'
 obtain ⟨_,_,_,_,q1,q2,q3,q4⟩:=hl t (List.mem_append_right _ (List.mem_singleton.2 rfl))
 rw [Nj,Lz,Mi,Fx]
 by_cases h:t.has n
 ·rw [if_pos h,if_pos h,e]
  have hb:=Qi l n hl'
  have e1:1≤(Ay l n).1*t.normal:=Int.le_trans hb.1 (K4 (by omega) q3)
  have e2:1≤(Ay l n).2*t.actual:=Int.le_trans hb.2.2.1 (K4 (by omega) q1)
  have hd:=(L9 e1 e2).2.2.1
  have d1:=Int.mul_ediv_cancel' (Int.gcd_dvd_left ((Ay l n).1*t.normal) ((Ay l n).2*t.actual))
  have d2:=Int.mul_ediv_cancel' (Int.gcd_dvd_right ((Ay l n).1*t.normal) ((Ay l n).2*t.actual))
  generalize (Int.gcd ((Ay l n).1*t.normal) ((Ay l n).2*t.actual):Int)=d at*
  refine ⟨g*d,Int.mul_pos hg (by omega), ?_⟩
  have f1:w*((Ay l n).1*t.normal / d)*(g*d)=w*g*(d*((Ay l n).1*t.normal / d)):=by ac_rfl
  have f2:((Ay l n).2*t.actual / d)*(g*d)=g*(d*((Ay l n).2*t.actual / d)):=by ac_rfl
  refine Prod.ext ?_ ?_
  ·show w*(Ay l n).1*g*t.normal=w*((Ay l n).1*t.normal / d)*(g*d)
   rw [f1,d1];ac_rfl
  ·show (Ay l n).2*g*t.actual=((Ay l n).2*t.actual / d)*(g*d)
   rw [f2,d2];ac_rfl
 ·rw [if_neg h,if_neg h];exact ⟨g,hg,e⟩
theorem And {l:List Tp} {n w:Int} (hl:∀t∈l,t.ok):(E6 l n w).1 / (E6 l n w).2=w*(Ay l n).1 / (Ay l n).2∧((E6 l n w).1 % (E6 l n w).2=0↔w*(Ay l n).1 % (Ay l n).2=0):=by
 obtain ⟨g,hg,e⟩:=Anc l n w hl
 rw [e]
 refine ⟨Int.mul_ediv_mul_of_pos_left _ _ hg, ?_⟩
 show w*(Ay l n).1*g % ((Ay l n).2*g)=0↔_
 rw [←Int.dvd_iff_emod_eq_zero, ←Int.dvd_iff_emod_eq_zero]
 exact Int.mul_dvd_mul_iff_right (by omega)
theorem Vu (l:List Tp) (f:Nat) (n w:Int) (hf:f≤l.length) (hl:∀t∈l.drop f,t.ok) (hh:hits (l.drop f) n≤3) (hw:0≤w) (hw2:w≤7741440) (hlen:l.length≤16):XC Tryz.prog 113 [.sl 4 (l.map Tp.c), .v (.int .i64 (f:Nat)), .v (.int .i64 n), .v (.int .i64 w)] (fun r=>r= .tup [dI (w*(Ay (l.drop f) n).1 / (Ay (l.drop f) n).2),dB (decide (w*(Ay (l.drop f) n).1 % (Ay (l.drop f) n).2=0))]):=by
 have hdl:(l.drop f).length=l.length - f:=List.length_drop
 refine Ao Abb Tryz.func113 R R lb<|zr<|za R R<|za R R<|znr<|zm R R<|za R R<|za R R<|zn<|zs<|zr<|zm R R<|za R R<|zn<|?_
 refine Ai<|?_
 refine Av (α:=Nat) (fun j=>j≤(l.drop f).length) (fun j=>mkF [(0, .d (.sl 4 (l.map Tp.c))),(2, .d (dI n)),(8, .d (dI 0)),(9, .d (dB false)),(10, .d (dI (E6 ((l.drop f).take j) n w).1)),(11, .d (dI (E6 ((l.drop f).take j) n w).2)),(12, .d (dI (f+j:Nat)))]) (fun j=>mkH []) (fun j=>(l.drop f).length - j) (0) (Nat.zero_le _) ?_ ?_ ?_
 exact fz ⟨sr,sr,sr,sr,sr,sr,sr,trivial⟩
 exact HSub.nil
 intro j hk0
 refine zs<|zr<|zm R R<|zm R R<|XL.len R R R Tryz.underlying98 fun hl17=>zp (Aq R R R)<|zn<|?_
 refine zd R (fun c18=> ?_) (fun c18=> ?_)
 have hjl:j<(l.drop f).length:=by omega
 obtain ⟨y,hy⟩:=Ap hjl
 have hly:l[f+j]? =some y:=by rw [←List.getElem?_drop];exact hy
 have hok:y.ok:=hl y (List.mem_of_getElem? hy)
 have hb:=Ah2 (n:=n) hw hw2 (Uv hl (j+1)) (Nat.le_trans (Nt _ (j+1) n) hh)
 refine zi<|zs<|Ai<|zr<|zm R R<|zm R R<|zp (Am R R R Kn (hly))<|zp (Ae (s':= .d (.agg (Tp.c y))) (Ar R R Gs lb) (by kernel_rfl))<|zm R R<|XL.call1 R R (Oj _ _ (by assumption)) R<|zn<|?_
 refine zd R (fun c26=> ?_) (fun c26=> ?_)
 rw [So hy c26] at hb
 simp only at hb
 refine Bg [] (by kernel_rfl) (by kernel_rfl) (by kernel_rfl) (by decide)<|ym R R<|ym R R<|ym R R<|yp (Am R R R Kn (hly))<|yp (Bq R R Nx)<|yp (Aw R R Ah)<|yp (Id R R R (by omega) (by omega))<|ym R R<|ym R R<|ym R R<|yp (Am R R R Kn (hly))<|yp (Bq R R Ll)<|yp (Aw R R Ah)<|?_
 refine yp (Id R R R (by omega) (by omega))<|ya R R<|ya R R<|?_
 refine ChK.nil ⟨by kernel_rfl, ?_⟩
 refine Af (by kernel_rfl)<|zm R R<|zp (Ak R R R (by omega) (by omega))<|za R R<|zn<|?_
 exact Al (j+1) (by omega) (by omega) (fz ⟨sr,sr,sr,sr, .same (sI (by rw [So hy c26])), .same (sI (by rw [So hy c26])), .same (sI (by omega)),trivial⟩) (HSub.nil)
 refine zi<|Af (by kernel_rfl)<|zm R R<|zp (Ak R R R (by omega) (by omega))<|za R R<|zn<|?_
 exact Al (j+1) (by omega) (by omega) (fz ⟨sr,sr,sr,sr, .same (sI (by rw [Vt hy c26])), .same (sI (by rw [Vt hy c26])), .same (sI (by omega)),trivial⟩) (HSub.nil)
 have ht:(l.drop f).take j=l.drop f:=List.take_of_length_le (by omega)
 rw [ht]
 have hb:=Ah2 (n:=n) hw hw2 hl hh
 have hd:=And (n:=n) (w:=w) hl
 refine At<|zs<|Bg [] (by kernel_rfl) (by kernel_rfl) (by kernel_rfl) (by decide)<|ym R R<|ym R R<|yp (G2 R R R (by omega) (by omega) (by omega))<|ym R R<|ym R R<|yp (F5 R R R (by omega) (by omega))<|yp (Az R R R)<|ya R R<|ya R R<|?_
 refine ChK.nil ⟨by kernel_rfl, ?_⟩
 refine zt<|?_
 exact Bl R (RV.tmp R R) (RV.tmp R R) (r2 (rI hd.1) (rB (by rw [decide_eq_decide];exact hd.2)))
theorem Afr (l:List Tp) (n w:Int) (hl:∀t∈l,t.ok) (hh:hits l n≤3) (hw:0≤w) (hw2:w≤7741440) (hlen:l.length≤16):XC Tryz.prog 113 [.sl 4 (l.map Tp.c),dI 0,dI n,dI w] (fun r=>r= .tup [dI (w*(Ay l n).1 / (Ay l n).2),dB (decide (w*(Ay l n).1 % (Ay l n).2=0))]):=by
 have:=Vu l 0 n w (Nat.zero_le _) hl hh hw hw2 hlen
 rw [List.drop_zero] at this;exact this
theorem To {l:List Tp} {n w:Int} (hw:0≤w) (hw2:w≤7741440) (h:¬w*(Ay l n).1 % (Ay l n).2=0):Dq l n w=16:=(Ur (by omega) (by omega) h).2.symm
theorem Aj1 {l:List Tp} {n w:Int} (hw:0≤w) (hw2:w≤7741440) (h:¬ ¬w*(Ay l n).1 % (Ay l n).2=0):Dq l n w=0∧Dp l n w=w*(Ay l n).1 / (Ay l n).2:=⟨(Ra (by omega) (by omega) h).2.symm,(Ra (by omega) (by omega) h).1.symm⟩
theorem Pz (l:List Tp) (ws:List Int):XC Tryz.prog 73 [.sl 4 (l.map Tp.c), .sl 1 (B4 ws)] (fun r=>r= .tup [.sl 1 (B4 (G7 l ws)),dI (Cr l ws)]):=by
 refine Ao Ac0 Tryz.func73 R R lb<|zr<|za R R<|za R R<|zn<|zs<|zr<|zm R R<|zm R R<|XL.len R R R Tryz.underlying64 fun hl13=>XL.call1 R R (Ab6 _ _) R<|za R R<|znr<|zm R R<|?_
 refine zp (A9 R R R)<|zn<|?_
 refine zd R (fun c16=> ?_) (fun c16=> ?_)
 refine zr<|zm R R<|za R R<|za R R<|zn<|zt<|?_
 exact Bl R (RV.nil (sz:=1) R R) (RV.tmp R R) (r2 (rSl (Tj c16).1) (rI (Tj c16).2))
 refine zi<|zs<|?_
 have hT:=Q7 c16
 have hbd:=hT.bd
 have hlen:=hT.len
 refine Af (by kernel_rfl)<|za R R<|zn<|zs<|zr<|za R R<|zn<|Ai<|Fj 900 7 3 1 R<|?_
 refine Av (α:=Nat) (fun k=>k≤ws.length∧Ia l k (ws.drop k)=Ia l 0 ws) (fun k=>mkF [(0, .d (.sl 4 (l.map Tp.c))),(1, .d (.sl 1 (B4 ws))),(7, .own 900),(8, .d (dI k))]) (fun k=>mkH [(900, .row 3 1 ((Cw l 0 (ws.take k)).map iv))]) (fun k=>ws.length - k) (0) (⟨Nat.zero_le _,by rw [List.drop_zero]⟩) ?_ ?_ ?_
 exact fz ⟨sr,sr,sr,sr,trivial⟩
 exact gz ⟨R,trivial⟩
 intro k hk0
 obtain ⟨hk,hgo⟩:=hk0
 refine zs<|zr<|zm R R<|zm R R<|XL.len R R R Tryz.underlying64 fun hl20=>zp (Aq R R R)<|zn<|?_
 refine zd R (fun c21=> ?_) (fun c21=> ?_)
 have hk0a:k<ws.length:=by omega
 obtain ⟨x0,hx0⟩:=Ap hk0a
 have hll:(Cw l 0 (ws.take k)).length=k:=by rw [Ig,List.length_take];omega
 refine zi<|zs<|Ai<|zs<|zr<|zm R R<|zm R R<|zp (Am R R R C9 hx0)<|zp (Aw R R Ah)<|zp (Aq R R R)<|zm R R<|?_
 refine XL.dec 29 R (fun g29=> ?_) (fun g29=> ?_)
 refine zk 5 R<|zq R R R<|zn<|An (by kernel_rfl) R<|zr<|za R R<|za R R<|zn<|zt<|?_
 exact Bl R (RV.nil (sz:=1) R R) (RV.tmp R R) (r2 (rSl (Lg c16 (e:=2) (by rw [←hgo,I1 hx0 (by rw [←(G5 (l:=l) (n:=k) (w:=x0) (.inl g29)).2];decide), ←(G5 (l:=l) (n:=k) (w:=x0) (.inl g29)).2]) (by decide)).1) (rI (Lg c16 (e:=2) (by rw [←hgo,I1 hx0 (by rw [←(G5 (l:=l) (n:=k) (w:=x0) (.inl g29)).2];decide), ←(G5 (l:=l) (n:=k) (w:=x0) (.inl g29)).2]) (by decide)).2))
 refine zm R R<|zm R R<|zp (Am R R R C9 hx0)<|zp (Aw R R Ah)<|zp (A5 R R R)<|zq R R R<|zn<|?_
 refine zd R (fun c35=> ?_) (fun c35=> ?_)
 refine zr<|za R R<|za R R<|zn<|zt<|?_
 exact Bl R (RV.nil (sz:=1) R R) (RV.tmp R R) (r2 (rSl (Lg c16 (e:=2) (by rw [←hgo,I1 hx0 (by rw [←(G5 (l:=l) (n:=k) (w:=x0) (.inr c35)).2];decide), ←(G5 (l:=l) (n:=k) (w:=x0) (.inr c35)).2]) (by decide)).1) (rI (Lg c16 (e:=2) (by rw [←hgo,I1 hx0 (by rw [←(G5 (l:=l) (n:=k) (w:=x0) (.inr c35)).2];decide), ←(G5 (l:=l) (n:=k) (w:=x0) (.inr c35)).2]) (by decide)).2))
 refine zi<|zs<|?_
 have hh:=hT.hits k
 refine Af (by kernel_rfl)<|zm R R<|zm R R<|zm R R<|zm R R<|zp (Am R R R C9 hx0)<|zp (Aw R R Ah)<|XL.call1 R R (Afr l k x0 hT.ok hh (by omega) (by omega) hlen) R<|zm R R<|zp (A6 R R R)<|zp (A6 R R R)<|za R R<|za R R<|zn<|?_
 refine zs<|zr<|zm R R<|zp (Cu R R)<|zn<|?_
 refine Dc (by kernel_rfl) R (fun c47=> ?_) (fun c47=> ?_)
 have c47:=Apr c47
 refine zr<|za R R<|za R R<|zn<|zt<|?_
 exact Bl R (RV.nil (sz:=1) R R) (RV.tmp R R) (r2 (rSl (Lg c16 (e:=16) (by rw [←hgo,I1 hx0 (by rw [To (by omega) (by omega) c47];decide),To (by omega) (by omega) c47]) (by decide)).1) (rI (Lg c16 (e:=16) (by rw [←hgo,I1 hx0 (by rw [To (by omega) (by omega) c47];decide),To (by omega) (by omega) c47]) (by decide)).2))
 have c47:=Aps c47
 refine zi<|Af (by kernel_rfl)<|zp (A3 R (by conv=>lhs;whnf))<|?_
 refine zm R R<|XL.step R (B6 50 R Tryz.underlying64 Df Gt R R (by omega) (by omega))<|XL.step R (Bw R On (.own R) (Src.own R) (by unfold maxLen;simp;omega) (by simp;omega))<|zp (A4 R (by conv=>lhs;whnf))<|?_
 refine zn<|Af (by kernel_rfl)<|zm R R<|zp (Ak R R R (by omega) (by omega))<|za R R<|zn<|?_
 exact Al (k+1) (⟨by omega,by rw [←Vp hx0 (by rw [(Aj1 (by omega) (by omega) c47).1];decide)];exact hgo⟩) (by omega) (fz ⟨sr,sr,sr,sr,trivial⟩) (gz ⟨Kz (by rw [←(Aj1 (l:=l) (n:=k) (by omega) (by omega) c47).2];rfl) (Rv hx0),trivial⟩)
 have hk0b:k=ws.length:=by omega
 have hz:Ia l 0 ws=0:=by rw [←hgo,hk0b,List.drop_length];rfl
 have ht:ws.take k=ws:=by rw [hk0b,List.take_length]
 refine At<|zr<|zp (A3 R (by conv=>lhs;whnf))<|?_
 refine zp (A4 R (by conv=>lhs;whnf))<|?_
 refine za R R<|zn<|zt<|Cp (i:=900) R<|?_
 exact Bl R (RV.tmp R R) (RV.tmp R R) (r2 (rSl (by rw [ht];exact (Ti c16 hz).1)) (rI (Ti c16 hz).2))
theorem Aln {f c e:Nat} (h:¬(f≤e∧e<f+c)):min (e+1 - f) c=min (e - f) c:=by omega
theorem Qz {f c e:Nat} (h:f≤e∧e<f+c):min (e - f) c=e - f∧min (e+1 - f) c=e - f+1:=by omega
theorem Aj7 (l:List Tp) (i:Nat) (t:Tp) (ws:List Int) (ht:l[i]? =some t) (hT:Tups l ws.length) (hws:∀w∈ws,0≤w∧w≤7741440):XC Tryz.prog 98 [.sl 4 (l.map Tp.c), .v (.int .i64 i), .sl 1 (B4 ws)] (fun r=>r= .tup [dI ((Fa (l.drop (i+1)) t ws).getD 0),dB (Fa (l.drop (i+1)) t ws).isSome]):=by
 have hin:=hT.inR t (List.mem_of_getElem? ht)
 have hok:=hT.ok t (List.mem_of_getElem? ht)
 have hbd:=hT.bd
 have hlen:=hT.len
 have hil:=(List.getElem?_eq_some_iff.1 ht).1
 have hin2:=hin
 simp only [Tp.inR] at hin2
 obtain ⟨f,hf⟩:∃f:Nat,t.first=f:=⟨t.first.toNat,by omega⟩
 obtain ⟨c,hc⟩:∃c:Nat,t.count=c:=⟨t.count.toNat,by omega⟩
 have hf2:t.first.toNat=f:=by omega
 have hc2:t.count.toNat=c:=by omega
 have hsl:(Fv t ws).length=c:=by rw [Fv,List.length_take,List.length_drop];omega
 have hoks:=Aeq hT.ok (i+1)
 have hhs:∀e,hits (l.drop (i+1)) e≤3:=fun e=>Nat.le_trans (Wk _ _ e) (hT.hits e)
 refine Ao Acf Tryz.func98 R R lb<|zr<|za R R<|za R R<|znr<|za R R<|zn<|zs<|zr<|za R R<|zn<|Ai<|?_
 refine Av (α:=Nat × Int) (fun p=>p.1≤ws.length∧Fb (l.drop (i+1)) (f+min (p.1 - f) c) ((Fv t ws).drop (min (p.1 - f) c)) p.2=Fb (l.drop (i+1)) f (Fv t ws) 0∧0≤p.2∧p.2≤(p.1:Int)*253671505920) (fun p=>mkF [(0, .d (.sl 4 (l.map Tp.c))),(1, .d (dI i)),(2, .d (.sl 1 (B4 ws))),(8, .d (dI p.2)),(9, .d (dI (p.1:Nat)))]) (fun p=>mkH []) (fun p=>ws.length - p.1) ((0,0)) (⟨Nat.zero_le _,by rw [Nat.zero_sub,Nat.zero_min,List.drop_zero];rfl,Int.le_refl _,by simp⟩) ?_ ?_ ?_
 exact fz ⟨sr,sr,sr,sr,sr,trivial⟩
 exact HSub.nil
 intro p hk0
 obtain ⟨hk,hgo,hs0,hs1⟩:=hk0
 refine zs<|zr<|zm R R<|zm R R<|XL.len R R R Tryz.underlying64 fun hl16=>zp (Aq R R R)<|zn<|?_
 refine zd R (fun c17=> ?_) (fun c17=> ?_)
 have hpl:p.1<ws.length:=by omega
 obtain ⟨w,hw⟩:∃w,ws[p.1]? =some w:=Ap hpl
 have hwb:=hws w (List.mem_of_getElem? hw)
 have hh:=hhs (p.1:Nat)
 have hsb:=Sh (n:=((p.1:Nat):Int)) (w:=w) hoks hh
 have hdl:(l.drop (i+1)).length=l.length - (i+1):=List.length_drop
 refine zi<|zs<|Ai<|zs<|zr<|zm R R<|zm R R<|zp (Am R R R Kn (ht))<|zp (Ae (s':= .d (.agg (Tp.c t))) (Ar R R Gs lb) (by kernel_rfl))<|zm R R<|XL.call1 R R (Oj _ _ (by assumption)) R<|zp (Bo R R)<|zn<|?_
 refine zd R (fun c26=> ?_) (fun c26=> ?_)
 refine At<|Af (by kernel_rfl)<|zm R R<|zp (Ak R R R (by omega) (by omega))<|za R R<|zn<|?_
 exact Al ((p.1+1,p.2)) (⟨by simp only;omega,by rw [Aln (fun h=>c26 (by unfold Tp.has;omega))];exact hgo,hs0,by simp only;omega⟩) (by simp only;omega) (fz ⟨sr,sr,sr,sr,sr,trivial⟩) (HSub.nil)
 refine zi<|zs<|?_
 have hhas:f≤p.1∧p.1<f+c:=by have:=Decidable.not_not.1 c26;unfold Tp.has at this;omega
 refine Af (by kernel_rfl)<|zm R R<|zm R R<|zp (Ae (s':= .d (dI (i+1:Nat))) (Ak R R R (by omega) (by omega)) (sI (by omega)))<|zm R R<|zm R R<|zm R R<|zp (Am R R R C9 (hw))<|zp (Aw R R Ah)<|XL.call1 R R (Vu l (i+1) (p.1:Nat) w (by omega) hoks hh hwb.1 hwb.2 hlen) R<|zm R R<|zp (A6 R R R)<|zp (A6 R R R)<|za R R<|?_
 refine za R R<|zn<|zs<|zr<|zm R R<|zp (Cu R R)<|zn<|?_
 refine Dc (by kernel_rfl) R (fun c40=> ?_) (fun c40=> ?_)
 have c40:=Apr c40
 refine zr<|za R R<|za R R<|zn<|zt<|?_
 exact Bl R (RV.tmp R R) (RV.tmp R R) (Pd (Tf (by rw [hf2, ←hgo,(Qz hhas).1,show f+(p.1 - f)=p.1 by omega];exact Tg (w:=w) (by rw [Uq (by omega),hf2,show f+(p.1 - f)=p.1 by omega];exact hw) (by rw [To hwb.1 hwb.2 c40];decide))))
 have c40:=Aps c40
 have hE0:=Aj1 hwb.1 hwb.2 c40
 refine zi<|Af (by kernel_rfl)<|zm R R<|zm R R<|zp (Ae (s':= .d (dI (p.2+w*(Ay (l.drop (i+1)) (p.1:Nat)).1 / (Ay (l.drop (i+1)) (p.1:Nat)).2))) (Ak R R R (by rw [hE0.2] at hsb;omega) (by rw [hE0.2] at hsb;omega)) (sI (R)))<|za R R<|zn<|Af (by kernel_rfl)<|zm R R<|zp (Ak R R R (by omega) (by omega))<|za R R<|zn<|?_
 have hfe:f+(p.1 - f)=p.1:=by omega
 have hsw:(Fv t ws)[p.1 - f]? =some w:=by rw [Uq (by omega),hf2,hfe];exact hw
 have hnext:Fb (l.drop (i+1)) (f+min (p.1+1 - f) c) ((Fv t ws).drop (min (p.1+1 - f) c)) (p.2+Dp (l.drop (i+1)) (p.1:Nat) w)=Fb (l.drop (i+1)) f (Fv t ws) 0:=by rw [(Qz hhas).1,hfe] at hgo;rw [(Qz hhas).2, ←hgo,Th hsw (by rw [hE0.1];decide),show f+(p.1 - f+1)=p.1+1 by omega]
 exact Al ((p.1+1,p.2+Dp (l.drop (i+1)) (p.1:Nat) w)) (⟨by simp only;omega,hnext,by simp only;omega,by simp only;omega⟩) (by simp only;omega) (fz ⟨sr,sr,sr, .same (sI (by rw [hE0.2])),sr,trivial⟩) (HSub.nil)
 have hu:Fb (l.drop (i+1)) t.first.toNat (Fv t ws) 0=some p.2:=by rw [hf2, ←hgo];exact Vg (by omega)
 have hkb:p.2≤128*253671505920:=by omega
 refine At<|zr<|za R R<|zn<|zs<|zr<|za R R<|zn<|Ai<|?_
 refine Av (α:=Nat) (fun k=>k≤10∧∀j,j<k→¬p.2=t.actual*(3870720 / 2 ^ j)) (fun k=>mkF [(0, .d (.sl 4 (l.map Tp.c))),(1, .d (dI i)),(8, .d (dI p.2)),(12, .d (dI (I8 k))),(13, .d (dI ((k:Int) - 1)))]) (fun k=>mkH []) (fun k=>10 - k) (0) (⟨Nat.zero_le _,fun j hj=>absurd hj (Nat.not_lt_zero _)⟩) ?_ ?_ ?_
 exact fz ⟨sr,sr,sr, .same (sI (by decide)), .same (sI (by decide)),trivial⟩
 exact HSub.nil
 intro k hk2
 obtain ⟨hk,hno⟩:=hk2
 have hsh:=Wm k
 refine zs<|zr<|zm R R<|zp (Ha R R R)<|zn<|?_
 refine zd R (fun c45=> ?_) (fun c45=> ?_)
 have hml1:0≤I8 k*t.actual:=Int.mul_nonneg hsh.1 (by omega)
 have hml2:I8 k*t.actual≤3870720*32:=Int.mul_le_mul hsh.2 (by omega) (by omega) (by omega)
 refine zi<|zs<|Ai<|zs<|zr<|zm R R<|zm R R<|zm R R<|zm R R<|zp (Am R R R Kn (ht))<|zp (Bq R R Ll)<|zp (Aw R R Ah)<|zp (Id R R R (by omega) (by omega))<|zp (Az R R R)<|?_
 refine zn<|?_
 refine zd R (fun c56=> ?_) (fun c56=> ?_)
 refine zr<|zm R R<|za R R<|za R R<|zn<|zt<|?_
 exact Bl R (RV.tmp R R) (RV.tmp R R) (Yj (by rw [Lx hu];exact Aev (by omega) (by rw [Int.mul_comm];exact c56) hno))
 refine zi<|Af (by kernel_rfl)<|zm R R<|zp (G2 R R R (by omega) (by omega) (by omega))<|za R R<|zn<|Af (by kernel_rfl)<|zm R R<|zp (Ak R R R (by omega) (by omega))<|za R R<|zn<|?_
 exact Al (k+1) (⟨by omega,fun j hj=>by by_cases e:j=k;(· subst e;rw [Int.mul_comm];exact c56);(· exact hno j (by omega))⟩) (by omega) (fz ⟨sr,sr,sr, .same (sI (Rz k)), .same (sI (by omega)),trivial⟩) (HSub.nil)
 have hke:k=10:=by omega
 have hnone:Qq t.actual p.2=none:=Wf (fun j hj=>hno j (by omega))
 refine At<|zr<|za R R<|za R R<|zn<|zt<|?_
 exact Bl R (RV.tmp R R) (RV.tmp R R) (Pd (by rw [Lx hu];exact hnone))
end Go.Proofs.YtcihalbakenleaaGreat
namespace Go.Proofs.YtcihalbakenleaaGreat
open Go.RowKit
theorem Si (l:List Tp) (h:l.length≤1000):XC Tryz.prog 55 [.sl 4 (l.map Tp.c)] (fun r=>r= .sl 4 (l.map Tp.c)):=by
 refine Ao Adf Tryz.func55 R R lb<|zr<|za R R<|znr<|za R R<|zn<|zs<|zr<|za R R<|zn<|Ai<|Fj 900 3 135 4 R<|?_
 refine Av (α:=Nat) (fun k=>k≤l.length) (fun k=>mkF [(0, .d (.sl 4 (l.map Tp.c))),(2, .d (.v (.slice none 0 0))),(3, .own 900),(4, .d (dI k))]) (fun k=>mkH [(900, .row 135 4 ((l.take k).map Tp.c))]) (fun k=>l.length - k) (0) (Nat.zero_le _) ?_ ?_ ?_
 exact fz ⟨sr,sr,sr,sr,trivial⟩
 exact gz ⟨R,trivial⟩
 intro k hk0
 refine zs<|zr<|zm R R<|zm R R<|XL.len R R R Tryz.underlying23 fun hl7=>zp (Aq R R R)<|zn<|?_
 refine zd R (fun c8=> ?_) (fun c8=> ?_)
 have hk0a:k<l.length:=by omega
 obtain ⟨x0,hx0⟩:=Ap hk0a
 have htl:(l.take k).length=k:=by rw [List.length_take];omega
 refine zi<|zs<|Ai<|C3 23 [] (by kernel_rfl) (by kernel_rfl) (by kernel_rfl) (by kernel_rfl) (by decide)<|yp (A3 R (by conv=>lhs;whnf))<|?_
 refine ym R R<|ym R R<|yp (Am R R R Ex hx0)<|yp (Bq R R By)<|yp (Aw R R Ah)<|ym R R<|ym R R<|yp (Am R R R Ex hx0)<|yp (Bq R R Dg)<|yp (Aw R R Ah)<|ym R R<|ym R R<|yp (Am R R R Ex hx0)<|yp (Bq R R Lm)<|?_
 refine yp (Aw R R Ah)<|ym R R<|ym R R<|yp (Am R R R Ex hx0)<|yp (Bq R R Ny)<|yp (Aw R R Ah)<|yp (Ae (s':= .d (.agg [dI x0.first,dI x0.count,dI x0.actual,dI x0.normal])) (Ac (Be R Am1 R8 R)) (by kernel_rfl))<|ChK.cons R (CStep.slice R Tryz.underlying98 Ahf R8 R R (by omega) (by omega))<|?_
 refine ChK.nil ⟨by kernel_rfl, ?_⟩
 refine XL.step R (Bw R Aqa (.own R) (Src.sl (by omega)) (by unfold maxLen;simp;omega) (by simp;omega))<|zp (A4 R (by conv=>lhs;whnf))<|?_
 refine zn<|Af (by kernel_rfl)<|zm R R<|zp (Ak R R R (by omega) (by omega))<|za R R<|zn<|?_
 exact Al (k+1) (by omega) (by omega) (fz ⟨sr,sr,sr,sr,trivial⟩) (gz ⟨Kz R (Bp hx0),trivial⟩)
 have hk0b:k=l.length:=by omega
 have ht:l.take k=l:=by rw [hk0b,List.take_length]
 refine At<|zr<|zp (A3 R (by conv=>lhs;whnf))<|?_
 refine zp (A4 R (by conv=>lhs;whnf))<|?_
 exact zn<|zt<|Cp (i:=900) R<|z1 R R (rSl (by rw [ht]))
theorem N7 (l:List Ev) (hv:∀e∈l,e.err=0∧e.kind≠3) (h:l.length≤1000):XC Tryz.prog 74 [.sl 13 (l.map Ev.c)] (fun r=>r= .sl 1 (B4 (wrS l))):=by
 refine Ao Acz Tryz.func74 R R lb<|zr<|za R R<|znr<|za R R<|zn<|zs<|zr<|za R R<|zn<|Ai<|Fj 900 3 3 1 R<|?_
 refine Av (α:=Nat) (fun k=>k≤l.length) (fun k=>mkF [(0, .d (.sl 13 (l.map Ev.c))),(2, .d (.v (.slice none 0 0))),(3, .own 900),(4, .d (dI k))]) (fun k=>mkH [(900, .row 3 1 ((wrS (l.take k)).map iv))]) (fun k=>l.length - k) (0) (Nat.zero_le _) ?_ ?_ ?_
 exact fz ⟨sr,sr,sr,sr,trivial⟩
 exact gz ⟨R,trivial⟩
 intro k hk0
 refine zs<|zr<|zm R R<|zm R R<|XL.len R R R Tryz.underlying22 fun hl7=>zp (Aq R R R)<|zn<|?_
 refine zd R (fun c8=> ?_) (fun c8=> ?_)
 have hk0a:k<l.length:=by omega
 obtain ⟨x0,hx0⟩:=Ap hk0a
 have htl:(wrS (l.take k)).length=k:=by rw [Gc,List.length_take];omega
 have hxv:=hv x0 (List.mem_of_getElem? hx0)
 have hval:=(err_iff.1 hxv.1).2.2.2.1 hxv.2
 refine zi<|zs<|Ai<|Af (by kernel_rfl)<|zp (A3 R (by conv=>lhs;whnf))<|?_
 refine zm R R<|zm R R<|zp (Am R R R B7 hx0)<|zp (Bq R R Cz)<|zp (Ae (s':= .d (.agg (Val.c x0.v))) (Ar R R Da lb) (by kernel_rfl))<|XL.call1 R R (Ahu _ (by assumption)) R<|XL.step R (B6 18 R Tryz.underlying64 Df Gt R R (by omega) (by omega))<|XL.step R (Bw R On (.own R) (Src.own R) (by unfold maxLen;simp;omega) (by simp;omega))<|?_
 refine zp (A4 R (by conv=>lhs;whnf))<|?_
 refine zn<|Af (by kernel_rfl)<|zm R R<|zp (Ak R R R (by omega) (by omega))<|za R R<|zn<|?_
 exact Al (k+1) (by omega) (by omega) (fz ⟨sr,sr,sr,sr,trivial⟩) (gz ⟨Kz (a:=x0.len) (by rw [Ev.len_ok hxv.1 hxv.2];rfl) (by rw [Bp hx0,Oe];rfl),trivial⟩)
 have hk0b:k=l.length:=by omega
 have ht:l.take k=l:=by rw [hk0b,List.take_length]
 refine At<|zr<|zp (A3 R (by conv=>lhs;whnf))<|?_
 refine zp (A4 R (by conv=>lhs;whnf))<|?_
 exact zn<|zt<|Cp (i:=900) R<|z1 R R (rSl (by rw [ht]))
theorem Am6 (l:List Int) (h:Nums l):XC Tryz.prog 58 [.sl 1 (B4 l)] (fun r=>r=dI (tot l)):=by
 refine Ao Adc Tryz.func58 R R lb<|zr<|za R R<|znr<|za R R<|zn<|zs<|zr<|za R R<|zn<|Ai<|?_
 refine Av (α:=Nat) (fun k=>k≤l.length) (fun k=>mkF [(0, .d (.sl 1 (B4 l))),(2, .d (dI 0)),(3, .d (dI (tot (l.take k)))),(4, .d (dI k))]) (fun k=>mkH []) (fun k=>l.length - k) (0) (Nat.zero_le _) ?_ ?_ ?_
 exact fz ⟨sr,sr,sr,sr,trivial⟩
 exact HSub.nil
 intro k hk0
 refine zs<|zr<|zm R R<|zm R R<|XL.len R R R Tryz.underlying64 fun hl7=>zp (Aq R R R)<|zn<|?_
 refine zd R (fun c8=> ?_) (fun c8=> ?_)
 have hk0a:k<l.length:=by omega
 obtain ⟨x0,hx0⟩:=Ap hk0a
 have h1:=(h.take k).tot
 have h2:=h.bd x0 (List.mem_of_getElem? hx0)
 refine zi<|zs<|Ai<|Af (by kernel_rfl)<|zm R R<|zm R R<|zm R R<|zp (Am R R R C9 hx0)<|zp (Aw R R Ah)<|zp (Ak R R R (by omega) (by omega))<|za R R<|zn<|Af (by kernel_rfl)<|zm R R<|?_
 refine zp (Ak R R R (by omega) (by omega))<|za R R<|zn<|?_
 exact Al (k+1) (by omega) (by omega) (fz ⟨sr,sr, .same (sI (by rw [Bp hx0,H7])),sr,trivial⟩) (HSub.nil)
 have hk0b:k=l.length:=by omega
 have ht:l.take k=l:=by rw [hk0b,List.take_length]
 exact At<|zr<|zm R R<|za R R<|zn<|zt<|z1 R R (rI (by rw [ht]))
theorem X5 (v:Vo):XC Tryz.prog 72 [.agg (Vo.c v)] (fun r=>r=dB (decide v.rest)):=by
 refine Ao Ac1 Tryz.func72 R R lb<|zr<|XL.step R (As 1 (l:= [.d (.sl 13 (v.evs.map Ev.c)), .d (.sl 4 (v.tups.map Tp.c))]) R R (by kernel_rfl))<|za R R<|znr<|zp (Ab R R A1)<|zp (Aa R R Br R R)<|XL.len R R R Tryz.underlying22 fun hl5=>zp (Az R R R)<|zm R R<|?_
 refine XL.dec 7 R (fun g7=> ?_) (fun g7=> ?_)
 obtain ⟨e,he⟩:∃e,v.evs[0]? =some e:=Ap (by omega)
 exact zp (Ab R R A1)<|zp (Aa R R Br R R)<|zp (Am (k:=0) R R R B7 (he))<|zp (Bq R R Bn)<|zp (Aw R R Ah)<|zp (Az R R R)<|zq R R R<|za R R<|zn<|zt<|z1 R R (rB (by rw [decide_eq_decide];exact ⟨fun h=>⟨(Gu he).2 h,by omega⟩,fun h=>(Gu he).1 h.1⟩))
 exact zk 6 R<|zq R R R<|za R R<|zn<|zt<|z1 R R (rB (by rw [eq_comm,decide_eq_false_iff_not];exact fun h=>g7 (by have:=h.2;omega)))
theorem Ah3 (l:List Tp) (i:Nat) (t:Tp) (ws:List Int) (ht:l[i]? =some t) (hT:Tups l ws.length) (hws:∀w∈ws,0≤w∧w≤7741440):XC Tryz.prog 98 [.sl 4 (l.map Tp.c),dI i, .sl 1 (B4 ws)] (fun r=>r= .tup [dI ((Fa (Ke l i) t ws).getD 0),dB (Fa (Ke l i) t ws).isSome]):=by
 have:=Aj7 l i t ws ht hT hws
 rwa [←Sd] at this
theorem Aku {v:Vo} {L:Int} (h:¬(L<1∨15482880<L)):Ca v L=Ca v 1:=by unfold Ca;rw [if_neg h,if_neg (show ¬((1:Int)<1∨(15482880:Int)<1) by decide)]
theorem Wg {v:Vo} (h2:¬128<(v.evs.length:Int)) (hr:v.rest) {e:Ev} (he:v.evs[0]? =some e):Ca v 1=(if e.err≠0 then e.err else if 0<v.tups.length then 21 else 0):=Xb (by decide) (by decide) h2 hr.1 (by have:=hr.2;omega) he
theorem Mj {v:Vo} (h2:¬128<(v.evs.length:Int)) (hr:¬v.rest):Ca v 1=D1 v:=(Uc (by decide) (by decide) h2 (fun k=>hr ⟨k.1,by have:=k.2;omega⟩)).2.symm
theorem Aph {v:Vo} {k:Nat} {e:Ev} (h2:¬128<(v.evs.length:Int)) (he:v.evs[k]? =some e) (h:e.err≠0) (hgo:D7 v.evs.length k (v.evs.drop k)=D7 v.evs.length 0 v.evs):e.err=Ca v 1:=by
 by_cases hr:v.rest
 ·have hk:=(List.getElem?_eq_some_iff.1 he).1
  have:k=0:=by have:=hr.2;omega
  subst this
  rw [Wg h2 hr he,if_pos h]
 ·rw [Mj h2 hr, ←(Nr (v:=v) (e:=e.err) (by rw [←hgo,Sx he h]) h).2]
theorem Anh {v:Vo} {k:Nat} {e:Ev} (h2:¬128<(v.evs.length:Int)) (he:v.evs[k]? =some e) (h:¬e.err≠0) (h3:e.kind=3) (h4:¬(v.evs.length:Int)=1) (hgo:D7 v.evs.length k (v.evs.drop k)=D7 v.evs.length 0 v.evs):11=Ca v 1:=by
 have hk:=(List.getElem?_eq_some_iff.1 he).1
 have hr:¬v.rest:=fun k=>h4 (by have:=k.2;omega)
 rw [Mj h2 hr, ←(Nr (v:=v) (e:=11) (by rw [←hgo,Lk he h ⟨h3,by omega⟩]) (by decide)).2]
theorem Apg {v:Vo} (hz:D7 v.evs.length 0 v.evs=0):∀e∈v.evs,e.err=0:=fun e he=>by
 obtain ⟨j,hj⟩:=List.getElem?_of_mem he
 exact (inGo_zero.1 hz j e hj).1
theorem Ah6 {v:Vo} (hz:D7 v.evs.length 0 v.evs=0) (hr:¬v.rest):∀e∈v.evs,e.err=0∧e.kind≠3:=fun e he=>by
 obtain ⟨j,hj⟩:=List.getElem?_of_mem he
 have h5:=inGo_zero.1 hz j e hj
 refine ⟨h5.1,fun k=> ?_⟩
 have h6:=fun q=>h5.2 ⟨k,q⟩
 have hl:=(List.getElem?_eq_some_iff.1 hj).1
 have:j=0∧v.evs.length=1:=by omega
 rw [this.1] at hj
 exact hr ⟨(Gu hj).2 k,this.2⟩
theorem Ael {v:Vo} (h2:¬128<(v.evs.length:Int)) (hz:D7 v.evs.length 0 v.evs=0) (hr:v.rest):Ca v 1=if 0<v.tups.length then 21 else 0:=by
 obtain ⟨e,he⟩:∃e,v.evs[0]? =some e:=Ap (by rw [hr.2];omega)
 rw [Wg h2 hr he,if_neg (by rw [Apg hz e (List.mem_of_getElem? he)];decide)]
theorem Apf {v:Vo} (h2:¬128<(v.evs.length:Int)) (hz:D7 v.evs.length 0 v.evs=0) (hr:¬v.rest) (h:Cr v.tups (wrS v.evs)≠0):Cr v.tups (wrS v.evs)=Ca v 1:=by
 rw [Mj h2 hr, ←(Agf hz h).2]
theorem Ang {v:Vo} {k:Nat} {t:Tp} (h2:¬128<(v.evs.length:Int)) (hz:D7 v.evs.length 0 v.evs=0) (hr:¬v.rest) (h:¬Cr v.tups (wrS v.evs)≠0) (ht:v.tups[k]? =some t) (hn:(!(Fa (Ke v.tups k) t (wrS v.evs)).isSome)=true):21=Ca v 1:=by
 rw [Mj h2 hr, ←(Age hz h (by rw [←(Ajt h ht hn).2];decide)).2]
theorem Aq3 {v:Vo} (h2:¬128<(v.evs.length:Int)) (hz:D7 v.evs.length 0 v.evs=0) (hr:¬v.rest) (h:¬Cr v.tups (wrS v.evs)≠0) (hn:J5 v.tups (wrS v.evs)):0=Ca v 1:=by
 rw [Mj h2 hr, ←(Agd hz h (by rw [←(Ajs h hn).2];decide)).2]
theorem Ahw (v:Vo) (hE:Evs v.evs) (ht:v.tups.length≤1000):XC Tryz.prog 57 [.agg (Vo.c v), .v (.bool true)] (fun r=>r=dI (Ca v 1)):=by
 refine Ao Add Tryz.func57 R R lb<|zr<|XL.step R (As 2 (l:= [.d (.sl 13 (v.evs.map Ev.c)), .d (.sl 4 (v.tups.map Tp.c))]) R R (by kernel_rfl))<|za R R<|zn<|zs<|zr<|zp (Ab R R A1)<|zp (Aa R R Br R R)<|XL.len R R R Tryz.underlying22 fun hl14=>zp (A5 R R R)<|zn<|?_
 refine zd R (fun c15=> ?_) (fun c15=> ?_)
 exact zr<|za R R<|zn<|zt<|z1 R R (rI (Aga (v:=v) (L:=1) (by decide) (by decide) c15).2)
 refine zi<|zs<|zr<|za R R<|zn<|Ai<|?_
 refine Av (α:=Nat) (fun k=>k≤v.evs.length∧D7 v.evs.length k (v.evs.drop k)=D7 v.evs.length 0 v.evs) (fun k=>mkF [(1, .d (dB true)),(2, .ptr 2 0 0),(5, .d (dI k))]) (fun k=>mkH [(2, .box ((Vo.c v).map S.d))]) (fun k=>v.evs.length - k) (0) (⟨Nat.zero_le _,by rw [List.drop_zero]⟩) ?_ ?_ ?_
 exact fz ⟨sr,sr,sr,trivial⟩
 exact gz ⟨R,trivial⟩
 intro k hk0
 obtain ⟨hk,hgo⟩:=hk0
 refine zs<|zr<|zm R R<|zp (Ab R R A1)<|zp (Aa R R Br R R)<|XL.len R R R Tryz.underlying22 fun hl19=>zp (Aq R R R)<|zn<|?_
 refine zd R (fun c20=> ?_) (fun c20=> ?_)
 have hk0a:k<v.evs.length:=by omega
 obtain ⟨x0,hx0⟩:=Ap hk0a
 have he:=hE x0 (List.mem_of_getElem? hx0)
 refine zi<|zs<|Ai<|zs<|zr<|zp (Ab R R A1)<|zp (Aa R R Br R R)<|zm R R<|zp (Am R R R B7 hx0)<|zp (Ae (s':= .d (.agg (Ev.c x0))) (Ar R R Ax lb) (by kernel_rfl))<|XL.call1 R R (Ab3 _ (by assumption)) R<|za R R<|znr<|zm R R<|?_
 refine zp (A9 R R R)<|zn<|?_
 refine zd R (fun c30=> ?_) (fun c30=> ?_)
 exact zr<|zm R R<|za R R<|zn<|zt<|z1 R R (rI (Aph c15 hx0 c30 hgo))
 refine zi<|zr<|zp (Ab R R A1)<|zp (Aa R R Br R R)<|zm R R<|zp (Am R R R B7 hx0)<|zp (Bq R R Bn)<|zp (Aw R R Ah)<|zp (Az R R R)<|zm R R<|?_
 refine XL.dec 39 R (fun g39=> ?_) (fun g39=> ?_)
 refine zm R R<|zm R R<|zp (Ab R R A1)<|zp (Aa R R Br R R)<|XL.len R R R Tryz.underlying22 fun hl44=>zp (Az R R R)<|zq R R R<|zp (Bo R R)<|zq R R R<|zn<|?_
 refine zd R (fun c48=> ?_) (fun c48=> ?_)
 exact zr<|za R R<|zn<|zt<|z1 R R (rI (Anh c15 hx0 c30 g39 c48 hgo))
 refine zi<|Af (by kernel_rfl)<|zm R R<|zp (Ak R R R (by omega) (by omega))<|za R R<|zn<|?_
 exact Al (k+1) (⟨by omega,by rw [←Ns hx0 c30 (by omega)];exact hgo⟩) (by omega) (fz ⟨sr,sr,sr,trivial⟩) (gz ⟨rfl,trivial⟩)
 refine zk 8 R<|zq R R R<|zn<|Bb (by kernel_rfl) R<|zi<|Af (by kernel_rfl)<|zm R R<|zp (Ak R R R (by omega) (by omega))<|za R R<|zn<|?_
 exact Al (k+1) (⟨by omega,by rw [←Ns hx0 c30 (by omega)];exact hgo⟩) (by omega) (fz ⟨sr,sr,sr,trivial⟩) (gz ⟨rfl,trivial⟩)
 have hk0b:k=v.evs.length:=by omega
 have hz:D7 v.evs.length 0 v.evs=0:=by rw [←hgo,hk0b,List.drop_length];rfl
 refine At<|zs<|zr<|zp (Ae (s':= .d (.agg (Vo.c v))) (Ac (Ad R R Au R lb)) (by kernel_rfl))<|XL.call1 R R (X5 _) R<|zn<|?_
 refine zd R (fun c50=> ?_) (fun c50=> ?_)
 refine zs<|zr<|zp (Ab R R B3)<|zp (Aa R R B0 R R)<|XL.len R R R Tryz.underlying23 fun hl53=>zp (A5 R R R)<|zn<|?_
 refine zd R (fun c54=> ?_) (fun c54=> ?_)
 exact zr<|za R R<|zn<|zt<|z1 R R (rI (by rw [Ael c15 hz c50,if_pos (by omega)]))
 exact zi<|zr<|za R R<|zn<|zt<|z1 R R (rI (by rw [Ael c15 hz c50,if_neg (by omega)]))
 refine zi<|zs<|zs<|?_
 have hnr:¬v.rest:=c50
 have hva:=Ah6 hz hnr
 refine Bg [] (by kernel_rfl) (by kernel_rfl) (by kernel_rfl) (by decide)<|yp (Ab R R B3)<|yp (Aa R R B0 R R)<|ChK.cons R (CStep.call R (Si _ (by omega)) R)<|yp (Ab R R A1)<|yp (Aa R R Br R R)<|ChK.cons R (CStep.call R (N7 _ (by assumption) (by omega)) R)<|ChK.cons R (CStep.call R (Pz _ _) R)<|ym R R<|yp (A6 R R R)<|?_
 refine yp (A6 R R R)<|ya R R<|ya R R<|?_
 refine ChK.nil ⟨by kernel_rfl, ?_⟩
 refine zr<|zm R R<|zp (A9 R R R)<|zn<|?_
 refine zd R (fun c66=> ?_) (fun c66=> ?_)
 exact zr<|zm R R<|za R R<|zn<|zt<|z1 R R (rI (Apf c15 hz c50 c66))
 refine zi<|zs<|zs<|?_
 have hT:=Iy c66
 have hws:=Alr hva
 refine Af (by kernel_rfl)<|za R R<|zn<|Ai<|?_
 refine Av (α:=Nat) (fun m=>m≤v.tups.length∧∀j,j<m→(Q6 v.tups j (wrS v.evs)).isSome=true) (fun m=>mkF [(2, .ptr 2 0 0),(9, .d (dI m))]) (fun m=>mkH [(2, .box ((Vo.c v).map S.d))]) (fun m=>v.tups.length - m) (0) (⟨Nat.zero_le _,fun j hj=>absurd hj (Nat.not_lt_zero _)⟩) ?_ ?_ ?_
 exact fz ⟨sr,sr,trivial⟩
 exact gz ⟨R,trivial⟩
 intro m hk2
 obtain ⟨hm,hall⟩:=hk2
 refine zs<|zr<|zm R R<|zp (Ab R R B3)<|zp (Aa R R B0 R R)<|XL.len R R R Tryz.underlying23 fun hl71=>zp (Aq R R R)<|zn<|?_
 refine zd R (fun c72=> ?_) (fun c72=> ?_)
 have hk2a:m<v.tups.length:=by omega
 obtain ⟨x2,hx2⟩:=Ap hk2a
 refine zi<|zs<|Ai<|zs<|Bg [] (by kernel_rfl) (by kernel_rfl) (by kernel_rfl) (by decide)<|yp (Ab R R B3)<|yp (Aa R R B0 R R)<|ChK.cons R (CStep.call R (Si _ (by omega)) R)<|ym R R<|yp (Ab R R A1)<|yp (Aa R R Br R R)<|ChK.cons R (CStep.call R (N7 _ (by assumption) (by omega)) R)<|?_
 refine ChK.cons R (CStep.call R (Ah3 v.tups m x2 (wrS v.evs) hx2 hT hws) R)<|ym R R<|yp (A6 R R R)<|yp (A6 R R R)<|ya R R<|ya R R<|?_
 refine ChK.nil ⟨by kernel_rfl, ?_⟩
 refine zr<|zm R R<|zp (Cu R R)<|zn<|?_
 refine Dc (by kernel_rfl) R (fun c87=> ?_) (fun c87=> ?_)
 exact zr<|za R R<|zn<|zt<|z1 R R (rI (Ang c15 hz c50 c66 hx2 c87))
 refine zi<|Af (by kernel_rfl)<|zm R R<|zp (Ak R R R (by omega) (by omega))<|za R R<|zn<|?_
 exact Al (m+1) (⟨by omega,fun j hj=>by by_cases e:j=m;(· subst e;rw [Kt hx2];exact (by simpa using c87));(· exact hall j (by omega))⟩) (by omega) (fz ⟨sr,sr,trivial⟩) (gz ⟨rfl,trivial⟩)
 have hk2b:m=v.tups.length:=by omega
 have ha:J5 v.tups (wrS v.evs):=fun j hj=>hall j (by omega)
 exact At<|zr<|za R R<|zn<|zt<|z1 R R (rI (Aq3 c15 hz c50 c66 ha))
theorem Aio {v:Vo} {L:Int} (h:Ca v L=0) (hr:v.rest): [L]=D6 v L:=by rw [D6,if_neg (by rw [h];decide),if_pos (show v.whole∧v.evs.length=1 from hr)]
theorem Aim {v:Vo} (h:Ca v 1=0) (hr:¬v.rest):D1 v=0:=by
 have h2:¬128<(v.evs.length:Int):=by
  obtain ⟨h5,_⟩:=len_ok h
  omega
 rw [←Mj h2 hr];exact h
theorem Ans {v:Vo} {L:Int} (h:Ca v L=0) (h1:Ca v 1=0) (hr:¬v.rest):G7 v.tups (wrS v.evs)=D6 v L:=by
 rw [D6,if_neg (by rw [h];decide),if_neg (show ¬(v.whole∧v.evs.length=1) from hr),Fo,if_pos (Aim h1 hr)]
theorem Anr {v:Vo} (h:Ca v 1=0) (hr:¬v.rest):∀e∈v.evs,e.err=0∧e.kind≠3:=Ah6 (innE_zero.1 (Aim h hr)).1 hr
theorem Wz (v:Vo) (L:Int) (h:Ca v L=0) (h1:Ca v 1=0):XC Tryz.prog 32 [.agg (Vo.c v), .v (.int .i64 L)] (fun r=>r= .sl 1 (B4 (D6 v L))):=by
 have hev:=(len_ok h).1
 have htl:v.tups.length≤100:=by (rcases (len_ok h1).2.1 with q|q;(· omega);(· have:=(Iy (fun k=>k q)).len;omega))
 refine Ao Adp Tryz.func32 R R lb<|zr<|XL.step R (As 2 (l:= [.d (.sl 13 (v.evs.map Ev.c)), .d (.sl 4 (v.tups.map Tp.c))]) R R (by kernel_rfl))<|za R R<|zn<|zs<|zr<|zp (Ae (s':= .d (.agg (Vo.c v))) (Ac (Ad R R Au R lb)) (by kernel_rfl))<|XL.call1 R R (X5 _) R<|zn<|?_
 refine zd R (fun c8=> ?_) (fun c8=> ?_)
 refine zr<|zm R R<|XL.step R (B6 10 R Tryz.underlying64 Df Gt R R (by omega) (by omega))<|zp (A4 R (by conv=>lhs;whnf))<|?_
 exact zn<|zt<|Cp (i:=10) R<|z1 R R (rSl (l:= [L]) (g:=iv) (Aio h c8))
 refine zi<|zs<|?_
 have hva:=Anr h1 c8
 refine Bg [] (by kernel_rfl) (by kernel_rfl) (by kernel_rfl) (by decide)<|yp (Ab R R B3)<|yp (Aa R R B0 R R)<|ChK.cons R (CStep.call R (Si _ (by omega)) R)<|yp (Ab R R A1)<|yp (Aa R R Br R R)<|ChK.cons R (CStep.call R (N7 _ (by assumption) (by omega)) R)<|ChK.cons R (CStep.call R (Pz _ _) R)<|ym R R<|yp (A6 R R R)<|?_
 refine yp (A6 R R R)<|ya R R<|ya R R<|?_
 refine ChK.nil ⟨by kernel_rfl, ?_⟩
 exact zr<|zm R R<|za R R<|zn<|zt<|z1 R R (rSl (Ans h h1 c8))
theorem Agv {v:Vo} {L a:Int} (h:Ca v L=a) (ha:a≠0):a=ckE v L:=by rw [ckE,if_neg (by rw [h];exact fun k=>ha k.1),h]
theorem Arv {v:Vo} {L:Int} (h:Ca v L=0) (h2:0<(v.evs.length:Int)) (h3:tot (D6 v L)≠L):20=ckE v L:=by rw [ckE,if_pos ⟨h,by rw [Uz h];omega,h3⟩]
theorem Aqr {v:Vo} {L:Int} (h:Ca v L=0) (h3:¬(0<(v.evs.length:Int)∧tot (D6 v L)≠L)):0=ckE v L:=by
 rw [ckE,if_neg,h]
 rintro ⟨_,k2,k3⟩
 rw [Uz h] at k2
 exact h3 ⟨by omega,k3⟩
theorem Ab4 (v:Vo) (L:Int) (hE:Evs v.evs) (ht:v.tups.length≤1000):XC Tryz.prog 19 [.agg (Vo.c v), .v (.int .i64 L)] (fun r=>r=dI (ckE v L)):=by
 refine Ao Adv Tryz.func19 R R lb<|zr<|XL.step R (As 2 (l:= [.d (.sl 13 (v.evs.map Ev.c)), .d (.sl 4 (v.tups.map Tp.c))]) R R (by kernel_rfl))<|za R R<|zn<|zs<|zr<|zm R R<|zp (Aq R R R)<|zm R R<|?_
 refine XL.dec 8 R (fun g8=> ?_) (fun g8=> ?_)
 exact zk 2 R<|zq R R R<|zn<|An (by kernel_rfl) R<|zr<|za R R<|zn<|zt<|z1 R R (rI (Agv (Rg (v:=v) (L:=L) (by omega)).2.symm (by decide)))
 refine zm R R<|zp (A5 R R R)<|zq R R R<|zn<|?_
 refine zd R (fun c11=> ?_) (fun c11=> ?_)
 exact zr<|za R R<|zn<|zt<|z1 R R (rI (Agv (Rg (v:=v) (L:=L) (by omega)).2.symm (by decide)))
 refine zi<|zs<|zs<|?_
 have hany:Ca v L=Ca v 1:=Aku (by omega)
 refine Af (by kernel_rfl)<|zp (Ae (s':= .d (.agg (Vo.c v))) (Ac (Ad R R Au R lb)) (by kernel_rfl))<|XL.call1 R R (Ahw _ (by assumption) (by omega)) R<|za R R<|znr<|zm R R<|zp (A9 R R R)<|zn<|?_
 refine zd R (fun c15=> ?_) (fun c15=> ?_)
 exact zr<|zm R R<|za R R<|zn<|zt<|z1 R R (rI (Agv hany c15))
 refine zi<|zs<|zs<|?_
 have hl1:Ca v 1=0:=by omega
 have hl:Ca v L=0:=by omega
 have hN:=Ql v L
 refine Af (by kernel_rfl)<|zp (Ab R R A1)<|zp (Aa R R Br R R)<|XL.len R R R Tryz.underlying22 fun hl19=>zp (A5 R R R)<|zm R R<|?_
 refine XL.dec 21 R (fun g21=> ?_) (fun g21=> ?_)
 refine zp (Ae (s':= .d (.agg (Vo.c v))) (Ac (Ad R R Au R lb)) (by kernel_rfl))<|zm R R<|XL.call1 R R (Wz _ _ (by assumption) (by assumption)) R<|XL.call1 R R (Am6 _ (by assumption)) R<|zm R R<|zp (A9 R R R)<|zq R R R<|zn<|?_
 refine zd R (fun c28=> ?_) (fun c28=> ?_)
 exact zr<|za R R<|zn<|zt<|z1 R R (rI (Arv hl g21 c28))
 exact zi<|zr<|za R R<|zn<|zt<|z1 R R (rI (Aqr hl (fun k=>c28 k.2)))
 exact zk 6 R<|zq R R R<|zn<|Bb (by kernel_rfl) R<|zi<|zr<|za R R<|zn<|zt<|z1 R R (rI (Aqr hl (fun k=>g21 k.1)))
theorem Ox {l:List Int} (h:∀x∈l,0<x) {j k:Nat} (hjk:j≤k):tot (l.take j)≤tot (l.take k):=by
 rw [Mf l j k hjk]
 have:∀l:List Int,(∀x∈l,0<x)→0≤tot l:=by
  intro l
  induction l with
  |nil=>intro _;exact Int.le_refl _
  |cons x l ih=>intro h;rw [H8];have:=h x List.mem_cons_self;have:=ih fun y hy=>h y (List.mem_cons_of_mem _ hy);omega
 have:=this ((l.take k).drop j) fun x hx=>h x (List.mem_of_mem_take (List.mem_of_mem_drop hx))
 omega
def atJ (l:List Int):Nat→Int × Int
 |0=>(0,0)
 |j+1=>((j:Int),tot (l.take j))
theorem Arx {l:List Int} (h:∀x∈l,0<x) {t:Int} {j:Nat} (hj:j≤l.length) (h1:∀i,i<j→tot (l.take i)≤t) (h2:j=l.length∨t<tot (l.take j)):∀n,j≤n→n≤l.length→atS l t n=atJ l j:=by
 have h0:atS l t j=atJ l j:=by
  cases j with
  |zero=>rfl
  |succ j=>
   obtain ⟨x,hx⟩:∃x,l[j]? =some x:=Ap (by omega)
   rw [Ul hx (h1 j (by omega)) (h x (List.mem_of_getElem? hx))];rfl
 intro n
 induction n with
 |zero=>
  intro hn _
  have:j=0:=by omega
  subst this;exact h0
 |succ n ih=>
  intro hn hl
  by_cases e:j=n+1
  ·rw [←e];exact h0
  ·obtain ⟨x,hx⟩:∃x,l[n]? =some x:=Ap (by omega)
   rw [Mm hx,ih (by omega) (by omega)]
   rintro ⟨k,_⟩
   have:=Ox h (j:=j) (k:=n) (by omega)
   omega
theorem Amq {v:Val} (h:C1 v=0):0<Ct v:=by
 have hv:=Qk (v:=v) (by omega)
 have hp:0<Ed v:=by
  unfold Ed
  obtain ⟨k,hk⟩:∃k:Nat,(v.log+1).toNat=k:=⟨_,rfl⟩
  rw [hk]
  have:k<10:=by omega
  match k,this with
  |0,_=>decide
  |1,_=>decide
  |2,_=>decide
  |3,_=>decide
  |4,_=>decide
  |5,_=>decide
  |6,_=>decide
  |7,_=>decide
  |8,_=>decide
  |9,_=>decide
  |k+10,h=>omega
 have:∀n,Ed v≤(E2 (Ed v) n).2:=by
  intro n
  induction n with
  |zero=>exact Int.le_refl _
  |succ n ih=>have:=(Lo (Int.le_of_lt hp) n).1;simp only [E2];omega
 have:=this v.dots.toNat
 unfold Ct
 omega
theorem Ao4 {T:List Tp} {n w:Int} (hT:∀t∈T,t.ok) (hw:0<w) (h:Dq T n w=0):0<Dp T n w:=by
 have hb:=Qi T n hT
 unfold Dq at h
 split at h
 ·omega
 ·rename_i c
  split at h
  ·omega
  ·rename_i c2
   rw [Dp,if_neg c,if_neg c2]
   have h1:0<w*(Ay T n).1:=Int.mul_pos hw (by omega)
   have h2:=Int.ediv_mul_cancel (Int.dvd_of_emod_eq_zero (Decidable.not_not.1 c2))
   refine Int.not_le.1 fun k=> ?_
   have:=Int.mul_le_mul_of_nonneg_right k (show 0≤(Ay T n).2 by omega)
   omega
theorem Ro {v:Vo} {L:Int} (h:ckE v L=0):∀x∈ckL v L,0<x:=by
 by_cases c:v.rest
 ·obtain ⟨_,hl,_⟩:=Kc c h
  have:=(len_ok (Oq h).1).2.2.1
  rw [hl];intro x hx;rw [List.mem_singleton.1 hx];omega
 ·obtain ⟨_,_,hv,_⟩:=(Jo c).1 ⟨h,rfl⟩
  have hok:∀t∈v.tups,t.ok:=fun t ht=>(hv.tl.tv.inR t ht).ok (by have:=hv.tl.wl;omega)
  intro x hx
  obtain ⟨i,hi⟩:=List.getElem?_of_mem hx
  rw [hv.tl.ls] at hi
  have hil:=(List.getElem?_eq_some_iff.1 hi).1
  rw [Ig] at hil
  obtain ⟨w,hw⟩:∃w,(wrS v.evs)[i]? =some w:=Ap hil
  have hg:∀(ws:List Int) (n i:Nat) (w:Int),ws[i]? =some w→(Cw v.tups n ws)[i]? =some (Dp v.tups ((n+i:Nat):Int) w):=by
   intro ws
   induction ws with
   |nil=>intro n i w h;simp at h
   |cons a ws ih=>
    intro n i w h
    cases i with
    |zero=>cases h;rfl
    |succ i=>
     have:=ih (n+1) i w (by simpa using h)
     rw [Cw,List.getElem?_cons_succ,this,show n+1+i=n+(i+1) by omega]
  have hs:=hv.tl.sc i w hw
  rw [hg _ 0 i w hw,Nat.zero_add] at hi
  cases hi
  refine Ao4 hok ?_ hs
  obtain ⟨e,he,rfl⟩:=List.mem_map.1 (List.mem_of_getElem? hw)
  have hee:=hv.ev e he
  rw [Ev.len_ok hee.1 hee.2]
  exact Amq ((err_iff.1 hee.1).2.2.2.1 hee.2)
end Go.Proofs.YtcihalbakenleaaGreat
namespace Go.Proofs.YtcihalbakenleaaGreat
open Go.RowKit
theorem Dr:DecQ Tryz.prog 3 Fp:=DecQ.int Tryz.underlying3
def QPit:List D→Prop:=QS [Fp,Fp,Fp]
theorem Aja:DecQ Tryz.prog 89 QPit:=by
 refine DecQ.struct _ Tryz.underlying89 rfl (by kernel_rfl) fun i f Q hf hQ=> ?_
 match i,hf,hQ with
 |0,hf,hQ=>cases hf;cases hQ;exact Dr
 |1,hf,hQ=>cases hf;cases hQ;exact Dr
 |2,hf,hQ=>cases hf;cases hQ;exact Dr
 |_+3,hf,hQ=>simp at hQ
def QHd:List D→Prop:=QS [QPit,Ag0,Fp]
theorem Arr:DecQ Tryz.prog 91 QHd:=by
 refine DecQ.struct _ Tryz.underlying91 rfl (by kernel_rfl) fun i f Q hf hQ=> ?_
 match i,hf,hQ with
 |0,hf,hQ=>cases hf;cases hQ;exact Aja
 |1,hf,hQ=>cases hf;cases hQ;exact (DecQ.bool Tryz.underlying4)
 |2,hf,hQ=>cases hf;cases hQ;exact Dr
 |_+3,hf,hQ=>simp at hQ
def QGr:List D→Prop:=QS [QPit,Fp,Ag0]
theorem Ars:DecQ Tryz.prog 138 QGr:=by
 refine DecQ.struct _ Tryz.underlying138 rfl (by kernel_rfl) fun i f Q hf hQ=> ?_
 match i,hf,hQ with
 |0,hf,hQ=>cases hf;cases hQ;exact Aja
 |1,hf,hQ=>cases hf;cases hQ;exact Dr
 |2,hf,hQ=>cases hf;cases hQ;exact (DecQ.bool Tryz.underlying4)
 |_+3,hf,hQ=>simp at hQ
def QSy:List D→Prop:=QS [Aqv,Fp]
theorem Arn:DecQ Tryz.prog 140 QSy:=by
 refine DecQ.struct _ Tryz.underlying140 rfl (by kernel_rfl) fun i f Q hf hQ=> ?_
 match i,hf,hQ with
 |0,hf,hQ=>cases hf;cases hQ;exact (DecQ.str Tryz.underlying9)
 |1,hf,hQ=>cases hf;cases hQ;exact Dr
 |_+2,hf,hQ=>simp at hQ
def QId:List D→Prop:=QS [Fp,Fp]
theorem Arq:DecQ Tryz.prog 54 QId:=by
 refine DecQ.struct _ Tryz.underlying54 rfl (by kernel_rfl) fun i f Q hf hQ=> ?_
 match i,hf,hQ with
 |0,hf,hQ=>cases hf;cases hQ;exact Dr
 |1,hf,hQ=>cases hf;cases hQ;exact Dr
 |_+2,hf,hQ=>simp at hQ
def Aqu:List D→Prop:=QS [Fp,Fp]
theorem Aqm:DecQ Tryz.prog 56 Aqu:=by
 refine DecQ.struct _ Tryz.underlying56 rfl (by kernel_rfl) fun i f Q hf hQ=> ?_
 match i,hf,hQ with
 |0,hf,hQ=>cases hf;cases hQ;exact Dr
 |1,hf,hQ=>cases hf;cases hQ;exact Dr
 |_+2,hf,hQ=>simp at hQ
def QEv:List D→Prop:=QS [QId,Fp,Aqu,QSl 5 QHd,QSl 5 QGr,Fp,Fp,Fp,QSl 2 QSy,Fp,Fp]
theorem Art:DecQ Tryz.prog 60 QEv:=by
 refine DecQ.struct _ Tryz.underlying60 rfl (by kernel_rfl) fun i f Q hf hQ=> ?_
 match i,hf,hQ with
 |0,hf,hQ=>cases hf;cases hQ;exact Arq
 |1,hf,hQ=>cases hf;cases hQ;exact Dr
 |2,hf,hQ=>cases hf;cases hQ;exact Aqm
 |3,hf,hQ=>cases hf;cases hQ;exact (DecQ.slice Tryz.underlying48 Arr (by kernel_rfl) (by decide))
 |4,hf,hQ=>cases hf;cases hQ;exact (DecQ.slice Tryz.underlying57 Ars (by kernel_rfl) (by decide))
 |5,hf,hQ=>cases hf;cases hQ;exact Dr
 |6,hf,hQ=>cases hf;cases hQ;exact Dr
 |7,hf,hQ=>cases hf;cases hQ;exact Dr
 |8,hf,hQ=>cases hf;cases hQ;exact (DecQ.slice Tryz.underlying58 Arn (by kernel_rfl) (by decide))
 |9,hf,hQ=>cases hf;cases hQ;exact Dr
 |10,hf,hQ=>cases hf;cases hQ;exact Dr
 |_+11,hf,hQ=>simp at hQ
def QTp:List D→Prop:=QS [Fp,Fp,Fp,Fp]
theorem Arm:DecQ Tryz.prog 102 QTp:=by
 refine DecQ.struct _ Tryz.underlying102 rfl (by kernel_rfl) fun i f Q hf hQ=> ?_
 match i,hf,hQ with
 |0,hf,hQ=>cases hf;cases hQ;exact Dr
 |1,hf,hQ=>cases hf;cases hQ;exact Dr
 |2,hf,hQ=>cases hf;cases hQ;exact Dr
 |3,hf,hQ=>cases hf;cases hQ;exact Dr
 |_+4,hf,hQ=>simp at hQ
def QVo:List D→Prop:=QS [QSl 13 QEv,QSl 4 QTp]
theorem Arl:DecQ Tryz.prog 25 QVo:=by
 refine DecQ.struct _ Tryz.underlying25 rfl (by kernel_rfl) fun i f Q hf hQ=> ?_
 match i,hf,hQ with
 |0,hf,hQ=>cases hf;cases hQ;exact (DecQ.slice Tryz.underlying22 Art (by kernel_rfl) (by decide))
 |1,hf,hQ=>cases hf;cases hQ;exact (DecQ.slice Tryz.underlying23 Arm (by kernel_rfl) (by decide))
 |_+2,hf,hQ=>simp at hQ
def QMe:List D→Prop:=QS [Fp,Fp,QS (List.replicate 6 Fp)]
theorem Arp:DecQ Tryz.prog 28 QMe:=by
 refine DecQ.struct _ Tryz.underlying28 rfl (by kernel_rfl) fun i f Q hf hQ=> ?_
 match i,hf,hQ with
 |0,hf,hQ=>cases hf;cases hQ;exact Dr
 |1,hf,hQ=>cases hf;cases hQ;exact Dr
 |2,hf,hQ=>cases hf;cases hQ;exact (DecQ.array Tryz.underlying26 (by kernel_rfl) Dr)
 |_+3,hf,hQ=>simp at hQ
def QPl:List D→Prop:=QS [QMe,Fp,Fp]
theorem Aro:DecQ Tryz.prog 30 QPl:=by
 refine DecQ.struct _ Tryz.underlying30 rfl (by kernel_rfl) fun i f Q hf hQ=> ?_
 match i,hf,hQ with
 |0,hf,hQ=>cases hf;cases hQ;exact Arp
 |1,hf,hQ=>cases hf;cases hQ;exact Dr
 |2,hf,hQ=>cases hf;cases hQ;exact Dr
 |_+3,hf,hQ=>simp at hQ
def QA2:List D→Prop:=QS (List.replicate 2 Fp)
theorem Aru:DecQ Tryz.prog 62 QA2:=DecQ.array Tryz.underlying62 (by kernel_rfl) Dr
theorem K5 {α:Type} {Q:List D→Prop} {c:α→List D} {ok:α→Prop} (hq:∀ds,Q ds→∃a,ds=c a∧ok a):∀{l:List (List D)},(∀x∈l,Q x)→∃L:List α,l=L.map c∧∀a∈L,ok a
 | [],_=>⟨[],rfl,fun a h=>by cases h⟩
 |x::l,h=>by
  obtain ⟨a,rfl,ha⟩:=hq x (h x List.mem_cons_self)
  obtain ⟨L,rfl,hL⟩:=K5 hq fun y hy=>h y (List.mem_cons_of_mem _ hy)
  refine ⟨a::L,rfl,fun b hb=> ?_⟩
  rcases List.mem_cons.1 hb with e|e
  ·rw [e];exact ha
  ·exact hL b e
theorem QPit.inv {ds:List D} (h:QPit ds):∃p:Pit,ds=p.c:=by
 obtain ⟨_,_,rfl,⟨a,rfl,ha⟩,_,_,rfl,⟨b,rfl,hb⟩,_,_,rfl,⟨c,rfl,hc⟩,rfl⟩:=h
 exact ⟨⟨a,b,c⟩,rfl⟩
theorem QHd.inv (ds:List D) (h:QHd ds):∃x:Hd,ds=x.c∧True:=by
 obtain ⟨_,_,rfl,hp,_,_,rfl,⟨t,rfl⟩,_,_,rfl,⟨s,rfl,_⟩,rfl⟩:=h
 obtain ⟨p,rfl⟩:=hp.inv
 exact ⟨⟨p,t,s⟩,rfl,trivial⟩
theorem QGr.inv (ds:List D) (h:QGr ds):∃x:Gr,ds=x.c∧True:=by
 obtain ⟨_,_,rfl,hp,_,_,rfl,⟨s,rfl,_⟩,_,_,rfl,⟨t,rfl⟩,rfl⟩:=h
 obtain ⟨p,rfl⟩:=hp.inv
 exact ⟨⟨p,s,t⟩,rfl,trivial⟩
theorem QSy.inv (ds:List D) (h:QSy ds):∃x:Sy,ds=x.c∧True:=by
 obtain ⟨_,_,rfl,⟨t,rfl⟩,_,_,rfl,⟨s,rfl,_⟩,rfl⟩:=h
 exact ⟨⟨t.data.toList,s⟩,rfl,trivial⟩
theorem QTp.inv (ds:List D) (h:QTp ds):∃x:Tp,ds=x.c∧True:=by
 obtain ⟨_,_,rfl,⟨a,rfl,ha⟩,_,_,rfl,⟨b,rfl,hb⟩,_,_,rfl,⟨c,rfl,hc⟩,_,_,rfl,⟨d,rfl,hd⟩,rfl⟩:=h
 exact ⟨⟨a,b,c,d⟩,rfl,trivial⟩
theorem QEv.inv (ds:List D) (h:QEv ds):∃x:Ev,ds=x.c∧x.art≤9223372036854775807:=by
 obtain ⟨_, _, rfl, ⟨_, _, rfl, ⟨s, rfl, _⟩, _, _, rfl, ⟨n, rfl, _⟩, rfl⟩, _, _, rfl, ⟨k, rfl, _⟩, _, _, rfl, ⟨_, _, rfl, ⟨lg, rfl, _⟩, _, _, rfl, ⟨dt, rfl, _⟩, rfl⟩, _, _, rfl, ⟨hs, rfl, hh⟩, _, _, rfl, ⟨gs, rfl, hg⟩,
  _, _, rfl, ⟨ar, rfl, har⟩, _, _, rfl, ⟨om, rfl, _⟩, _, _, rfl, ⟨dy, rfl, _⟩, _, _, rfl, ⟨ls, rfl, hl⟩, _, _, rfl, ⟨st, rfl, _⟩, _, _, rfl, ⟨be, rfl, _⟩, rfl⟩ := h
 obtain ⟨H,rfl,_⟩:=K5 QHd.inv hh
 obtain ⟨G,rfl,_⟩:=K5 QGr.inv hg
 obtain ⟨L,rfl,_⟩:=K5 QSy.inv hl
 exact ⟨⟨s,n,k,⟨lg,dt⟩,H,G,ar,om,dy,L,st,be⟩,rfl,har.2⟩
theorem QVo.inv (ds:List D) (h:QVo ds):∃v:Vo,ds=v.c∧Evs v.evs:=by
 obtain ⟨_,_,rfl,⟨es,rfl,he⟩,_,_,rfl,⟨ts,rfl,ht⟩,rfl⟩:=h
 obtain ⟨E,rfl,hE⟩:=K5 QEv.inv he
 obtain ⟨T,rfl,_⟩:=K5 QTp.inv ht
 exact ⟨⟨E,T⟩,rfl,hE⟩
theorem QA2.inv (ds:List D) (h:QA2 ds):∃a b:Int,ds= [dI a,dI b]:=by
 obtain ⟨_,_,rfl,⟨a,rfl,_⟩,_,_,rfl,⟨b,rfl,_⟩,rfl⟩:=h
 exact ⟨a,b,rfl⟩
theorem QMe.inv (ds:List D) (h:QMe ds):∃m:Me,ds=m.c:=by
 obtain ⟨_,_,rfl,⟨c,rfl,_⟩,_,_,rfl,⟨u,rfl,_⟩,_,_,rfl,⟨_,_,rfl,⟨g0,rfl,hg0⟩,_,_,rfl,⟨g1,rfl,hg1⟩,_,_,rfl,⟨g2,rfl,hg2⟩,_,_,rfl,⟨g3,rfl,hg3⟩,_,_,rfl,⟨g4,rfl,hg4⟩,_,_,rfl,⟨g5,rfl,hg5⟩,rfl⟩,rfl⟩:=h
 exact ⟨⟨c,u,g0,g1,g2,g3,g4,g5⟩,rfl⟩
theorem QPl.inv (ds:List D) (h:QPl ds):∃p:Pl,ds=p.c:=by
 obtain ⟨_,_,rfl,hm,_,_,rfl,⟨a,rfl,_⟩,_,_,rfl,⟨b,rfl,_⟩,rfl⟩:=h
 obtain ⟨m,rfl⟩:=QMe.inv _ hm
 exact ⟨⟨m,a,b⟩,rfl⟩
end Go.Proofs.YtcihalbakenleaaGreat
namespace Go.Proofs.YtcihalbakenleaaGreat
open Go.RowKit
def soundS (v:Vo) (L t:Int):List Hd:=if atE v L t≠0 then [] else match v.evs[(atV v L t).1.toNat]? with
 |some x=>x.heads
 |none=> []
theorem Aqs (v:Vo) (L t:Int):(ckE v L≠0→atE v L t=ckE v L)∧(ckE v L=0→v.evs.length=0→atE v L t=10)∧(ckE v L=0→v.evs.length≠0→(t<0∨L≤t)→atE v L t=2)∧(ckE v L=0→v.evs.length≠0→¬(t<0∨L≤t)→atE v L t=0):=by
 refine ⟨fun h=>Abr h,fun h h2=>Abq (fun k=>k h) (by have:=Io h;omega),fun h h2 h3=>S6 (fun k=>k h) (by have:=Io h;omega) h3,fun h h2 h3=>(Agy (fun k=>k h) (by have:=Io h;omega) h3).2.symm⟩
theorem Asq {v:Vo} {L t:Int} (h:atE v L t=0):atV v L t=atS (ckL v L) t (ckL v L).length:=by rw [atV,if_neg (by omega)]
end Go.Proofs.YtcihalbakenleaaGreat
namespace Go.Proofs.YtcihalbakenleaaGreat
def Ar3:List (List Pit × Int)→Int→List Pit
  | [],_=> []
  |(p,w)::r,t=>if t<w then p else Ar3 r (t - w)
def evP (e:Ev):List Pit:=G9 e.heads
def zipV (es:List Ev) (ls:List Int):List (List Pit × Int):=(es.map evP).zip ls
theorem Ahj:∀{ls:List Int} {t:Int},0≤t→t<tot ls→∃(k:Nat) (w:Int),ls[k]? =some w∧tot (ls.take k)≤t∧t<tot (ls.take k)+w
  | [],t,h0,h=>by rw [Ku] at h;omega
  |w::r,t,h0,h=>by
    rw [H8] at h
    by_cases c:t<w
    · exact ⟨0,w,rfl,by rw [List.take_zero,Ku];exact h0,by rw [List.take_zero,Ku];omega⟩
    · obtain ⟨k,u,h1,h2,h3⟩:=Ahj (ls:=r) (t:=t - w) (by omega) (by omega)
      exact ⟨k+1,u,by simpa using h1,by rw [List.take_succ_cons,H8];omega,by rw [List.take_succ_cons,H8];omega⟩
theorem Zh {v:Vo} {L:Int} (h:ckE v L=0) (hne:v.evs≠ []):tot (ckL v L)=L:=by
  by_cases c:v.rest
  · rw [(Kc c h).2.1,H8,Ku];omega
  · exact ((Jo c).1 ⟨h,rfl⟩).2.2.2 hne
theorem Yc {f:Hd→Hd} (hf:∀h,(f h).p=h.p) (l:List Hd):G9 (l.map f)=G9 l:=by
  unfold G9
  rw [List.map_map]
  exact List.map_congr_left fun x _=>hf x
theorem Sq (l:List Hd):G9 (l.map Hd.tie)=G9 l:=Yc (f:=Hd.tie) (fun _=>rfl) l
theorem T1 (l:List Hd):G9 (l.map Hd.plain)=G9 l:=Yc (f:=Hd.plain) (fun _=>rfl) l
end Go.Proofs.YtcihalbakenleaaGreat
namespace Go.Proofs.YtcihalbakenleaaGreat
open Go.RowKit
def N9 (u:Int) (j:Nat):Bool:=(List.range j).any fun i=>decide (u=2 ^ i)
theorem Vw (u:Int) (j:Nat):N9 u (j+1)=(N9 u j||decide (u=2 ^ j)):=by
 unfold N9;rw [List.range_succ,List.any_append];simp
theorem Api {j:Nat} (h:j≤7):(j<7∧1≤(2:Int) ^ j∧(2:Int) ^ j≤64)∨(j=7∧(2:Int) ^ j=128):=by
 match j,h with
 |0,_=>decide
 |1,_=>decide
 |2,_=>decide
 |3,_=>decide
 |4,_=>decide
 |5,_=>decide
 |6,_=>decide
 |7,_=>decide
 |j+8,h=>omega
theorem pow_iff {m:Me}:N9 m.unit 7=true↔¬(m.unit<1∨64<m.unit∨¬m.pow):=by
 have h0:∀n:Nat,n<65→(N9 (n:Int) 7=true↔¬((n:Int)<1∨64<(n:Int)∨¬(((n:Int).toNat &&& ((n:Int) - 1).toNat:Nat):Int)=0)):=by decide+kernel
 by_cases c:0≤m.unit∧m.unit≤64
 ·obtain ⟨n,hn⟩:=Int.eq_ofNat_of_zero_le c.1
  have:=h0 n (by omega)
  unfold Me.pow
  rw [hn];exact this
 ·constructor
  ·intro h
   unfold N9 at h
   rw [List.any_eq_true] at h
   obtain ⟨i,hi,h⟩:=h
   have hi:=List.mem_range.1 hi
   have h:=of_decide_eq_true h
   have:=Api (j:=i) (by omega)
   omega
  ·intro h;omega
theorem Ai1 {m:Me} {s n:Int} (h:gGo 0 0 0 m.gs=some (s,n)):m.flat↔n=0:=by
 have hg:∀(l:List Int) (k:Nat) (s n s' n':Int),gGo k s n l=some (s',n')→0≤n→n≤n'∧(n'=n↔∀g∈l,g=0):=by
  intro l
  induction l with
  |nil=>
   intro k s n s' n' h _
   rw [gGo] at h;cases h
   exact ⟨Int.le_refl _,fun _ g hg=>(by cases hg),fun _=>rfl⟩
  |cons g l ih=>
   intro k s n s' n' h h0
   rw [gGo] at h
   split at h
   ·cases h
   ·rename_i c
    split at h
    ·rename_i c2
     obtain ⟨h1,h2⟩:=ih _ _ _ _ _ h (by omega)
     exact ⟨by omega,fun e=>by omega,fun e=>by have:=e g List.mem_cons_self;omega⟩
    ·rename_i c2
     obtain ⟨h1,h2⟩:=ih _ _ _ _ _ h h0
     refine ⟨h1,fun e x hx=> ?_,fun e=>h2.2 fun x hx=>e x (List.mem_cons_of_mem _ hx)⟩
     rcases List.mem_cons.1 hx with q|q
     ·rw [q];omega
     ·exact h2.1 e x q
 have h2:=(hg m.gs 0 0 0 s n h (Int.le_refl _)).2
 rw [h2]
 unfold Me.flat Me.gs
 simp only [List.mem_cons,List.not_mem_nil,or_false,forall_eq_or_imp,forall_eq]
theorem An5 {m:Me} {s n:Int} (h:gGo 0 0 0 m.gs=some (s,n)) (h0:0≤n):m.grouped↔¬(n=1∨(1<n∧s≠m.count)):=by
 by_cases c:m.flat
 ·have:=(Ai1 h).1 c
  exact ⟨fun _=>by omega,fun _=> .inl c⟩
 ·have hn:=(not_congr (Ai1 h)).1 c
  rw [Y0 c h];omega
theorem Ua {m:Me} (h:¬(m.count<1∨64<m.count)) (h2:N9 m.unit 7=true) (h3:¬m.grouped):19=m.err:=Apw h (pow_iff.1 h2) h3
theorem Al3 {m:Me} (h:¬(m.count<1∨64<m.count)) (h2:N9 m.unit 7=true) (h3:m.grouped):0=m.err:=Apv h (pow_iff.1 h2) h3
theorem Arc {m:Me} (h:¬(m.count<1∨64<m.count)) (h2:¬N9 m.unit 7=true):17=m.err:=Af6 h (Decidable.not_not.1 fun k=>h2 (pow_iff.2 k))
theorem Yo {m:Me} (h1:gGo 0 0 0 m.gs=none):¬m.grouped:=by
 rintro (h|h)
 ·have:m.gs= [0,0,0,0,0,0]:=by unfold Me.flat at h;unfold Me.gs;rw [h.1,h.2.1,h.2.2.1,h.2.2.2.1,h.2.2.2.2.1,h.2.2.2.2.2]
  rw [this] at h1
  revert h1;decide
 ·rw [h1] at h;exact h
theorem Ap5 {m:Me} {k:Nat} {g:Int} (h:m.gs[k]? =some g):((Me.c m).map S.d)[2+k]? =some (S.d (dI g)):=by
 have:(m.gs.map fun g=>S.d (dI g))[k]? =some (S.d (dI g)):=by rw [List.getElem?_map,h];rfl
 have e:((Me.c m).map S.d)= [S.d (dI m.count),S.d (dI m.unit)]++m.gs.map fun g=>S.d (dI g):=rfl
 rw [e,List.getElem?_append_right (by simp)]
 simpa using this
theorem Ash {b:Bool} (h:(!b)=true):¬b=true:=by cases b<;>simp_all
theorem Arb {b:Bool} (h:(!b)=false):b=true:=by cases b<;>simp_all
theorem Ab5 (m:Me):XC Tryz.prog 36 [.agg (Me.c m)] (fun r=>r=dI m.err):=by
 refine Ao Ado Tryz.func36 R R lb<|zr<|XL.step R (As 1 (l:= [.d (dI m.count), .d (dI m.unit), .d (dI m.g0), .d (dI m.g1), .d (dI m.g2), .d (dI m.g3), .d (dI m.g4), .d (dI m.g5)]) R R (by kernel_rfl))<|za R R<|zn<|zs<|zr<|zp (Ab R R Gz)<|zp (Aa R R Ah R R)<|zp (Aq R R R)<|zm R R<|?_
 refine XL.dec 12 R (fun g12=> ?_) (fun g12=> ?_)
 exact zk 3 R<|zq R R R<|zn<|An (by kernel_rfl) R<|zr<|za R R<|zn<|zt<|z1 R R (rI (Af7 (.inl g12)))
 refine zp (Ab R R Gz)<|zp (Aa R R Ah R R)<|zp (A5 R R R)<|zq R R R<|zn<|?_
 refine zd R (fun c16=> ?_) (fun c16=> ?_)
 exact zr<|za R R<|zn<|zt<|z1 R R (rI (Af7 (.inr c16)))
 refine zi<|zr<|za R R<|zn<|zs<|zr<|za R R<|zn<|Ai<|?_
 refine Av (α:=Nat) (fun j=>j≤7) (fun j=>mkF [(1, .ptr 1 0 0),(2, .d (dI 0)),(3, .d (dB (N9 m.unit j))),(4, .d (dI (2 ^ j)))]) (fun j=>mkH [(1, .box ((Me.c m).map S.d))]) (fun j=>7 - j) (0) (Nat.zero_le _) ?_ ?_ ?_
 exact fz ⟨sr,sr,sr, .same (sI (by decide)),trivial⟩
 exact gz ⟨R,trivial⟩
 intro j hk0
 have hp7:=Api hk0
 refine zs<|zr<|zm R R<|zp (Ha R R R)<|zn<|?_
 refine zd R (fun c18=> ?_) (fun c18=> ?_)
 refine zi<|zs<|Ai<|Af (by kernel_rfl)<|zm R R<|zm R R<|?_
 refine XL.bool 22 R (fun g22=> ?_) (fun g22=> ?_)
 refine zk 4 R<|zq R R R<|za R R<|zn<|Af (by kernel_rfl)<|zm R R<|zp (Id R R R (by omega) (by omega))<|za R R<|zn<|?_
 exact Al (j+1) (by omega) (by omega) (fz ⟨sr,sr, .same (sB (by rw [Vw,g22];rfl)), .same (sI (by rw [Int.pow_succ];omega)),trivial⟩) (gz ⟨R,trivial⟩)
 refine zp (Ab R R J1)<|zp (Aa R R Ah R R)<|zm R R<|zp (Az R R R)<|zq R R R<|za R R<|zn<|Af (by kernel_rfl)<|zm R R<|zp (Id R R R (by omega) (by omega))<|za R R<|zn<|?_
 exact Al (j+1) (by omega) (by omega) (fz ⟨sr,sr, .same (sB (by rw [Vw,g22];rfl)), .same (sI (by rw [Int.pow_succ];omega)),trivial⟩) (gz ⟨R,trivial⟩)
 have hj7:j=7:=by omega
 subst hj7
 refine At<|zs<|zr<|zm R R<|zp (Cu R R)<|zn<|?_
 refine Dc (by kernel_rfl) R (fun c29=> ?_) (fun c29=> ?_)
 exact zr<|za R R<|zn<|zt<|z1 R R (rI (Arc (by omega) (Ash c29)))
 have hpw:=Arb c29
 refine zi<|zr<|za R R<|za R R<|zn<|zs<|zr<|za R R<|zn<|Ai<|?_
 refine Av (α:=Nat × Int × Int) (fun p=>p.1≤6∧gGo p.1 p.2.1 p.2.2 (m.gs.drop p.1)=gGo 0 0 0 m.gs∧0≤p.2.1∧p.2.1≤64*p.1∧0≤p.2.2∧p.2.2≤p.1) (fun p=>mkF [(1, .ptr 1 0 0),(5, .d (dI p.2.1)),(6, .d (dI p.2.2)),(7, .d (dI (p.1:Nat)))]) (fun p=>mkH [(1, .box ((Me.c m).map S.d))]) (fun p=>6 - p.1) ((0,0,0)) (⟨Nat.zero_le _,R,by simp,by simp,by simp,by simp⟩) ?_ ?_ ?_
 exact fz ⟨sr,sr,sr,sr,trivial⟩
 exact gz ⟨R,trivial⟩
 intro p hk2
 obtain ⟨hk,hgo,hs0,hs1,hn0,hn1⟩:=hk2
 refine zs<|zr<|zm R R<|zp (Aq R R R)<|zn<|?_
 refine zd R (fun c31=> ?_) (fun c31=> ?_)
 obtain ⟨g,hg⟩:∃g,m.gs[p.1]? =some g:=Ap (by show p.1<6;omega)
 refine zi<|zs<|Ai<|zr<|zm R R<|zp (Ab R R M6)<|zp (F9 R R R Tryz.underlying26 Df (by omega))<|zp (Aa R R Ah R (Ap5 hg))<|za R R<|zn<|zs<|zr<|zm R R<|zp (Aq R R R)<|?_
 refine zm R R<|?_
 refine XL.dec 40 R (fun g40=> ?_) (fun g40=> ?_)
 exact zk 2 R<|zq R R R<|zm R R<|zk 7 R<|zq R R R<|zn<|An (by kernel_rfl) R<|zr<|za R R<|zn<|zt<|z1 R R (rI (Ua (by omega) hpw (Yo (by rw [←hgo];exact K6 hg (by omega)))))
 refine zm R R<|zp (A5 R R R)<|zq R R R<|zm R R<|?_
 refine XL.dec 44 R (fun g44=> ?_) (fun g44=> ?_)
 exact zk 7 R<|zq R R R<|zn<|An (by kernel_rfl) R<|zr<|za R R<|zn<|zt<|z1 R R (rI (Ua (by omega) hpw (Yo (by rw [←hgo];exact K6 hg (by omega)))))
 refine zm R R<|zp (A5 R R R)<|zm R R<|?_
 refine XL.dec 47 R (fun g47=> ?_) (fun g47=> ?_)
 refine zm R R<|zm R R<|zp (Aq R R R)<|zq R R R<|zq R R R<|zn<|?_
 refine zd R (fun c52=> ?_) (fun c52=> ?_)
 exact zr<|za R R<|zn<|zt<|z1 R R (rI (Ua (by omega) hpw (Yo (by rw [←hgo];exact K6 hg (by omega)))))
 refine zi<|zr<|zm R R<|zp (A5 R R R)<|zn<|?_
 refine zd R (fun c54=> ?_) (fun c54=> ?_)
 refine Af (by kernel_rfl)<|zm R R<|zm R R<|zp (Ak R R R (by omega) (by omega))<|zm R R<|zp (Ak R R R (by omega) (by omega))<|za R R<|za R R<|zn<|Af (by kernel_rfl)<|zm R R<|zp (Ak R R R (by omega) (by omega))<|za R R<|zn<|?_
 exact Al ((p.1+1,p.2.1+g,p.2.2+1)) (⟨by simp only;omega,by rw [←Ae0 hg (by omega) c54];exact hgo,by simp only;omega,by simp only;omega,by simp only;omega,by simp only;omega⟩) (by simp only;omega) (fz ⟨sr,sr,sr,sr,trivial⟩) (gz ⟨rfl,trivial⟩)
 refine zi<|Af (by kernel_rfl)<|zm R R<|zp (Ak R R R (by omega) (by omega))<|za R R<|zn<|?_
 exfalso;omega
 refine zk 3 R<|zq R R R<|zq R R R<|zn<|Bb (by kernel_rfl) R<|zi<|zr<|zm R R<|zp (A5 R R R)<|zn<|?_
 refine zd R (fun c54=> ?_) (fun c54=> ?_)
 refine Af (by kernel_rfl)<|zm R R<|zm R R<|zp (Ak R R R (by omega) (by omega))<|zm R R<|zp (Ak R R R (by omega) (by omega))<|za R R<|za R R<|zn<|Af (by kernel_rfl)<|zm R R<|zp (Ak R R R (by omega) (by omega))<|za R R<|zn<|?_
 exfalso;omega
 refine zi<|Af (by kernel_rfl)<|zm R R<|zp (Ak R R R (by omega) (by omega))<|za R R<|zn<|?_
 exact Al ((p.1+1,p.2.1,p.2.2)) (⟨by simp only;omega,by rw [←Ai0 hg (by omega) c54];exact hgo,by simp only;omega,by simp only;omega,by simp only;omega,by simp only;omega⟩) (by simp only;omega) (fz ⟨sr,sr,sr,sr,trivial⟩) (gz ⟨rfl,trivial⟩)
 have hke:p.1=6:=by omega
 have hend:gGo 0 0 0 m.gs=some (p.2.1,p.2.2):=by rw [←hgo,hke];rfl
 have hgr:=An5 hend hn0
 refine At<|zs<|zr<|zm R R<|zp (Az R R R)<|zm R R<|?_
 refine XL.dec 62 R (fun g62=> ?_) (fun g62=> ?_)
 exact zk 8 R<|zq R R R<|zn<|An (by kernel_rfl) R<|zr<|za R R<|zn<|zt<|z1 R R (rI (Ua (by omega) hpw (fun k=>hgr.1 k (.inl g62))))
 refine zm R R<|zp (A5 R R R)<|zm R R<|?_
 refine XL.dec 65 R (fun g65=> ?_) (fun g65=> ?_)
 refine zm R R<|zp (Ab R R Gz)<|zp (Aa R R Ah R R)<|zp (A9 R R R)<|zq R R R<|zq R R R<|zn<|?_
 refine zd R (fun c71=> ?_) (fun c71=> ?_)
 exact zr<|za R R<|zn<|zt<|z1 R R (rI (Ua (by omega) hpw (fun k=>hgr.1 k (by omega))))
 exact zi<|zr<|za R R<|zn<|zt<|z1 R R (rI (Al3 (by omega) hpw (hgr.2 (by omega))))
 exact zk 4 R<|zq R R R<|zq R R R<|zn<|Bb (by kernel_rfl) R<|zi<|zr<|za R R<|zn<|zt<|z1 R R (rI (Al3 (by omega) hpw (hgr.2 (by omega))))
def Pl.err (p:Pl):Int:=if p.m.err≠0 then p.m.err else if p.bad then 2 else 0
theorem Aq6 {p:Pl} (h:p.m.err≠0):p.m.err=p.err:=by rw [Pl.err,if_pos h]
theorem W7 {p:Pl} (h:¬p.m.err≠0) (h2:p.bad):2=p.err:=by rw [Pl.err,if_neg h,if_pos h2]
theorem Aq5 {p:Pl} (h:¬p.m.err≠0) (h2:¬p.bad):0=p.err:=by rw [Pl.err,if_neg h,if_neg h2]
theorem Ama {p:Pl} {v:Vo}:p.chk v=if p.err≠0 then p.err else ckE v p.len:=by
 unfold Pl.chk Pl.err
 by_cases c:p.m.err≠0
 ·rw [if_pos c,if_pos c,if_pos c]
 ·rw [if_neg c,if_neg c]
  by_cases c2:p.bad
  ·rw [if_pos c2,if_pos c2];rfl
  ·rw [if_neg c2,if_neg c2,if_neg (by decide)]
theorem Ah4 (p:Pl):XC Tryz.prog 49 [.agg (Pl.c p)] (fun r=>r=dI p.err):=by
 refine Ao Adg Tryz.func49 R R lb<|zr<|XL.step R (As 1 (l:= [.d (dI p.m.count), .d (dI p.m.unit), .d (dI p.m.g0), .d (dI p.m.g1), .d (dI p.m.g2), .d (dI p.m.g3), .d (dI p.m.g4), .d (dI p.m.g5), .d (dI p.off), .d (dI p.len)]) R R (by kernel_rfl))<|za R R<|zn<|zs<|zr<|zp (Ab R R Ala)<|?_
 refine zp (Ae (s':= .d (.agg (Me.c p.m))) (Ac (Ad R R Ci R lb)) (by kernel_rfl))<|XL.call1 R R (Ab5 _) R<|za R R<|znr<|zm R R<|zp (A9 R R R)<|zn<|?_
 refine zd R (fun c8=> ?_) (fun c8=> ?_)
 exact zr<|zm R R<|za R R<|zn<|zt<|z1 R R (rI (Aq6 c8))
 refine zi<|zs<|zr<|zp (Ab R R Y5)<|zp (Aa R R Ah R R)<|zp (Aq R R R)<|zm R R<|?_
 refine XL.dec 13 R (fun g13=> ?_) (fun g13=> ?_)
 exact zk 3 R<|zq R R R<|zm R R<|zk 3 R<|zq R R R<|zm R R<|zk 3 R<|zq R R R<|zn<|An (by kernel_rfl) R<|zr<|za R R<|zn<|zt<|z1 R R (rI (W7 c8 (by unfold Pl.bad;omega)))
 refine zp (Ab R R Y5)<|zp (Aa R R Ah R R)<|zp (A5 R R R)<|zq R R R<|zm R R<|?_
 refine XL.dec 18 R (fun g18=> ?_) (fun g18=> ?_)
 exact zk 3 R<|zq R R R<|zm R R<|zk 3 R<|zq R R R<|zn<|An (by kernel_rfl) R<|zr<|za R R<|zn<|zt<|z1 R R (rI (W7 c8 (by unfold Pl.bad;omega)))
 refine zp (Ab R R Y4)<|zp (Aa R R Ah R R)<|zp (Aq R R R)<|zq R R R<|zm R R<|?_
 refine XL.dec 23 R (fun g23=> ?_) (fun g23=> ?_)
 exact zk 3 R<|zq R R R<|zn<|An (by kernel_rfl) R<|zr<|za R R<|zn<|zt<|z1 R R (rI (W7 c8 (by unfold Pl.bad;omega)))
 refine zp (Ab R R Y4)<|zp (Aa R R Ah R R)<|zp (A5 R R R)<|zq R R R<|zn<|?_
 refine zd R (fun c27=> ?_) (fun c27=> ?_)
 exact zr<|za R R<|zn<|zt<|z1 R R (rI (W7 c8 (by unfold Pl.bad;omega)))
 exact zi<|zr<|za R R<|zn<|zt<|z1 R R (rI (Aq5 c8 (by unfold Pl.bad;omega)))
theorem Agm (v:Vo) (p:Pl) (hE:Evs v.evs) (ht:v.tups.length≤1000):XC Tryz.prog 16 [.agg (Vo.c v), .agg (Pl.c p)] (fun r=>r=dI (p.chk v)):=by
 refine Ao Adx Tryz.func16 R R lb<|zr<|XL.step R (As 2 (l:= [.d (.sl 13 (v.evs.map Ev.c)), .d (.sl 4 (v.tups.map Tp.c))]) R R (by kernel_rfl))<|XL.step R (As 3 (l:= [.d (dI p.m.count), .d (dI p.m.unit), .d (dI p.m.g0), .d (dI p.m.g1), .d (dI p.m.g2), .d (dI p.m.g3), .d (dI p.m.g4), .d (dI p.m.g5), .d (dI p.off), .d (dI p.len)]) R R (by kernel_rfl))<|za R R<|zn<|zs<|zr<|?_
 refine zp (Ae (s':= .d (.agg (Pl.c p))) (Ac (Ad R R Fu R lb)) (by kernel_rfl))<|XL.call1 R R (Ah4 _) R<|za R R<|znr<|zm R R<|zp (A9 R R R)<|zn<|?_
 refine zd R (fun c9=> ?_) (fun c9=> ?_)
 exact zr<|zm R R<|za R R<|zn<|zt<|z1 R R (rI (by rw [Ama,if_pos c9]))
 exact zi<|zr<|zp (Ae (s':= .d (.agg (Vo.c v))) (Ac (Ad R R Au R lb)) (by kernel_rfl))<|zp (Ab R R Hg)<|zp (Aa R R Ah R R)<|XL.call1 R R (Ab4 _ _ (by assumption) (by omega)) R<|za R R<|zn<|zt<|z1 R R (rI (by rw [Ama,if_neg c9]))
end Go.Proofs.YtcihalbakenleaaGreat
namespace Go.Proofs.YtcihalbakenleaaGreat
open Go.RowKit
def Me.gsz (m:Me):Int:=if 8≤m.unit∧m.count % 3=0 then 3 else 1
end Go.Proofs.YtcihalbakenleaaGreat
namespace Go.Proofs.YtcihalbakenleaaGreat
open Go.RowKit
def Amb (l:List Int):Prop:=∀(j:Nat) x y,l[j]? =some x→l[0]? =some y→x=y
theorem Apu {l:List Int}:l≠ []→(∀x∈l,Hc l≤x∧x≤He l)∧(∀y,(∀x∈l,x=y)→Hc l=y∧He l=y):=by
 refine Kw (p:=fun l=>l≠ []→(∀x∈l,Hc l≤x∧x≤He l)∧(∀y,(∀x∈l,x=y)→Hc l=y∧He l=y)) (fun h=>absurd rfl h) (fun l a ih _=> ?_) l
 by_cases c:l= []
 ·subst c
  refine ⟨fun x hx=> ?_,fun y hy=> ?_⟩
  ·rw [List.nil_append] at hx;rw [List.mem_singleton.1 hx];exact ⟨Int.le_refl _,Int.le_refl _⟩
  ·have:=hy a (by simp);subst this;exact ⟨rfl,rfl⟩
 ·obtain ⟨h1,h2⟩:=ih c
  rw [V8 c,Wa c]
  refine ⟨fun x hx=> ?_,fun y hy=> ?_⟩
  ·rcases List.mem_append.1 hx with q|q
   ·have:=h1 x q;omega
   ·rw [List.mem_singleton.1 q];omega
  ·have h3:=h2 y fun x hx=>hy x (List.mem_append_left _ hx)
   have h4:=hy a (List.mem_append_right _ (List.mem_singleton.2 rfl))
   omega
theorem Ajj {l:List Int} (hne:l≠ []):Amb l↔Hc l=He l:=by
 obtain ⟨h1,h2⟩:=Apu hne
 obtain ⟨y,hy⟩:∃y,l[0]? =some y:=Ap (by cases l with|nil=>exact absurd rfl hne|cons a l=>simp)
 constructor
 ·intro h
  have:=h2 y fun x hx=>by
   obtain ⟨j,hj⟩:=List.getElem?_of_mem hx
   exact h j x y hj hy
  omega
 ·intro h j x z hx hz
  have h3:=h1 x (List.mem_of_getElem? hx)
  have h4:=h1 z (List.mem_of_getElem? hz)
  omega
instance (l:List Int):Decidable (Amb l):=by
 cases l with
 |nil=>exact .isTrue fun j x y h=>by simp at h
 |cons a l=>exact decidable_of_iff _ (Ajj (l:=a::l) (by simp)).symm
def leN (l:List Int) (t:Int):Nat:=(l.takeWhile fun x=>decide (x≤t)).length
def offB (l:List Int) (t:Int) (n:Nat):Int:=if n=0 then 0 else t - l[n - 1]?.getD 0
def beatB (n:Nat):Int:=if n=0 then 0 else ((n - 1:Nat):Int)
def rl (t u:Int):Nat→Nat→Int
 |0,_=>15
 |f+1,k=>if (u / 2 ^ k*2 ^ k=u∧7560≤u / 2 ^ k)∧t % (u / 2 ^ k)=0 then 3+(k:Int) else rl t u f (k+1)
end Go.Proofs.YtcihalbakenleaaGreat
namespace Go.Proofs.YtcihalbakenleaaGreat
open Go.RowKit
def stl (p:Int × Int × Bool):Int:=if p.2.2=true then p.2.1 else 99
end Go.Proofs.YtcihalbakenleaaGreat
namespace Go.Proofs.YtcihalbakenleaaGreat
open Go.RowKit
def Ev.furV (x:Ev):Ev:=⟨0,0,x.kind,x.v,x.heads.map Hd.plain, [],0,0,0, [],x.stem,0⟩
def evV (l:List Ev):Vo:=⟨l, []⟩
end Go.Proofs.YtcihalbakenleaaGreat
namespace Go.Proofs.YtcihalbakenleaaGreat
open Go.RowKit
def insB (l:List Tp) (n:Int):Bool:=l.any fun t=>decide (t.has n)
def insT (a c:Int) (t:Tp):Tp:=if a≤t.first then ⟨t.first+c,t.count,t.actual,t.normal⟩ else if t.has a then ⟨t.first,t.count+c,t.actual,t.normal⟩ else t
theorem Aqt {v:Vo} {L t a:Int} {k:Nat} (h:ckE v L=0) (hne:v.evs.length≠0) (h0:0≤t) (h1:t<L) (hat:atS (ckL v L) t (ckL v L).length=((k:Int),a)):∃w,(ckL v L)[k]? =some w∧a≤t∧t<a+w∧a+w≤L:=by
 have hne2:v.evs≠ []:=fun k=>hne (by rw [k];rfl)
 obtain ⟨j,w,hw,k1,k2⟩:=Ahj h0 (by rw [Zh h hne2];exact h1)
 have hp:=Ro h
 have hjl:=(List.getElem?_eq_some_iff.1 hw).1
 have hj:=Arx hp (t:=t) (j:=j+1) (by omega) (fun i hi=>by have:=Ox hp (j:=i) (k:=j) (by omega);omega) (.inr (by rw [Bp hw,H7];omega)) (ckL v L).length (by omega) (Nat.le_refl _)
 rw [hj] at hat
 have e1:((j:Nat):Int)=k:=congrArg Prod.fst hat
 have e2:tot ((ckL v L).take j)=a:=congrArg Prod.snd hat
 have e3:j=k:=by omega
 subst e3
 have hm:=Ox hp (j:=j+1) (k:=(ckL v L).length) (by omega)
 rw [Bp hw,H7,List.take_length,Zh h hne2] at hm
 exact ⟨w,hw,by omega,by omega,by omega⟩
theorem Aoh {v:Vo} {L:Int} (h:ckE v L=0) (h0:v.evs.length=0):v.tups= []:=by
 obtain ⟨ws,ls,hT⟩:=Rn h
 by_cases c:v.rest
 ·exact absurd c.2 (by omega)
 ·have hv:=((Jo c).1 ⟨h,rfl⟩).2.2.1
  cases ht:v.tups with
  |nil=>rfl
  |cons t l=>
   have:=hv.tl.tv.inR t (by rw [ht];exact List.mem_cons_self)
   have h2:(wrS v.evs).length=v.evs.length:=Gc _
   unfold Tp.inR at this
   omega
end Go.Proofs.YtcihalbakenleaaGreat
namespace Go.Proofs.YtcihalbakenleaaGreat
open Go.RowKit
theorem Alz {v:Vo} {p:Pl} {t:Int} (hc:p.chk v=0) (h0:¬(v.evs.length:Int)=0) (h:¬(t<0∨p.len<t)):J3 v p t=Aj v p t:=Aqw (by omega) (fun k=>h0 (by have:=k.1;omega)) h
end Go.Proofs.YtcihalbakenleaaGreat
namespace Go.Proofs.YtcihalbakenleaaGreat
open Go.RowKit
theorem Apn {l:List Int} (hp:∀x∈l,0<x) {j k:Nat} {x y:Int} (hjk:j<k) (hx:(Bm l)[j]? =some x) (hy:(Bm l)[k]? =some y):x<y:=by
 have h1:=Ie hx
 have h2:=Ie hy
 have hjl:j<l.length:=by have:=(List.getElem?_eq_some_iff.1 hx).1;rwa [K2] at this
 obtain ⟨w,hw⟩:=Ap hjl
 have h3:=Ox hp (j:=j+1) (k:=k) (by omega)
 rw [Bp hw,H7] at h3
 have:=hp w (List.mem_of_getElem? hw)
 omega
theorem J2 {l:List Int} (hp:∀x∈l,0<x) {j:Nat} {x a:Int} (hx:(Bm l)[j]? =some x):x<a↔j<Bz (Bm l) a:=by
 have e:=(List.getElem?_eq_some_iff.1 hx).2
 constructor
 ·intro h
  rw [←Nat.not_le];intro hle
  have hjl:=(List.getElem?_eq_some_iff.1 hx).1
  have hlt:Bz (Bm l) a<(Bm l).length:=by omega
  have h1:decide (a≤(Bm l)[Bz (Bm l) a])=true:=List.findIdx_getElem (w:=hlt)
  obtain ⟨y,hy⟩:=Ap hlt
  have hy2:(Bm l)[Bz (Bm l) a]=y:=(List.getElem?_eq_some_iff.1 hy).2
  rw [hy2] at h1
  have h1:=of_decide_eq_true h1
  rcases Nat.lt_or_eq_of_le hle with k|k
  ·have:=Apn hp k hy hx;omega
  ·rw [k,hx] at hy;cases hy;omega
 ·intro h
  have:=List.not_of_lt_findIdx (p:=fun x=>decide (a≤x)) h
  rw [e] at this
  simpa using this
theorem Uh {l:List Int} (hp:∀x∈l,0<x) {a b:Int} (hab:a≤b):Bz (Bm l) a≤Bz (Bm l) b:=by
 rw [←Nat.not_lt];intro h
 obtain ⟨y,hy⟩:=Ap (show Bz (Bm l) b<(Bm l).length from Nat.lt_of_lt_of_le h (Kb _ _))
 have h1:=(J2 hp hy (a:=a)).2 h
 have h2:=(J2 hp hy (a:=b)).1 (by omega)
 omega
theorem Agb {l:List Int} (hp:∀x∈l,0<x) {a b:Int} (hab:a≤b):F6 (Bm l) a b=Bz (Bm l) b:=by
 refine M2 (Uh hp hab) (Kb _ _) (fun j x h1 h2 hx=> ?_) ?_
 ·have h3:=(J2 hp hx (a:=b)).2 h2
  have h4:¬x<a:=fun h=>by have:=(J2 hp hx (a:=a)).1 h;omega
  exact decide_eq_true ⟨by omega,h3⟩
 ·by_cases c:Bz (Bm l) b=(Bm l).length
  ·exact .inl c
  ·obtain ⟨y,hy⟩:=Ap (show Bz (Bm l) b<(Bm l).length by have:=Kb (Bm l) b;omega)
   refine .inr ⟨y,hy,decide_eq_false fun h=> ?_⟩
   have:=(J2 hp hy (a:=b)).1 h.2;omega
theorem Ae8 {v:Vo} {p:Pl} {t:Int} (hc:p.chk v=0) (hn:v.evs≠ []) (h:(Aj v p t).2=0):(Aj v p t).1.evs≠ []:=by
 obtain ⟨hme,hpb,hck⟩:=Ds hc
 rcases Alh hc t with h|⟨h',_⟩|⟨k,a,w,x,hk,hw,ha,hat,hat2,hne,hd,h1,h2,hl,he⟩
 ·rw [h];exact hn
 ·exact absurd h h'
 ·rw [he]
  intro e
  have e2:v.evs.take k++C2 p t a w x++v.evs.drop (k+1)= []:=e
  have e3:C2 p t a w x= []:=by
   have:=List.append_eq_nil_iff.1 e2
   exact (List.append_eq_nil_iff.1 this.1).2
  have hxe:=(Hv hck).1 x (List.mem_of_getElem? hk)
  obtain ⟨_,q⟩:=U5 hxe h1 h2 (by rw [e3];exact Nat.zero_le _)
  have:=Ro hck w (List.mem_of_getElem? hw)
  rw [e3] at q
  have q2:(0:Int)=w:=q
  omega
structure RegOk (v:Vo) (p:Pl) (a b:Int) (d:Vo) (f l:Nat):Prop where
 hc:p.chk v=0
 ne:v.evs≠ []
 d2:d=(Aj (Aj v p a).1 p b).1
 e1:(Aj v p a).2=0
 e2:(Aj (Aj v p a).1 p b).2=0
 c1:p.chk (Aj v p a).1=0
 n1:(Aj v p a).1.evs≠ []
 chk:p.chk d=0
 dne:d.evs≠ []
 fit:v.fit→d.fit
 fl:f≤l
 ll:l≤d.evs.length
 fe:f=Bz (Bm (ckL d p.len)) a
 le:l=Bz (Bm (ckL d p.len)) b
 no:∀t∈d.tups,¬Dh t f l
 rng:0≤a∧a≤b∧b≤p.len
theorem Aol {v:Vo} {p:Pl} (hc:p.chk v=0) (h:¬v.absent):v.evs≠ []:=fun e=>h ⟨by rw [e];rfl,by rw [Aoh (Ds hc).2.2 (by rw [e];rfl)];rfl⟩
theorem Mw (v:Vo) (p:Pl) (a b:Int):∃(d:Vo) (f l:Nat) (e:Int),Eo v p a b=(d,(f:Int),(l:Int),e)∧(e=0→RegOk v p a b d f l):=by
 by_cases c1:p.chk v≠0
 ·exact ⟨_,0,0,_,Ao9 c1,fun h=>absurd h c1⟩
 by_cases c2:v.absent
 ·exact ⟨_,0,0,_,Ao8 c1 c2,fun h=>by cases h⟩
 by_cases c3:a<0∨b<a∨p.len<b
 ·exact ⟨_,0,0,_,Afo c1 c2 c3,fun h=>by cases h⟩
 rw [Fw c1 c2 c3]
 by_cases c4:(Aj v p a).2≠0
 ·exact ⟨_,0,0,_,Ao7 c4,fun h=>absurd h c4⟩
 by_cases c5:(Aj (Aj v p a).1 p b).2≠0
 ·exact ⟨_,0,0,_,Ao6 c4 c5,fun h=>absurd h c5⟩
 rw [Ge c4 c5]
 have hc0:p.chk v=0:=by omega
 have hn0:=Aol hc0 c2
 have hc1:=Pq (t:=a) hc0 (by omega)
 have hn1:=Ae8 (t:=a) hc0 hn0 (by omega)
 have hc2:=Pq (t:=b) hc1 (by omega)
 have hn2:=Ae8 (t:=b) hc1 hn1 (by omega)
 obtain ⟨d,hd⟩:∃d,d=(Aj (Aj v p a).1 p b).1:=⟨_,rfl⟩
 rw [←hd] at hc2 hn2 ⊢
 have hp:=Ro (Ds hc2).2.2
 have hl:=Agb hp (show a≤b by omega)
 by_cases c6:∃t∈d.tups,Dh t (Bz (Bm (ckL d p.len)) a) (F6 (Bm (ckL d p.len)) a b)
 ·exact ⟨_,0,0,_,by rw [Qf,if_pos c6];rfl,fun h=>by cases h⟩
 ·refine ⟨d,Bz (Bm (ckL d p.len)) a,F6 (Bm (ckL d p.len)) a b,0,by rw [Qf,if_neg c6],fun _=> ?_⟩
  exact ⟨hc0, hn0, hd, by omega, by omega, hc1, hn1, hc2, hn2, fun hF => by rw [hd]; exact M7 hc1 (M7 hc0 hF (by omega)) (by omega), by rw [hl]; exact Uh hp (by omega),
   by have := Yw (Bm (ckL d p.len)) a b; rw [K2, Io (Ds hc2).2.2] at this; exact this.2, rfl, hl, fun t ht hs => c6 ⟨t, ht, hs⟩, by omega⟩
theorem Ah0 {v:Vo} {p:Pl} {a b:Int} {d:Vo} {f l:Nat} {e:Int} (hE:Evs v.evs) (hF:v.fit) (h:Eo v p a b=(d,(f:Int),(l:Int),e)):XC Tryz.prog 83 [.agg (Vo.c v), .agg (Pl.c p),dI a,dI b] (fun r=>r= .tup [.agg (Vo.c d),dI (f:Nat),dI (l:Nat),dI e]):=by
 have:=Ahz v p a b hE hF
 rw [h] at this
 exact this
def G0 (d:Vo) (f l:Nat):Vo:=⟨(d.evs.take l).drop f,B5 (fun t=>decide ((f:Int)≤t.first∧t.first<l)) (-f) d.tups⟩
def E7 (v:Vo) (p:Pl) (a b:Int):Vo × Int:=if (Eo v p a b).2.2.2≠0 then (⟨[], []⟩,(Eo v p a b).2.2.2) else (G0 (Eo v p a b).1 (Eo v p a b).2.1.toNat (Eo v p a b).2.2.1.toNat,0)
theorem Asp {v:Vo} {p:Pl} {a b:Int} {d:Vo} {f l:Nat} {e:Int} (h:Eo v p a b=(d,(f:Int),(l:Int),e)) (he:e≠0):E7 v p a b=(⟨[], []⟩,e):=by rw [E7,h,if_pos he]
theorem All {v:Vo} {p:Pl} {a b:Int} {d:Vo} {f l:Nat} {e:Int} (h:Eo v p a b=(d,(f:Int),(l:Int),e)) (he:¬e≠0):E7 v p a b=(G0 d f l,0):=by rw [E7,h,if_neg he];rfl
theorem Zd {d:Vo} {f l:Nat} (h:d.fit):(G0 d f l).fit:=by
 refine ⟨?_, ?_,fun e he=>h.ev e (List.mem_of_mem_take (List.mem_of_mem_drop he))⟩
 ·show ((d.evs.take l).drop f).length≤1000
  rw [List.length_drop,List.length_take];have:=h.evs;omega
 ·exact Nat.le_trans (I4 _ _ _) h.tups
theorem Aqn (v:Vo) (p:Pl) (a b:Int) (hE:Evs v.evs) (hF:v.fit):XC Tryz.prog 39 [.agg (Vo.c v), .agg (Pl.c p), .v (.int .i64 a), .v (.int .i64 b)] (fun r=>r= .tup [.agg (Vo.c (E7 v p a b).1),dI (E7 v p a b).2]):=by
 obtain ⟨d,f,l,e,hreg,hok⟩:=Mw v p a b
 refine Ao Adm Tryz.func39 R R lb<|zr<|XL.step R (As 4 (l:= [.d (.sl 13 (v.evs.map Ev.c)), .d (.sl 4 (v.tups.map Tp.c))]) R R (by kernel_rfl))<|XL.step R (As 5 (l:= [.d (dI p.m.count), .d (dI p.m.unit), .d (dI p.m.g0), .d (dI p.m.g1), .d (dI p.m.g2), .d (dI p.m.g3), .d (dI p.m.g4), .d (dI p.m.g5), .d (dI p.off), .d (dI p.len)]) R R (by kernel_rfl))<|?_
 refine XL.step R (A0 8 (l:= [.d (.v (.slice none 0 0)), .d (.v (.slice none 0 0))]) R Ba (by kernel_rfl))<|za R R<|znr<|zp (Ae (s':= .d (.agg (Vo.c v))) (Ac (Ad R R Au R lb)) (by kernel_rfl))<|zp (Ae (s':= .d (.agg (Pl.c p))) (Ac (Ad R R Fu R lb)) (by kernel_rfl))<|zm R R<|zm R R<|XL.call1 R R (Ah0 hE hF hreg) R<|zm R R<|?_
 refine zp (A6 R R R)<|zp (A6 R R R)<|zp (A6 R R R)<|zp (A6 R R R)<|XL.step R (A0 10 (l:= [.d (.v (.slice none 0 0)), .d (.v (.slice none 0 0))]) R Ba (by kernel_rfl))<|XL.step R (A0 11 (l:= [.d (dI 0)]) R Gt (by kernel_rfl))<|XL.step R (A0 12 (l:= [.d (dI 0)]) R Gt (by kernel_rfl))<|?_
 refine XL.step R (Ag (l':= [.d (.sl 13 (d.evs.map Ev.c)), .d (.sl 4 (d.tups.map Tp.c))]) R R R R Bu R lb (by kernel_rfl))<|XL.step R (Ag (l':= [.d (dI (f:Nat))]) R R R R Df R lb (by kernel_rfl))<|XL.step R (Ag (l':= [.d (dI (l:Nat))]) R R R R Df R lb (by kernel_rfl))<|za R R<|zn<|zs<|zr<|zm R R<|zp (A9 R R R)<|zn<|?_
 refine zd R (fun c26=> ?_) (fun c26=> ?_)
 refine zr<|zp (Ae (s':= .d (.agg [.v (.slice none 0 0), .v (.slice none 0 0)])) (Ac (Be R Cg Ba R)) (by kernel_rfl))<|zm R R<|XL.step R (Ag (l':= [.d (.v (.slice none 0 0)), .d (.v (.slice none 0 0))]) R R R R Bu R lb (by kernel_rfl))<|za R R<|zn<|zt<|?_
 exact Bl R (RV.sub (RV.cells R R R Au lb R) (.agg (.cons (.nil 13) (.cons (.nil 4) (.nil))))) (RV.tmp R R) (r2v (Asp hreg c26))
 refine zi<|zs<|?_
 have hO:=hok (by omega)
 have hFd:=hO.fit hF
 obtain ⟨hsd,hdl⟩:=Kp (Ds hO.chk).2.2
 have hfl:=hO.fl
 have hll:=hO.ll
 have hdt:=hsd.tups
 have hcf:=Zd (f:=f) (l:=l) hFd
 refine Af (by kernel_rfl)<|zp (Ab R R A1)<|zp (Aa R R Br R R)<|zp (Aa R R Ah R R)<|zp (Aa R R Ah R R)<|zp (Js R R B7 (Bd.at R) (Bd.at R) (by omega) (by omega))<|zp (Ae (s':= .d (.agg [.sl 13 (((d.evs.take (l:Nat)).drop (f:Nat)).map Ev.c), .v (.slice none 0 0)])) (Ac (Be R Cg Ba R)) (by kernel_rfl))<|?_
 refine XL.step R (A0 14 (l:= [.d (.v (.slice none 0 0)), .d (.v (.slice none 0 0))]) R Ba (by kernel_rfl))<|XL.step R (Ag (l':= [.d (.sl 13 (((d.evs.take (l:Nat)).drop (f:Nat)).map Ev.c)), .d (.v (.slice none 0 0))]) R R R R Bu R lb (by kernel_rfl))<|znr<|XL.freezeP 11 (ds:= [dI (f:Nat)]) R (by kernel_rfl) (by kernel_rfl)<|?_
 refine XL.freezeP 12 (ds:= [dI (l:Nat)]) R (by kernel_rfl) (by kernel_rfl)<|zp (Ab R R B3)<|zp (Aa R R B0 R R)<|zp (O8 (pd:= []) (cd:= [_,_]) R R R)<|zp (Aw R R Ah)<|zp (Aq8 R R (by omega) (by omega))<|?_
 refine XL.call1 R R (Pf d.tups 85 [.pt [dI (f:Nat)], .pt [dI (l:Nat)]] (fun t=>decide (((f:Nat):Int)≤t.first∧t.first<((l:Nat):Int))) (-(f:Nat)) (fun t _=>Aog t f l) (by omega) (fun t ht _=>by have:=hsd.bd t ht;omega)) rfl<|zp (Ab R R B3)<|?_
 refine XL.step R (Ag (l':= [.d (.sl 13 (((d.evs.take (l:Nat)).drop (f:Nat)).map Ev.c)), .d (.sl 4 ((B5 (fun t=>decide (((f:Nat):Int)≤t.first∧t.first<((l:Nat):Int))) (-(f:Nat)) d.tups).map Tp.c))]) R R R R H9 R lb (by kernel_rfl))<|znr<|zp (Ae (s':= .d (.agg (Vo.c (G0 d f l)))) (Ac (Ad R R Au R lb)) (by kernel_rfl))<|?_
 refine XL.call1 R R (Gp _ (by assumption)) R<|XL.step R (Ag (l':= [.d (.sl 13 ((G0 d f l).evs.map Ev.c)), .d (.sl 4 ((G0 d f l).tups.map Tp.c))]) R R R R Bu R lb (by kernel_rfl))<|za R R<|zn<|zt<|?_
 exact Bl R (RV.cells R R R Au lb R) (RV.tmp R R) (r2v (All hreg c26))
end Go.Proofs.YtcihalbakenleaaGreat
namespace Go.Proofs.YtcihalbakenleaaGreat
open Go.RowKit
def mn (k F:Nat):Int:=min (k:Int) (F:Int)
def inC (a f l m:Int):Int:=max 0 (min (a+m) l - max a f)
end Go.Proofs.YtcihalbakenleaaGreat
namespace Go.Proofs.YtcihalbakenleaaGreat
def Ev.plainR (y:Ev) (s:Int):Prop:=y.kind=1∧(∀h∈y.heads,h.sh=0)∧y.graces= []∧y.art=0∧y.orn=0∧y.dyn=0∧y.lyr= []∧y.stem=s∧y.beam=0
def L4 (h:Hd):Pit × Bool:=(h.p,h.tied)
def pSh (h:Hd):Pit × Int:=(h.p,h.sh)
structure LikeY (y y':Ev):Prop where
 kind:y'.kind=y.kind
 heads:y.heads.map pSh=y'.heads.map pSh
 graces:y'.graces=y.graces
 art:y'.art=y.art
 orn:y'.orn=y.orn
 dyn:y'.dyn=y.dyn
 lyr:y'.lyr=y.lyr
 stem:y'.stem=y.stem
 beam:y'.beam=y.beam
section
variable {v:Vo} {i n:Nat} {l:List Ev} (hok:∀t∈v.tups,t.ok) (hn:0<n) (hf:∀m,i≤m→m<i+n→∀t∈v.tups,¬t.has m)
include hok hn hf
end
def bd (v:Vo):Nat→Nat
 |0=>0
 |k+1=>Bc v (bd v k)
def Bnd (v:Vo) (p:Pl) (i:Nat):Prop:=∃K,bd v K=i∧∀k,k<K→bd v k<v.evs.length∧¬smJ p (smA v p (bd v k)) (smA v p (bd v (k+1))) (bd v (k+1) - bd v k)
structure RunJ (v:Vo) (p:Pl) (i:Nat) (x y:Ev) (vs:List Val) (js:List Ev) (w:Vo):Prop where
 we:w=A8 v i (Bc v i - i) ⟨js, []⟩
 n1:i+1<Bc v i
 nl:Bc v i≤v.evs.length
 jl:js.length=vs.length
 j0:0<js.length
 jn:js.length<Bc v i - i
 jg:∀m,m<js.length→∃a o,vs[m]? =some a∧js[m]? =some ((Ep (x.reh (F2 x.heads y.heads)) vs.length false m a).reid o)
 sil:x.kind=1∨x.silent
 ks:y.kind=x.kind
 ys:x.kind≠1→y.silent
 hs:(F2 x.heads y.heads).map L4=y.heads.map L4
 fr:∀m,i≤m→m<Bc v i→∀t∈v.tups,¬t.has m
 ok:∀t∈v.tups,t.ok
 ck:ckE w p.len=0
 vk:ckE v p.len=0
 lo:∀m,m≤i→smA w p m=smA v p m
 hi:smA w p (i+js.length)=smA v p (Bc v i)
section
variable {v w:Vo} {p:Pl} {i:Nat} {x y:Ev} {vs:List Val} {js:List Ev} (hx:v.evs[i]? =some x) (h:RunJ v p i x y vs js w)
include hx h
variable (hy:v.evs[Bc v i - 1]? =some y)
include hy
end
end Go.Proofs.YtcihalbakenleaaGreat
namespace Go.Proofs.YtcihalbakenleaaGreat
open Go.RowKit
def delT (a c:Int) (t:Tp):Tp:=if a+c≤t.first then t.mv (-c) else t
def delN (a c e:Int):Int:=if e≤a then e else if e≤a+c then a else e - c
def delC (t:Tp) (e:Int):Int:=max 0 (min (e - t.first) t.count)
def delF (a c:Int) (t:Tp) (e:Int):Int:=if t.first<e then (if a+c≤t.first then t.first - c else t.first) else 0
end Go.Proofs.YtcihalbakenleaaGreat
namespace Go.Proofs.YtcihalbakenleaaGreat
open Go.RowKit
def Ev.folC (a b:Ev) (s:Int):Prop:=a.heads.length=b.heads.length∧b.graces= []∧b.lyr= []∧b.art=0∧b.orn=0∧b.dyn=0∧b.beam=0∧b.stem=s∧∀(j:Nat) (x y:Hd),a.heads[j]? =some x→b.heads[j]? =some y→x.tied=true∧x.p=y.p∧y.sh=0
def Ev.fol (a b:Ev) (s:Int):Prop:=a.kind=b.kind∧a.kind≠3∧(a.kind≠1→a.dyn=0∧a.art=0∧b.dyn=0∧b.art=0)∧(a.kind=1→a.folC b s)
open Classical in
noncomputable def Ev.folB (a b:Ev) (s:Int):Bool:=decide (a.fol b s)
end Go.Proofs.YtcihalbakenleaaGreat
namespace Go.Proofs.YtcihalbakenleaaGreat
open Go.RowKit
structure SimR (v:Vo) (p:Pl) (z:(Vo × Nat) × Nat):Prop where
 smi:SmI v p z.1
 k:z.2≤v.evs.length
 ev:z.1.1.evs.drop z.1.2=v.evs.drop z.2
 ls:(ckL z.1.1 p.len).drop z.1.2=(ckL v p.len).drop z.2
 at0:smA z.1.1 p z.1.2=smA v p z.2
 fr:∀m:Nat,(∀t∈z.1.1.tups,¬t.has ((z.1.2+m:Nat):Int))↔∀t∈v.tups,¬t.has ((z.2+m:Nat):Int)
section
variable {v:Vo} {p:Pl} {z:(Vo × Nat) × Nat} (h:SimR v p z)
include h
end
theorem Aid {l:List Int} {k:Nat} (h:k<l.length):(Bm l)[k]? =some (tot (l.take k)):=by
 obtain ⟨x,hx⟩:∃x,(Bm l)[k]? =some x:=Ap (by rw [K2];exact h)
 rw [hx,Ie hx]
end Go.Proofs.YtcihalbakenleaaGreat
namespace Go.Proofs.YtcihalbakenleaaGreat
open Go.RowKit
def Jg (l:List Hd) (q:Pit):Bool:=l.any fun o=>decide (o.p=q)
def Gk (y:Ev) (h:Hd):Hd:=⟨h.p,h.tied && (decide (y.kind=1) && Jg y.heads h.p),h.sh⟩
def Xw (x y:Ev):Ev:=x.reh (x.heads.map (Gk y))
def Dd (l:List Ev) (i:Int):List Ev:=if i<0 then l else match l[i.toNat]?,l[i.toNat+1]? with
 |some x,some y=>l.set i.toNat (Xw x y)
 |_,_=>l
theorem Ng {l:List Ev} {i:Int} (h:i<0∨(l.length:Int)≤i+1):Dd l i=l:=by
 unfold Dd
 split
 ·rfl
 ·rw [List.getElem?_eq_none (show l.length≤i.toNat+1 by omega)]
  cases l[i.toNat]? <;>rfl
theorem Vm {l:List Ev} {i:Nat} {x y:Ev} (hx:l[i]? =some x) (hy:l[i+1]? =some y):Dd l i=l.set i (Xw x y):=by
 unfold Dd
 rw [if_neg (by omega)]
 simp only [Int.toNat_natCast,hx,hy]
theorem O0 (l:List Ev) (i:Int):(Dd l i).length=l.length:=by
 unfold Dd
 split
 ·rfl
 ·split
  ·rw [List.length_set]
  ·rfl
theorem Ajz {x y:Ev} (h:x.fit):(Xw x y).fit:=⟨by show (x.heads.map (Gk y)).length≤1000;rw [List.length_map];exact h.1,h.2⟩
theorem O1 {l:List Ev} (h:∀e∈l,e.fit) (i:Int):∀e∈Dd l i,e.fit:=by
 unfold Dd
 split
 ·exact h
 ·split
  ·rename_i x y hx hy
   intro e he
   rcases List.mem_or_eq_of_mem_set he with k|k
   ·exact h e k
   ·rw [k];exact Ajz (h x (List.mem_of_getElem? hx))
  ·exact h
def evS (x:Ev):List S:=(Ev.c x).map S.d
def Fe (l:List Ev):List (List S):=(l.map Ev.c).map (·.map S.d)
theorem Qb (l:List Ev):(Fe l).length=l.length:=by rw [Fe,List.length_map,List.length_map]
theorem Qc {l:List Ev} {k:Nat} {x:Ev} (h:l[k]? =some x):(Fe l)[k]? =some (evS x):=by rw [Fe,List.getElem?_map,List.getElem?_map,h];rfl
def evO (x:Ev) (j:Nat):List S:=(evS x).set 5 (.own j)
theorem O4 {l:List Ev} {k j:Nat} {x:Ev} (h:l[k]? =some x):((Fe l).set k (evO x j))[k]? =some (evO x j):=List.getElem?_set_self (by rw [Qb];exact (List.getElem?_eq_some_iff.1 h).1)
theorem J7 {l:List Ev} {k j:Nat} {x y:Ev} (h:l[k+1]? =some y):((Fe l).set k (evO x j))[k+1]? =some (evS y):=by
 rw [List.getElem?_set_ne (by omega)];exact Qc h
theorem An7 (j:Nat) (d:D) (l:List Ev):(Fe l).map (S.frzL j d)=Fe l:=by
 unfold Fe
 simp only [List.map_map]
 exact List.map_congr_left fun x _=>Ap6 j d (Ev.c x)
theorem X4 {l:List Ev} {m:Nat} (h:m<l.length):m<(Fe l).length:=by rw [Qb];exact h
theorem Ik {l:List Ev} {m k:Nat} {c:List S} (h:m<l.length):m<((Fe l).set k c).length:=by rw [List.length_set,Qb];exact h
theorem Akz (j:Nat) (l:List Ev):(Fe l).map (S.killL j)=Fe l:=by
 unfold Fe
 simp only [List.map_map]
 exact List.map_congr_left fun x _=>Anu j (Ev.c x)
theorem Vr {l:List Ev} {k i j:Nat} {x:Ev} (h:i≠j):((Fe l).set k (evO x j)).map (S.killL i)=(Fe l).set k (evO x j):=by
 rw [List.map_set,Akz]
 have:S.killL i (evO x j)=evO x j:=by
  show [_,_,_,_,_,S.kill i (.own j),_,_,_,_,_,_,_]=_
  unfold S.kill
  rw [B9 h];rfl
 rw [this]
theorem Xm {x:Vo} (h:x.whole):∃e,x.evs[0]? =some e:=by
 unfold Vo.whole at h
 cases hx:x.evs with
 |nil=>rw [hx] at h;exact h.elim
 |cons e l=>exact ⟨e,rfl⟩
theorem Ts {l:List Ev} {k j:Nat} {x:Ev} {hs:List Hd}:((Fe l).set k (evO x j)).map (S.frzL j (.sl 5 (hs.map Hd.c)))=Fe (l.set k (x.reh hs)):=by
 rw [List.map_set,An7]
 have:S.frzL j (.sl 5 (hs.map Hd.c)) (evO x j)=evS (x.reh hs):=by
  show [_,_,_,_,_,S.frz j _ (.own j),_,_,_,_,_,_,_]=_
  unfold S.frz
  rw [B1];rfl
 rw [this]
 unfold Fe
 rw [List.map_set,List.map_set];rfl
theorem Aeb (o x:Hd):XC Tryz.prog 135 [.agg (Hd.c o), .pt [.pt (Hd.c x)]] (fun r=>r=dB (decide (o.p=x.p))):=by
 refine Ao Aat Tryz.func135 R R lb<|zr<|XL.step R (As 2 (l:= [.d (dI o.p.step), .d (dI o.p.alter), .d (dI o.p.oct), .d (dB o.tied), .d (dI o.sh)]) R R (by kernel_rfl))<|za R R<|zn<|zs<|Bg [] (by kernel_rfl) (by kernel_rfl) (by kernel_rfl) (by decide)<|yp (Ab R R Gy)<|yp (Ae (s':= .d (.agg (Pit.c o.p))) (Ac (Ad R R Eq R lb)) (by kernel_rfl))<|?_
 refine yp (Aw R R Hq)<|yp (Aka R R)<|yp (Bq R R Gy)<|yp (Ar R R Eq lb)<|yp (Yh R R R)<|ya R R<|?_
 refine ChK.nil ⟨by kernel_rfl, ?_⟩
 exact zt<|z1 R R (rB (decide_eq_decide.2 ⟨fun h=>Pit.eq_of h,fun h=>by rw [h];exact ⟨rfl,rfl,rfl⟩⟩))
def Sz (p:Hd→Bool) (l:List Hd):Int:=match l.findIdx? p with|some k=>k|none=> -1
theorem Ak3 {p:Hd→Bool} {l:List Hd} {k:Nat} {x:Hd} (h:l[k]? =some x) (hx:p x=true) (hb:∀j y,j<k→l[j]? =some y→p y=false):Sz p l=k:=by
 have:l.findIdx? p=some k:=by
  rw [List.findIdx?_eq_some_iff_getElem]
  obtain ⟨h1,h2⟩:=List.getElem?_eq_some_iff.1 h
  exact ⟨h1,by rw [h2];exact hx,fun j hj=>by rw [hb j _ hj (List.getElem?_eq_getElem (by omega))];decide⟩
 rw [Sz,this]
theorem Aix {p:Hd→Bool} {l:List Hd} (hb:∀(j:Nat) y,l[j]? =some y→p y=false):Sz p l= -1:=by
 have:l.findIdx? p=none:=by
  rw [List.findIdx?_eq_none_iff]
  intro x hx
  obtain ⟨j,hj⟩:=List.getElem?_of_mem hx
  exact hb j x hj
 rw [Sz,this]
theorem Ak4 {p:Hd→Bool} {l:List Hd}:decide (0≤Sz p l)=l.any p:=by
 unfold Sz
 cases hf:l.findIdx? p with
 |none=>
  rw [List.findIdx?_eq_none_iff] at hf
  have:l.any p=false:=by rw [List.any_eq_false];exact fun x hx=>by rw [hf x hx];decide
  rw [this];decide
 |some k=>
  rw [List.findIdx?_eq_some_iff_getElem] at hf
  obtain ⟨h1,h2,_⟩:=hf
  have:l.any p=true:=by rw [List.any_eq_true];exact ⟨_,List.getElem_mem h1,h2⟩
  rw [this]
  exact decide_eq_true (show (0:Int)≤(k:Nat) by omega)
theorem Aiv (l:List Hd) (F:Nat) (cs:List D) (p:Hd→Bool) (hF:∀x∈l,XC Tryz.prog F (.agg (Hd.c x)::cs) (fun r=>r=dB (p x))):XC Tryz.prog 137 [.sl 5 (l.map Hd.c), .fn F [] cs] (fun r=>r=dI (Sz p l)):=by
 refine Ao Aas Tryz.func137 R R lb<|zr<|za R R<|zn<|zs<|zr<|zm R R<|XL.len R R R Tryz.underlying48 fun hl7=>zm R R<|zn<|Ai<|?_
 refine Av (α:=Nat) (fun k=>k≤l.length∧∀j y,j<k→l[j]? =some y→p y=false) (fun k=>mkF [(0, .d (.sl 5 (l.map Hd.c))),(1, .d (.fn F [] cs)),(7, .d (dI l.length)),(8, .d (dI k))]) (fun k=>mkH []) (fun k=>l.length - k) (0) (⟨Nat.zero_le _,fun j y hj=>absurd hj (Nat.not_lt_zero _)⟩) ?_ ?_ ?_
 exact fz ⟨sr,sr,sr,sr,trivial⟩
 exact HSub.nil
 intro k hk0
 obtain ⟨hk,hb⟩:=hk0
 refine zr<|zp (Aq R R R)<|zn<|zs<|?_
 refine zd R (fun c9=> ?_) (fun c9=> ?_)
 have hk0a:k<l.length:=by omega
 obtain ⟨x0,hx0⟩:=Ap hk0a
 refine zi<|zs<|Ai<|zr<|zm R R<|za R R<|znr<|zm R R<|zm R R<|zm R R<|zp (Am R R R Gd hx0)<|zp (Ae (s':= .d (.agg (Hd.c x0))) (Ar R R Kr lb) (by kernel_rfl))<|XL.callv1 (ds:= [_]) R R R (hF x0 (List.mem_of_getElem? hx0)) R<|zn<|?_
 refine Dc (by kernel_rfl) R (fun c16=> ?_) (fun c16=> ?_)
 exact zr<|zm R R<|za R R<|zn<|zt<|z1 R R (rI (Ak3 hx0 c16 hb).symm)
 refine zi<|Af (by kernel_rfl)<|zp (Ak R R R (by omega) (by omega))<|zm R R<|zn<|?_
 exact Al (k+1) (⟨by omega,fun j y hj hy=>by by_cases e:j=k;(· subst e;rw [hx0] at hy;cases hy;exact c16);(· exact hb j y (by omega) hy)⟩) (by omega) (fz ⟨sr,sr,sr,sr,trivial⟩) (HSub.nil)
 have hk0b:k=l.length:=by omega
 exact At<|zr<|za R R<|zn<|zt<|z1 R R (rI (Aix (fun j y hy=>hb j y (by have:=(List.getElem?_eq_some_iff.1 hy).1;omega) hy)).symm)
theorem M8 (l:List Hd) (F:Nat) (cs:List D) (p:Hd→Bool) (hF:∀x∈l,XC Tryz.prog F (.agg (Hd.c x)::cs) (fun r=>r=dB (p x))):XC Tryz.prog 91 [.sl 5 (l.map Hd.c), .fn F [] cs] (fun r=>r=dB (l.any p)):=by
 exact Ao Acl Tryz.func91 R R lb<|zr<|za R R<|znr<|zm R R<|zm R R<|XL.call1 R R (Aiv _ _ _ p hF) R<|zp (E4 R R R)<|za R R<|zn<|zt<|z1 R R (rB Ak4)
end Go.Proofs.YtcihalbakenleaaGreat
