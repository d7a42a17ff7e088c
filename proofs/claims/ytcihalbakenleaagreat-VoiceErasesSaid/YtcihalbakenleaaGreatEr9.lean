/- Part 9 of what the statements need: lemmas and walks. -/
import Derived.ProofKit
import Derived.OpenShut
import Derived.Deep.Slices
import Derived.Deep.Fields
import Derived.ChangeSame
import Derived.Test.YtcihalbakenleaaGreatEr8
set_option linter.unusedVariables false
set_option linter.unusedSimpArgs false
set_option linter.unusedSectionVars false
set_option maxRecDepth 20000
set_option maxHeartbeats 8000000
namespace Go.Proofs.YtcihalbakenleaaGreat
open Go.RowKit Go.ChangeShapes Go.WideShapes Go.ChangeAt Go.Deep
theorem Axm:ownKnob Tryz.prog.godebug=none:=by kernel_rfl
theorem Aqf:laidOutB Tryz.prog=true:=by kernel_rfl
section
variable {H:Type} {enc:TypeId × Value→H} {P:Program}
theorem Z1 (hl:laidOutB P=true) {ts:List TypeId} (hts:∀t∈ts,P.readableRec t=true∧t<P.types.size) {W W':World} {sp:Nat→Bool}:
  ∀{vs:List Value} {ds:List (DataW H)} {ps:List MemPlace},DataW.TrodAll enc P W 0 (fun _=>true) true ts vs ds ps→(∀p∈ps,W.sameAt W' p)→(∀p∈ps,sp p.block=true)→
   DataW.TrodAll enc P W' 0 sp true ts vs ds ps:=by
 induction ts with
 |nil=>
  intro vs ds ps h _ _
  obtain ⟨rfl,rfl,rfl⟩:=trodAll_nil h
  exact trodAll_mk0
 |cons t ts ih=>
  intro vs ds ps h hs hp
  obtain ⟨v,vs',d,ds',p,q,rfl,rfl,rfl,h1,h2⟩:=trodAll_cons h
  have ht:=hts t (by simp)
  exact trodAll_cons_mk (WideElems.Trod_stays hl ht.1 ht.2 h1 (fun x hx=>hs x (by simp [hx])) fun x hx=>hp x (by simp [hx]))
   (ih (fun t ht=>hts t (by simp [ht])) h2 (fun x hx=>hs x (by simp [hx])) fun x hx=>hp x (by simp [hx]))
theorem Aqe {f:Func} {s:ChangeSpec} {fresh:Bool} {W W':World} {args:Array Value} {ds gs:List (DataW H)} {before:List MemPlace} {tb:TypeId}
  (hl:laidOutB P=true) (hts:∀t∈f.params.toList,P.readableRec t=true∧t<P.types.size) (hr:f.resultTypes= #[tb]) (hb:P.underlying tb=some .bool)
  (hv:s.vars= []) (hs:s.fn H (ds++gs)={results:= [.lit (.bool true)],args:=ds,vars:= []})
  (hW:DataW.Whole enc P f.params.toList s.vars false W args.toList ds gs before) (hbel:Below W.heap.size W W'):
  s.post enc P f false fresh false false W args (.bool true) W':=by
 have hlt:∀p∈before,p.block<W.heap.size:=fun p hp=>hW.lt p hp
 have hW0:=hW
 obtain ⟨p,q,hA,hV,hbe,hz,hn⟩:=hW0
 have hq:q= []:=by
  rw [hv] at hV
  exact (trodVars_none hV).2
 subst hq
 simp only [List.append_nil] at hbe
 subst hbe
 have hargs:∀sp:Nat→Bool,(∀x∈before,sp x.block=true)→DataW.TrodAll enc P W' 0 sp true f.params.toList args.toList (s.fn H (ds++gs)).args before:=by
  intro sp hsp
  rw [hs]
  exact Z1 hl hts hA (fun x hx=>hbel.same (hlt x hx)) hsp
 have hold:∀x∈before,(fun b=>decide (b<W.heap.size)) x.block=true:=fun x hx=>by simpa using hlt x hx
 refine ⟨ds,gs,before, [],before, [],hW, ?_,hargs _ hold, ?_, ?_,fun h=>by cases h⟩
 ·rw [hs,hr]
  exact trodAll_cons_mk (shut_bool hb _) trodAll_mk0
 ·rw [hs,hv]
  rfl
 ·exact World.keptBut_mono (fun x hx=>⟨hx,Or.inr (Or.inl hx)⟩) (hbel.frame (· ∈before))
end
def Dec (P:Program) (t:TypeId) {α:Type} (f:α→List Value) (ok:World→α→Prop):Prop:=
 ∀(H:Type) (enc:TypeId × Value→H) (w:World) (fuel:Nat) (cs:List Value) (x:DataW H × List MemPlace),
  DataW.trod enc P w 0 (fun _=>true) true fuel t cs=some x→∃a,cs=f a∧ok w a
structure Sl (α:Type) where
 A:Option Addr
 n:Nat
 c:Nat
 l:List α
def Sl.val {α:Type} (s:Sl α):Value:= .slice s.A s.n s.c
structure Sl.Good {α:Type} (f:α→List Value) (okw:World→α→Prop) (w:World) (s:Sl α):Prop where
 len:s.n=s.l.length
 cap:s.n≤s.c
 max:s.c≤maxLen
 nil:s.A=none→s.c=0
 rds:Rds w w.heap.size s.A (s.l.flatMap f)
 all:∀a∈s.l,okw w a
section
variable {H:Type} {enc:TypeId × Value→H} {P:Program} {w:World}
end
end Go.Proofs.YtcihalbakenleaaGreat
namespace Go.Proofs.YtcihalbakenleaaGreat
open Go.RowKit Go.ChangeShapes Go.WideShapes Go.ChangeAt Go.Deep
def Hw (w:World):Hp:=fun b o=>match w.cell? ⟨b,o,none⟩ with
  |some u=>if u.oneCell'=true then some u else none
  |none=>none
theorem Hw.imm (w:World):Imm (Hw w) w:=fun b o u h=>by
  unfold Hw at h
  split at h
  · rename_i v hv
    split at h
    · rename_i h1;cases h;exact ⟨hv,h1⟩
    · cases h
  · cases h
theorem Hw.mk {w:World} {b o:Nat} {u:Value} (h:w.cell? ⟨b,o,none⟩=some u) (h1:u.oneCell'=true):Hw w b o=some u:=by
  unfold Hw;rw [h];simp [h1]
structure VDs (H:Hp) (cs:List Value) (ds:List D):Prop where
  len:cs.length=ds.length
  vd:∀(i:Nat) (x:Value) (d:D),cs[i]? =some x→ds[i]? =some d→VD H x d
  one:∀x∈cs,x.oneCell'=true
theorem VDs.nil (H:Hp):VDs H [] []:=⟨rfl,fun i x d h _=>by simp at h,fun x h=>by cases h⟩
theorem VDs.app {H:Hp} {a b:List Value} {x y:List D} (h:VDs H a x) (k:VDs H b y):VDs H (a++b) (x++y):=by
  refine ⟨by rw [List.length_append,List.length_append,h.len,k.len],fun i u d hu hd=> ?_,fun u hu=> ?_⟩
  · by_cases hi:i<a.length
    · rw [List.getElem?_append_left hi] at hu
      rw [List.getElem?_append_left (by rw [←h.len];exact hi)] at hd
      exact h.vd i u d hu hd
    · rw [List.getElem?_append_right (by omega)] at hu
      rw [List.getElem?_append_right (by rw [←h.len];omega), ←h.len] at hd
      exact k.vd _ u d hu hd
  · rcases List.mem_append.1 hu with e|e
    · exact h.one u e
    · exact k.one u e
theorem VDs.single {H:Hp} {u:Value} {d:D} (h:VD H u d) (h1:u.oneCell'=true):VDs H [u] [d]:=by
  refine ⟨rfl,fun i x e hx he=> ?_,fun x hx=>by rw [List.mem_singleton.1 hx];exact h1⟩
  match i with
  |0=>cases hx;cases he;exact h
  |i+1=>simp at hx
def DecQ (P:Program) (t:TypeId) (Q:List D→Prop):Prop:=
  ∀(H:Type) (enc:TypeId × Value→H) (w:World) (fuel:Nat) (cs:List Value) (x:DataW H × List MemPlace),
    DataW.trod enc P w 0 (fun _=>true) true fuel t cs=some x→∃ds,VDs (Hw w) cs ds∧Q ds
def Gj (ds:List D):Prop:=∃n:Int,ds= [.v (.int .i64 n)]∧ -9223372036854775808≤n∧n≤9223372036854775807
def Alx (ds:List D):Prop:=∃b:Bool,ds= [.v (.bool b)]
def Awc (ds:List D):Prop:=∃s:ByteArray,ds= [.v (.string s)]
def QSl (sz:Nat) (Q:List D→Prop) (ds:List D):Prop:=∃l:List (List D),ds= [.sl sz l]∧∀x∈l,Q x
def QS:List (List D→Prop)→List D→Prop
  | [],ds=>ds= []
  |Q::r,ds=>∃a b,ds=a++b∧Q a∧QS r b
theorem DecQ.int {P:Program} {t:TypeId} (ht:P.underlying t=some (.int .i64)):DecQ P t Gj:=by
  intro H enc w fuel cs x h
  obtain ⟨n,rfl,_,hw⟩:=DataW.trod_int ht h
  refine ⟨[.v (.int .i64 n)],VDs.single (.v _) rfl,n,rfl, ?_⟩
  simp [Lit.wf,IntKind.min,IntKind.max,IntKind.signed,IntKind.bits] at hw
  omega
theorem DecQ.bool {P:Program} {t:TypeId} (ht:P.underlying t=some .bool):DecQ P t Alx:=by
  intro H enc w fuel cs x h
  obtain ⟨b,rfl,_⟩:=DataW.trod_bool ht h
  exact ⟨[.v (.bool b)],VDs.single (.v _) rfl,b,rfl⟩
theorem DecQ.str {P:Program} {t:TypeId} (ht:P.underlying t=some .string):DecQ P t Awc:=by
  intro H enc w fuel cs x h
  obtain ⟨s,rfl,_,_⟩:=DataW.trod_string ht h
  exact ⟨[.v (.string s)],VDs.single (.v _) rfl,s,rfl⟩
def contB (P:Program):Nat→List (TypeId × Nat)→Nat→Bool
  |o, [],n=>o==n
  |o,(t,f)::r,n=>f==o && contB P (o+P.cellsOf t) r n
theorem Abq {P:Program} {H:Type} {enc:TypeId × Value→H} {w:World} {m:Nat} {cs:List Value}:∀(ps:List (TypeId × Nat)) (Qs:List (List D→Prop)) (o:Nat),ps.length=Qs.length→contB P o ps cs.length=true→
    (∀(i:Nat) t f Q,ps[i]? =some (t,f)→Qs[i]? =some Q→DecQ P t Q)→
    (∀(i:Nat) t f,ps[i]? =some (t,f)→∃y,DataW.trod enc P w 0 (fun _=>true) true m t ((cs.drop f).take (P.cellsOf t))=some y)→
    ∃ds,VDs (Hw w) (cs.drop o) ds∧QS Qs ds
  | [], [],o,_,hc,_,_=>by
    simp [contB] at hc
    exact ⟨[],by rw [List.drop_eq_nil_of_le (by omega)];exact VDs.nil _,rfl⟩
  |(t,f)::ps,Q::Qs,o,hl,hc,hq,ht=>by
    simp only [contB,Bool.and_eq_true,beq_iff_eq] at hc
    obtain ⟨rfl,hc⟩:=hc
    obtain ⟨y,hy⟩:=ht 0 t f rfl
    obtain ⟨a,ha,hQ⟩:=hq 0 t f Q rfl rfl _ _ _ _ _ _ hy
    obtain ⟨b,hb,hR⟩:=Abq ps Qs (f+P.cellsOf t) (by simpa using hl) hc (fun i t' f' Q' h1 h2=>hq (i+1) t' f' Q' h1 h2) fun i t' f' h1=>ht (i+1) t' f' h1
    refine ⟨a++b, ?_,a,b,rfl,hQ,hR⟩
    have:cs.drop f=(cs.drop f).take (P.cellsOf t)++cs.drop (f+P.cellsOf t):=by rw [←List.drop_drop,List.take_append_drop]
    rw [this]
    exact ha.app hb
theorem DecQ.struct {P:Program} {t:TypeId} {fs:Array Field} (Qs:List (List D→Prop)) (ht:P.underlying t=some (.struct fs)) (hl:fs.toList.length=Qs.length) (hc:contB P 0 (fs.toList.map fun f=>(f.type,f.offset)) (P.cellsOf t)=true)
    (hq:∀(i:Nat) f Q,fs.toList[i]? =some f→Qs[i]? =some Q→DecQ P f.type Q):DecQ P t (QS Qs):=by
  intro H enc w fuel cs x h
  obtain ⟨xs,n,_,_,hcl,hxl,hg⟩:=DataW.trod_struct ht h
  have:=Abq (P:=P) (enc:=enc) (w:=w) (m:=n) (cs:=cs) (fs.toList.map fun f=>(f.type,f.offset)) Qs 0 (by rw [List.length_map];exact hl) (by rw [hcl];exact hc) (fun i t' f' Q' h1 h2=> ?_) fun i t' f' h1=> ?_
  · rwa [List.drop_zero] at this
  · rw [List.getElem?_map] at h1
    cases hf:fs.toList[i]? with
    |none=>rw [hf] at h1;cases h1
    |some f=>rw [hf] at h1;cases h1;exact hq i f Q' hf h2
  · rw [List.getElem?_map] at h1
    cases hf:fs.toList[i]? with
    |none=>rw [hf] at h1;cases h1
    |some f=>
      rw [hf] at h1;cases h1
      have hfa:fs[i]? =some f:=by simpa using hf
      have hi:i<xs.length:=by rw [hxl];exact (Array.getElem?_eq_some_iff.1 hfa).1
      exact ⟨xs[i],by rw [hg i f hfa,List.getElem?_eq_getElem hi]⟩
theorem DecQ.array {P:Program} {t e:TypeId} {n:Nat} {Q:List D→Prop} (ht:P.underlying t=some (.array n e)) (hc:contB P 0 ((List.range n).map fun i=>(e,i*P.cellsOf e)) (P.cellsOf t)=true) (hq:DecQ P e Q):DecQ P t (QS (List.replicate n Q)):=by
  intro H enc w fuel cs x h
  obtain ⟨xs,m,_,_,hcl,hxl,hg⟩:=DataW.trod_array ht h
  have:=Abq (P:=P) (enc:=enc) (w:=w) (m:=m) (cs:=cs) ((List.range n).map fun i=>(e,i*P.cellsOf e)) (List.replicate n Q) 0 (by simp) (by rw [hcl];exact hc) (fun i t' f' Q' h1 h2=> ?_) fun i t' f' h1=> ?_
  · rwa [List.drop_zero] at this
  · rw [List.getElem?_map] at h1
    rw [List.getElem?_replicate] at h2
    split at h2
    · cases h2
      rename_i hi
      rw [List.getElem?_range hi] at h1
      cases h1;exact hq
    · cases h2
  · have hi:i<n:=by have:=(List.getElem?_eq_some_iff.1 h1).1;simpa using this
    rw [List.getElem?_map,List.getElem?_range hi] at h1
    cases h1
    exact ⟨xs[i],by rw [hg i hi,List.getElem?_eq_getElem (by omega)]⟩
theorem DecQ.slice {P:Program} {t e:TypeId} {Q:List D→Prop} {sz:Nat} (ht:P.underlying t=some (.slice e)) (he:DecQ P e Q) (hsz:P.cellsOf e=sz) (hpos:0<sz):DecQ P t (QSl sz Q):=by
  intro H enc w fuel cs x h
  rcases Go.Deep.open_slice ht h with ⟨rfl,rfl⟩|⟨a,len,cap,m,n,D0,Pl,rfl,hb,hl,hm,hmm,rfl,hx⟩
  · exact ⟨[.sl sz []],VDs.single (.emp none 0 sz (fun _=>rfl) (Nat.zero_le _)) rfl, [],rfl,fun x h=>by cases h⟩
  · simp only [if_true] at hmm
    obtain rfl:cap=m:=hmm.symm
    rw [hsz] at hx
    by_cases hl0:len=0
    · subst hl0
      exact ⟨[.sl sz []],VDs.single (.emp (some a) cap sz (fun h=>by cases h) hm) rfl, [],rfl,fun x h=>by cases h⟩
    obtain ⟨F,hF⟩:∃F:Nat→List Value × List D,∀i,i<len→w.cells? 0 (a.add (i*sz)) sz=some (F i).1∧VDs (Hw w) (F i).1 (F i).2∧Q (F i).2:=by
      have:∀i,∃y:List Value × List D,i<len→w.cells? 0 (a.add (i*sz)) sz=some y.1∧VDs (Hw w) y.1 y.2∧Q y.2:=by
        intro i
        by_cases hi:i<len
        · obtain ⟨cs',h1,h2⟩:=hx i (by omega)
          obtain ⟨ds,h3,h4⟩:=he _ _ _ _ _ _ h2
          exact ⟨(cs',ds),fun _=>⟨h1,h3,h4⟩⟩
        · exact ⟨([], []),fun h=>absurd h hi⟩
      exact ⟨fun i=>Classical.choose (this i),fun i hi=>Classical.choose_spec (this i) hi⟩
    have hlen:∀i,i<len→(F i).1.length=sz:=fun i hi=>by
      obtain ⟨_,h,_⟩:=World.cells?_some (hF i hi).1
      exact h
    obtain ⟨b,off,sp⟩:=a
    have hc:∀i j,i<len→j<sz→w.cell? ((⟨b,off,sp⟩:Addr).add (i*sz+j))=(F i).1[j]? :=by
      intro i j hi hj
      obtain ⟨_,_,hat⟩:=World.cells?_some (hF i hi).1
      rw [←Go.Deep.add_add]
      exact hat j hj
    have h00:=hc 0 0 (by omega) hpos
    have hv0 : (F 0).1[0]? = some ((F 0).1[0]'(by rw [hlen 0 (by omega)]; exact hpos)) := List.getElem?_eq_getElem _
    rw [hv0] at h00
    have hsp:sp=none:=by simpa [Addr.add] using World.cell?_spot h00
    subst hsp
    have hcell:∀i j u,i<len→(F i).1[j]? =some u→Hw w b (off+(i*sz+j))=some u:=by
      intro i j u hi hu
      have hj:j<sz:=by rw [←hlen i hi];exact (List.getElem?_eq_some_iff.1 hu).1
      have:=hc i j hi hj
      rw [Go.WideShapes.add_plain,hu] at this
      exact Hw.mk this ((hF i hi).2.1.one u (List.mem_of_getElem? hu))
    have hk:∀k e,((List.range len).map fun i=>(F i).2)[k]? =some e→k<len∧e=(F k).2:=by
      intro k e he
      have hkl:k<len:=by have:=(List.getElem?_eq_some_iff.1 he).1;simpa using this
      rw [List.getElem?_map,List.getElem?_range hkl] at he
      cases he;exact ⟨hkl,rfl⟩
    refine ⟨[.sl sz ((List.range len).map fun i=>(F i).2)],VDs.single (.sl b off len cap sz _ (fun k j=>(F k).1[j]?.getD undef) (by simp) hl hm (fun e he=> ?_) (fun k j e d h1 h2=> ?_) (fun k j e d h1 h2=> ?_)) rfl,_,rfl,fun y hy=> ?_⟩
    · obtain ⟨i,hi,rfl⟩:=List.mem_map.1 he
      have hi:=List.mem_range.1 hi
      rw [←(hF i hi).2.1.len,hlen i hi]
    · obtain ⟨hkl,rfl⟩:=hk k e h1
      have hj:j<(F k).1.length:=by rw [(hF k hkl).2.1.len];exact (List.getElem?_eq_some_iff.1 h2).1
      have hu:(F k).1[j]? =some (F k).1[j]:=List.getElem?_eq_getElem hj
      rw [hcell k j _ hkl hu,hu];rfl
    · obtain ⟨hkl,rfl⟩:=hk k e h1
      have hj:j<(F k).1.length:=by rw [(hF k hkl).2.1.len];exact (List.getElem?_eq_some_iff.1 h2).1
      have hu:(F k).1[j]? =some (F k).1[j]:=List.getElem?_eq_getElem hj
      rw [hu]
      exact (hF k hkl).2.1.vd j _ d hu h2
    · obtain ⟨i,hi,rfl⟩:=List.mem_map.1 hy
      exact (hF i (List.mem_range.1 hi)).2.2
section
variable {H:Type} {enc:TypeId × Value→H} {P:Program} {w:World}
theorem Aby {Q:List D→Prop} {r:Reach} {b0:Nat} {t:TypeId} {fs:Array Field} {v:Value} {d:DataW H} {p:List MemPlace} (ht:P.underlying t=some (.struct fs))
    (hD:DecQ P t Q) (hv:Value.okWide P w r b0 t v) (h:DataW.Trod enc P w 0 (fun _=>true) true t v d p):∃ds,VD (Hw w) v (.agg ds)∧Q ds:=by
  obtain ⟨cs,rfl,_⟩:=okWide_struct ht hv
  obtain ⟨fuel,hf⟩:=h
  obtain ⟨ds,h1,h2⟩:=hD _ _ _ _ _ _ hf
  exact ⟨ds, .agg cs ds (by have:=h1.len;simpa [Value.cells] using this) fun i x d hx hd=>h1.vd i x d (by simpa [Value.cells] using hx) hd,h2⟩
theorem Ap1 {Q:List D→Prop} {r:Reach} {b0:Nat} {t e:TypeId} {n:Nat} {v:Value} {d:DataW H} {p:List MemPlace} (ht:P.underlying t=some (.array n e))
    (hD:DecQ P t Q) (hv:Value.okWide P w r b0 t v) (h:DataW.Trod enc P w 0 (fun _=>true) true t v d p):∃ds,VD (Hw w) v (.agg ds)∧Q ds:=by
  obtain ⟨cs,rfl⟩:∃cs,v= .agg cs:=by
    simp only [Value.okWide,ht] at hv
    obtain ⟨cs,h1,_⟩:=hv
    exact ⟨cs,h1⟩
  obtain ⟨fuel,hf⟩:=h
  obtain ⟨ds,h1,h2⟩:=hD _ _ _ _ _ _ hf
  exact ⟨ds, .agg cs ds (by have:=h1.len;simpa [Value.cells] using this) fun i x d hx hd=>h1.vd i x d (by simpa [Value.cells] using hx) hd,h2⟩
end
theorem XC.law {P:Program} {F:FuncId} {ds:List D} {w:World} {vs:Array Value} (hx:XC P F ds (fun r=>r= .v (.bool true))) (hs:vs.size=ds.length) (hv:∀(i:Nat) (x:Value) (d:D),vs[i]? =some x→ds[i]? =some d→VD (Hw w) x d):
    Calls P F vs w fun e w'=>e= .returned (.bool true)∧Below w.heap.size w w':=
  (hx.calls (Hw w) w vs (Hw.imm w) hs hv).mono fun e w' ⟨H',u,r,e1,e2,_,_,_,hb,hu⟩=>by
    subst e2
    cases hu
    exact ⟨e1,hb⟩
end Go.Proofs.YtcihalbakenleaaGreat
namespace Go.Proofs.YtcihalbakenleaaGreat
def Ks {α:Type} (f:Nat→α→α) (l:List α) (k:Nat):List α:=l.mapIdx fun i a=>if i<k then f i a else a
theorem Um {α:Type} (f:Nat→α→α) (l:List α) (k:Nat):(Ks f l k).length=l.length:=by rw [Ks,List.length_mapIdx]
theorem Yh {α:Type} (f:Nat→α→α) (l:List α):Ks f l 0=l:=by
 refine List.ext_getElem? fun i=> ?_
 rw [Ks,List.getElem?_mapIdx]
 cases l[i]? <;>simp
theorem Aaw {α:Type} {f:Nat→α→α} {l:List α} {k:Nat} (h:l.length≤k):Ks f l k=l.mapIdx f:=by
 refine List.ext_getElem? fun i=> ?_
 rw [Ks,List.getElem?_mapIdx,List.getElem?_mapIdx]
 cases hi:l[i]? with
 |none=>rfl
 |some a=>have:=(List.getElem?_eq_some_iff.1 hi).1;simp only [Option.map_some];rw [if_pos (by omega)]
theorem Aav {α:Type} {f:Nat→α→α} {l:List α} {k:Nat} {x:α} (h:l[k]? =some x):(Ks f l k)[k]? =some x:=by
 rw [Ks,List.getElem?_mapIdx,h];simp
theorem Aau {α:Type} {f:Nat→α→α} {l:List α} {k:Nat} {x:α} (h:l[k]? =some x):Ks f l (k+1)=(Ks f l k).set k (f k x):=by
 refine List.ext_getElem? fun i=> ?_
 have hk:=(List.getElem?_eq_some_iff.1 h).1
 rw [List.getElem?_set,Ks,List.getElem?_mapIdx]
 by_cases e:k=i
 ·subst e
  rw [if_pos rfl,if_pos (by rw [Um];exact hk),h]
  simp
 ·rw [if_neg e,Ks,List.getElem?_mapIdx]
  cases l[i]? with
  |none=>rfl
  |some a=>simp only [Option.map_some];by_cases c:i<k<;>simp [c]<;>omega
def Ev.reh (x:Ev) (hs:List Hd):Ev:=⟨x.site,x.num,x.kind,x.v,hs,x.graces,x.art,x.orn,x.dyn,x.lyr,x.stem,x.beam⟩
def Ev.reid (x o:Ev):Ev:=⟨o.site,o.num,x.kind,x.v,x.heads,x.graces,x.art,x.orn,x.dyn,x.lyr,x.stem,x.beam⟩
theorem Ev.err_reh {x:Ev} (h:x.err=0) (hk:x.kind≠3) {hs:List Hd} (h1:x.heads= []→hs= []) (h2:C0 x.heads=0→C0 hs=0):(x.reh hs).err=0:=by
 rw [err_iff] at h ⊢
 obtain ⟨q1,q2,q3,q4,q5,q6⟩:=h
 refine ⟨q1,q2, ?_,q4,fun k=> ?_,q6⟩
 ·by_cases c:x.kind=1
  ·have:(x.reh hs).strip=x.reh hs:=(S7 (e:=x.reh hs) c).symm
   rw [this];exact ⟨rfl,rfl,rfl,rfl,rfl,rfl,rfl,rfl,rfl,rfl⟩
  ·have hs1:x.strip=⟨x.site,x.num,x.kind,x.v, [], [],if x.kind≠4 then Ey x.art else 0,0,x.dyn, [],0,0⟩:=by rw [Ev.strip,if_neg (by omega),if_pos hk]
   have hs2:(x.reh hs).strip=⟨x.site,x.num,x.kind,x.v, [], [],if x.kind≠4 then Ey x.art else 0,0,x.dyn, [],0,0⟩:=by
    have:¬((x.reh hs).kind=1∨¬(1≤(x.reh hs).kind∧(x.reh hs).kind≤4)):=by show ¬(x.kind=1∨¬(1≤x.kind∧x.kind≤4));omega
    rw [Ev.strip,if_neg this,if_pos (show (x.reh hs).kind≠3 from hk)];rfl
   rw [hs1] at q3
   rw [hs2]
   obtain ⟨k1,k2,k3,k4,k5,k6,k7,k8,k9,k10⟩:=q3
   exact ⟨k1,k2,k3,k4,k5,k6,k7,h1 k8,k9,k10⟩
 ·have:=q5 k
  unfold Ev.e2 at this ⊢
  rw [first_zero] at this ⊢
  intro y hy
  simp only [List.mem_cons,List.not_mem_nil,or_false] at hy
  rcases hy with e|e|e
  ·rw [e];exact h2 (this (C0 x.heads) (by simp))
  ·rw [e];exact this _ (by simp [Ev.reh])
  ·rw [e];exact this _ (by simp [Ev.reh])
theorem Ev.err_reid {x o:Ev} (h:x.err=0) (ho:o.err=0):(x.reid o).err=0:=by
 rw [err_iff] at h ho ⊢
 refine ⟨ho.1,h.2.1, ?_,h.2.2.2.1,h.2.2.2.2.1,h.2.2.2.2.2⟩
 have h3:=h.2.2.1
 by_cases c:x.kind=1∨¬(1≤x.kind∧x.kind≤4)
 ·rw [Ev.strip,if_pos (show (x.reid o).kind=1∨¬(1≤(x.reid o).kind∧(x.reid o).kind≤4) from c)]
  exact ⟨rfl,rfl,rfl,rfl,rfl,rfl,rfl,rfl,rfl,rfl⟩
 ·rw [Ev.strip,if_neg c] at h3
  rw [Ev.strip,if_neg (show ¬((x.reid o).kind=1∨¬(1≤(x.reid o).kind∧(x.reid o).kind≤4)) from c)]
  exact h3
theorem Ev.no_heads {x:Ev} (h:x.err=0) (hk:x.kind≠1):x.heads= []:=by
 rw [err_iff] at h
 obtain ⟨q1,q2,q3,q4,q5,q6⟩:=h
 rw [Ev.strip,if_neg (by omega)] at q3
 exact q3.2.2.2.2.2.2.2.1
theorem Sp:∀{l l':List Hd} {n:Int},l.length=l'.length→(∀(j:Nat) a b,l[j]? =some a→l'[j]? =some b→a.p=b.p∧a.sh=b.sh)→E4 n l'=E4 n l
 | [], [],n,_,_=>rfl
 |a::l,b::l',n,hl,h=>by
  obtain ⟨h1,h2⟩:=h 0 a b rfl rfl
  have h3:E4 a.p.num l'=E4 a.p.num l:=Sp (by simpa using hl) fun j x y hx hy=>h (j+1) x y hx hy
  rw [E4,E4, ←h1,h3,show Im b=Im a by rw [Im,Im,h1,h2]]
theorem Z2 {l l':List Hd} (hl:l.length=l'.length) (h:∀(j:Nat) a b,l[j]? =some a→l'[j]? =some b→a.p=b.p∧a.sh=b.sh):C0 l'=C0 l:=by
 unfold C0
 rw [hl,Sp hl h]
def Ll (b:List Hd) (j:Nat) (h:Hd):Hd:=match b[j]? with|some g=>⟨h.p,g.tied,h.sh⟩|none=>h
def Gw (a b:List Hd):List Hd:=a.mapIdx (Ll b)
theorem Aoz {b:List Hd} {j:Nat} {h g:Hd} (hg:b[j]? =some g):Ll b j h=⟨h.p,g.tied,h.sh⟩:=by rw [Ll,hg]
theorem Asd (b:List Hd) (j:Nat) (h:Hd):(Ll b j h).p=h.p∧(Ll b j h).sh=h.sh:=by unfold Ll;split<;>exact ⟨rfl,rfl⟩
theorem Yk (a b:List Hd):(Gw a b).length=a.length:=by rw [Gw,List.length_mapIdx]
theorem Al9 (a b:List Hd):C0 (Gw a b)=C0 a:=by
 refine Z2 (Yk a b).symm fun j x y hx hy=> ?_
 rw [Gw,List.getElem?_mapIdx,hx] at hy
 cases hy
 have:=Asd b j x
 exact ⟨this.1.symm,this.2.symm⟩
def Nb (os:List Ev) (j:Nat) (e:Ev):Ev:=match os[j]? with|some o=>e.reid o|none=>e
def Rk (js os:List Ev):List Ev:=js.mapIdx (Nb os)
theorem Atq {os:List Ev} {j:Nat} {e o:Ev} (h:os[j]? =some o):Nb os j e=e.reid o:=by rw [Nb,h]
theorem Acf (js os:List Ev):(Rk js os).length=js.length:=by rw [Rk,List.length_mapIdx]
theorem Ai7 {os:List Ev} {j:Nat} {e:Ev} (h:e.err=0∧e.kind≠3) (ho:∀o∈os,o.err=0):(Nb os j e).err=0∧(Nb os j e).kind≠3∧(Nb os j e).len=e.len:=by
 unfold Nb
 split
 ·rename_i o hj
  have h1:=Ev.err_reid h.1 (ho o (List.mem_of_getElem? hj))
  exact ⟨h1,h.2,by rw [Ev.len_ok h1 h.2,Ev.len_ok h.1 h.2];rfl⟩
 ·exact ⟨h.1,h.2,rfl⟩
theorem Atp {js os:List Ev} (h:∀e∈js,e.err=0∧e.kind≠3) (ho:∀o∈os,o.err=0):(∀e∈Rk js os,e.err=0∧e.kind≠3)∧wrS (Rk js os)=wrS js:=by
 constructor
 ·intro e he
  obtain ⟨j,hj⟩:=List.getElem?_of_mem he
  rw [Rk,List.getElem?_mapIdx] at hj
  cases hv:js[j]? with
  |none=>rw [hv] at hj;cases hj
  |some x=>
   rw [hv] at hj;cases hj
   have:=Ai7 (os:=os) (j:=j) (h x (List.mem_of_getElem? hv)) ho
   exact ⟨this.1,this.2.1⟩
 ·unfold wrS
  refine List.ext_getElem? fun j=> ?_
  rw [List.getElem?_map,List.getElem?_map,Rk,List.getElem?_mapIdx]
  cases hv:js[j]? with
  |none=>rfl
  |some x=>simp only [Option.map_some];rw [(Ai7 (os:=os) (j:=j) (h x (List.mem_of_getElem? hv)) ho).2.2]
theorem Aqp {js os:List Ev} (h:∀e∈js,e.fit):∀e∈Rk js os,e.fit:=by
 intro e he
 obtain ⟨j,hj⟩:=List.getElem?_of_mem he
 rw [Rk,List.getElem?_mapIdx] at hj
 cases hv:js[j]? with
 |none=>rw [hv] at hj;cases hj
 |some x=>
  rw [hv] at hj;cases hj
  have:=h x (List.mem_of_getElem? hv)
  unfold Nb
  split
  ·exact this
  ·exact this
theorem Aiq {x:Ev} (h:x.fit) (b:List Hd):(x.reh (Gw x.heads b)).fit:=⟨by show (Gw x.heads b).length≤1000;rw [Yk];exact h.1,h.2⟩
theorem Aik (v:Vo) (i:Nat):∀f k,k≤L9 v i f k
 |0,k=>Nat.le_refl _
 |f+1,k=>by
  rw [L9];split
  ·have:=Aik v i f (k+1);omega
  ·exact Nat.le_refl _
theorem N8 {v:Vo} {i:Nat}:∀f k j,k≤j→j<L9 v i f k→(Lw v i∧Lw v j)∧Kd v i j
 |0,k,j,h1,h2=>by rw [L9] at h2;omega
 |f+1,k,j,h1,h2=>by
  rw [L9] at h2
  split at h2
  ·rename_i c
   by_cases e:k=j
   ·rw [←e];exact c
   ·exact N8 f (k+1) j (by omega) h2
  ·omega
theorem Abb {v:Vo} {i:Nat} (hi:i<v.evs.length):i+1≤Bu v i∧Bu v i≤v.evs.length:=by
 have h1:i+1≤Bu v i:=Aik v i _ _
 refine ⟨h1, ?_⟩
 by_cases c:Bu v i=i+1
 ·omega
 ·have:=(N8 (v:=v) (i:=i) _ (i+1) (Bu v i - 1) (by omega) (by show _<Bu v i;omega)).1.2.1
  omega
theorem Aba {v:Vo} {i:Nat} (h:1<Bu v i - i) {j:Nat} (h1:i≤j) (h2:j<Bu v i):G5 v.tups j=0:=by
 by_cases c:j=i
 ·rw [c];exact (N8 (v:=v) (i:=i) _ (i+1) (i+1) (by omega) (by show _<Bu v i;omega)).1.1.2
 ·exact (N8 (v:=v) (i:=i) _ (i+1) j (by omega) h2).1.2.2
theorem Zj {x y:Ev} {s:Int} (hx:x.err=0) (hy:y.err=0) (h:Tn x y s):x.heads.length=y.heads.length∧x.kind≠3:=by
 rcases h with ⟨⟨h1,h2⟩,h3⟩|h
 ·unfold Ev.silent at h1 h2
  rw [Ev.no_heads hx (by omega),Ev.no_heads hy (by omega)]
  exact ⟨rfl,by omega⟩
 ·exact ⟨h.2.1,by have:=h.1;omega⟩
theorem Aa9 {v:Vo} {i j:Nat} (h1:i<j) (h2:j<Bu v i):Kd v i j:=(N8 (v:=v) (i:=i) _ (i+1) j (by omega) h2).2
theorem Zk {v:Vo} {i j:Nat} (h:Kd v i j):∃x y z,v.evs[j - 1]? =some x∧v.evs[j]? =some y∧v.evs[i]? =some z∧Tn x y z.stem:=by
 unfold Kd at h
 split at h
 ·rename_i x y z hx hy hz;exact ⟨x,y,z,hx,hy,hz,h⟩
 ·exact h.elim
theorem Yq {v:Vo} (hE:∀e∈v.evs,e.err=0) {i:Nat} {x:Ev} (hx:v.evs[i]? =some x):∀(n:Nat) {y:Ev},i+n<Bu v i→v.evs[i+n]? =some y→x.heads.length=y.heads.length
 |0,y,_,hy=>by rw [Nat.add_zero,hx] at hy;cases hy;rfl
 |n+1,y,h,hy=>by
  obtain ⟨a,b,z,ha,hb,hz,hj⟩:=Zk (Aa9 (v:=v) (i:=i) (j:=i+(n+1)) (by omega) h)
  rw [hy] at hb;cases hb
  rw [show i+(n+1) - 1=i+n by omega] at ha
  have:=Yq hE hx n (by omega) ha
  rw [this]
  exact (Zj (hE a (List.mem_of_getElem? ha)) (hE _ (List.mem_of_getElem? hy)) hj).1
theorem Ao7 {v:Vo} (hE:∀e∈v.evs,e.err=0) {i:Nat} {x:Ev} (hx:v.evs[i]? =some x) (h:1<Bu v i - i):x.kind≠3:=by
 obtain ⟨a,b,z,ha,hb,hz,hj⟩:=Zk (Aa9 (v:=v) (i:=i) (j:=i+1) (by omega) (by omega))
 rw [show i+1 - 1=i by omega,hx] at ha
 cases ha
 exact (Zj (hE _ (List.mem_of_getElem? hx)) (hE _ (List.mem_of_getElem? hb)) hj).2
def smJ (p:Pl) (a b:Int) (n:Nat):Prop:=((1<n∧(p.off+a) % 7560=0)∧(p.off+b) % 7560=0)∧p.m.splitE (p.off+a) (p.off+b)=0∧(p.m.split (p.off+a) (p.off+b)).length<n
instance (p:Pl) (a b:Int) (n:Nat):Decidable (smJ p a b n):=by unfold smJ;exact inferInstance
def smA (v:Vo) (p:Pl) (i:Nat):Int:=tot ((ckL v p.len).take i)
def D6 (v:Vo) (p:Pl) (i:Nat) (x y:Ev):List Ev:=Rk (Bs (x.reh (Gw x.heads y.heads)) (p.m.split (p.off+smA v p i) (p.off+smA v p (Bu v i))) false) (v.evs.drop i)
def Xw (v:Vo) (p:Pl) (i:Nat):List Ev:=match v.evs[i]?,v.evs[Bu v i - 1]? with
 |some x,some y=>D6 v p i x y
 |_,_=> []
def smN (v:Vo) (p:Pl) (i:Nat):Vo × Nat:=
 if smJ p (smA v p i) (smA v p (Bu v i)) (Bu v i - i) then (A8 v i (Bu v i - i) ⟨Xw v p i, []⟩,i+(Xw v p i).length) else (v,Bu v i)
def V1 (p:Pl):Nat→Vo × Nat→Vo
 |0,q=>q.1
 |f+1,q=>if q.2<q.1.evs.length then V1 p f (smN q.1 p q.2) else q.1
def Aj5 (v:Vo) (p:Pl):Vo:=V1 p v.evs.length (v,0)
def Ur (v:Vo) (p:Pl):Vo × Int:=if p.chk v≠0 then (⟨[], []⟩,p.chk v) else (Aj5 v p,0)
theorem Hj {v:Vo} {p:Pl} {i:Nat} (h:¬smJ p (smA v p i) (smA v p (Bu v i)) (Bu v i - i)):smN v p i=(v,Bu v i):=by rw [smN,if_neg h]
theorem S9 {v:Vo} {p:Pl} {i:Nat} {x y:Ev} (hx:v.evs[i]? =some x) (hy:v.evs[Bu v i - 1]? =some y) (h:smJ p (smA v p i) (smA v p (Bu v i)) (Bu v i - i)):smN v p i=(A8 v i (Bu v i - i) ⟨D6 v p i x y, []⟩,i+(D6 v p i x y).length):=by
 rw [smN,if_pos h,Xw,hx,hy]
theorem Amw {v:Vo} {k n:Nat} {l:List Ev} (hv:v.fit) (hl:∀e∈l,e.fit) (hs:Sml v) (h:(A8 v k n ⟨l, []⟩).evs.length≤1000):(A8 v k n ⟨l, []⟩).fit:=by
 refine ⟨h, ?_,fun e he=> ?_⟩
 ·have h1:=Sa (v:=v) (a:=k) (n:=n) (l:=l)
  have h2:=hs.tups
  omega
 ·simp only [A8] at he
  rcases List.mem_append.1 he with he|he
  ·rcases List.mem_append.1 he with he|he
   ·exact hv.ev e (List.mem_of_mem_take he)
   ·exact hl e he
  ·exact hv.ev e (List.mem_of_mem_drop he)
theorem Uy {v:Vo} {a n:Nat} {l:List Ev} (h:a+n≤v.evs.length):(A8 v a n ⟨l, []⟩).evs.length=v.evs.length - n+l.length:=by
 show (v.evs.take a++l++v.evs.drop (a+n)).length=_
 rw [List.length_append,List.length_append,List.length_take,List.length_drop];omega
theorem P5 (l:List Int) (i k:Nat) (h:i≤k):tot (l.take k)=tot (l.take i)+tot ((l.take k).drop i):=by
 have h1:tot (l.take k)=tot ((l.take k).take i++(l.take k).drop i):=by rw [List.take_append_drop]
 rw [h1,G8,List.take_take,Nat.min_eq_left h]
structure JoinR (v:Vo) (p:Pl) (i:Nat) (js:List Ev):Prop where
 chk:p.chk (A8 v i (Bu v i - i) ⟨js, []⟩)=0
 ck:ckE (A8 v i (Bu v i - i) ⟨js, []⟩) p.len=0
 lens:ckL (A8 v i (Bu v i - i) ⟨js, []⟩) p.len=(ckL v p.len).take i++wrS js++(ckL v p.len).drop (Bu v i)
 sum:tot (wrS js)=smA v p (Bu v i) - smA v p i
 len:js.length=(p.m.split (p.off+smA v p i) (p.off+smA v p (Bu v i))).length
 ok:∀e∈js,e.err=0∧e.kind≠3
theorem Atj {v:Vo} {p:Pl} {i:Nat} {x y:Ev} (hc:p.chk v=0) (hx:v.evs[i]? =some x) (hJ:smJ p (smA v p i) (smA v p (Bu v i)) (Bu v i - i)):JoinR v p i (D6 v p i x y):=by
 obtain ⟨hme,hpb,hck⟩:=C6 hc
 have hi:=(List.getElem?_eq_some_iff.1 hx).1
 obtain ⟨hk1,hk2⟩:=Abb hi
 obtain ⟨⟨⟨j1,j2⟩,j3⟩,j4,j5⟩:=hJ
 have hE:=(Ix hck).1
 have hr:¬v.rest:=fun k=>by have:=k.2;omega
 have hxe:=hE x (List.mem_of_getElem? hx)
 have hxk:=Ao7 hE hx (by omega)
 obtain ⟨q1,q2⟩:=Ox j4
 have hxe2:=Ev.err_reh (hs:=Gw x.heads y.heads) hxe hxk (fun e=>by rw [e];rfl) (fun e=>by rw [Al9];exact e)
 obtain ⟨n1,n2⟩:=O6 (x:=x.reh (Gw x.heads y.heads)) hxe2 hxk q2 false
 obtain ⟨n3,n4⟩:=Atp (os:=v.evs.drop i) n1 fun o ho=>hE o (List.mem_of_mem_drop ho)
 have hlen:(D6 v p i x y).length=(p.m.split (p.off+smA v p i) (p.off+smA v p (Bu v i))).length:=by rw [D6,Acf,Cn]
 obtain ⟨hvl1,hvl2,hv,_⟩:=(K2 hr).1 ⟨hck,rfl⟩
 have hev:=hv.evs
 have hX:VL ⟨D6 v p i x y, []⟩ (wrS (D6 v p i x y)):=VL.nil n3 (by omega)
 have hs:tot (wrS (D6 v p i x y))=smA v p (Bu v i) - smA v p i:=by rw [D6,n4,n2,q1];omega
 obtain ⟨ws,ls,hT⟩:=Pq hck
 have f1:=(X4 (T:=v.tups) (k:=(i:Int)) (Pg (by have:=Ly hT i;have:=Aba j1 (Nat.le_refl i) (by omega);omega))).1
 have f2:=(X4 (T:=v.tups) (k:=((Bu v i - 1:Nat):Int)) (Pg (by have:=Ly hT ((Bu v i - 1:Nat):Int);have:=Aba (j:=Bu v i - 1) j1 (by omega) (by omega);omega))).2
 have hrl:=Uy (v:=v) (a:=i) (n:=Bu v i - i) (l:=D6 v p i x y) (by omega)
 have hcut:=P5 (ckL v p.len) i (Bu v i) (by omega)
 have hR:=Ajl (x:=⟨D6 v p i x y, []⟩) hck hr (a:=i) (n:=Bu v i - i) (by omega) f1 (by rw [show ((i:Int)+(Bu v i - i:Nat))=((Bu v i - 1:Nat):Int)+1 by omega];exact f2) hX
  (by show v.evs.length - (Bu v i - i)+(D6 v p i x y).length≤128;omega) (Nat.le_trans Sa hv.tl.tl)
  (fun _=>by rw [hs, ←List.drop_take];unfold smA;omega) (fun _ h=>by rw [h] at hi;simp at hi)
 rw [show i+(Bu v i - i)=Bu v i by omega] at hR
 exact ⟨by rw [Pl.chk,if_neg (by omega),if_neg hpb];exact hR.1,hR.1,hR.2.1,hs,hlen,n3⟩
structure SmI (v:Vo) (p:Pl) (q:Vo × Nat):Prop where
 chk:p.chk q.1=0
 fit:q.1.fit
 le:q.2≤q.1.evs.length
 go:∃f,q.1.evs.length - q.2≤f∧V1 p f q=Aj5 v p
theorem SmI.zero {v:Vo} {p:Pl} (hc:p.chk v=0) (hF:v.fit):SmI v p (v,0):=⟨hc,hF,Nat.zero_le _,v.evs.length,Nat.sub_le _ _,rfl⟩
theorem SmI.done {v:Vo} {p:Pl} {q:Vo × Nat} (h:SmI v p q) (hq:¬q.2<q.1.evs.length):q.1=Aj5 v p:=by
 obtain ⟨f,hf,hg⟩:=h.go
 rw [←hg]
 cases f with
 |zero=>rfl
 |succ f=>rw [V1,if_neg hq]
theorem Amh {v:Vo} {p:Pl} {i:Nat} (hc:p.chk v=0) (hi:i<v.evs.length):(smN v p i).2≤(smN v p i).1.evs.length∧(smN v p i).1.evs.length - (smN v p i).2<v.evs.length - i∧(smN v p i).1.evs.length≤v.evs.length∧p.chk (smN v p i).1=0∧(v.fit→(smN v p i).1.fit)
  ∧smA (smN v p i).1 p (smN v p i).2=smA v p (Bu v i):=by
 obtain ⟨hk1,hk2⟩:=Abb hi
 obtain ⟨x,hx⟩:∃x,v.evs[i]? =some x:=Au hi
 obtain ⟨y,hy⟩:∃y,v.evs[Bu v i - 1]? =some y:=Au (by omega)
 by_cases c:smJ p (smA v p i) (smA v p (Bu v i)) (Bu v i - i)
 ·have hj:=Atj (y:=y) hc hx c
  have hl:=Uy (v:=v) (a:=i) (n:=Bu v i - i) (l:=D6 v p i x y) (by omega)
  have hc4:=c.2.2
  have hjl:=hj.len
  rw [S9 hx hy c]
  refine ⟨?_, ?_, ?_,hj.chk,fun hF=> ?_, ?_⟩
  ·show i+(D6 v p i x y).length≤(A8 v i (Bu v i - i) ⟨D6 v p i x y, []⟩).evs.length;omega
  ·show (A8 v i (Bu v i - i) ⟨D6 v p i x y, []⟩).evs.length - (i+(D6 v p i x y).length)<_;omega
  ·show (A8 v i (Bu v i - i) ⟨D6 v p i x y, []⟩).evs.length≤_;omega
  ·have hsm:=Ki (C6 hc).2.2
   exact Amw hF (Aqp (Nj (Aiq (hF.ev x (List.mem_of_getElem? hx)) _) _ _)) hsm.1 (by have:=hsm.2;omega)
  ·show tot ((ckL (A8 v i (Bu v i - i) ⟨D6 v p i x y, []⟩) p.len).take (i+(D6 v p i x y).length))=_
   have hcl:=Ge (C6 hc).2.2
   have h1:((ckL v p.len).take i++wrS (D6 v p i x y)).length=i+(D6 v p i x y).length:=by rw [List.length_append,List.length_take,Hv];omega
   rw [hj.lens, ←h1,List.take_left,G8,hj.sum];unfold smA;omega
 ·rw [Hj c]
  exact ⟨hk2,by show v.evs.length - Bu v i<_;omega,Nat.le_refl _,hc,fun h=>h,rfl⟩
theorem SmI.next {v:Vo} {p:Pl} {q:Vo × Nat} (h:SmI v p q) (hq:q.2<q.1.evs.length):SmI v p (smN q.1 p q.2)∧(smN q.1 p q.2).1.evs.length - (smN q.1 p q.2).2<q.1.evs.length - q.2:=by
 obtain ⟨h1,h2,h3,h4,h5,_⟩:=Amh h.chk hq
 refine ⟨⟨h4,h5 h.fit,h1, ?_⟩,h2⟩
 obtain ⟨f,hf,hg⟩:=h.go
 cases f with
 |zero=>omega
 |succ f=>exact ⟨f,by omega,by rw [←hg,V1,if_pos hq]⟩
theorem SmI.nextJ {v:Vo} {p:Pl} {q:Vo × Nat} {r:Vo × Nat} (h:SmI v p q) (hq:q.2<q.1.evs.length) (hr:smN q.1 p q.2=r):SmI v p r∧r.1.evs.length - r.2<q.1.evs.length - q.2∧smA r.1 p r.2=smA q.1 p (Bu q.1 q.2):=by
 subst hr
 obtain ⟨h1,h2⟩:=h.next hq
 exact ⟨h1,h2,(Amh h.chk hq).2.2.2.2.2⟩
theorem Anh {l:List Int} (h:Nums l) (k:Nat):Nums (l.drop k):=⟨by rw [List.length_drop];have:=h.len;omega,fun x hx=>h.bd x (List.mem_of_mem_drop hx)⟩
theorem Ami (v:Vo) (p:Pl) (i:Nat):0≤smA v p i∧smA v p i≤32469952757760:=((Je v p.len).take i).tot
theorem Axi {v:Vo} {p:Pl} (h:p.chk v≠0):Ur v p=(⟨[], []⟩,p.chk v):=by rw [Ur,if_pos h]
theorem Axh {v:Vo} {p:Pl} (h:¬p.chk v≠0):Ur v p=(Aj5 v p,0):=by rw [Ur,if_neg h]
end Go.Proofs.YtcihalbakenleaaGreat
namespace Go.Proofs.YtcihalbakenleaaGreat
open Go.RowKit
theorem Aft (v:Vo) (p:Pl) (hE:Evs v.evs) (hF:v.fit):XC Tryz.prog 20 [.agg (Vo.c v), .agg (Pl.c p)] (fun r=>r= .tup [.agg (Vo.c (Ur v p).1),dI (Ur v p).2]):=by
 refine Ao Ahx Tryz.func20 R R lb<|zr<|XL.step R (At 2 (l:= [.d (.sl 13 (v.evs.map Ev.c)), .d (.sl 4 (v.tups.map Tp.c))]) R R (by kernel_rfl))<|XL.step R (At 3 (l:= [.d (dI p.m.count), .d (dI p.m.unit), .d (dI p.m.g0), .d (dI p.m.g1), .d (dI p.m.g2), .d (dI p.m.g3), .d (dI p.m.g4), .d (dI p.m.g5), .d (dI p.off), .d (dI p.len)]) R R (by kernel_rfl))<|?_
 refine XL.step R (A0 4 (l:= [.d (.v (.slice none 0 0)), .d (.v (.slice none 0 0))]) R A1 (by kernel_rfl))<|za R R<|zn<|zs<|zr<|zp (Ae (s':= .d (.agg (Pl.c p))) (Ac (Ad R R G7 R lb)) (by kernel_rfl))<|zp (Ae (s':= .d (.agg (Vo.c v))) (Ac (Ad R R An R lb)) (by kernel_rfl))<|XL.call1 R R (Q6 _ _ (by assumption)) R<|za R R<|znr<|?_
 refine zm R R<|zp (Be R R R)<|zn<|?_
 refine zd R (fun c24=> ?_) (fun c24=> ?_)
 refine zr<|zp (Ae (s':= .d (.agg [.v (.slice none 0 0), .v (.slice none 0 0)])) (Ac (A4 R Br A1 R)) (by kernel_rfl))<|zm R R<|XL.step R (Ag (l':= [.d (.v (.slice none 0 0)), .d (.v (.slice none 0 0))]) R R R R Bc R lb (by kernel_rfl))<|za R R<|zn<|zt<|?_
 exact Bh R (RV.sub (RV.cells R R R An lb R) (.agg (.cons (.nil 13) (.cons (.nil 4) (.nil))))) (RV.tmp R R) (r2v (Axi c24))
 refine zi<|zs<|?_
 have hc0:p.chk v=0:=by omega
 refine Af (by kernel_rfl)<|zp (Ae (s':= .d (.agg (Vo.c v))) (Ac (Ad R R An R lb)) (by kernel_rfl))<|XL.call1 R R (Hs _ (by assumption)) R<|XL.step R (A0 7 (l:= [.d (.v (.slice none 0 0)), .d (.v (.slice none 0 0))]) R A1 (by kernel_rfl))<|?_
 refine XL.step R (Ag (l':= [.d (.sl 13 (v.evs.map Ev.c)), .d (.sl 4 (v.tups.map Tp.c))]) R R R R Bc R lb (by kernel_rfl))<|znr<|za R R<|zn<|zs<|zr<|za R R<|zn<|Ah<|?_
 refine Ay (α:=Vo × Nat) (fun q=>SmI v p q) (fun q=>mkF [(3, .ptr 3 0 0),(4, .ptr 4 0 0),(5, .d (dI 0)),(7, .ptr 7 0 0),(8, .d (dI (smA q.1 p q.2))),(9, .d (dI (q.2:Nat)))]) (fun q=>mkH [(3, .box ((Pl.c p).map S.d)),(4, .box [.d (.v (.slice none 0 0)), .d (.v (.slice none 0 0))]),(7, .box ((Vo.c q.1).map S.d))]) (fun q=>q.1.evs.length - q.2) ((v,0)) (SmI.zero hc0 hF) ?_ ?_ ?_
 exact fz ⟨sr,sr,sr,sr,sr,sr,trivial⟩
 exact gz ⟨R,R,R,trivial⟩
 intro q hk0
 have hS:=hk0
 have hcq:=hS.chk
 have hFq:=hS.fit
 obtain ⟨hme,hpb,hck⟩:=C6 hcq
 obtain ⟨hsv,hev⟩:=Ki hck
 have hEq:=(Ix hck).2
 have hN:=Je q.1 p.len
 have hcl:=Ge hck
 have hb1:=Ami q.1 p q.2
 have hb2:=Ami q.1 p (Bu q.1 q.2)
 unfold Pl.bad at hpb
 refine zs<|zr<|zm R R<|zp (Aa R R Ax)<|zp (Ab R R Bk R R)<|XL.len R R R Tryz.underlying22 fun hl32=>zp (As R R R)<|zn<|?_
 refine zd R (fun c33=> ?_) (fun c33=> ?_)
 have hq2:q.2<q.1.evs.length:=by omega
 obtain ⟨hrn1,hrn2⟩:=Abb hq2
 have hNs:=Anh (hN.take (Bu q.1 q.2)) q.2
 have hNb:=hNs.tot
 have hcut:smA q.1 p (Bu q.1 q.2)=smA q.1 p q.2+tot (((ckL q.1 p.len).take (Bu q.1 q.2)).drop q.2):=P5 (ckL q.1 p.len) q.2 (Bu q.1 q.2) (by omega)
 refine zi<|Ah<|zr<|zp (Ae (s':= .d (.agg (Vo.c q.1))) (Ac (Ad R R An R lb)) (by kernel_rfl))<|zp (Aa R R Fn)<|zp (Ab R R Ai R R)<|XL.call1 R R (Aly _ _ (by assumption)) R<|zm R R<|zp (A6 R R R)<|zp (A6 R R R)<|za R R<|za R R<|znr<|zp (Ae (s':= .d (.agg (Vo.c q.1))) (Ac (Ad R R An R lb)) (by kernel_rfl))<|?_
 refine zm R R<|XL.call1 R R (Aur q.1 q.2 hFq (by omega) hq2) R<|za R R<|znr<|zm R R<|zm R R<|zm R R<|zm R R<|zp (Ee R R C5 (Bd.at R) (Bd.at R) (by omega) (by omega))<|XL.call1 R R (Un _ hNs) R<|zp (Ae (s':= .d (dI (smA q.1 p (Bu q.1 q.2)))) (Aj R R R (by omega) (by omega)) (sI ((P5 (ckL q.1 p.len) q.2 (Bu q.1 q.2) (by omega)).symm)))<|za R R<|zn<|zs<|?_
 refine zr<|zm R R<|zm R R<|zp (C9 R R R (by omega) (by omega))<|zp (Bb R R R)<|zm R R<|?_
 refine XL.dec 55 R (fun g55=> ?_) (fun g55=> ?_)
 refine zp (Aa R R Gc)<|zp (Ab R R Ai R R)<|zm R R<|zp (Aj R R R (by omega) (by omega))<|zp (D1 R R R (by omega) (by omega))<|zp (A5 R R R)<|zq R R R<|zm R R<|?_
 refine XL.dec 63 R (fun g63=> ?_) (fun g63=> ?_)
 refine zp (Aa R R Gc)<|zp (Ab R R Ai R R)<|zm R R<|zp (Aj R R R (by omega) (by omega))<|zp (D1 R R R (by omega) (by omega))<|zp (A5 R R R)<|zq R R R<|zn<|?_
 refine zd R (fun c70=> ?_) (fun c70=> ?_)
 refine zs<|?_
 obtain ⟨x,hx⟩:∃x,q.1.evs[q.2]? =some x:=Au hq2
 obtain ⟨y,hy⟩:∃y,q.1.evs[Bu q.1 q.2 - 1]? =some y:=Au (by omega)
 have hsl:=Ie p.m (p.off+smA q.1 p q.2) (p.off+smA q.1 p (Bu q.1 q.2))
 refine Af (by kernel_rfl)<|zp (Aa R R Mn)<|zp (Ae (s':= .d (.agg (Me.c p.m))) (Ac (Ad R R Bo R lb)) (by kernel_rfl))<|zp (Aa R R Gc)<|zp (Ab R R Ai R R)<|zm R R<|zp (Aj R R R (by omega) (by omega))<|zp (Aa R R Gc)<|zp (Ab R R Ai R R)<|zm R R<|zp (Aj R R R (by omega) (by omega))<|?_
 refine XL.call1 R R (Pa _ _ _) R<|zm R R<|zp (A6 R R R)<|zp (A6 R R R)<|za R R<|za R R<|znr<|zm R R<|zp (A5 R R R)<|zm R R<|?_
 refine XL.dec 87 R (fun g87=> ?_) (fun g87=> ?_)
 refine zm R R<|XL.len R R R Tryz.underlying106 fun hl89=>zm R R<|zm R R<|zp (C9 R R R (by omega) (by omega))<|zp (As R R R)<|zq R R R<|zn<|?_
 refine zd R (fun c94=> ?_) (fun c94=> ?_)
 refine zs<|?_
 have hJ:smJ p (smA q.1 p q.2) (smA q.1 p (Bu q.1 q.2)) (Bu q.1 q.2 - q.2):=⟨⟨⟨by omega,by omega⟩,by omega⟩,by omega,by omega⟩
 have hxf:=hFq.ev x (List.mem_of_getElem? hx)
 have hxh:=hxf.1
 have hxg:=hxf.2.1
 have hxl:=hxf.2.2
 have hrf:=Aiq hxf y.heads
 have hxy:x.heads.length=y.heads.length:=Yq (Ix hck).1 hx (Bu q.1 q.2 - 1 - q.2) (by omega) (by rw [show q.2+(Bu q.1 q.2 - 1 - q.2)=Bu q.1 q.2 - 1 by omega];exact hy)
 refine Af (by kernel_rfl)<|zp (Aa R R Ax)<|zp (Ab R R Bk R R)<|zm R R<|zp (Am R R R B5 (hx))<|zp (Ae (s':= .d (.agg (Ev.c x))) (Av R R A3 lb) (by kernel_rfl))<|?_
 refine XL.inl 900001 [(3, .ptr 3 0 0),(4, .ptr 4 0 0),(5, .d (dI 0)),(7, .ptr 7 0 0),(8, .d (dI (smA q.1 p q.2))),(9, .d (dI (q.2:Nat))),(12, .d (dI (Bu q.1 q.2:Nat))),(13, .d (dI (smA q.1 p (Bu q.1 q.2)))),(14, .d (.sl 2 ((p.m.split (p.off+(smA q.1 p q.2)) (p.off+(smA q.1 p (Bu q.1 q.2)))).map Val.c)))] R R .d Ug Tryz.func63 R R lb (by simp only [List.forall_mem_cons];exact ⟨⟨Nat.le_of_ble_eq_true rfl,rfl⟩,⟨⟨Nat.le_of_ble_eq_true rfl,rfl⟩,⟨⟨Nat.le_of_ble_eq_true rfl,rfl⟩,⟨⟨Nat.le_of_ble_eq_true rfl,rfl⟩,⟨⟨Nat.le_of_ble_eq_true rfl,rfl⟩,⟨⟨Nat.le_of_ble_eq_true rfl,rfl⟩,⟨⟨Nat.le_of_ble_eq_true rfl,rfl⟩,⟨⟨Nat.le_of_ble_eq_true rfl,rfl⟩,⟨⟨Nat.le_of_ble_eq_true rfl,rfl⟩,fun p hp=>(by cases hp)⟩⟩⟩⟩⟩⟩⟩⟩⟩) fun u1=>?_
 refine zr<|XL.step R (At 1001 (l:= [.d (dI x.site), .d (dI x.num), .d (dI x.kind), .d (dI x.v.log), .d (dI x.v.dots), .d (.sl 5 (x.heads.map Hd.c)), .d (.sl 5 (x.graces.map Gr.c)), .d (dI x.art), .d (dI x.orn), .d (dI x.dyn), .d (.sl 2 (x.lyr.map Sy.c)), .d (dI x.stem), .d (dI x.beam)]) R R (by kernel_rfl))<|?_
 refine XL.step R (A0 1002 (l:= [.d (dI 0), .d (dI 0), .d (dI 0), .d (dI 0), .d (dI 0), .d (.v (.slice none 0 0)), .d (.v (.slice none 0 0)), .d (dI 0), .d (dI 0), .d (dI 0), .d (.v (.slice none 0 0)), .d (dI 0), .d (dI 0)]) R Bw (by kernel_rfl))<|zn<|zs<|Ce 10 [7001,7002,7003] (by kernel_rfl) (by kernel_rfl) (by kernel_rfl) (by kernel_rfl) (by decide)<|yp (Aa R R Bi)<|?_
 refine yp (Ab R R Ct R R)<|ChK.cons R (CStep.callS R ((Il _ (by omega)).lab 7001) R (Ex (by kernel_rfl)))<|yp (Aa R R Fa)<|yp (Ab R R J0 R R)<|ChK.cons R (CStep.callS R ((Ud _ (by omega)).lab 7002) R (Ex (by kernel_rfl)))<|yp (Aa R R E8)<|yp (Ab R R Jz R R)<|?_
 refine ChK.cons R (CStep.callS R ((Uc _ (by omega)).lab 7003) R (Ex (by kernel_rfl)))<|yp (Aa R R Bi)<|?_
 refine ChK.nil ⟨by kernel_rfl, ?_⟩
 refine XL.step R (Ag (l':= [.d (dI x.site), .d (dI x.num), .d (dI x.kind), .d (dI x.v.log), .d (dI x.v.dots), .own 7001, .d (.sl 5 (x.graces.map Gr.c)), .d (dI x.art), .d (dI x.orn), .d (dI x.dyn), .d (.sl 2 (x.lyr.map Sy.c)), .d (dI x.stem), .d (dI x.beam)]) R R R R H4 R lb (by kernel_rfl))<|zp (Aa R R Fa)<|?_
 refine XL.step R (Ag (l':= [.d (dI x.site), .d (dI x.num), .d (dI x.kind), .d (dI x.v.log), .d (dI x.v.dots), .own 7001, .own 7002, .d (dI x.art), .d (dI x.orn), .d (dI x.dyn), .d (.sl 2 (x.lyr.map Sy.c)), .d (dI x.stem), .d (dI x.beam)]) R R R R Arb R lb (by kernel_rfl))<|zp (Aa R R E8)<|?_
 refine XL.step R (Ag (l':= [.d (dI x.site), .d (dI x.num), .d (dI x.kind), .d (dI x.v.log), .d (dI x.v.dots), .own 7001, .own 7002, .d (dI x.art), .d (dI x.orn), .d (dI x.dyn), .own 7003, .d (dI x.stem), .d (dI x.beam)]) R R R R Ara R lb (by kernel_rfl))<|znr<|zp (Ac (Ad R R A3 R lb))<|?_
 refine XL.step R (Ag (l':= [.d (dI x.site), .d (dI x.num), .d (dI x.kind), .d (dI x.v.log), .d (dI x.v.dots), .own 7001, .own 7002, .d (dI x.art), .d (dI x.orn), .d (dI x.dyn), .own 7003, .d (dI x.stem), .d (dI x.beam)]) R R R R B4 R lb (by kernel_rfl))<|zn<|zt<|?_
 refine (G0 (l:= [(3, .ptr 3 0 0),(4, .ptr 4 0 0),(5, .d (dI 0)),(7, .ptr 7 0 0),(8, .d (dI (smA q.1 p q.2))),(9, .d (dI (q.2:Nat))),(12, .d (dI (Bu q.1 q.2:Nat))),(13, .d (dI (smA q.1 p (Bu q.1 q.2)))),(14, .d (.sl 2 ((p.m.split (p.off+(smA q.1 p q.2)) (p.off+(smA q.1 p (Bu q.1 q.2)))).map Val.c)))]) (by kernel_rfl) (Eh R (RVS.eq (s':= .agg [.d (dI x.site), .d (dI x.num), .d (dI x.kind), .d (dI x.v.log), .d (dI x.v.dots), .own 7001, .own 7002, .d (dI x.art), .d (dI x.orn), .d (dI x.dyn), .own 7003, .d (dI x.stem), .d (dI x.beam)]) (RVS.cells (i:=1002) (l:= [.d (dI x.site), .d (dI x.num), .d (dI x.kind), .d (dI x.v.log), .d (dI x.v.dots), .own 7001, .own 7002, .d (dI x.art), .d (dI x.orn), .d (dI x.dyn), .own 7003, .d (dI x.stem), .d (dI x.beam)]) R (by kernel_rfl) (by kernel_rfl) A3 lb) R)) ?_).2
 refine XL.freeze (i:=7002) R<|XL.freeze (i:=7003) R<|XL.step R (A0 16 (l:= [.d (dI 0), .d (dI 0), .d (dI 0), .d (dI 0), .d (dI 0), .d (.v (.slice none 0 0)), .d (.v (.slice none 0 0)), .d (dI 0), .d (dI 0), .d (dI 0), .d (.v (.slice none 0 0)), .d (dI 0), .d (dI 0)]) R Bw (by kernel_rfl))<|?_
 refine XL.step R (Ag (l':= [.d (dI x.site), .d (dI x.num), .d (dI x.kind), .d (dI x.v.log), .d (dI x.v.dots), .own 7001, .d (.sl 5 (x.graces.map Gr.c)), .d (dI x.art), .d (dI x.orn), .d (dI x.dyn), .d (.sl 2 (x.lyr.map Sy.c)), .d (dI x.stem), .d (dI x.beam)]) R R R R B4 R lb (by kernel_rfl))<|zn<|zs<|zr<|zp (Aa R R Bi)<|zp (Ab R R Ct R R)<|?_
 refine zp (Cg R R R Tryz.underlying48)<|zm R R<|zn<|Ah<|?_
 refine Ay (α:=Nat) (fun j=>j≤x.heads.length) (fun j=>mkF [(3, .ptr 3 0 0),(4, .ptr 4 0 0),(5, .d (dI 0)),(7, .ptr 7 0 0),(8, .d (dI (smA q.1 p q.2))),(9, .d (dI (q.2:Nat))),(12, .d (dI (Bu q.1 q.2:Nat))),(13, .d (dI (smA q.1 p (Bu q.1 q.2)))),(14, .d (.sl 2 ((p.m.split (p.off+(smA q.1 p q.2)) (p.off+(smA q.1 p (Bu q.1 q.2)))).map Val.c))),(16, .ptr 16 0 0),(103, .d (dI x.heads.length)),(104, .d (dI j))]) (fun j=>mkH [(3, .box ((Pl.c p).map S.d)),(4, .box [.d (.v (.slice none 0 0)), .d (.v (.slice none 0 0))]),(7, .box ((Vo.c q.1).map S.d)),(16, .box [.d (dI x.site), .d (dI x.num), .d (dI x.kind), .d (dI x.v.log), .d (dI x.v.dots), .own 7001, .d (.sl 5 (x.graces.map Gr.c)), .d (dI x.art), .d (dI x.orn), .d (dI x.dyn), .d (.sl 2 (x.lyr.map Sy.c)), .d (dI x.stem), .d (dI x.beam)]),(7001, .row 91 5 ((Ks (Ll y.heads) x.heads j).map Hd.c))]) (fun j=>x.heads.length - j) (0) (Nat.zero_le _) ?_ ?_ ?_
 exact fz ⟨sr,sr,sr,sr,sr,sr,sr,sr,sr,sr,sr,sr,trivial⟩
 exact gz ⟨R,R,R,R,by rw [Yh];rfl,trivial⟩
 intro j hk2
 refine zr<|zp (As R R R)<|zn<|zs<|?_
 refine zd R (fun c105=> ?_) (fun c105=> ?_)
 have hjl:j<x.heads.length:=by omega
 obtain ⟨xj,hxj⟩:=Au hjl
 obtain ⟨yj,hyj⟩:∃yj,y.heads[j]? =some yj:=Au (by omega)
 have hgj:=Aav (f:=Ll y.heads) hxj
 refine zi<|zs<|Ah<|zr<|zm R R<|za R R<|zn<|Ce 14 [] (by kernel_rfl) (by kernel_rfl) (by kernel_rfl) (by kernel_rfl) (by decide)<|yp (Aa R R Bi)<|yp (Ab R R Ct R R)<|ym R R<|yp (Aa R R Ax)<|yp (Ab R R Bk R R)<|ym R R<|?_
 refine yp (C9 R R R (by omega) (by omega))<|yp (F9 R R R (by omega) B5 (hy))<|yp (Bq R R Bi)<|yp (Az R R Ct)<|ym R R<|yp (Am R R R Fl (hyj))<|yp (Bq R R Dv)<|yp (Az R R Kv)<|?_
 refine ChK.nil ⟨by kernel_rfl, ?_⟩
 refine zp (Cu R R R (R) R Fl (by rw [Um];omega))<|zp (Aa R R Dv)<|XL.step R (Dk R R R (Cf hgj) R R Pt R lb)<|zn<|Af (by kernel_rfl)<|zp (Aj R R R (by omega) (by omega))<|zm R R<|zn<|?_
 exact Ak (j+1) (by omega) (by omega) (fz ⟨sr,sr,sr,sr,sr,sr,sr,sr,sr,sr,sr,sr,trivial⟩) (gz ⟨R,R,R,R,L8 (a:=Ll y.heads j xj) (by rw [Aoz hyj];rfl) (Aau hxj),trivial⟩)
 have hte:Ks (Ll y.heads) x.heads j=Gw x.heads y.heads:=Aaw (f:=Ll y.heads) (l:=x.heads) (k:=j) (by omega)
 refine Ap<|zr<|XL.freeze (i:=7001) R<|zp (Ae (s':= .d (.agg (Ev.c (x.reh (Gw x.heads y.heads))))) (Ac (Ad R R A3 R lb)) (by rw [←hte];kernel_rfl))<|zm R R<|XL.callS R R ((Md (x.reh (Gw x.heads y.heads)) (p.m.split (p.off+smA q.1 p q.2) (p.off+smA q.1 p (Bu q.1 q.2))) false hrf (by omega)).lab 7004) R<|zp (Ar R (by conv=>lhs;whnf))<|?_
 refine zn<|zs<|zr<|zp (Aw R (by conv=>lhs;whnf))<|?_
 refine zp (Cg R R R Tryz.underlying22)<|zm R R<|zn<|Ah<|?_
 refine Ay (α:=Nat) (fun n=>n≤(Bs (x.reh (Gw x.heads y.heads)) (p.m.split (p.off+smA q.1 p q.2) (p.off+smA q.1 p (Bu q.1 q.2))) false).length) (fun n=>mkF [(3, .ptr 3 0 0),(4, .ptr 4 0 0),(5, .d (dI 0)),(7, .ptr 7 0 0),(8, .d (dI (smA q.1 p q.2))),(9, .d (dI (q.2:Nat))),(12, .d (dI (Bu q.1 q.2:Nat))),(13, .d (dI (smA q.1 p (Bu q.1 q.2)))),(18, .own 7004),(128, .d (dI (Bs (x.reh (Gw x.heads y.heads)) (p.m.split (p.off+smA q.1 p q.2) (p.off+smA q.1 p (Bu q.1 q.2))) false).length)),(129, .d (dI n))]) (fun n=>mkH [(3, .box ((Pl.c p).map S.d)),(4, .box [.d (.v (.slice none 0 0)), .d (.v (.slice none 0 0))]),(7, .box ((Vo.c q.1).map S.d)),(7004, .row 60 13 ((Ks (Nb (q.1.evs.drop q.2)) (Bs (x.reh (Gw x.heads y.heads)) (p.m.split (p.off+smA q.1 p q.2) (p.off+smA q.1 p (Bu q.1 q.2))) false) n).map Ev.c))]) (fun n=>(Bs (x.reh (Gw x.heads y.heads)) (p.m.split (p.off+smA q.1 p q.2) (p.off+smA q.1 p (Bu q.1 q.2))) false).length - n) (0) (Nat.zero_le _) ?_ ?_ ?_
 exact fz ⟨sr,sr,sr,sr,sr,sr,sr,sr,sr,sr,sr,trivial⟩
 exact gz ⟨R,R,R,by rw [Yh];rfl,trivial⟩
 intro n hk4
 have hnl:=Cn (x.reh (Gw x.heads y.heads)) (p.m.split (p.off+smA q.1 p q.2) (p.off+smA q.1 p (Bu q.1 q.2))) false
 refine zr<|zp (As R R R)<|zn<|zs<|?_
 refine zd R (fun c130=> ?_) (fun c130=> ?_)
 have hjl:n<(Bs (x.reh (Gw x.heads y.heads)) (p.m.split (p.off+smA q.1 p q.2) (p.off+smA q.1 p (Bu q.1 q.2))) false).length:=by omega
 obtain ⟨e,he⟩:=Au hjl
 obtain ⟨o,hon⟩:∃o,q.1.evs[q.2+n]? =some o:=Au (by omega)
 have hge:=Aav (f:=Nb (q.1.evs.drop q.2)) he
 refine zi<|zs<|Ah<|zr<|zm R R<|za R R<|zng<|zp (Aw R (by conv=>lhs;whnf))<|?_
 refine zm R R<|zp (Aa R R Ax)<|zp (Ab R R Bk R R)<|zm R R<|zm R R<|zp (Aj R R R (by omega) (by omega))<|zp (F9 R R R (by omega) B5 (hon))<|zp (Bq R R Fm)<|zp (Av R R Kw lb)<|zp (Cu R R R (R) R B5 (by rw [Um];omega))<|zp (Aa R R Fm)<|XL.step R (Dk R R R (Cf hge) R R Awg R lb)<|zn<|?_
 refine Af (by kernel_rfl)<|zp (Aj R R R (by omega) (by omega))<|zm R R<|zn<|?_
 exact Ak (n+1) (by omega) (by omega) (fz ⟨sr,sr,sr,sr,sr,sr,sr,sr,sr,sr,sr,trivial⟩) (gz ⟨R,R,R,L8 (a:=Nb (q.1.evs.drop q.2) n e) (by rw [Atq (o:=o) (by rw [List.getElem?_drop];exact hon)];rfl) (Aau he),trivial⟩)
 have hie:Ks (Nb (q.1.evs.drop q.2)) (Bs (x.reh (Gw x.heads y.heads)) (p.m.split (p.off+smA q.1 p q.2) (p.off+smA q.1 p (Bu q.1 q.2))) false) n=D6 q.1 p q.2 x y:=Aaw (by omega)
 have hjl2:(D6 q.1 p q.2 x y).length=(p.m.split (p.off+smA q.1 p q.2) (p.off+smA q.1 p (Bu q.1 q.2))).length:=by rw [D6,Acf,Cn]
 refine Ap<|zr<|XL.freeze (i:=7004) R<|zp (Ae (s':= .d (.agg (Vo.c q.1))) (Ac (Ad R R An R lb)) (by kernel_rfl))<|zm R R<|zm R R<|zm R R<|zp (Ae (s':= .d (dI (Bu q.1 q.2 - q.2:Nat))) (C9 R R R (by omega) (by omega)) (sI (by omega)))<|zp (Ae (s':= .d (.sl 13 ((D6 q.1 p q.2 x y).map Ev.c))) (Aw R (by conv=>lhs;whnf)) (by rw [←hie]))<|?_
 refine zp (Ae (s':= .d (.agg [.sl 13 ((D6 q.1 p q.2 x y).map Ev.c), .v (.slice none 0 0)])) (Ac (A4 R Br A1 R)) (by kernel_rfl))<|XL.calls R R (Q1 q.1 q.2 (Bu q.1 q.2 - q.2) ⟨D6 q.1 p q.2 x y, []⟩ hsv (Xk (by omega)) (by omega)) (.cons R (.same R) (.cons R (.same R) (.cons R (.same R) (.cons R (.agg (.cons (.same R) (.cons (.nil 4) (.nil)))) (.nil)))))<|?_
 refine XL.step R (Ag (l':= [.d (.sl 13 ((A8 q.1 q.2 (Bu q.1 q.2 - q.2) ⟨D6 q.1 p q.2 x y, []⟩).evs.map Ev.c)), .d (.sl 4 ((A8 q.1 q.2 (Bu q.1 q.2 - q.2) ⟨D6 q.1 p q.2 x y, []⟩).tups.map Tp.c))]) R R R R Bc R lb (by kernel_rfl))<|zng<|zm R R<|zp (Ae (s':= .d (.sl 13 ((D6 q.1 p q.2 x y).map Ev.c))) (Aw R (by conv=>lhs;whnf)) (by rw [←hie]))<|?_
 refine XL.len R R R Tryz.underlying22 fun hl155=>zp (Aj R R R (by omega) (by omega))<|za R R<|zng<|zm R R<|zm R R<|za R R<|za R R<|zn<|Io<|?_
 exact Ak ((A8 q.1 q.2 (Bu q.1 q.2 - q.2) ⟨D6 q.1 p q.2 x y, []⟩,q.2+(D6 q.1 p q.2 x y).length)) ((hS.nextJ hq2 (S9 hx hy hJ)).1) ((hS.nextJ hq2 (S9 hx hy hJ)).2.1) (fz ⟨sr,sr,sr,sr, .same (sI (hS.nextJ hq2 (S9 hx hy hJ)).2.2.symm), .same (sI (by omega)),trivial⟩) (gz ⟨R,R,R,trivial⟩)
 refine zi<|Af (by kernel_rfl)<|zm R R<|zm R R<|za R R<|za R R<|zn<|Io<|?_
 exact Ak ((q.1,Bu q.1 q.2)) ((hS.nextJ hq2 (Hj (by unfold smJ;omega))).1) ((hS.nextJ hq2 (Hj (by unfold smJ;omega))).2.1) (fz ⟨sr,sr,sr,sr, .same (sI (hS.nextJ hq2 (Hj (by unfold smJ;omega))).2.2.symm),sr,trivial⟩) (gz ⟨R,R,R,trivial⟩)
 refine zk 6 R<|zq R R R<|zn<|A9 (by kernel_rfl) R<|zi<|Af (by kernel_rfl)<|zm R R<|zm R R<|za R R<|za R R<|zn<|Io<|?_
 exact Ak ((q.1,Bu q.1 q.2)) ((hS.nextJ hq2 (Hj (by unfold smJ;omega))).1) ((hS.nextJ hq2 (Hj (by unfold smJ;omega))).2.1) (fz ⟨sr,sr,sr,sr, .same (sI (hS.nextJ hq2 (Hj (by unfold smJ;omega))).2.2.symm),sr,trivial⟩) (gz ⟨R,R,R,trivial⟩)
 refine zi<|Af (by kernel_rfl)<|zm R R<|zm R R<|za R R<|za R R<|zn<|Io<|?_
 exact Ak ((q.1,Bu q.1 q.2)) ((hS.nextJ hq2 (Hj (by unfold smJ;omega))).1) ((hS.nextJ hq2 (Hj (by unfold smJ;omega))).2.1) (fz ⟨sr,sr,sr,sr, .same (sI (hS.nextJ hq2 (Hj (by unfold smJ;omega))).2.2.symm),sr,trivial⟩) (gz ⟨R,R,R,trivial⟩)
 refine zk 6 R<|zq R R R<|zn<|A9 (by kernel_rfl) R<|zi<|Af (by kernel_rfl)<|zm R R<|zm R R<|za R R<|za R R<|zn<|Io<|?_
 exact Ak ((q.1,Bu q.1 q.2)) ((hS.nextJ hq2 (Hj (by unfold smJ;omega))).1) ((hS.nextJ hq2 (Hj (by unfold smJ;omega))).2.1) (fz ⟨sr,sr,sr,sr, .same (sI (hS.nextJ hq2 (Hj (by unfold smJ;omega))).2.2.symm),sr,trivial⟩) (gz ⟨R,R,R,trivial⟩)
 refine zk 6 R<|zq R R R<|zm R R<|zk 6 R<|zq R R R<|zn<|A9 (by kernel_rfl) R<|zi<|Af (by kernel_rfl)<|zm R R<|zm R R<|za R R<|za R R<|zn<|?_
 refine Io<|?_
 exact Ak ((q.1,Bu q.1 q.2)) ((hS.nextJ hq2 (Hj (by unfold smJ;omega))).1) ((hS.nextJ hq2 (Hj (by unfold smJ;omega))).2.1) (fz ⟨sr,sr,sr,sr, .same (sI (hS.nextJ hq2 (Hj (by unfold smJ;omega))).2.2.symm),sr,trivial⟩) (gz ⟨R,R,R,trivial⟩)
 have hdn:=hS.done (by omega)
 refine Ap<|zr<|zp (Ae (s':= .d (.agg (Vo.c q.1))) (Ac (Ad R R An R lb)) (by kernel_rfl))<|XL.call1 R R (Hs _ (by assumption)) R<|XL.step R (Ag (l':= [.d (.sl 13 (q.1.evs.map Ev.c)), .d (.sl 4 (q.1.tups.map Tp.c))]) R R R R Bc R lb (by kernel_rfl))<|za R R<|zn<|zt<|?_
 exact Bh R (RV.cells R R R An lb R) (RV.tmp R R) (r2v ((Axh c24).trans (by rw [←hdn])))
end Go.Proofs.YtcihalbakenleaaGreat
namespace Go.Proofs.YtcihalbakenleaaGreat
def kH (t:Bool):Hd:=⟨⟨0,0,5⟩,t,0⟩
def kE (s:Int) (v:Val) (t:Bool):Ev:=⟨s,s,1,v, [kH t], [],0,0,0, [],0,0⟩
def kV:Vo:=⟨[kE 1 ⟨0,0⟩ false], []⟩
def kP:Pl:=⟨⟨4,4,0,0,0,0,0,0⟩,0,1935360⟩
def kW:Vo:=⟨[kE 1 ⟨2,0⟩ true,kE 0 ⟨2,0⟩ true,kE 0 ⟨1,0⟩ false], []⟩
set_option maxRecDepth 100000 in
theorem Avk:I0 kV kP 483840=(kW,0):=by kernel_rfl
set_option maxRecDepth 100000 in
theorem Avj:Ur kW kP=(kV,0):=by kernel_rfl
end Go.Proofs.YtcihalbakenleaaGreat
namespace Go.Proofs.YtcihalbakenleaaGreat
open Go.RowKit
theorem E2 (n a b:Int):XC Tryz.prog 77 [.v (.int .i64 n), .v (.int .i64 a), .v (.int .i64 b)] (fun r=>r=dB (decide (a≤n∧n≤b))):=by
 refine Ao Agq Tryz.func77 R R lb<|zr<|za R R<|znr<|zm R R<|zm R R<|zp (Dr R R R)<|zm R R<|?_
 refine XL.dec 10 R (fun g10=> ?_) (fun g10=> ?_)
 exact zm R R<|zm R R<|zp (Fx R R R)<|zq R R R<|za R R<|zn<|zt<|z1 R R (rB (by rw [decide_eq_decide];omega))
 exact zk 3 R<|zq R R R<|za R R<|zn<|zt<|z1 R R (rB (by rw [eq_comm,decide_eq_false_iff_not];omega))
def Iv (p:Pit):Int:=if p.good then p.n else -1
theorem Oz {p:Pit} (h:¬p.good): -1=Iv p:=by rw [Iv,if_neg h]
theorem V7 {p:Pit} (h:p.good):Iv p=p.num:=by rw [Iv,if_pos h,p.num_ok h]
theorem rn_neg {p:Pit}:Iv p<0↔¬p.good:=by
 unfold Iv
 split
 ·rename_i h;have:=h.2;exact ⟨fun k=>by omega,fun k=>absurd h k⟩
 ·rename_i h;exact ⟨fun _=>h,fun _=>by decide⟩
theorem Aup (k:Nat) (h:k<7):([0,2,4,5,7,9,11]:List Int)[k]? =some (Ut k):=by
 match k,h with
 |0,_=>rfl|1,_=>rfl|2,_=>rfl|3,_=>rfl|4,_=>rfl|5,_=>rfl|6,_=>rfl
 |k+7,h=>omega
theorem Tc (p:Pit):XC Tryz.prog 127 [.agg (Pit.c p)] (fun r=>r=dI (Iv p)):=by
 refine Ao Aer Tryz.func127 R R lb<|zr<|XL.step R (At 1 (l:= [.d (dI p.step), .d (dI p.alter), .d (dI p.oct)]) R R (by kernel_rfl))<|za R R<|zn<|zs<|zr<|zp (Aa R R Ml)<|zp (Ab R R Ai R R)<|zp (As R R R)<|zm R R<|?_
 refine XL.dec 7 R (fun g7=> ?_) (fun g7=> ?_)
 refine zk 3 R<|zq R R R<|zm R R<|zk 3 R<|zq R R R<|zm R R<|zk 3 R<|zq R R R<|zm R R<|zk 3 R<|zq R R R<|zm R R<|zk 3 R<|zq R R R<|?_
 exact zn<|Aq (by kernel_rfl) R<|zr<|za R R<|zn<|zt<|z1 R R (rI (Oz fun h=>by obtain ⟨⟨h1,h2,h3,h4,h5,h6⟩,_⟩:=h;omega))
 refine zp (Aa R R Ml)<|zp (Ab R R Ai R R)<|zp (Bb R R R)<|zq R R R<|zm R R<|?_
 refine XL.dec 12 R (fun g12=> ?_) (fun g12=> ?_)
 refine zk 3 R<|zq R R R<|zm R R<|zk 3 R<|zq R R R<|zm R R<|zk 3 R<|zq R R R<|zm R R<|zk 3 R<|zq R R R<|zn<|Aq (by kernel_rfl) R<|zr<|?_
 exact za R R<|zn<|zt<|z1 R R (rI (Oz fun h=>by obtain ⟨⟨h1,h2,h3,h4,h5,h6⟩,_⟩:=h;omega))
 refine zp (Aa R R Mk)<|zp (Ab R R Ai R R)<|zp (As R R R)<|zq R R R<|zm R R<|?_
 refine XL.dec 17 R (fun g17=> ?_) (fun g17=> ?_)
 exact zk 3 R<|zq R R R<|zm R R<|zk 3 R<|zq R R R<|zm R R<|zk 3 R<|zq R R R<|zn<|Aq (by kernel_rfl) R<|zr<|za R R<|zn<|zt<|z1 R R (rI (Oz fun h=>by obtain ⟨⟨h1,h2,h3,h4,h5,h6⟩,_⟩:=h;omega))
 refine zp (Aa R R Mk)<|zp (Ab R R Ai R R)<|zp (Bb R R R)<|zq R R R<|zm R R<|?_
 refine XL.dec 22 R (fun g22=> ?_) (fun g22=> ?_)
 exact zk 3 R<|zq R R R<|zm R R<|zk 3 R<|zq R R R<|zn<|Aq (by kernel_rfl) R<|zr<|za R R<|zn<|zt<|z1 R R (rI (Oz fun h=>by obtain ⟨⟨h1,h2,h3,h4,h5,h6⟩,_⟩:=h;omega))
 refine zp (Aa R R Mj)<|zp (Ab R R Ai R R)<|zp (As R R R)<|zq R R R<|zm R R<|?_
 refine XL.dec 27 R (fun g27=> ?_) (fun g27=> ?_)
 exact zk 3 R<|zq R R R<|zn<|Aq (by kernel_rfl) R<|zr<|za R R<|zn<|zt<|z1 R R (rI (Oz fun h=>by obtain ⟨⟨h1,h2,h3,h4,h5,h6⟩,_⟩:=h;omega))
 refine zp (Aa R R Mj)<|zp (Ab R R Ai R R)<|zp (Bb R R R)<|zq R R R<|zn<|?_
 refine zd R (fun c31=> ?_) (fun c31=> ?_)
 exact zr<|za R R<|zn<|zt<|z1 R R (rI (Oz fun h=>by obtain ⟨⟨h1,h2,h3,h4,h5,h6⟩,_⟩:=h;omega))
 refine zi<|zs<|?_
 have hin:p.inR:=by refine Pit.inR_mk ?_ ?_ ?_ ?_ ?_ ?_<;>assumption
 obtain ⟨k,hk⟩:∃k:Nat,p.step=k:=⟨p.step.toNat,by have:=hin.1;omega⟩
 have hb:=Aig k
 have hk7:k<7:=by have:=hin.2.1;omega
 have hn:p.n=Ut k+p.alter+12*(p.oct+1):=by rw [Pit.n,hk,Int.toNat_natCast];omega
 refine Bm [] (by kernel_rfl) (by kernel_rfl) (by kernel_rfl) (by decide)<|ChK.cons R (CStep.slice (l:=B8 [0,2,4,5,7,9,11]) R Tryz.underlying64 Cs Eu (by kernel_rfl) R (by omega) (by omega))<|yp (Aa R R Ml)<|yp (Ab R R Ai R R)<|yp (F9 R R R (hk) C5 (Aup k hk7))<|yp (Az R R Ai)<|yp (Aa R R Mk)<|yp (Ab R R Ai R R)<|?_
 refine yp (Aj R R R (by omega) (by omega))<|yp (Aa R R Mj)<|yp (Ab R R Ai R R)<|yp (Aj R R R (by omega) (by omega))<|yp (H7 R R R (by omega) (by omega))<|yp (Aj R R R (by omega) (by omega))<|ya R R<|?_
 refine ChK.nil ⟨by kernel_rfl, ?_⟩
 refine zs<|zr<|zm R R<|zp (As R R R)<|zm R R<|?_
 refine XL.dec 47 R (fun g47=> ?_) (fun g47=> ?_)
 exact zk 2 R<|zq R R R<|zn<|Aq (by kernel_rfl) R<|zr<|za R R<|zn<|zt<|z1 R R (rI (Oz fun h=>by obtain ⟨_,h1,h2⟩:=h;omega))
 refine zm R R<|zp (Bb R R R)<|zq R R R<|zn<|?_
 refine zd R (fun c50=> ?_) (fun c50=> ?_)
 exact zr<|za R R<|zn<|zt<|z1 R R (rI (Oz fun h=>by obtain ⟨_,h1,h2⟩:=h;omega))
 exact zi<|zr<|zm R R<|za R R<|zn<|zt<|z1 R R (rI (by rw [V7 ⟨hin,by omega,by omega⟩,Pit.num_ok ⟨hin,by omega,by omega⟩];omega))
theorem Acq {p:Pit} (h:Iv p<0):p.err=18:=by rw [Pit.err,if_neg (rn_neg.1 h)]
theorem Qg {p:Pit} (h:¬Iv p<0):p.good:=Decidable.not_not.1 fun k=>h (rn_neg.2 k)
theorem W9 {p:Pit} (h:¬Iv p<0):p.err=0:=by rw [Pit.err,if_pos (Qg h)]
theorem Ah8 {x:Hd} (h:Iv x.p<0):Im x=18:=by rw [Im,Dc,Acq h,if_pos (by decide)]
theorem Al4 {x:Hd} (h:¬Iv x.p<0) (h2:¬(0≤x.sh∧x.sh≤2)):Im x=2:=by
 have:B3 x.sh 2=2:=by rw [B3,if_pos (by omega)]
 rw [Im,Dc,W9 h,if_neg (by decide),Dc,this,if_pos (by decide)]
theorem Aar {x:Hd} (h:¬Iv x.p<0) (h2:¬ ¬(0≤x.sh∧x.sh≤2)):Im x=0:=by
 have:B3 x.sh 2=0:=by rw [B3,if_neg (by omega)]
 rw [Im,Dc,W9 h,if_neg (by decide),Dc,this,if_neg (by decide)];rfl
theorem W3 {l:List Hd} {k:Nat} {y:Hd} (h:l[k - 1]? =some y) (hk:0<k):Kn (l.take k)=y.p.num:=by
 have:=Kc h
 rwa [show k - 1+1=k by omega] at this
theorem Ans {l:List Hd} {k:Nat} (hk:¬(0:Int)<(k:Int)):Kn (l.take k)= -1:=by
 rw [show k=0 by omega];rfl
theorem Ys (l:List Hd):XC Tryz.prog 80 [.sl 5 (l.map Hd.c)] (fun r=>r=dI (C0 l)):=by
 refine Ao Agn Tryz.func80 R R lb<|zr<|za R R<|zn<|zs<|zr<|zm R R<|XL.len R R R Tryz.underlying48 fun hl5=>zp (A5 R R R)<|zn<|?_
 refine zd R (fun c6=> ?_) (fun c6=> ?_)
 exact zr<|za R R<|zn<|zt<|z1 R R (rI (by rw [C0,if_pos (by omega)]))
 refine zi<|zs<|zr<|zm R R<|XL.len R R R Tryz.underlying48 fun hl8=>zp (Bb R R R)<|zn<|?_
 refine zd R (fun c9=> ?_) (fun c9=> ?_)
 exact zr<|za R R<|zn<|zt<|z1 R R (rI (by rw [C0,if_neg (by omega),if_pos (by omega)]))
 refine zi<|zs<|zr<|za R R<|zn<|Ah<|?_
 refine Ay (α:=Nat) (fun k=>k≤l.length∧E4 (Kn (l.take k)) (l.drop k)=E4 (-1) l∧(∀y,l[k - 1]? =some y→0<k→y.p.good)) (fun k=>mkF [(0, .d (.sl 5 (l.map Hd.c))),(3, .d (dI k))]) (fun k=>mkH []) (fun k=>l.length - k) (0) (⟨Nat.zero_le _,by rw [List.drop_zero];rfl,fun y _ h=>absurd h (Nat.lt_irrefl _)⟩) ?_ ?_ ?_
 exact fz ⟨sr,sr,trivial⟩
 exact HSub.nil
 intro k hk0
 obtain ⟨hk,hf,hgd⟩:=hk0
 refine zs<|zr<|zm R R<|zm R R<|XL.len R R R Tryz.underlying48 fun hl12=>zp (As R R R)<|zn<|?_
 refine zd R (fun c13=> ?_) (fun c13=> ?_)
 have hk0a:k<l.length:=by omega
 obtain ⟨x0,hx0⟩:=Au hk0a
 rw [C2 hx0,E4] at hf
 refine zi<|zs<|Ah<|zs<|zr<|zm R R<|zm R R<|zp (Am R R R Fl hx0)<|zp (Bq R R Gp)<|zp (Ae (s':= .d (.agg (Pit.c x0.p))) (Av R R E0 lb) (by kernel_rfl))<|XL.call1 R R (Tc _) R<|zp (As R R R)<|zn<|?_
 refine zd R (fun c22=> ?_) (fun c22=> ?_)
 exact zr<|za R R<|zn<|zt<|z1 R R (rI (by rw [Ih c6 c9, ←hf,if_pos (by rw [Ah8 c22];decide),Ah8 c22]))
 refine zi<|zs<|zr<|zm R R<|zm R R<|zp (Am R R R Fl hx0)<|zp (Bq R R Rm)<|zp (Az R R Ai)<|XL.call1 R R (E2 _ _ _) R<|zp (B6 R R)<|zn<|?_
 refine zd R (fun c29=> ?_) (fun c29=> ?_)
 exact zr<|za R R<|zn<|zt<|z1 R R (rI (by rw [Ih c6 c9, ←hf,if_pos (by rw [Al4 c22 c29];decide),Al4 c22 c29]))
 refine zi<|zs<|?_
 by_cases q31:(0:Int)<(k:Int)
 obtain ⟨y,hy⟩:∃y,l[k - 1]? =some y:=Au (by omega)
 have hyg:=hgd y hy (by omega)
 refine Bm [] (by kernel_rfl) (by kernel_rfl) (by kernel_rfl) (by decide)<|ym R R<|yp (Dz (Bb R R R) (q31))<|ym R R<|ym R R<|ym R R<|yp (Am R R R Fl hx0)<|yp (Bq R R Gp)<|yp (Ae (s':= .d (.agg (Pit.c x0.p))) (Av R R E0 lb) (by kernel_rfl))<|ChK.cons R (CStep.call R (Tc _) R)<|ym R R<|ym R R<|yp (C9 R R R (by omega) (by omega))<|?_
 refine yp (F9 R R R (by omega) Fl (hy))<|yp (Bq R R Gp)<|yp (Ae (s':= .d (.agg (Pit.c y.p))) (Av R R E0 lb) (by kernel_rfl))<|ChK.cons R (CStep.call R (Tc _) R)<|yp (Fx R R R)<|yp (Ba R R (by conv=>lhs;whnf))<|?_
 refine ChK.nil ⟨by kernel_rfl, ?_⟩
 refine zd R (fun c47=> ?_) (fun c47=> ?_)
 exact zr<|za R R<|zn<|zt<|z1 R R (rI (by rw [Ih c6 c9, ←hf,if_neg (by rw [Aar c22 c29];decide),if_pos (by rw [W3 hy (by omega), ←V7 (Qg c22), ←V7 hyg];exact c47)]))
 refine zi<|Af (by kernel_rfl)<|zm R R<|zp (Aj R R R (by omega) (by omega))<|za R R<|zn<|?_
 have hle:¬x0.p.num≤Kn (l.take k):=by rw [W3 hy (by omega), ←V7 (Qg c22), ←V7 hyg];exact c47
 exact Ak (k+1) (⟨by omega,by rw [Kc hx0, ←hf,if_neg (by rw [Aar c22 c29];decide),if_neg hle],fun y2 hy2 _=>by rw [Nat.add_sub_cancel,hx0] at hy2;cases hy2;exact Qg c22⟩) (by omega) (fz ⟨sr,sr,trivial⟩) (HSub.nil)
 refine Bm [] (by kernel_rfl) (by kernel_rfl) (by kernel_rfl) (by decide)<|ym R R<|yp (F7 (Bb R R R) (q31))<|ym R R<|ChK.skip R<|ChK.skip R<|ChK.skip R<|ChK.skip R<|ChK.skip R<|ChK.skip R<|ChK.skip R<|ChK.skip R<|ChK.skip R<|ChK.skip R<|?_
 refine ChK.skip R<|ChK.skip R<|ChK.skip R<|ChK.skip R<|yp (Ba R R (by conv=>lhs;whnf))<|?_
 refine ChK.nil ⟨by kernel_rfl, ?_⟩
 refine A9 (by kernel_rfl) R<|zi<|Af (by kernel_rfl)<|zm R R<|zp (Aj R R R (by omega) (by omega))<|za R R<|zn<|?_
 have hle:¬x0.p.num≤Kn (l.take k):=by rw [Ans q31];have:=x0.p.num_bd;omega
 exact Ak (k+1) (⟨by omega,by rw [Kc hx0, ←hf,if_neg (by rw [Aar c22 c29];decide),if_neg hle],fun y2 hy2 _=>by rw [Nat.add_sub_cancel,hx0] at hy2;cases hy2;exact Qg c22⟩) (by omega) (fz ⟨sr,sr,trivial⟩) (HSub.nil)
 have hk0b:k=l.length:=by omega
 exact Ap<|zr<|za R R<|zn<|zt<|z1 R R (rI (by rw [Ih c6 c9, ←hf,hk0b,List.drop_length];rfl))
theorem V9 (l:List Gr):XC Tryz.prog 81 [.sl 5 (l.map Gr.c)] (fun r=>r=dI (Fq l)):=by
 refine Ao Agm Tryz.func81 R R lb<|zr<|za R R<|zn<|zs<|zr<|zm R R<|XL.len R R R Tryz.underlying57 fun hl5=>zp (Bb R R R)<|zn<|?_
 refine zd R (fun c6=> ?_) (fun c6=> ?_)
 exact zr<|za R R<|zn<|zt<|z1 R R (rI (by rw [Fq,if_pos (by omega)]))
 refine zi<|zs<|zr<|za R R<|zn<|Ah<|?_
 refine Ay (α:=Nat) (fun k=>k≤l.length∧Jk (l.drop k)=Jk l) (fun k=>mkF [(0, .d (.sl 5 (l.map Gr.c))),(3, .d (dI k))]) (fun k=>mkH []) (fun k=>l.length - k) (0) (⟨Nat.zero_le _,by rw [List.drop_zero]⟩) ?_ ?_ ?_
 exact fz ⟨sr,sr,trivial⟩
 exact HSub.nil
 intro k hk0
 obtain ⟨hk,hf⟩:=hk0
 refine zs<|zr<|zm R R<|zm R R<|XL.len R R R Tryz.underlying57 fun hl9=>zp (As R R R)<|zn<|?_
 refine zd R (fun c10=> ?_) (fun c10=> ?_)
 have hk0a:k<l.length:=by omega
 obtain ⟨x0,hx0⟩:=Au hk0a
 rw [C2 hx0,Jk] at hf
 refine zi<|zs<|Ah<|zs<|zr<|zm R R<|zm R R<|zp (Am R R R Ro hx0)<|zp (Bq R R Zp)<|zp (Ae (s':= .d (.agg (Pit.c x0.p))) (Av R R E0 lb) (by kernel_rfl))<|XL.call1 R R (Tc _) R<|zp (As R R R)<|zn<|?_
 refine zd R (fun c19=> ?_) (fun c19=> ?_)
 exact zr<|za R R<|zn<|zt<|z1 R R (rI (by rw [H1 c6, ←hf,if_pos (by rw [Acq c19];decide),Acq c19]))
 refine zi<|zr<|zm R R<|zm R R<|zp (Am R R R Ro hx0)<|zp (Bq R R Sr)<|zp (Az R R Ai)<|XL.call1 R R (E2 _ _ _) R<|zp (B6 R R)<|zn<|?_
 refine zd R (fun c26=> ?_) (fun c26=> ?_)
 exact zr<|za R R<|zn<|zt<|z1 R R (rI (by rw [H1 c6, ←hf,if_neg (by rw [W9 c19];decide),if_pos (by omega)]))
 refine zi<|Af (by kernel_rfl)<|zm R R<|zp (Aj R R R (by omega) (by omega))<|za R R<|zn<|?_
 exact Ak (k+1) (⟨by omega,by rw [if_neg (by rw [W9 c19];decide),if_neg (by omega)] at hf;exact hf⟩) (by omega) (fz ⟨sr,sr,trivial⟩) (HSub.nil)
 have hk0b:k=l.length:=by omega
 exact Ap<|zr<|za R R<|zn<|zt<|z1 R R (rI (by rw [H1 c6, ←hf,hk0b,List.drop_length];rfl))
theorem Aka (s:Sy):XC Tryz.prog 128 [.agg (Sy.c s)] (fun r=>r=dB (decide s.none)):=by
 refine Ao Aeq Tryz.func128 R R lb<|zr<|XL.step R (At 1 (l:= [.d (.v (.string ⟨s.text.toArray⟩)), .d (dI s.link)]) R R (by kernel_rfl))<|za R R<|znr<|zp (Aa R R G2)<|zp (Ab R R L7 R R)<|zp (Xp R R R)<|zm R R<|?_
 refine XL.bool 6 R (fun g6=> ?_) (fun g6=> ?_)
 exact zp (Aa R R Lh)<|zp (Ab R R Ai R R)<|zp (A5 R R R)<|zq R R R<|za R R<|zn<|zt<|z1 R R (rB (by rw [L4] at g6;rw [decide_eq_decide];exact ⟨fun h=>⟨of_decide_eq_true g6,h⟩,fun h=>h.2⟩))
 exact zk 3 R<|zq R R R<|za R R<|zn<|zt<|z1 R R (rB (by rw [L4] at g6;rw [eq_comm,decide_eq_false_iff_not];exact fun h=>of_decide_eq_false g6 h.1))
theorem Axg {s:Sy} (h:¬(0≤s.link∧s.link≤2)):Gx s=2:=by rw [Gx,if_pos (by omega)]
theorem Axf {s:Sy} (h:¬ ¬(0≤s.link∧s.link≤2)) (h2:256<(s.text.length:Int)):Gx s=5:=by rw [Gx,if_neg (by omega),if_pos (by omega)]
theorem Aui {s:Sy} {k:Nat} {b:UInt8} (h:¬ ¬(0≤s.link∧s.link≤2)) (h2:¬256<(s.text.length:Int)) (hb:s.text[k]? =some b) (h3:Ic b):Gx s=6:=(Xi (by omega) (by omega) h2 hb h3).symm
theorem Axe {s:Sy} (h:¬ ¬(0≤s.link∧s.link≤2)) (h2:¬256<(s.text.length:Int)) (h3:∀j b,j<s.text.length→s.text[j]? =some b→¬Ic b):Gx s=if s.text= []∧s.link=1 then 3 else 0:=Aid (by omega) (by omega) h2 h3
theorem Qe {l:List Sy} {k:Nat} {x:Sy} {n:Int} (h:l[k]? =some x) (hl:¬4<(l.length:Int)) (hf:H8 (l.drop k)=H8 l) (hx:Gx x=n) (hn:n≠0):H0 l=n:=by
 have:H8 l=n:=by rw [←hf,Zg h (by rw [hx];exact hn),hx]
 rw [Pb hl,this,if_pos hn]
theorem V8 (l:List Sy):XC Tryz.prog 82 [.sl 2 (l.map Sy.c)] (fun r=>r=dI (H0 l)):=by
 refine Ao Agl Tryz.func82 R R lb<|zr<|za R R<|zn<|zs<|zr<|zm R R<|XL.len R R R Tryz.underlying58 fun hl7=>zp (Bb R R R)<|zn<|?_
 refine zd R (fun c8=> ?_) (fun c8=> ?_)
 exact zr<|za R R<|zn<|zt<|z1 R R (rI (by rw [H0,if_pos (by omega)]))
 refine zi<|zs<|zr<|za R R<|zn<|Ah<|?_
 refine Ay (α:=Nat) (fun k=>k≤l.length∧H8 (l.drop k)=H8 l) (fun k=>mkF [(0, .d (.sl 2 (l.map Sy.c))),(3, .d (dI k))]) (fun k=>mkH []) (fun k=>l.length - k) (0) (⟨Nat.zero_le _,by rw [List.drop_zero]⟩) ?_ ?_ ?_
 exact fz ⟨sr,sr,trivial⟩
 exact HSub.nil
 intro k hk0
 obtain ⟨hk,hf⟩:=hk0
 refine zs<|zr<|zm R R<|zm R R<|XL.len R R R Tryz.underlying58 fun hl11=>zp (As R R R)<|zn<|?_
 refine zd R (fun c12=> ?_) (fun c12=> ?_)
 have hk0a:k<l.length:=by omega
 obtain ⟨x0,hx0⟩:=Au hk0a
 refine zi<|zs<|Ah<|zr<|zm R R<|zm R R<|zp (Am R R R Pm hx0)<|zp (Ae (s':= .d (.agg (Sy.c x0))) (Av R R Jy lb) (by kernel_rfl))<|XL.step R (A0 4 (l:= [.d (.v (.string ⟨#[]⟩)), .d (dI 0)]) R Qm (by kernel_rfl))<|XL.step R (Ag (l':= [.d (.v (.string ⟨x0.text.toArray⟩)), .d (dI x0.link)]) R R R R Aaz R lb (by kernel_rfl))<|zn<|zs<|zr<|?_
 refine zp (Aa R R Lh)<|zp (Ab R R Ai R R)<|XL.call1 R R (E2 _ _ _) R<|zp (B6 R R)<|zn<|?_
 refine zd R (fun c22=> ?_) (fun c22=> ?_)
 exact zr<|za R R<|zn<|zt<|z1 R R (rI (Qe hx0 c8 hf (Axg c22) (by decide)).symm)
 refine zi<|zs<|zr<|zp (Aa R R G2)<|zp (Ab R R L7 R R)<|zp (O4 R R Tryz.underlying9)<|zp (Bb R R R)<|zn<|?_
 refine zd R (fun c26=> ?_) (fun c26=> ?_)
 exact zr<|za R R<|zn<|zt<|z1 R R (rI (Qe hx0 c8 hf (Axf c22 (by have:=c26;rw [Fo] at this;omega)) (by decide)).symm)
 refine zi<|zs<|zr<|za R R<|zn<|Ah<|?_
 refine Ay (α:=Nat) (fun m=>m≤x0.text.length∧∀j b,j<m→x0.text[j]? =some b→¬Ic b) (fun m=>mkF [(0, .d (.sl 2 (l.map Sy.c))),(3, .d (dI k)),(4, .ptr 4 0 0),(5, .d (dI m))]) (fun m=>mkH [(4, .box ((Sy.c x0).map S.d))]) (fun m=>x0.text.length - m) (0) (⟨Nat.zero_le _,fun j b h=>absurd h (Nat.not_lt_zero _)⟩) ?_ ?_ ?_
 exact fz ⟨sr,sr,sr,sr,trivial⟩
 exact gz ⟨R,trivial⟩
 intro m hk2
 obtain ⟨hm,hfm⟩:=hk2
 refine zs<|zr<|zm R R<|zp (Aa R R G2)<|zp (Ab R R L7 R R)<|zp (O4 R R Tryz.underlying9)<|zp (As R R R)<|zn<|?_
 refine zd R (fun c31=> ?_) (fun c31=> ?_)
 rw [Fo] at c31
 have hkl:m<x0.text.length:=by omega
 have hsz:(x0.text.length:Int)≤256:=by have:=c26;rw [Fo] at this;omega
 obtain ⟨b,hb⟩:=Au hkl
 refine zi<|zs<|Ah<|zr<|zp (Aa R R G2)<|zp (Ab R R L7 R R)<|zm R R<|zp (Wl R R R Tryz.underlying9 (Qp hb))<|zp (As R R R)<|zm R R<|?_
 refine XL.dec 39 R (fun g39=> ?_) (fun g39=> ?_)
 exact zk 5 R<|zq R R R<|zn<|Aq (by kernel_rfl) R<|zr<|za R R<|zn<|zt<|z1 R R (rI (Qe hx0 c8 hf (Aui c22 (by rw [←Fo];exact c26) hb (Ajo g39)) (by decide)).symm)
 refine zp (Aa R R G2)<|zp (Ab R R L7 R R)<|zm R R<|zp (Wl R R R Tryz.underlying9 (Qp hb))<|zp (A5 R R R)<|zq R R R<|zn<|?_
 refine zd R (fun c45=> ?_) (fun c45=> ?_)
 exact zr<|za R R<|zn<|zt<|z1 R R (rI (Qe hx0 c8 hf (Aui c22 (by rw [←Fo];exact c26) hb (Afi c45)) (by decide)).symm)
 refine zi<|Af (by kernel_rfl)<|zm R R<|zp (Aj R R R (by omega) (by omega))<|za R R<|zn<|?_
 exact Ak (m+1) (⟨by omega,fun j b' hj hb'=>by by_cases e:j=m;(· subst e;rw [hb] at hb';cases hb';exact Ajn g39 c45);(· exact hfm j b' (by omega) hb')⟩) (by omega) (fz ⟨sr,sr,sr,sr,trivial⟩) (gz ⟨rfl,trivial⟩)
 rw [Fo] at c31
 have hke:m=x0.text.length:=by omega
 have he:=Axe c22 (by rw [←Fo];exact c26) (fun j b hj=>hfm j b (by omega))
 refine Ap<|zr<|zp (Aa R R G2)<|zp (Ab R R L7 R R)<|zp (Xp R R R)<|zm R R<|?_
 refine XL.bool 49 R (fun g49=> ?_) (fun g49=> ?_)
 refine zp (Aa R R Lh)<|zp (Ab R R Ai R R)<|zp (A5 R R R)<|zq R R R<|zn<|?_
 refine zd R (fun c53=> ?_) (fun c53=> ?_)
 exact zr<|za R R<|zn<|zt<|z1 R R (rI (by rw [L4] at g49;exact (Qe hx0 c8 hf (by rw [he,if_pos ⟨of_decide_eq_true g49,c53⟩]) (by decide)).symm))
 refine zi<|Af (by kernel_rfl)<|zm R R<|zp (Aj R R R (by omega) (by omega))<|za R R<|zn<|?_
 have hz0:Gx x0=0:=by rw [he,if_neg (fun h=>c53 h.2)]
 exact Ak (k+1) (⟨by omega,by rw [←Rf hx0 (by rw [hz0];decide)];exact hf⟩) (by omega) (fz ⟨sr,sr,trivial⟩) (HSub.nil)
 refine zk 3 R<|zq R R R<|zn<|A9 (by kernel_rfl) R<|zi<|Af (by kernel_rfl)<|zm R R<|zp (Aj R R R (by omega) (by omega))<|za R R<|zn<|?_
 rw [L4] at g49
 have hz0:Gx x0=0:=by rw [he,if_neg (fun h=>of_decide_eq_false g49 h.1)]
 exact Ak (k+1) (⟨by omega,by rw [←Rf hx0 (by rw [hz0];decide)];exact hf⟩) (by omega) (fz ⟨sr,sr,trivial⟩) (HSub.nil)
 have hk0b:k=l.length:=by omega
 have hz:H8 l=0:=by rw [←hf,hk0b,List.drop_length];rfl
 have hz2:H0 l=if Ji l then 3 else 0:=by rw [Pb c8,hz,if_neg (by simp)]
 refine Ap<|zs<|zr<|zm R R<|XL.len R R R Tryz.underlying58 fun hl55=>zp (Bb R R R)<|zm R R<|?_
 refine XL.dec 57 R (fun g57=> ?_) (fun g57=> ?_)
 obtain ⟨s,hs⟩:∃s,l[l.length - 1]? =some s:=Au (by omega)
 refine zm R R<|zm R R<|XL.len R R R Tryz.underlying58 fun hl60=>zp (C9 R R R (by omega) (by omega))<|zp (F9 R R R (by omega) Pm (hs))<|zp (Ae (s':= .d (.agg (Sy.c s))) (Av R R Jy lb) (by kernel_rfl))<|XL.call1 R R (Aka _) R<|zq R R R<|zn<|?_
 refine zd R (fun c65=> ?_) (fun c65=> ?_)
 exact zr<|za R R<|zn<|zt<|z1 R R (rI (by rw [hz2,if_pos ((Mr hs).2 c65)]))
 exact zi<|zr<|za R R<|zn<|zt<|z1 R R (rI (by rw [hz2,if_neg (fun h=>c65 ((Mr hs).1 h))]))
 exact zk 7 R<|zq R R R<|zn<|A9 (by kernel_rfl) R<|zi<|zr<|za R R<|zn<|zt<|z1 R R (rI (by rw [hz2,if_neg (Sn g57)]))
end Go.Proofs.YtcihalbakenleaaGreat
namespace Go.Proofs.YtcihalbakenleaaGreat
open Go.RowKit
def Oq (v:Val):Prop:=(-1≤v.log∧v.log≤8)∧0≤v.dots∧v.dots≤3
instance (v:Val):Decidable (Oq v):=by unfold Oq;exact inferInstance
theorem valOk_iff {v:Val}:Oq v↔Dj v=0:=by
 unfold Oq Dj
 split
 ·rename_i h;exact ⟨fun _=>rfl,fun _=>⟨⟨h.1,h.2.1⟩,h.2.2⟩⟩
 ·rename_i h;exact ⟨fun k=>absurd ⟨k.1.1,k.1.2,k.2⟩ h,fun k=>by omega⟩
theorem Aqi (v:Val):XC Tryz.prog 79 [.agg (Val.c v)] (fun r=>r=dB (decide (Oq v))):=by
 refine Ao Ago Tryz.func79 R R lb<|zr<|XL.step R (At 1 (l:= [.d (dI v.log), .d (dI v.dots)]) R R (by kernel_rfl))<|za R R<|znr<|zp (Aa R R Mm)<|zp (Ab R R Ai R R)<|XL.call1 R R (E2 _ _ _) R<|zm R R<|?_
 refine XL.dec 6 R (fun g6=> ?_) (fun g6=> ?_)
 exact zp (Aa R R Ii)<|zp (Ab R R Ai R R)<|XL.call1 R R (E2 _ _ _) R<|zq R R R<|za R R<|zn<|zt<|z1 R R (rB (by rw [decide_eq_decide];exact ⟨fun h=>⟨g6,h⟩,fun h=>h.2⟩))
 exact zk 3 R<|zq R R R<|za R R<|zn<|zt<|z1 R R (rB (by rw [eq_comm,decide_eq_false_iff_not];exact fun h=>g6 h.1))
def Jr (k:Nat):Int:=3870720 / 2 ^ k
theorem Sq (k:Nat):0≤Jr k∧Jr k≤3870720:=by
 have h:(0:Int)<2 ^ k:=Int.pow_pos (by omega)
 exact ⟨Int.ediv_nonneg (by omega) (by omega),Int.ediv_le_self _ (by omega)⟩
theorem P2 (k:Nat):Jr k / 2=Jr (k+1):=by
 unfold Jr
 have h:(0:Int)<2 ^ k:=Int.pow_pos (by omega)
 rw [Int.pow_succ,Int.ediv_ediv,if_neg (by omega),Int.sub_zero]
theorem W5 {v:Val} {k:Nat} (h:(k:Int)=v.log+1):Jr k=Eo v:=by rw [Jr,Eo, ←h,Int.toNat_natCast]
theorem Ams (v:Val) (h:Dj v=0):XC Tryz.prog 114 [.agg (Val.c v)] (fun r=>r=dI (Cq v)):=by
 have hv:=O5 (v:=v) (by omega)
 have hp:=Mq v
 refine Ao Ae4 Tryz.func114 R R lb<|zr<|XL.step R (At 1 (l:= [.d (dI v.log), .d (dI v.dots)]) R R (by kernel_rfl))<|za R R<|znr<|za R R<|zn<|zs<|zr<|za R R<|zn<|Ah<|?_
 refine Ay (α:=Nat) (fun k=>(k:Int)≤v.log+1) (fun k=>mkF [(1, .ptr 1 0 0),(2, .d (dI 0)),(3, .d (dI (Jr k))),(4, .d (dI ((k:Int) - 1)))]) (fun k=>mkH [(1, .box ((Val.c v).map S.d))]) (fun k=>(v.log+1).toNat - k) (0) (by omega) ?_ ?_ ?_
 exact fz ⟨sr,sr, .same (sI (by decide)), .same (sI (by decide)),trivial⟩
 exact gz ⟨R,trivial⟩
 intro k hk0
 have hh:=Sq k
 refine zs<|zr<|zm R R<|zp (Aa R R Mm)<|zp (Ab R R Ai R R)<|zp (As R R R)<|zn<|?_
 refine zd R (fun c11=> ?_) (fun c11=> ?_)
 refine zi<|zs<|Ah<|Af (by kernel_rfl)<|zm R R<|zp (Gy R R R (by omega) (by omega) (by omega))<|za R R<|zn<|Af (by kernel_rfl)<|zm R R<|zp (Aj R R R (by omega) (by omega))<|za R R<|zn<|?_
 exact Ak (k+1) (by omega) (by omega) (fz ⟨sr,sr, .same (sI (P2 k)), .same (sI (by omega)),trivial⟩) (gz ⟨R,trivial⟩)
 have hpl:=W5 (v:=v) (k:=k) (by omega)
 refine Ap<|zr<|zm R R<|zm R R<|za R R<|za R R<|zn<|zs<|zr<|za R R<|zn<|Ah<|?_
 refine Ay (α:=Nat) (fun m=>(m:Int)≤v.dots) (fun m=>mkF [(1, .ptr 1 0 0),(2, .d (dI 0)),(5, .d (dI (E6 (Eo v) m).2)),(6, .d (dI (E6 (Eo v) m).1)),(7, .d (dI (m:Nat)))]) (fun m=>mkH [(1, .box ((Val.c v).map S.d))]) (fun m=>v.dots.toNat - m) (0) (hv.2.2.1) ?_ ?_ ?_
 exact fz ⟨sr,sr, .same (sI hpl), .same (sI hpl),sr,trivial⟩
 exact gz ⟨R,trivial⟩
 intro m hk2
 refine zs<|zr<|zm R R<|zp (Aa R R Ii)<|zp (Ab R R Ai R R)<|zp (As R R R)<|zn<|?_
 refine zd R (fun c21=> ?_) (fun c21=> ?_)
 have hb:=Lj hp.1 m
 have hb2:Eo v*((m:Int)+1)≤3870720*4:=Int.mul_le_mul hp.2 (by omega) (by omega) (by omega)
 refine zi<|zs<|Ah<|zr<|zm R R<|zp (Gy R R R (by omega) (by omega) (by omega))<|za R R<|zng<|zm R R<|zm R R<|zp (Aj R R R (by omega) (by omega))<|za R R<|zn<|Af (by kernel_rfl)<|?_
 refine zm R R<|zp (Aj R R R (by omega) (by omega))<|za R R<|zn<|?_
 exact Ak (m+1) (by omega) (by omega) (fz ⟨sr,sr,sr,sr,sr,trivial⟩) (gz ⟨R,trivial⟩)
 have hke:v.dots.toNat=m:=by omega
 exact Ap<|zr<|zm R R<|za R R<|zn<|zt<|z1 R R (rI (by rw [Cq,hke]))
theorem Cr {n:Int} (h:0≤n) (h2:n / 16 % 2=1):Ey n=16:=by rw [Ey,if_neg (by omega),if_pos h2]
theorem C8 {n:Int} (h:¬(0≤n∧n / 16 % 2=1)):Ey n=0:=by
 by_cases c:n<0
 ·rw [Ey,if_pos c]
 ·rw [Ey,if_neg c,if_neg (by omega)]
theorem Ff {e:Ev} (h:e.kind=2) (a:Int) (ha:Ey e.art=a):(⟨e.site,e.num,e.kind,e.v, [], [],a,0,e.dyn, [],0,0⟩:Ev)=e.strip:=by
 subst ha;rw [Ev.strip,if_neg (by omega),if_pos (by omega),if_pos (by omega)]
theorem Fe {e:Ev} (h:e.kind=3) (a:Int) (ha:Ey e.art=a):(⟨e.site,e.num,e.kind,⟨0,0⟩, [], [],a,0,e.dyn, [],0,0⟩:Ev)=e.strip:=by
 subst ha;rw [Ev.strip,if_neg (by omega),if_neg (by omega),if_pos (by omega)]
theorem Kt {e:Ev} (h:e.kind=4):(⟨e.site,e.num,e.kind,e.v, [], [],0,0,e.dyn, [],0,0⟩:Ev)=e.strip:=by
 rw [Ev.strip,if_neg (by omega),if_pos (by omega),if_neg (by omega)]
theorem Ku {e:Ev} (h2:¬e.kind=2) (h3:¬e.kind=3) (h4:¬e.kind=4):e=e.strip:=by rw [Ev.strip,if_pos (by omega)]
theorem Amt (e:Ev) (he:e.art≤9223372036854775807):XC Tryz.prog 78 [.agg (Ev.c e)] (fun r=>r= .agg (Ev.c e.strip)):=by
 refine Ao Agp Tryz.func78 R R lb<|zr<|XL.step R (At 1 (l:= [.d (dI e.site), .d (dI e.num), .d (dI e.kind), .d (dI e.v.log), .d (dI e.v.dots), .d (.sl 5 (e.heads.map Hd.c)), .d (.sl 5 (e.graces.map Gr.c)), .d (dI e.art), .d (dI e.orn), .d (dI e.dyn), .d (.sl 2 (e.lyr.map Sy.c)), .d (dI e.stem), .d (dI e.beam)]) R R (by kernel_rfl))<|?_
 refine XL.step R (A0 2 (l:= [.d (dI 0), .d (dI 0), .d (dI 0), .d (dI 0), .d (dI 0), .d (.v (.slice none 0 0)), .d (.v (.slice none 0 0)), .d (dI 0), .d (dI 0), .d (dI 0), .d (.v (.slice none 0 0)), .d (dI 0), .d (dI 0)]) R Bw (by kernel_rfl))<|znr<|zp (Aa R R Fm)<|zp (Ae (s':= .d (.agg [dI e.site,dI e.num])) (Ac (Ad R R Kw R lb)) (by kernel_rfl))<|?_
 refine zp (Aa R R B2)<|zp (Ab R R Ai R R)<|zp (Aa R R Cm)<|zp (Ae (s':= .d (.agg (Val.c e.v))) (Ac (Ad R R Co R lb)) (by kernel_rfl))<|zp (Aa R R E9)<|zp (Ab R R Ai R R)<|?_
 refine zp (Ae (s':= .d (.agg [dI e.site,dI e.num,dI e.kind,dI e.v.log,dI e.v.dots, .v (.slice none 0 0), .v (.slice none 0 0),dI 0,dI 0,dI e.dyn, .v (.slice none 0 0),dI 0,dI 0])) (Ac (A4 R Jp Bw R)) (by kernel_rfl))<|?_
 refine XL.step R (A0 3 (l:= [.d (dI 0), .d (dI 0), .d (dI 0), .d (dI 0), .d (dI 0), .d (.v (.slice none 0 0)), .d (.v (.slice none 0 0)), .d (dI 0), .d (dI 0), .d (dI 0), .d (.v (.slice none 0 0)), .d (dI 0), .d (dI 0)]) R Bw (by kernel_rfl))<|?_
 refine XL.step R (Ag (l':= [.d (dI e.site), .d (dI e.num), .d (dI e.kind), .d (dI e.v.log), .d (dI e.v.dots), .d (.v (.slice none 0 0)), .d (.v (.slice none 0 0)), .d (dI 0), .d (dI 0), .d (dI e.dyn), .d (.v (.slice none 0 0)), .d (dI 0), .d (dI 0)]) R R R R B4 R lb (by kernel_rfl))<|zn<|zs<|zr<|zp (Aa R R B2)<|zp (Ab R R Ai R R)<|zn<|Ah<|zs<|zr<|zp (A5 R R R)<|?_
 refine za R R<|zn<|?_
 refine zd R (fun c16=> ?_) (fun c16=> ?_)
 refine zi<|?_
 refine zd R (fun c16=> ?_) (fun c16=> ?_)
 refine zs<|zr<|zp (Aa R R Dm)<|zp (Ab R R Ai R R)<|zp (Dr R R R)<|zm R R<|?_
 refine XL.dec 22 R (fun g22=> ?_) (fun g22=> ?_)
 refine zp (Aa R R Dm)<|zp (Ab R R Ai R R)<|zp (Gy R R R (by omega) (by omega) (by omega))<|zp (D1 R R R (by omega) (by omega))<|zp (A5 R R R)<|zq R R R<|zn<|?_
 refine zd R (fun c28=> ?_) (fun c28=> ?_)
 refine Af (by kernel_rfl)<|zp (Aa R R Dm)<|XL.step R (Ag (l':= [.d (dI e.site), .d (dI e.num), .d (dI e.kind), .d (dI e.v.log), .d (dI e.v.dots), .d (.v (.slice none 0 0)), .d (.v (.slice none 0 0)), .d (dI 16), .d (dI 0), .d (dI e.dyn), .d (.v (.slice none 0 0)), .d (dI 0), .d (dI 0)]) R R R R Cs R lb (by kernel_rfl))<|znr<|zp (Aa R R B2)<|?_
 refine zp (Ab R R Ai R R)<|zp (A5 R R R)<|zn<|?_
 refine zd R (fun c32=> ?_) (fun c32=> ?_)
 refine Af (by kernel_rfl)<|zp (Ae (s':= .d (.agg [dI 0,dI 0])) (Ac (A4 R J5 Do R)) (by kernel_rfl))<|zp (Aa R R Cm)<|?_
 refine XL.step R (Ag (l':= [.d (dI e.site), .d (dI e.num), .d (dI e.kind), .d (dI 0), .d (dI 0), .d (.v (.slice none 0 0)), .d (.v (.slice none 0 0)), .d (dI 16), .d (dI 0), .d (dI e.dyn), .d (.v (.slice none 0 0)), .d (dI 0), .d (dI 0)]) R R R R Dx R lb (by kernel_rfl))<|zn<|zr<|?_
 refine zp (Ae (s':= .d (.agg [dI e.site,dI e.num,dI e.kind,dI 0,dI 0, .v (.slice none 0 0), .v (.slice none 0 0),dI 16,dI 0,dI e.dyn, .v (.slice none 0 0),dI 0,dI 0])) (Ac (Ad R R A3 R lb)) (by kernel_rfl))<|?_
 refine XL.step R (Ag (l':= [.d (dI e.site), .d (dI e.num), .d (dI e.kind), .d (dI 0), .d (dI 0), .d (.v (.slice none 0 0)), .d (.v (.slice none 0 0)), .d (dI 16), .d (dI 0), .d (dI e.dyn), .d (.v (.slice none 0 0)), .d (dI 0), .d (dI 0)]) R R R R B4 R lb (by kernel_rfl))<|zn<|zt<|?_
 exact F6 R (RV.sub (RV.cells R R R A3 lb R) (.agg (.cons (.same R) (.cons (.same R) (.cons (.same R) (.cons (.same R) (.cons (.same R) (.cons (.nil 5) (.cons (.nil 5) (.cons (.same R) (.cons (.same R) (.cons (.same R) (.cons (.nil 2) (.cons (.same R) (.cons (.same R) (.nil)))))))))))))))) (by first|exact B0 (Ff (by omega) 16 (Cr (by omega) (by omega)))|exact B0 (Fe (by omega) 16 (Cr (by omega) (by omega)))|exact B0 (Ff (by omega) 0 (C8 (by omega)))|exact B0 (Fe (by omega) 0 (C8 (by omega)))|exact B0 (Kt (by omega))|exact B0 (Ku (by omega) (by omega) (by omega))|(exfalso;omega))
 refine zi<|zr<|zp (Ae (s':= .d (.agg [dI e.site,dI e.num,dI e.kind,dI e.v.log,dI e.v.dots, .v (.slice none 0 0), .v (.slice none 0 0),dI 16,dI 0,dI e.dyn, .v (.slice none 0 0),dI 0,dI 0])) (Ac (Ad R R A3 R lb)) (by kernel_rfl))<|?_
 refine XL.step R (Ag (l':= [.d (dI e.site), .d (dI e.num), .d (dI e.kind), .d (dI e.v.log), .d (dI e.v.dots), .d (.v (.slice none 0 0)), .d (.v (.slice none 0 0)), .d (dI 16), .d (dI 0), .d (dI e.dyn), .d (.v (.slice none 0 0)), .d (dI 0), .d (dI 0)]) R R R R B4 R lb (by kernel_rfl))<|zn<|zt<|?_
 exact F6 R (RV.sub (RV.cells R R R A3 lb R) (.agg (.cons (.same R) (.cons (.same R) (.cons (.same R) (.cons (.same R) (.cons (.same R) (.cons (.nil 5) (.cons (.nil 5) (.cons (.same R) (.cons (.same R) (.cons (.same R) (.cons (.nil 2) (.cons (.same R) (.cons (.same R) (.nil)))))))))))))))) (by first|exact B0 (Ff (by omega) 16 (Cr (by omega) (by omega)))|exact B0 (Fe (by omega) 16 (Cr (by omega) (by omega)))|exact B0 (Ff (by omega) 0 (C8 (by omega)))|exact B0 (Fe (by omega) 0 (C8 (by omega)))|exact B0 (Kt (by omega))|exact B0 (Ku (by omega) (by omega) (by omega))|(exfalso;omega))
 refine zi<|zr<|zp (Aa R R B2)<|zp (Ab R R Ai R R)<|zp (A5 R R R)<|zn<|?_
 refine zd R (fun c32=> ?_) (fun c32=> ?_)
 refine Af (by kernel_rfl)<|zp (Ae (s':= .d (.agg [dI 0,dI 0])) (Ac (A4 R J5 Do R)) (by kernel_rfl))<|zp (Aa R R Cm)<|?_
 refine XL.step R (Ag (l':= [.d (dI e.site), .d (dI e.num), .d (dI e.kind), .d (dI 0), .d (dI 0), .d (.v (.slice none 0 0)), .d (.v (.slice none 0 0)), .d (dI 0), .d (dI 0), .d (dI e.dyn), .d (.v (.slice none 0 0)), .d (dI 0), .d (dI 0)]) R R R R Dx R lb (by kernel_rfl))<|zn<|zr<|?_
 refine zp (Ae (s':= .d (.agg [dI e.site,dI e.num,dI e.kind,dI 0,dI 0, .v (.slice none 0 0), .v (.slice none 0 0),dI 0,dI 0,dI e.dyn, .v (.slice none 0 0),dI 0,dI 0])) (Ac (Ad R R A3 R lb)) (by kernel_rfl))<|?_
 refine XL.step R (Ag (l':= [.d (dI e.site), .d (dI e.num), .d (dI e.kind), .d (dI 0), .d (dI 0), .d (.v (.slice none 0 0)), .d (.v (.slice none 0 0)), .d (dI 0), .d (dI 0), .d (dI e.dyn), .d (.v (.slice none 0 0)), .d (dI 0), .d (dI 0)]) R R R R B4 R lb (by kernel_rfl))<|zn<|zt<|?_
 exact F6 R (RV.sub (RV.cells R R R A3 lb R) (.agg (.cons (.same R) (.cons (.same R) (.cons (.same R) (.cons (.same R) (.cons (.same R) (.cons (.nil 5) (.cons (.nil 5) (.cons (.same R) (.cons (.same R) (.cons (.same R) (.cons (.nil 2) (.cons (.same R) (.cons (.same R) (.nil)))))))))))))))) (by first|exact B0 (Ff (by omega) 16 (Cr (by omega) (by omega)))|exact B0 (Fe (by omega) 16 (Cr (by omega) (by omega)))|exact B0 (Ff (by omega) 0 (C8 (by omega)))|exact B0 (Fe (by omega) 0 (C8 (by omega)))|exact B0 (Kt (by omega))|exact B0 (Ku (by omega) (by omega) (by omega))|(exfalso;omega))
 refine zi<|zr<|zp (Ae (s':= .d (.agg [dI e.site,dI e.num,dI e.kind,dI e.v.log,dI e.v.dots, .v (.slice none 0 0), .v (.slice none 0 0),dI 0,dI 0,dI e.dyn, .v (.slice none 0 0),dI 0,dI 0])) (Ac (Ad R R A3 R lb)) (by kernel_rfl))<|?_
 refine XL.step R (Ag (l':= [.d (dI e.site), .d (dI e.num), .d (dI e.kind), .d (dI e.v.log), .d (dI e.v.dots), .d (.v (.slice none 0 0)), .d (.v (.slice none 0 0)), .d (dI 0), .d (dI 0), .d (dI e.dyn), .d (.v (.slice none 0 0)), .d (dI 0), .d (dI 0)]) R R R R B4 R lb (by kernel_rfl))<|zn<|zt<|?_
 exact F6 R (RV.sub (RV.cells R R R A3 lb R) (.agg (.cons (.same R) (.cons (.same R) (.cons (.same R) (.cons (.same R) (.cons (.same R) (.cons (.nil 5) (.cons (.nil 5) (.cons (.same R) (.cons (.same R) (.cons (.same R) (.cons (.nil 2) (.cons (.same R) (.cons (.same R) (.nil)))))))))))))))) (by first|exact B0 (Ff (by omega) 16 (Cr (by omega) (by omega)))|exact B0 (Fe (by omega) 16 (Cr (by omega) (by omega)))|exact B0 (Ff (by omega) 0 (C8 (by omega)))|exact B0 (Fe (by omega) 0 (C8 (by omega)))|exact B0 (Kt (by omega))|exact B0 (Ku (by omega) (by omega) (by omega))|(exfalso;omega))
 refine zk 5 R<|zq R R R<|zn<|A9 (by kernel_rfl) R<|zi<|zr<|zp (Aa R R B2)<|zp (Ab R R Ai R R)<|zp (A5 R R R)<|zn<|?_
 refine zd R (fun c32=> ?_) (fun c32=> ?_)
 refine Af (by kernel_rfl)<|zp (Ae (s':= .d (.agg [dI 0,dI 0])) (Ac (A4 R J5 Do R)) (by kernel_rfl))<|zp (Aa R R Cm)<|?_
 refine XL.step R (Ag (l':= [.d (dI e.site), .d (dI e.num), .d (dI e.kind), .d (dI 0), .d (dI 0), .d (.v (.slice none 0 0)), .d (.v (.slice none 0 0)), .d (dI 0), .d (dI 0), .d (dI e.dyn), .d (.v (.slice none 0 0)), .d (dI 0), .d (dI 0)]) R R R R Dx R lb (by kernel_rfl))<|zn<|zr<|?_
 refine zp (Ae (s':= .d (.agg [dI e.site,dI e.num,dI e.kind,dI 0,dI 0, .v (.slice none 0 0), .v (.slice none 0 0),dI 0,dI 0,dI e.dyn, .v (.slice none 0 0),dI 0,dI 0])) (Ac (Ad R R A3 R lb)) (by kernel_rfl))<|?_
 refine XL.step R (Ag (l':= [.d (dI e.site), .d (dI e.num), .d (dI e.kind), .d (dI 0), .d (dI 0), .d (.v (.slice none 0 0)), .d (.v (.slice none 0 0)), .d (dI 0), .d (dI 0), .d (dI e.dyn), .d (.v (.slice none 0 0)), .d (dI 0), .d (dI 0)]) R R R R B4 R lb (by kernel_rfl))<|zn<|zt<|?_
 exact F6 R (RV.sub (RV.cells R R R A3 lb R) (.agg (.cons (.same R) (.cons (.same R) (.cons (.same R) (.cons (.same R) (.cons (.same R) (.cons (.nil 5) (.cons (.nil 5) (.cons (.same R) (.cons (.same R) (.cons (.same R) (.cons (.nil 2) (.cons (.same R) (.cons (.same R) (.nil)))))))))))))))) (by first|exact B0 (Ff (by omega) 16 (Cr (by omega) (by omega)))|exact B0 (Fe (by omega) 16 (Cr (by omega) (by omega)))|exact B0 (Ff (by omega) 0 (C8 (by omega)))|exact B0 (Fe (by omega) 0 (C8 (by omega)))|exact B0 (Kt (by omega))|exact B0 (Ku (by omega) (by omega) (by omega))|(exfalso;omega))
 refine zi<|zr<|zp (Ae (s':= .d (.agg [dI e.site,dI e.num,dI e.kind,dI e.v.log,dI e.v.dots, .v (.slice none 0 0), .v (.slice none 0 0),dI 0,dI 0,dI e.dyn, .v (.slice none 0 0),dI 0,dI 0])) (Ac (Ad R R A3 R lb)) (by kernel_rfl))<|?_
 refine XL.step R (Ag (l':= [.d (dI e.site), .d (dI e.num), .d (dI e.kind), .d (dI e.v.log), .d (dI e.v.dots), .d (.v (.slice none 0 0)), .d (.v (.slice none 0 0)), .d (dI 0), .d (dI 0), .d (dI e.dyn), .d (.v (.slice none 0 0)), .d (dI 0), .d (dI 0)]) R R R R B4 R lb (by kernel_rfl))<|zn<|zt<|?_
 exact F6 R (RV.sub (RV.cells R R R A3 lb R) (.agg (.cons (.same R) (.cons (.same R) (.cons (.same R) (.cons (.same R) (.cons (.same R) (.cons (.nil 5) (.cons (.nil 5) (.cons (.same R) (.cons (.same R) (.cons (.same R) (.cons (.nil 2) (.cons (.same R) (.cons (.same R) (.nil)))))))))))))))) (by first|exact B0 (Ff (by omega) 16 (Cr (by omega) (by omega)))|exact B0 (Fe (by omega) 16 (Cr (by omega) (by omega)))|exact B0 (Ff (by omega) 0 (C8 (by omega)))|exact B0 (Fe (by omega) 0 (C8 (by omega)))|exact B0 (Kt (by omega))|exact B0 (Ku (by omega) (by omega) (by omega))|(exfalso;omega))
 refine zr<|zp (A5 R R R)<|za R R<|zn<|?_
 refine zd R (fun c35=> ?_) (fun c35=> ?_)
 refine zi<|zr<|zp (Ae (s':= .d (.agg [dI e.site,dI e.num,dI e.kind,dI e.v.log,dI e.v.dots, .v (.slice none 0 0), .v (.slice none 0 0),dI 0,dI 0,dI e.dyn, .v (.slice none 0 0),dI 0,dI 0])) (Ac (Ad R R A3 R lb)) (by kernel_rfl))<|?_
 refine XL.step R (Ag (l':= [.d (dI e.site), .d (dI e.num), .d (dI e.kind), .d (dI e.v.log), .d (dI e.v.dots), .d (.v (.slice none 0 0)), .d (.v (.slice none 0 0)), .d (dI 0), .d (dI 0), .d (dI e.dyn), .d (.v (.slice none 0 0)), .d (dI 0), .d (dI 0)]) R R R R B4 R lb (by kernel_rfl))<|zn<|zt<|?_
 exact F6 R (RV.sub (RV.cells R R R A3 lb R) (.agg (.cons (.same R) (.cons (.same R) (.cons (.same R) (.cons (.same R) (.cons (.same R) (.cons (.nil 5) (.cons (.nil 5) (.cons (.same R) (.cons (.same R) (.cons (.same R) (.cons (.nil 2) (.cons (.same R) (.cons (.same R) (.nil)))))))))))))))) (by first|exact B0 (Ff (by omega) 16 (Cr (by omega) (by omega)))|exact B0 (Fe (by omega) 16 (Cr (by omega) (by omega)))|exact B0 (Ff (by omega) 0 (C8 (by omega)))|exact B0 (Fe (by omega) 0 (C8 (by omega)))|exact B0 (Kt (by omega))|exact B0 (Ku (by omega) (by omega) (by omega))|(exfalso;omega))
 refine zr<|zp (Ae (s':= .d (.agg (Ev.c e))) (Ac (Ad R R A3 R lb)) (by kernel_rfl))<|?_
 refine XL.step R (Ag (l':= [.d (dI e.site), .d (dI e.num), .d (dI e.kind), .d (dI e.v.log), .d (dI e.v.dots), .d (.sl 5 (e.heads.map Hd.c)), .d (.sl 5 (e.graces.map Gr.c)), .d (dI e.art), .d (dI e.orn), .d (dI e.dyn), .d (.sl 2 (e.lyr.map Sy.c)), .d (dI e.stem), .d (dI e.beam)]) R R R R B4 R lb (by kernel_rfl))<|zn<|zt<|?_
 exact F6 R (RV.cells R R R A3 lb R) (by first|exact B0 (Ff (by omega) 16 (Cr (by omega) (by omega)))|exact B0 (Fe (by omega) 16 (Cr (by omega) (by omega)))|exact B0 (Ff (by omega) 0 (C8 (by omega)))|exact B0 (Fe (by omega) 0 (C8 (by omega)))|exact B0 (Kt (by omega))|exact B0 (Ku (by omega) (by omega) (by omega))|(exfalso;omega))
 refine Af (by kernel_rfl)<|zp (A5 R R R)<|za R R<|zn<|?_
 refine zd R (fun c16=> ?_) (fun c16=> ?_)
 refine zs<|zr<|zp (Aa R R Dm)<|zp (Ab R R Ai R R)<|zp (Dr R R R)<|zm R R<|?_
 refine XL.dec 22 R (fun g22=> ?_) (fun g22=> ?_)
 refine zp (Aa R R Dm)<|zp (Ab R R Ai R R)<|zp (Gy R R R (by omega) (by omega) (by omega))<|zp (D1 R R R (by omega) (by omega))<|zp (A5 R R R)<|zq R R R<|zn<|?_
 refine zd R (fun c28=> ?_) (fun c28=> ?_)
 refine Af (by kernel_rfl)<|zp (Aa R R Dm)<|XL.step R (Ag (l':= [.d (dI e.site), .d (dI e.num), .d (dI e.kind), .d (dI e.v.log), .d (dI e.v.dots), .d (.v (.slice none 0 0)), .d (.v (.slice none 0 0)), .d (dI 16), .d (dI 0), .d (dI e.dyn), .d (.v (.slice none 0 0)), .d (dI 0), .d (dI 0)]) R R R R Cs R lb (by kernel_rfl))<|znr<|zp (Aa R R B2)<|?_
 refine zp (Ab R R Ai R R)<|zp (A5 R R R)<|zn<|?_
 refine zd R (fun c32=> ?_) (fun c32=> ?_)
 refine Af (by kernel_rfl)<|zp (Ae (s':= .d (.agg [dI 0,dI 0])) (Ac (A4 R J5 Do R)) (by kernel_rfl))<|zp (Aa R R Cm)<|?_
 refine XL.step R (Ag (l':= [.d (dI e.site), .d (dI e.num), .d (dI e.kind), .d (dI 0), .d (dI 0), .d (.v (.slice none 0 0)), .d (.v (.slice none 0 0)), .d (dI 16), .d (dI 0), .d (dI e.dyn), .d (.v (.slice none 0 0)), .d (dI 0), .d (dI 0)]) R R R R Dx R lb (by kernel_rfl))<|zn<|zr<|?_
 refine zp (Ae (s':= .d (.agg [dI e.site,dI e.num,dI e.kind,dI 0,dI 0, .v (.slice none 0 0), .v (.slice none 0 0),dI 16,dI 0,dI e.dyn, .v (.slice none 0 0),dI 0,dI 0])) (Ac (Ad R R A3 R lb)) (by kernel_rfl))<|?_
 refine XL.step R (Ag (l':= [.d (dI e.site), .d (dI e.num), .d (dI e.kind), .d (dI 0), .d (dI 0), .d (.v (.slice none 0 0)), .d (.v (.slice none 0 0)), .d (dI 16), .d (dI 0), .d (dI e.dyn), .d (.v (.slice none 0 0)), .d (dI 0), .d (dI 0)]) R R R R B4 R lb (by kernel_rfl))<|zn<|zt<|?_
 exact F6 R (RV.sub (RV.cells R R R A3 lb R) (.agg (.cons (.same R) (.cons (.same R) (.cons (.same R) (.cons (.same R) (.cons (.same R) (.cons (.nil 5) (.cons (.nil 5) (.cons (.same R) (.cons (.same R) (.cons (.same R) (.cons (.nil 2) (.cons (.same R) (.cons (.same R) (.nil)))))))))))))))) (by first|exact B0 (Ff (by omega) 16 (Cr (by omega) (by omega)))|exact B0 (Fe (by omega) 16 (Cr (by omega) (by omega)))|exact B0 (Ff (by omega) 0 (C8 (by omega)))|exact B0 (Fe (by omega) 0 (C8 (by omega)))|exact B0 (Kt (by omega))|exact B0 (Ku (by omega) (by omega) (by omega))|(exfalso;omega))
 refine zi<|zr<|zp (Ae (s':= .d (.agg [dI e.site,dI e.num,dI e.kind,dI e.v.log,dI e.v.dots, .v (.slice none 0 0), .v (.slice none 0 0),dI 16,dI 0,dI e.dyn, .v (.slice none 0 0),dI 0,dI 0])) (Ac (Ad R R A3 R lb)) (by kernel_rfl))<|?_
 refine XL.step R (Ag (l':= [.d (dI e.site), .d (dI e.num), .d (dI e.kind), .d (dI e.v.log), .d (dI e.v.dots), .d (.v (.slice none 0 0)), .d (.v (.slice none 0 0)), .d (dI 16), .d (dI 0), .d (dI e.dyn), .d (.v (.slice none 0 0)), .d (dI 0), .d (dI 0)]) R R R R B4 R lb (by kernel_rfl))<|zn<|zt<|?_
 exact F6 R (RV.sub (RV.cells R R R A3 lb R) (.agg (.cons (.same R) (.cons (.same R) (.cons (.same R) (.cons (.same R) (.cons (.same R) (.cons (.nil 5) (.cons (.nil 5) (.cons (.same R) (.cons (.same R) (.cons (.same R) (.cons (.nil 2) (.cons (.same R) (.cons (.same R) (.nil)))))))))))))))) (by first|exact B0 (Ff (by omega) 16 (Cr (by omega) (by omega)))|exact B0 (Fe (by omega) 16 (Cr (by omega) (by omega)))|exact B0 (Ff (by omega) 0 (C8 (by omega)))|exact B0 (Fe (by omega) 0 (C8 (by omega)))|exact B0 (Kt (by omega))|exact B0 (Ku (by omega) (by omega) (by omega))|(exfalso;omega))
 refine zi<|zr<|zp (Aa R R B2)<|zp (Ab R R Ai R R)<|zp (A5 R R R)<|zn<|?_
 refine zd R (fun c32=> ?_) (fun c32=> ?_)
 refine Af (by kernel_rfl)<|zp (Ae (s':= .d (.agg [dI 0,dI 0])) (Ac (A4 R J5 Do R)) (by kernel_rfl))<|zp (Aa R R Cm)<|?_
 refine XL.step R (Ag (l':= [.d (dI e.site), .d (dI e.num), .d (dI e.kind), .d (dI 0), .d (dI 0), .d (.v (.slice none 0 0)), .d (.v (.slice none 0 0)), .d (dI 0), .d (dI 0), .d (dI e.dyn), .d (.v (.slice none 0 0)), .d (dI 0), .d (dI 0)]) R R R R Dx R lb (by kernel_rfl))<|zn<|zr<|?_
 refine zp (Ae (s':= .d (.agg [dI e.site,dI e.num,dI e.kind,dI 0,dI 0, .v (.slice none 0 0), .v (.slice none 0 0),dI 0,dI 0,dI e.dyn, .v (.slice none 0 0),dI 0,dI 0])) (Ac (Ad R R A3 R lb)) (by kernel_rfl))<|?_
 refine XL.step R (Ag (l':= [.d (dI e.site), .d (dI e.num), .d (dI e.kind), .d (dI 0), .d (dI 0), .d (.v (.slice none 0 0)), .d (.v (.slice none 0 0)), .d (dI 0), .d (dI 0), .d (dI e.dyn), .d (.v (.slice none 0 0)), .d (dI 0), .d (dI 0)]) R R R R B4 R lb (by kernel_rfl))<|zn<|zt<|?_
 exact F6 R (RV.sub (RV.cells R R R A3 lb R) (.agg (.cons (.same R) (.cons (.same R) (.cons (.same R) (.cons (.same R) (.cons (.same R) (.cons (.nil 5) (.cons (.nil 5) (.cons (.same R) (.cons (.same R) (.cons (.same R) (.cons (.nil 2) (.cons (.same R) (.cons (.same R) (.nil)))))))))))))))) (by first|exact B0 (Ff (by omega) 16 (Cr (by omega) (by omega)))|exact B0 (Fe (by omega) 16 (Cr (by omega) (by omega)))|exact B0 (Ff (by omega) 0 (C8 (by omega)))|exact B0 (Fe (by omega) 0 (C8 (by omega)))|exact B0 (Kt (by omega))|exact B0 (Ku (by omega) (by omega) (by omega))|(exfalso;omega))
 refine zi<|zr<|zp (Ae (s':= .d (.agg [dI e.site,dI e.num,dI e.kind,dI e.v.log,dI e.v.dots, .v (.slice none 0 0), .v (.slice none 0 0),dI 0,dI 0,dI e.dyn, .v (.slice none 0 0),dI 0,dI 0])) (Ac (Ad R R A3 R lb)) (by kernel_rfl))<|?_
 refine XL.step R (Ag (l':= [.d (dI e.site), .d (dI e.num), .d (dI e.kind), .d (dI e.v.log), .d (dI e.v.dots), .d (.v (.slice none 0 0)), .d (.v (.slice none 0 0)), .d (dI 0), .d (dI 0), .d (dI e.dyn), .d (.v (.slice none 0 0)), .d (dI 0), .d (dI 0)]) R R R R B4 R lb (by kernel_rfl))<|zn<|zt<|?_
 exact F6 R (RV.sub (RV.cells R R R A3 lb R) (.agg (.cons (.same R) (.cons (.same R) (.cons (.same R) (.cons (.same R) (.cons (.same R) (.cons (.nil 5) (.cons (.nil 5) (.cons (.same R) (.cons (.same R) (.cons (.same R) (.cons (.nil 2) (.cons (.same R) (.cons (.same R) (.nil)))))))))))))))) (by first|exact B0 (Ff (by omega) 16 (Cr (by omega) (by omega)))|exact B0 (Fe (by omega) 16 (Cr (by omega) (by omega)))|exact B0 (Ff (by omega) 0 (C8 (by omega)))|exact B0 (Fe (by omega) 0 (C8 (by omega)))|exact B0 (Kt (by omega))|exact B0 (Ku (by omega) (by omega) (by omega))|(exfalso;omega))
 refine zk 5 R<|zq R R R<|zn<|A9 (by kernel_rfl) R<|zi<|zr<|zp (Aa R R B2)<|zp (Ab R R Ai R R)<|zp (A5 R R R)<|zn<|?_
 refine zd R (fun c32=> ?_) (fun c32=> ?_)
 refine Af (by kernel_rfl)<|zp (Ae (s':= .d (.agg [dI 0,dI 0])) (Ac (A4 R J5 Do R)) (by kernel_rfl))<|zp (Aa R R Cm)<|?_
 refine XL.step R (Ag (l':= [.d (dI e.site), .d (dI e.num), .d (dI e.kind), .d (dI 0), .d (dI 0), .d (.v (.slice none 0 0)), .d (.v (.slice none 0 0)), .d (dI 0), .d (dI 0), .d (dI e.dyn), .d (.v (.slice none 0 0)), .d (dI 0), .d (dI 0)]) R R R R Dx R lb (by kernel_rfl))<|zn<|zr<|?_
 refine zp (Ae (s':= .d (.agg [dI e.site,dI e.num,dI e.kind,dI 0,dI 0, .v (.slice none 0 0), .v (.slice none 0 0),dI 0,dI 0,dI e.dyn, .v (.slice none 0 0),dI 0,dI 0])) (Ac (Ad R R A3 R lb)) (by kernel_rfl))<|?_
 refine XL.step R (Ag (l':= [.d (dI e.site), .d (dI e.num), .d (dI e.kind), .d (dI 0), .d (dI 0), .d (.v (.slice none 0 0)), .d (.v (.slice none 0 0)), .d (dI 0), .d (dI 0), .d (dI e.dyn), .d (.v (.slice none 0 0)), .d (dI 0), .d (dI 0)]) R R R R B4 R lb (by kernel_rfl))<|zn<|zt<|?_
 exact F6 R (RV.sub (RV.cells R R R A3 lb R) (.agg (.cons (.same R) (.cons (.same R) (.cons (.same R) (.cons (.same R) (.cons (.same R) (.cons (.nil 5) (.cons (.nil 5) (.cons (.same R) (.cons (.same R) (.cons (.same R) (.cons (.nil 2) (.cons (.same R) (.cons (.same R) (.nil)))))))))))))))) (by first|exact B0 (Ff (by omega) 16 (Cr (by omega) (by omega)))|exact B0 (Fe (by omega) 16 (Cr (by omega) (by omega)))|exact B0 (Ff (by omega) 0 (C8 (by omega)))|exact B0 (Fe (by omega) 0 (C8 (by omega)))|exact B0 (Kt (by omega))|exact B0 (Ku (by omega) (by omega) (by omega))|(exfalso;omega))
 refine zi<|zr<|zp (Ae (s':= .d (.agg [dI e.site,dI e.num,dI e.kind,dI e.v.log,dI e.v.dots, .v (.slice none 0 0), .v (.slice none 0 0),dI 0,dI 0,dI e.dyn, .v (.slice none 0 0),dI 0,dI 0])) (Ac (Ad R R A3 R lb)) (by kernel_rfl))<|?_
 refine XL.step R (Ag (l':= [.d (dI e.site), .d (dI e.num), .d (dI e.kind), .d (dI e.v.log), .d (dI e.v.dots), .d (.v (.slice none 0 0)), .d (.v (.slice none 0 0)), .d (dI 0), .d (dI 0), .d (dI e.dyn), .d (.v (.slice none 0 0)), .d (dI 0), .d (dI 0)]) R R R R B4 R lb (by kernel_rfl))<|zn<|zt<|?_
 exact F6 R (RV.sub (RV.cells R R R A3 lb R) (.agg (.cons (.same R) (.cons (.same R) (.cons (.same R) (.cons (.same R) (.cons (.same R) (.cons (.nil 5) (.cons (.nil 5) (.cons (.same R) (.cons (.same R) (.cons (.same R) (.cons (.nil 2) (.cons (.same R) (.cons (.same R) (.nil)))))))))))))))) (by first|exact B0 (Ff (by omega) 16 (Cr (by omega) (by omega)))|exact B0 (Fe (by omega) 16 (Cr (by omega) (by omega)))|exact B0 (Ff (by omega) 0 (C8 (by omega)))|exact B0 (Fe (by omega) 0 (C8 (by omega)))|exact B0 (Kt (by omega))|exact B0 (Ku (by omega) (by omega) (by omega))|(exfalso;omega))
 refine zr<|zp (A5 R R R)<|za R R<|zn<|?_
 refine zd R (fun c35=> ?_) (fun c35=> ?_)
 refine zi<|zr<|zp (Ae (s':= .d (.agg [dI e.site,dI e.num,dI e.kind,dI e.v.log,dI e.v.dots, .v (.slice none 0 0), .v (.slice none 0 0),dI 0,dI 0,dI e.dyn, .v (.slice none 0 0),dI 0,dI 0])) (Ac (Ad R R A3 R lb)) (by kernel_rfl))<|?_
 refine XL.step R (Ag (l':= [.d (dI e.site), .d (dI e.num), .d (dI e.kind), .d (dI e.v.log), .d (dI e.v.dots), .d (.v (.slice none 0 0)), .d (.v (.slice none 0 0)), .d (dI 0), .d (dI 0), .d (dI e.dyn), .d (.v (.slice none 0 0)), .d (dI 0), .d (dI 0)]) R R R R B4 R lb (by kernel_rfl))<|zn<|zt<|?_
 exact F6 R (RV.sub (RV.cells R R R A3 lb R) (.agg (.cons (.same R) (.cons (.same R) (.cons (.same R) (.cons (.same R) (.cons (.same R) (.cons (.nil 5) (.cons (.nil 5) (.cons (.same R) (.cons (.same R) (.cons (.same R) (.cons (.nil 2) (.cons (.same R) (.cons (.same R) (.nil)))))))))))))))) (by first|exact B0 (Ff (by omega) 16 (Cr (by omega) (by omega)))|exact B0 (Fe (by omega) 16 (Cr (by omega) (by omega)))|exact B0 (Ff (by omega) 0 (C8 (by omega)))|exact B0 (Fe (by omega) 0 (C8 (by omega)))|exact B0 (Kt (by omega))|exact B0 (Ku (by omega) (by omega) (by omega))|(exfalso;omega))
 refine zr<|zp (Ae (s':= .d (.agg (Ev.c e))) (Ac (Ad R R A3 R lb)) (by kernel_rfl))<|?_
 refine XL.step R (Ag (l':= [.d (dI e.site), .d (dI e.num), .d (dI e.kind), .d (dI e.v.log), .d (dI e.v.dots), .d (.sl 5 (e.heads.map Hd.c)), .d (.sl 5 (e.graces.map Gr.c)), .d (dI e.art), .d (dI e.orn), .d (dI e.dyn), .d (.sl 2 (e.lyr.map Sy.c)), .d (dI e.stem), .d (dI e.beam)]) R R R R B4 R lb (by kernel_rfl))<|zn<|zt<|?_
 exact F6 R (RV.cells R R R A3 lb R) (by first|exact B0 (Ff (by omega) 16 (Cr (by omega) (by omega)))|exact B0 (Fe (by omega) 16 (Cr (by omega) (by omega)))|exact B0 (Ff (by omega) 0 (C8 (by omega)))|exact B0 (Fe (by omega) 0 (C8 (by omega)))|exact B0 (Kt (by omega))|exact B0 (Ku (by omega) (by omega) (by omega))|(exfalso;omega))
theorem Abd (a b:Ev):XC Tryz.prog 56 [.agg (Ev.c a), .agg (Ev.c b)] (fun r=>r=dB (decide (a.same b))):=by
 refine Ao Ag7 Tryz.func56 R R lb<|zr<|XL.step R (At 2 (l:= [.d (dI a.site), .d (dI a.num), .d (dI a.kind), .d (dI a.v.log), .d (dI a.v.dots), .d (.sl 5 (a.heads.map Hd.c)), .d (.sl 5 (a.graces.map Gr.c)), .d (dI a.art), .d (dI a.orn), .d (dI a.dyn), .d (.sl 2 (a.lyr.map Sy.c)), .d (dI a.stem), .d (dI a.beam)]) R R (by kernel_rfl))<|?_
 refine XL.step R (At 3 (l:= [.d (dI b.site), .d (dI b.num), .d (dI b.kind), .d (dI b.v.log), .d (dI b.v.dots), .d (.sl 5 (b.heads.map Hd.c)), .d (.sl 5 (b.graces.map Gr.c)), .d (dI b.art), .d (dI b.orn), .d (dI b.dyn), .d (.sl 2 (b.lyr.map Sy.c)), .d (dI b.stem), .d (dI b.beam)]) R R (by kernel_rfl))<|za R R<|zn<|zs<|zr<|zp (Aa R R B2)<|zp (Ab R R Ai R R)<|?_
 refine zp (Aa R R B2)<|zp (Ab R R Ai R R)<|zp (Be R R R)<|zm R R<|?_
 refine XL.dec 13 R (fun g13=> ?_) (fun g13=> ?_)
 refine zk 5 R<|zq R R R<|zm R R<|zk 5 R<|zq R R R<|zm R R<|zk 5 R<|zq R R R<|zm R R<|zk 5 R<|zq R R R<|zm R R<|zk 5 R<|zq R R R<|?_
 refine zm R R<|zk 5 R<|zq R R R<|zm R R<|zk 7 R<|zq R R R<|zm R R<|zk 7 R<|zq R R R<|zm R R<|zk 7 R<|zq R R R<|zn<|Aq (by kernel_rfl) R<|?_
 exact zr<|za R R<|zn<|zt<|z1 R R (rB (En fun h=>g13 h.1))
 refine zp (Aa R R Cm)<|zp (Ae (s':= .d (.agg (Val.c a.v))) (Ac (Ad R R Co R lb)) (by kernel_rfl))<|zp (Aa R R Cm)<|zp (Ae (s':= .d (.agg (Val.c b.v))) (Ac (Ad R R Co R lb)) (by kernel_rfl))<|zp (Apt R R R)<|zq R R R<|zm R R<|?_
 refine XL.dec 20 R (fun g20=> ?_) (fun g20=> ?_)
 refine zk 5 R<|zq R R R<|zm R R<|zk 5 R<|zq R R R<|zm R R<|zk 5 R<|zq R R R<|zm R R<|zk 5 R<|zq R R R<|zm R R<|zk 5 R<|zq R R R<|?_
 refine zm R R<|zk 7 R<|zq R R R<|zm R R<|zk 7 R<|zq R R R<|zm R R<|zk 7 R<|zq R R R<|zn<|Aq (by kernel_rfl) R<|zr<|za R R<|zn<|?_
 exact zt<|z1 R R (rB (En fun h=>g20 (by rw [h.2.1];exact ⟨rfl,rfl⟩)))
 refine zp (Aa R R Dm)<|zp (Ab R R Ai R R)<|zp (Aa R R Dm)<|zp (Ab R R Ai R R)<|zp (Be R R R)<|zq R R R<|zm R R<|?_
 refine XL.dec 27 R (fun g27=> ?_) (fun g27=> ?_)
 refine zk 5 R<|zq R R R<|zm R R<|zk 5 R<|zq R R R<|zm R R<|zk 5 R<|zq R R R<|zm R R<|zk 5 R<|zq R R R<|zm R R<|zk 7 R<|zq R R R<|?_
 exact zm R R<|zk 7 R<|zq R R R<|zm R R<|zk 7 R<|zq R R R<|zn<|Aq (by kernel_rfl) R<|zr<|za R R<|zn<|zt<|z1 R R (rB (En fun h=>g27 h.2.2.1))
 refine zp (Aa R R Hf)<|zp (Ab R R Ai R R)<|zp (Aa R R Hf)<|zp (Ab R R Ai R R)<|zp (Be R R R)<|zq R R R<|zm R R<|?_
 refine XL.dec 34 R (fun g34=> ?_) (fun g34=> ?_)
 refine zk 5 R<|zq R R R<|zm R R<|zk 5 R<|zq R R R<|zm R R<|zk 5 R<|zq R R R<|zm R R<|zk 7 R<|zq R R R<|zm R R<|zk 7 R<|zq R R R<|?_
 exact zm R R<|zk 7 R<|zq R R R<|zn<|Aq (by kernel_rfl) R<|zr<|za R R<|zn<|zt<|z1 R R (rB (En fun h=>g34 h.2.2.2.1))
 refine zp (Aa R R E9)<|zp (Ab R R Ai R R)<|zp (Aa R R E9)<|zp (Ab R R Ai R R)<|zp (Be R R R)<|zq R R R<|zm R R<|?_
 refine XL.dec 41 R (fun g41=> ?_) (fun g41=> ?_)
 refine zk 5 R<|zq R R R<|zm R R<|zk 5 R<|zq R R R<|zm R R<|zk 7 R<|zq R R R<|zm R R<|zk 7 R<|zq R R R<|zm R R<|zk 7 R<|zq R R R<|?_
 exact zn<|Aq (by kernel_rfl) R<|zr<|za R R<|zn<|zt<|z1 R R (rB (En fun h=>g41 h.2.2.2.2.1))
 refine zp (Aa R R Et)<|zp (Ab R R Ai R R)<|zp (Aa R R Et)<|zp (Ab R R Ai R R)<|zp (Be R R R)<|zq R R R<|zm R R<|?_
 refine XL.dec 48 R (fun g48=> ?_) (fun g48=> ?_)
 refine zk 5 R<|zq R R R<|zm R R<|zk 7 R<|zq R R R<|zm R R<|zk 7 R<|zq R R R<|zm R R<|zk 7 R<|zq R R R<|zn<|Aq (by kernel_rfl) R<|zr<|?_
 exact za R R<|zn<|zt<|z1 R R (rB (En fun h=>g48 h.2.2.2.2.2.1))
 refine zp (Aa R R Gh)<|zp (Ab R R Ai R R)<|zp (Aa R R Gh)<|zp (Ab R R Ai R R)<|zp (Be R R R)<|zq R R R<|zm R R<|?_
 refine XL.dec 55 R (fun g55=> ?_) (fun g55=> ?_)
 exact zk 7 R<|zq R R R<|zm R R<|zk 7 R<|zq R R R<|zm R R<|zk 7 R<|zq R R R<|zn<|Aq (by kernel_rfl) R<|zr<|za R R<|zn<|zt<|z1 R R (rB (En fun h=>g55 h.2.2.2.2.2.2.1))
 refine zp (Aa R R Bi)<|zp (Ab R R Ct R R)<|XL.len R R R Tryz.underlying48 fun hl58=>zp (Aa R R Bi)<|zp (Ab R R Ct R R)<|XL.len R R R Tryz.underlying48 fun hl61=>zp (Be R R R)<|zq R R R<|zm R R<|?_
 refine XL.dec 64 R (fun g64=> ?_) (fun g64=> ?_)
 exact zk 7 R<|zq R R R<|zm R R<|zk 7 R<|zq R R R<|zn<|Aq (by kernel_rfl) R<|zr<|za R R<|zn<|zt<|z1 R R (rB (En fun h=>g64 (by rw [h.2.2.2.2.2.2.2.1])))
 refine zp (Aa R R Fa)<|zp (Ab R R J0 R R)<|XL.len R R R Tryz.underlying57 fun hl67=>zp (Aa R R Fa)<|zp (Ab R R J0 R R)<|XL.len R R R Tryz.underlying57 fun hl70=>zp (Be R R R)<|zq R R R<|zm R R<|?_
 refine XL.dec 73 R (fun g73=> ?_) (fun g73=> ?_)
 exact zk 7 R<|zq R R R<|zn<|Aq (by kernel_rfl) R<|zr<|za R R<|zn<|zt<|z1 R R (rB (En fun h=>g73 (by rw [h.2.2.2.2.2.2.2.2.1])))
 refine zp (Aa R R E8)<|zp (Ab R R Jz R R)<|XL.len R R R Tryz.underlying58 fun hl76=>zp (Aa R R E8)<|zp (Ab R R Jz R R)<|XL.len R R R Tryz.underlying58 fun hl79=>zp (Be R R R)<|zq R R R<|zn<|?_
 refine zd R (fun c81=> ?_) (fun c81=> ?_)
 exact zr<|za R R<|zn<|zt<|z1 R R (rB (En fun h=>c81 (by rw [h.2.2.2.2.2.2.2.2.2])))
 refine zi<|zs<|zr<|za R R<|zn<|Ah<|?_
 refine Ay (α:=Nat) (fun k=>k≤a.heads.length∧∀j x y,j<k→a.heads[j]? =some x→b.heads[j]? =some y→x=y) (fun k=>mkF [(2, .ptr 2 0 0),(3, .ptr 3 0 0),(5, .d (dI k))]) (fun k=>mkH [(2, .box ((Ev.c a).map S.d)),(3, .box ((Ev.c b).map S.d))]) (fun k=>a.heads.length - k) (0) (⟨Nat.zero_le _,fun j x y h=>absurd h (Nat.not_lt_zero _)⟩) ?_ ?_ ?_
 exact fz ⟨sr,sr,sr,trivial⟩
 exact gz ⟨R,R,trivial⟩
 intro k hk0
 obtain ⟨hk,hf0⟩:=hk0
 refine zs<|zr<|zm R R<|zp (Aa R R Bi)<|zp (Ab R R Ct R R)<|XL.len R R R Tryz.underlying48 fun hl85=>zp (As R R R)<|zn<|?_
 refine zd R (fun c86=> ?_) (fun c86=> ?_)
 have hk0a:k<a.heads.length:=by omega
 obtain ⟨x,hx0⟩:=Au hk0a
 obtain ⟨y,hy0⟩:∃y,b.heads[k]? =some y:=Au (by omega)
 refine zi<|zs<|Ah<|zs<|Bm [] (by kernel_rfl) (by kernel_rfl) (by kernel_rfl) (by decide)<|yp (Aa R R Bi)<|yp (Ab R R Ct R R)<|ym R R<|yp (Am R R R Fl hx0)<|yp (Ae (s':= .d (.agg (Hd.c x))) (Av R R Kk lb) (by kernel_rfl))<|yp (Aa R R Bi)<|yp (Ab R R Ct R R)<|ym R R<|yp (Am R R R Fl (hy0))<|?_
 refine yp (Ae (s':= .d (.agg (Hd.c y))) (Av R R Kk lb) (by kernel_rfl))<|yp (Abt R R R)<|?_
 refine ChK.nil ⟨by kernel_rfl, ?_⟩
 refine zd R (fun c99=> ?_) (fun c99=> ?_)
 exact zr<|za R R<|zn<|zt<|z1 R R (rB (En fun h=>Hd.ne_of c99 (by have e:=h.2.2.2.2.2.2.2.1;rw [e] at hx0;rw [hx0] at hy0;cases hy0;rfl)))
 refine zi<|Af (by kernel_rfl)<|zm R R<|zp (Aj R R R (by omega) (by omega))<|za R R<|zn<|?_
 exact Ak (k+1) (⟨by omega,fun j x' y' hj hx' hy'=>by by_cases e:j=k;(· subst e;rw [hx0] at hx';rw [hy0] at hy';cases hx';cases hy';exact Hd.eq_of c99);(· exact hf0 j x' y' (by omega) hx' hy')⟩) (by omega) (fz ⟨sr,sr,sr,trivial⟩) (gz ⟨rfl,rfl,trivial⟩)
 have hk0b:k=a.heads.length:=by omega
 have hq0:a.heads=b.heads:=I5 (by omega) (fun j x y hj=>hf0 j x y (by omega))
 refine Ap<|zs<|zr<|za R R<|zn<|Ah<|?_
 refine Ay (α:=Nat) (fun m=>m≤a.graces.length∧∀j x y,j<m→a.graces[j]? =some x→b.graces[j]? =some y→x=y) (fun m=>mkF [(2, .ptr 2 0 0),(3, .ptr 3 0 0),(6, .d (dI m))]) (fun m=>mkH [(2, .box ((Ev.c a).map S.d)),(3, .box ((Ev.c b).map S.d))]) (fun m=>a.graces.length - m) (0) (⟨Nat.zero_le _,fun j x y h=>absurd h (Nat.not_lt_zero _)⟩) ?_ ?_ ?_
 exact fz ⟨sr,sr,sr,trivial⟩
 exact gz ⟨R,R,trivial⟩
 intro m hk2
 obtain ⟨hk,hf2⟩:=hk2
 refine zs<|zr<|zm R R<|zp (Aa R R Fa)<|zp (Ab R R J0 R R)<|XL.len R R R Tryz.underlying57 fun hl103=>zp (As R R R)<|zn<|?_
 refine zd R (fun c104=> ?_) (fun c104=> ?_)
 have hk2a:m<a.graces.length:=by omega
 obtain ⟨x,hx2⟩:=Au hk2a
 obtain ⟨y,hy2⟩:∃y,b.graces[m]? =some y:=Au (by omega)
 refine zi<|zs<|Ah<|zs<|Bm [] (by kernel_rfl) (by kernel_rfl) (by kernel_rfl) (by decide)<|yp (Aa R R Fa)<|yp (Ab R R J0 R R)<|ym R R<|yp (Am R R R Ro hx2)<|yp (Ae (s':= .d (.agg (Gr.c x))) (Av R R Ql lb) (by kernel_rfl))<|yp (Aa R R Fa)<|yp (Ab R R J0 R R)<|ym R R<|yp (Am R R R Ro (hy2))<|?_
 refine yp (Ae (s':= .d (.agg (Gr.c y))) (Av R R Ql lb) (by kernel_rfl))<|yp (Y0 R R R)<|?_
 refine ChK.nil ⟨by kernel_rfl, ?_⟩
 refine zd R (fun c117=> ?_) (fun c117=> ?_)
 exact zr<|za R R<|zn<|zt<|z1 R R (rB (En fun h=>Gr.ne_of c117 (by have e:=h.2.2.2.2.2.2.2.2.1;rw [e] at hx2;rw [hx2] at hy2;cases hy2;rfl)))
 refine zi<|Af (by kernel_rfl)<|zm R R<|zp (Aj R R R (by omega) (by omega))<|za R R<|zn<|?_
 exact Ak (m+1) (⟨by omega,fun j x' y' hj hx' hy'=>by by_cases e:j=m;(· subst e;rw [hx2] at hx';rw [hy2] at hy';cases hx';cases hy';exact Gr.eq_of c117);(· exact hf2 j x' y' (by omega) hx' hy')⟩) (by omega) (fz ⟨sr,sr,sr,trivial⟩) (gz ⟨rfl,rfl,trivial⟩)
 have hk2b:m=a.graces.length:=by omega
 have hq2:a.graces=b.graces:=I5 (by omega) (fun j x y hj=>hf2 j x y (by omega))
 refine Ap<|zs<|zr<|za R R<|zn<|Ah<|?_
 refine Ay (α:=Nat) (fun n=>n≤a.lyr.length∧∀j x y,j<n→a.lyr[j]? =some x→b.lyr[j]? =some y→x=y) (fun n=>mkF [(2, .ptr 2 0 0),(3, .ptr 3 0 0),(7, .d (dI n))]) (fun n=>mkH [(2, .box ((Ev.c a).map S.d)),(3, .box ((Ev.c b).map S.d))]) (fun n=>a.lyr.length - n) (0) (⟨Nat.zero_le _,fun j x y h=>absurd h (Nat.not_lt_zero _)⟩) ?_ ?_ ?_
 exact fz ⟨sr,sr,sr,trivial⟩
 exact gz ⟨R,R,trivial⟩
 intro n hk4
 obtain ⟨hk,hf4⟩:=hk4
 refine zs<|zr<|zm R R<|zp (Aa R R E8)<|zp (Ab R R Jz R R)<|XL.len R R R Tryz.underlying58 fun hl121=>zp (As R R R)<|zn<|?_
 refine zd R (fun c122=> ?_) (fun c122=> ?_)
 have hk4a:n<a.lyr.length:=by omega
 obtain ⟨x,hx4⟩:=Au hk4a
 obtain ⟨y,hy4⟩:∃y,b.lyr[n]? =some y:=Au (by omega)
 refine zi<|zs<|Ah<|zs<|Bm [] (by kernel_rfl) (by kernel_rfl) (by kernel_rfl) (by decide)<|yp (Aa R R E8)<|yp (Ab R R Jz R R)<|ym R R<|yp (Am R R R Pm hx4)<|yp (Ae (s':= .d (.agg (Sy.c x))) (Av R R Jy lb) (by kernel_rfl))<|yp (Aa R R E8)<|yp (Ab R R Jz R R)<|ym R R<|yp (Am R R R Pm (hy4))<|?_
 refine yp (Ae (s':= .d (.agg (Sy.c y))) (Av R R Jy lb) (by kernel_rfl))<|yp (Yz R R R)<|?_
 refine ChK.nil ⟨by kernel_rfl, ?_⟩
 refine zd R (fun c135=> ?_) (fun c135=> ?_)
 exact zr<|za R R<|zn<|zt<|z1 R R (rB (En fun h=>Sy.ne_of c135 (by have e:=h.2.2.2.2.2.2.2.2.2;rw [e] at hx4;rw [hx4] at hy4;cases hy4;rfl)))
 refine zi<|Af (by kernel_rfl)<|zm R R<|zp (Aj R R R (by omega) (by omega))<|za R R<|zn<|?_
 exact Ak (n+1) (⟨by omega,fun j x' y' hj hx' hy'=>by by_cases e:j=n;(· subst e;rw [hx4] at hx';rw [hy4] at hy';cases hx';cases hy';exact Sy.eq_of c135);(· exact hf4 j x' y' (by omega) hx' hy')⟩) (by omega) (fz ⟨sr,sr,sr,trivial⟩) (gz ⟨rfl,rfl,trivial⟩)
 have hk4b:n=a.lyr.length:=by omega
 have hq4:a.lyr=b.lyr:=I5 (by omega) (fun j x y hj=>hf4 j x y (by omega))
 exact Ap<|zr<|za R R<|zn<|zt<|z1 R R (rB (by rw [eq_comm,decide_eq_true_iff];exact ⟨Decidable.not_not.1 g13,Val.eq_of (Decidable.not_not.1 g20),Decidable.not_not.1 g27,Decidable.not_not.1 g34,Decidable.not_not.1 g41,Decidable.not_not.1 g48,Decidable.not_not.1 g55,hq0,hq2,hq4⟩))
theorem J3 {n m:Int} (h:¬(0≤n∧n≤m)):B3 n m=2:=by rw [B3,if_pos (by omega)]
theorem J2 {n m:Int} (h:0≤n∧n≤m):B3 n m=0:=by rw [B3,if_neg (by omega)]
theorem Aja {l:List Int} (h:∀x∈l,x=0∨x=2) (h2:∃x∈l,x=2):Dc l=2:=by
 induction l with
 |nil=>obtain ⟨_,h,_⟩:=h2;cases h
 |cons x l ih=>
  rw [Dc]
  rcases h x List.mem_cons_self with e|e
  ·rw [if_neg (by omega)]
   refine ih (fun y hy=>h y (List.mem_cons_of_mem _ hy)) ?_
   obtain ⟨y,hy,hy2⟩:=h2
   rcases List.mem_cons.1 hy with k|k
   ·omega
   ·exact ⟨y,k,hy2⟩
  ·rw [if_pos (by omega),e]
theorem Yf (n m:Int):B3 n m=0∨B3 n m=2:=by unfold B3;split<;>simp
theorem Av1 {e:Ev} (h:¬(0≤e.site∧e.site≤99)∨¬(0≤e.num∧e.num≤1073741824)):e.err=2:=by
 have:e.e1=2:=by
  unfold Ev.e1
  refine Aja (fun x hx=> ?_) ?_
  ·simp only [List.mem_cons,List.not_mem_nil,or_false] at hx
   rcases hx with rfl|rfl<;>exact Yf _ _
  ·rcases h with h|h
   ·exact ⟨_,by simp,J3 h⟩
   ·exact ⟨_,by simp,J3 h⟩
 rw [Ev.err,this,if_pos (by decide)]
theorem Fb {e:Ev} (h:0≤e.site∧e.site≤99) (h2:0≤e.num∧e.num≤1073741824):¬e.e1≠0:=by
 refine fun k=>k (first_zero.2 fun x hx=> ?_)
 simp only [List.mem_cons,List.not_mem_nil,or_false] at hx
 rcases hx with rfl|rfl
 ·exact J2 h
 ·exact J2 h2
def Ev.okE (e:Ev):Prop:=(0≤e.art∧e.art≤31)∧(0≤e.orn∧e.orn≤4)∧(0≤e.dyn∧e.dyn≤9)∧(0≤e.stem∧e.stem≤2)∧(0≤e.beam∧e.beam≤2)
theorem Iw {e:Ev} (h:¬e.okE):e.e3=2:=by
 unfold Ev.e3
 refine Aja (fun x hx=> ?_) ?_
 ·simp only [List.mem_cons,List.not_mem_nil,or_false] at hx
  rcases hx with rfl|rfl|rfl|rfl|rfl<;>exact Yf _ _
 ·by_cases a:0≤e.art∧e.art≤31
  ·by_cases b:0≤e.orn∧e.orn≤4
   ·by_cases c:0≤e.dyn∧e.dyn≤9
    ·by_cases d:0≤e.stem∧e.stem≤2
     ·by_cases f:0≤e.beam∧e.beam≤2
      ·exact absurd ⟨a,b,c,d,f⟩ h
      ·exact ⟨_,by simp,J3 f⟩
     ·exact ⟨_,by simp,J3 d⟩
    ·exact ⟨_,by simp,J3 c⟩
   ·exact ⟨_,by simp,J3 b⟩
  ·exact ⟨_,by simp,J3 a⟩
theorem Alj {e:Ev} (h:e.okE):e.e3=0:=by
 refine first_zero.2 fun x hx=> ?_
 simp only [List.mem_cons,List.not_mem_nil,or_false] at hx
 obtain ⟨a,b,c,d,f⟩:=h
 rcases hx with rfl|rfl|rfl|rfl|rfl
 ·exact J2 a
 ·exact J2 b
 ·exact J2 c
 ·exact J2 d
 ·exact J2 f
theorem Av0 {e:Ev} (h:C0 e.heads≠0):e.e2=C0 e.heads:=by rw [Ev.e2,Dc,if_pos h]
theorem Avz {e:Ev} (h:¬C0 e.heads≠0) (h2:Fq e.graces≠0):e.e2=Fq e.graces:=by rw [Ev.e2,Dc,if_neg h,Dc,if_pos h2]
theorem Avy {e:Ev} (h:¬C0 e.heads≠0) (h2:¬Fq e.graces≠0) (h3:H0 e.lyr≠0):e.e2=H0 e.lyr:=by rw [Ev.e2,Dc,if_neg h,Dc,if_neg h2,Dc,if_pos h3]
theorem Hq {e:Ev} (h:¬C0 e.heads≠0) (h2:¬Fq e.graces≠0) (h3:¬H0 e.lyr≠0):e.e2=0:=by rw [Ev.e2,Dc,if_neg h,Dc,if_neg h2,Dc,if_neg h3];rfl
theorem Axo {e:Ev} (h:¬e.e1≠0) (h2:1≤e.kind∧e.kind≤4) (h3:¬e.same e.strip):e.err=3:=(Arp h (fun k=>k h2) h3).symm
theorem Awz {e:Ev} (h:¬e.e1≠0) (h2:1≤e.kind∧e.kind≤4) (h3:¬ ¬e.same e.strip) (h4:e.kind≠3) (h5:¬Oq e.v):e.err=17:=(Aro h (fun k=>k h2) h3 h4 (fun k=>h5 (valOk_iff.2 k))).symm
theorem Tr {e:Ev} (h:¬e.e1≠0) (h2:1≤e.kind∧e.kind≤4) (h3:¬ ¬e.same e.strip) (h4:e.kind≠3→Oq e.v) (h5:e.kind=1) {n:Int} (h6:e.e2=n) (h7:n≠0):e.err=n:=by
 subst h6;exact (Arn h (fun k=>k h2) h3 (fun k=>k.2 (valOk_iff.1 (h4 k.1))) h5 h7).symm
theorem Fy {e:Ev} (h:¬e.e1≠0) (h2:1≤e.kind∧e.kind≤4) (h3:¬ ¬e.same e.strip) (h4:e.kind≠3→Oq e.v) (h5:e.kind=1→e.e2=0) {n:Int} (h6:e.e3=n):e.err=n:=by
 subst h6;exact (Aaj h (fun k=>k h2) h3 (fun k=>k.2 (valOk_iff.1 (h4 k.1))) (fun k=>k.2 (h5 k.1))).symm
theorem T2 (e:Ev) (he:e.art≤9223372036854775807):XC Tryz.prog 38 [.agg (Ev.c e)] (fun r=>r=dI e.err):=by
 refine Ao Ahn Tryz.func38 R R lb<|zr<|XL.step R (At 1 (l:= [.d (dI e.site), .d (dI e.num), .d (dI e.kind), .d (dI e.v.log), .d (dI e.v.dots), .d (.sl 5 (e.heads.map Hd.c)), .d (.sl 5 (e.graces.map Gr.c)), .d (dI e.art), .d (dI e.orn), .d (dI e.dyn), .d (.sl 2 (e.lyr.map Sy.c)), .d (dI e.stem), .d (dI e.beam)]) R R (by kernel_rfl))<|za R R<|zn<|zs<|zr<|zp (Aa R R Fm)<|?_
 refine zp (Aa R R Acn)<|zp (Ab R R Ai R R)<|XL.call1 R R (E2 _ _ _) R<|zp (B6 R R)<|zm R R<|?_
 refine XL.dec 11 R (fun g11=> ?_) (fun g11=> ?_)
 exact zk 5 R<|zq R R R<|zn<|Aq (by kernel_rfl) R<|zr<|za R R<|zn<|zt<|z1 R R (rI (Av1 (.inl g11)).symm)
 refine zp (Aa R R Fm)<|zp (Aa R R Acm)<|zp (Ab R R Ai R R)<|XL.call1 R R (E2 _ _ _) R<|zp (B6 R R)<|zq R R R<|zn<|?_
 refine zd R (fun c17=> ?_) (fun c17=> ?_)
 exact zr<|za R R<|zn<|zt<|z1 R R (rI (Av1 (.inr c17)).symm)
 refine zi<|zs<|zr<|zp (Aa R R B2)<|zp (Ab R R Ai R R)<|XL.call1 R R (E2 _ _ _) R<|zp (B6 R R)<|zn<|?_
 refine zd R (fun c21=> ?_) (fun c21=> ?_)
 exact zr<|za R R<|zn<|zt<|z1 R R (rI (Arq (Fb (Decidable.not_not.1 g11) (Decidable.not_not.1 c17)) c21))
 refine zi<|zs<|zs<|Bm [] (by kernel_rfl) (by kernel_rfl) (by kernel_rfl) (by decide)<|yp (Ae (s':= .d (.agg (Ev.c e))) (Ac (Ad R R A3 R lb)) (by kernel_rfl))<|yp (Ae (s':= .d (.agg (Ev.c e))) (Ac (Ad R R A3 R lb)) (by kernel_rfl))<|ChK.cons R (CStep.call R (Amt _ (by assumption)) R)<|ChK.cons R (CStep.call R (Abd _ _) R)<|?_
 refine yp (B6 R R)<|?_
 refine ChK.nil ⟨by kernel_rfl, ?_⟩
 refine zd R (fun c26=> ?_) (fun c26=> ?_)
 exact zr<|za R R<|zn<|zt<|z1 R R (rI (Axo (Fb (Decidable.not_not.1 g11) (Decidable.not_not.1 c17)) (Decidable.not_not.1 c21) c26).symm)
 refine zi<|zs<|zr<|zp (Aa R R B2)<|zp (Ab R R Ai R R)<|zp (Be R R R)<|zm R R<|?_
 refine XL.dec 30 R (fun g30=> ?_) (fun g30=> ?_)
 refine zp (Aa R R Cm)<|zp (Ae (s':= .d (.agg (Val.c e.v))) (Ac (Ad R R Co R lb)) (by kernel_rfl))<|XL.call1 R R (Aqi _) R<|zp (B6 R R)<|zq R R R<|zn<|?_
 refine zd R (fun c35=> ?_) (fun c35=> ?_)
 exact zr<|za R R<|zn<|zt<|z1 R R (rI (Awz (Fb (Decidable.not_not.1 g11) (Decidable.not_not.1 c17)) (Decidable.not_not.1 c21) c26 g30 c35).symm)
 refine zi<|zs<|zr<|zp (Aa R R B2)<|zp (Ab R R Ai R R)<|zp (A5 R R R)<|zn<|?_
 refine zd R (fun c38=> ?_) (fun c38=> ?_)
 refine zs<|zr<|zp (Aa R R Bi)<|zp (Ab R R Ct R R)<|XL.call1 R R (Ys _) R<|za R R<|znr<|zm R R<|zp (Be R R R)<|zn<|?_
 refine zd R (fun c43=> ?_) (fun c43=> ?_)
 exact zr<|zm R R<|za R R<|zn<|zt<|z1 R R (rI (Tr (Fb (Decidable.not_not.1 g11) (Decidable.not_not.1 c17)) (Decidable.not_not.1 c21) c26 (by first|exact fun _=>Decidable.not_not.1 c35|exact fun k=>absurd k g30) c38 (Av0 c43) c43).symm)
 refine zi<|zs<|zr<|zp (Aa R R Fa)<|zp (Ab R R J0 R R)<|XL.call1 R R (V9 _) R<|za R R<|znr<|zm R R<|zp (Be R R R)<|zn<|?_
 refine zd R (fun c49=> ?_) (fun c49=> ?_)
 exact zr<|zm R R<|za R R<|zn<|zt<|z1 R R (rI (Tr (Fb (Decidable.not_not.1 g11) (Decidable.not_not.1 c17)) (Decidable.not_not.1 c21) c26 (by first|exact fun _=>Decidable.not_not.1 c35|exact fun k=>absurd k g30) c38 (Avz c43 c49) c49).symm)
 refine zi<|zr<|zp (Aa R R E8)<|zp (Ab R R Jz R R)<|XL.call1 R R (V8 _) R<|za R R<|znr<|zm R R<|zp (Be R R R)<|zn<|?_
 refine zd R (fun c55=> ?_) (fun c55=> ?_)
 exact zr<|zm R R<|za R R<|zn<|zt<|z1 R R (rI (Tr (Fb (Decidable.not_not.1 g11) (Decidable.not_not.1 c17)) (Decidable.not_not.1 c21) c26 (by first|exact fun _=>Decidable.not_not.1 c35|exact fun k=>absurd k g30) c38 (Avy c43 c49 c55) c55).symm)
 refine zi<|zs<|zr<|zp (Aa R R Dm)<|zp (Ab R R Ai R R)<|XL.call1 R R (E2 _ _ _) R<|zp (B6 R R)<|zm R R<|?_
 refine XL.dec 61 R (fun g61=> ?_) (fun g61=> ?_)
 refine zk 4 R<|zq R R R<|zm R R<|zk 4 R<|zq R R R<|zm R R<|zk 4 R<|zq R R R<|zm R R<|zk 4 R<|zq R R R<|zn<|Aq (by kernel_rfl) R<|zr<|?_
 exact za R R<|zn<|zt<|z1 R R (rI (Fy (Fb (Decidable.not_not.1 g11) (Decidable.not_not.1 c17)) (Decidable.not_not.1 c21) c26 (by first|exact fun _=>Decidable.not_not.1 c35|exact fun k=>absurd k g30) (by first|exact fun _=>Hq c43 c49 c55|exact fun k=>absurd k c38) (Iw (by unfold Ev.okE;omega))).symm)
 refine zp (Aa R R Hf)<|zp (Ab R R Ai R R)<|XL.call1 R R (E2 _ _ _) R<|zp (B6 R R)<|zq R R R<|zm R R<|?_
 refine XL.dec 67 R (fun g67=> ?_) (fun g67=> ?_)
 exact zk 4 R<|zq R R R<|zm R R<|zk 4 R<|zq R R R<|zm R R<|zk 4 R<|zq R R R<|zn<|Aq (by kernel_rfl) R<|zr<|za R R<|zn<|zt<|z1 R R (rI (Fy (Fb (Decidable.not_not.1 g11) (Decidable.not_not.1 c17)) (Decidable.not_not.1 c21) c26 (by first|exact fun _=>Decidable.not_not.1 c35|exact fun k=>absurd k g30) (by first|exact fun _=>Hq c43 c49 c55|exact fun k=>absurd k c38) (Iw (by unfold Ev.okE;omega))).symm)
 refine zp (Aa R R E9)<|zp (Ab R R Ai R R)<|XL.call1 R R (E2 _ _ _) R<|zp (B6 R R)<|zq R R R<|zm R R<|?_
 refine XL.dec 73 R (fun g73=> ?_) (fun g73=> ?_)
 exact zk 4 R<|zq R R R<|zm R R<|zk 4 R<|zq R R R<|zn<|Aq (by kernel_rfl) R<|zr<|za R R<|zn<|zt<|z1 R R (rI (Fy (Fb (Decidable.not_not.1 g11) (Decidable.not_not.1 c17)) (Decidable.not_not.1 c21) c26 (by first|exact fun _=>Decidable.not_not.1 c35|exact fun k=>absurd k g30) (by first|exact fun _=>Hq c43 c49 c55|exact fun k=>absurd k c38) (Iw (by unfold Ev.okE;omega))).symm)
 refine zp (Aa R R Et)<|zp (Ab R R Ai R R)<|XL.call1 R R (E2 _ _ _) R<|zp (B6 R R)<|zq R R R<|zm R R<|?_
 refine XL.dec 79 R (fun g79=> ?_) (fun g79=> ?_)
 exact zk 4 R<|zq R R R<|zn<|Aq (by kernel_rfl) R<|zr<|za R R<|zn<|zt<|z1 R R (rI (Fy (Fb (Decidable.not_not.1 g11) (Decidable.not_not.1 c17)) (Decidable.not_not.1 c21) c26 (by first|exact fun _=>Decidable.not_not.1 c35|exact fun k=>absurd k g30) (by first|exact fun _=>Hq c43 c49 c55|exact fun k=>absurd k c38) (Iw (by unfold Ev.okE;omega))).symm)
 refine zp (Aa R R Gh)<|zp (Ab R R Ai R R)<|XL.call1 R R (E2 _ _ _) R<|zp (B6 R R)<|zq R R R<|zn<|?_
 refine zd R (fun c84=> ?_) (fun c84=> ?_)
 exact zr<|za R R<|zn<|zt<|z1 R R (rI (Fy (Fb (Decidable.not_not.1 g11) (Decidable.not_not.1 c17)) (Decidable.not_not.1 c21) c26 (by first|exact fun _=>Decidable.not_not.1 c35|exact fun k=>absurd k g30) (by first|exact fun _=>Hq c43 c49 c55|exact fun k=>absurd k c38) (Iw (by unfold Ev.okE;omega))).symm)
 exact zi<|zr<|za R R<|zn<|zt<|z1 R R (rI (Fy (Fb (Decidable.not_not.1 g11) (Decidable.not_not.1 c17)) (Decidable.not_not.1 c21) c26 (by first|exact fun _=>Decidable.not_not.1 c35|exact fun k=>absurd k g30) (by first|exact fun _=>Hq c43 c49 c55|exact fun k=>absurd k c38) (Alj (by unfold Ev.okE;omega))).symm)
 refine zi<|zs<|zr<|zp (Aa R R Dm)<|zp (Ab R R Ai R R)<|XL.call1 R R (E2 _ _ _) R<|zp (B6 R R)<|zm R R<|?_
 refine XL.dec 61 R (fun g61=> ?_) (fun g61=> ?_)
 refine zk 4 R<|zq R R R<|zm R R<|zk 4 R<|zq R R R<|zm R R<|zk 4 R<|zq R R R<|zm R R<|zk 4 R<|zq R R R<|zn<|Aq (by kernel_rfl) R<|zr<|?_
 exact za R R<|zn<|zt<|z1 R R (rI (Fy (Fb (Decidable.not_not.1 g11) (Decidable.not_not.1 c17)) (Decidable.not_not.1 c21) c26 (by first|exact fun _=>Decidable.not_not.1 c35|exact fun k=>absurd k g30) (by first|exact fun _=>Hq c43 c49 c55|exact fun k=>absurd k c38) (Iw (by unfold Ev.okE;omega))).symm)
 refine zp (Aa R R Hf)<|zp (Ab R R Ai R R)<|XL.call1 R R (E2 _ _ _) R<|zp (B6 R R)<|zq R R R<|zm R R<|?_
 refine XL.dec 67 R (fun g67=> ?_) (fun g67=> ?_)
 exact zk 4 R<|zq R R R<|zm R R<|zk 4 R<|zq R R R<|zm R R<|zk 4 R<|zq R R R<|zn<|Aq (by kernel_rfl) R<|zr<|za R R<|zn<|zt<|z1 R R (rI (Fy (Fb (Decidable.not_not.1 g11) (Decidable.not_not.1 c17)) (Decidable.not_not.1 c21) c26 (by first|exact fun _=>Decidable.not_not.1 c35|exact fun k=>absurd k g30) (by first|exact fun _=>Hq c43 c49 c55|exact fun k=>absurd k c38) (Iw (by unfold Ev.okE;omega))).symm)
 refine zp (Aa R R E9)<|zp (Ab R R Ai R R)<|XL.call1 R R (E2 _ _ _) R<|zp (B6 R R)<|zq R R R<|zm R R<|?_
 refine XL.dec 73 R (fun g73=> ?_) (fun g73=> ?_)
 exact zk 4 R<|zq R R R<|zm R R<|zk 4 R<|zq R R R<|zn<|Aq (by kernel_rfl) R<|zr<|za R R<|zn<|zt<|z1 R R (rI (Fy (Fb (Decidable.not_not.1 g11) (Decidable.not_not.1 c17)) (Decidable.not_not.1 c21) c26 (by first|exact fun _=>Decidable.not_not.1 c35|exact fun k=>absurd k g30) (by first|exact fun _=>Hq c43 c49 c55|exact fun k=>absurd k c38) (Iw (by unfold Ev.okE;omega))).symm)
 refine zp (Aa R R Et)<|zp (Ab R R Ai R R)<|XL.call1 R R (E2 _ _ _) R<|zp (B6 R R)<|zq R R R<|zm R R<|?_
 refine XL.dec 79 R (fun g79=> ?_) (fun g79=> ?_)
 exact zk 4 R<|zq R R R<|zn<|Aq (by kernel_rfl) R<|zr<|za R R<|zn<|zt<|z1 R R (rI (Fy (Fb (Decidable.not_not.1 g11) (Decidable.not_not.1 c17)) (Decidable.not_not.1 c21) c26 (by first|exact fun _=>Decidable.not_not.1 c35|exact fun k=>absurd k g30) (by first|exact fun _=>Hq c43 c49 c55|exact fun k=>absurd k c38) (Iw (by unfold Ev.okE;omega))).symm)
 refine zp (Aa R R Gh)<|zp (Ab R R Ai R R)<|XL.call1 R R (E2 _ _ _) R<|zp (B6 R R)<|zq R R R<|zn<|?_
 refine zd R (fun c84=> ?_) (fun c84=> ?_)
 exact zr<|za R R<|zn<|zt<|z1 R R (rI (Fy (Fb (Decidable.not_not.1 g11) (Decidable.not_not.1 c17)) (Decidable.not_not.1 c21) c26 (by first|exact fun _=>Decidable.not_not.1 c35|exact fun k=>absurd k g30) (by first|exact fun _=>Hq c43 c49 c55|exact fun k=>absurd k c38) (Iw (by unfold Ev.okE;omega))).symm)
 exact zi<|zr<|za R R<|zn<|zt<|z1 R R (rI (Fy (Fb (Decidable.not_not.1 g11) (Decidable.not_not.1 c17)) (Decidable.not_not.1 c21) c26 (by first|exact fun _=>Decidable.not_not.1 c35|exact fun k=>absurd k g30) (by first|exact fun _=>Hq c43 c49 c55|exact fun k=>absurd k c38) (Alj (by unfold Ev.okE;omega))).symm)
 refine zk 4 R<|zq R R R<|zn<|A9 (by kernel_rfl) R<|zi<|zs<|zr<|zp (Aa R R B2)<|zp (Ab R R Ai R R)<|zp (A5 R R R)<|zn<|?_
 refine zd R (fun c38=> ?_) (fun c38=> ?_)
 refine zs<|zr<|zp (Aa R R Bi)<|zp (Ab R R Ct R R)<|XL.call1 R R (Ys _) R<|za R R<|znr<|zm R R<|zp (Be R R R)<|zn<|?_
 refine zd R (fun c43=> ?_) (fun c43=> ?_)
 exact zr<|zm R R<|za R R<|zn<|zt<|z1 R R (rI (Tr (Fb (Decidable.not_not.1 g11) (Decidable.not_not.1 c17)) (Decidable.not_not.1 c21) c26 (by first|exact fun _=>Decidable.not_not.1 c35|exact fun k=>absurd k g30) c38 (Av0 c43) c43).symm)
 refine zi<|zs<|zr<|zp (Aa R R Fa)<|zp (Ab R R J0 R R)<|XL.call1 R R (V9 _) R<|za R R<|znr<|zm R R<|zp (Be R R R)<|zn<|?_
 refine zd R (fun c49=> ?_) (fun c49=> ?_)
 exact zr<|zm R R<|za R R<|zn<|zt<|z1 R R (rI (Tr (Fb (Decidable.not_not.1 g11) (Decidable.not_not.1 c17)) (Decidable.not_not.1 c21) c26 (by first|exact fun _=>Decidable.not_not.1 c35|exact fun k=>absurd k g30) c38 (Avz c43 c49) c49).symm)
 refine zi<|zr<|zp (Aa R R E8)<|zp (Ab R R Jz R R)<|XL.call1 R R (V8 _) R<|za R R<|znr<|zm R R<|zp (Be R R R)<|zn<|?_
 refine zd R (fun c55=> ?_) (fun c55=> ?_)
 exact zr<|zm R R<|za R R<|zn<|zt<|z1 R R (rI (Tr (Fb (Decidable.not_not.1 g11) (Decidable.not_not.1 c17)) (Decidable.not_not.1 c21) c26 (by first|exact fun _=>Decidable.not_not.1 c35|exact fun k=>absurd k g30) c38 (Avy c43 c49 c55) c55).symm)
 refine zi<|zs<|zr<|zp (Aa R R Dm)<|zp (Ab R R Ai R R)<|XL.call1 R R (E2 _ _ _) R<|zp (B6 R R)<|zm R R<|?_
 refine XL.dec 61 R (fun g61=> ?_) (fun g61=> ?_)
 refine zk 4 R<|zq R R R<|zm R R<|zk 4 R<|zq R R R<|zm R R<|zk 4 R<|zq R R R<|zm R R<|zk 4 R<|zq R R R<|zn<|Aq (by kernel_rfl) R<|zr<|?_
 exact za R R<|zn<|zt<|z1 R R (rI (Fy (Fb (Decidable.not_not.1 g11) (Decidable.not_not.1 c17)) (Decidable.not_not.1 c21) c26 (by first|exact fun _=>Decidable.not_not.1 c35|exact fun k=>absurd k g30) (by first|exact fun _=>Hq c43 c49 c55|exact fun k=>absurd k c38) (Iw (by unfold Ev.okE;omega))).symm)
 refine zp (Aa R R Hf)<|zp (Ab R R Ai R R)<|XL.call1 R R (E2 _ _ _) R<|zp (B6 R R)<|zq R R R<|zm R R<|?_
 refine XL.dec 67 R (fun g67=> ?_) (fun g67=> ?_)
 exact zk 4 R<|zq R R R<|zm R R<|zk 4 R<|zq R R R<|zm R R<|zk 4 R<|zq R R R<|zn<|Aq (by kernel_rfl) R<|zr<|za R R<|zn<|zt<|z1 R R (rI (Fy (Fb (Decidable.not_not.1 g11) (Decidable.not_not.1 c17)) (Decidable.not_not.1 c21) c26 (by first|exact fun _=>Decidable.not_not.1 c35|exact fun k=>absurd k g30) (by first|exact fun _=>Hq c43 c49 c55|exact fun k=>absurd k c38) (Iw (by unfold Ev.okE;omega))).symm)
 refine zp (Aa R R E9)<|zp (Ab R R Ai R R)<|XL.call1 R R (E2 _ _ _) R<|zp (B6 R R)<|zq R R R<|zm R R<|?_
 refine XL.dec 73 R (fun g73=> ?_) (fun g73=> ?_)
 exact zk 4 R<|zq R R R<|zm R R<|zk 4 R<|zq R R R<|zn<|Aq (by kernel_rfl) R<|zr<|za R R<|zn<|zt<|z1 R R (rI (Fy (Fb (Decidable.not_not.1 g11) (Decidable.not_not.1 c17)) (Decidable.not_not.1 c21) c26 (by first|exact fun _=>Decidable.not_not.1 c35|exact fun k=>absurd k g30) (by first|exact fun _=>Hq c43 c49 c55|exact fun k=>absurd k c38) (Iw (by unfold Ev.okE;omega))).symm)
 refine zp (Aa R R Et)<|zp (Ab R R Ai R R)<|XL.call1 R R (E2 _ _ _) R<|zp (B6 R R)<|zq R R R<|zm R R<|?_
 refine XL.dec 79 R (fun g79=> ?_) (fun g79=> ?_)
 exact zk 4 R<|zq R R R<|zn<|Aq (by kernel_rfl) R<|zr<|za R R<|zn<|zt<|z1 R R (rI (Fy (Fb (Decidable.not_not.1 g11) (Decidable.not_not.1 c17)) (Decidable.not_not.1 c21) c26 (by first|exact fun _=>Decidable.not_not.1 c35|exact fun k=>absurd k g30) (by first|exact fun _=>Hq c43 c49 c55|exact fun k=>absurd k c38) (Iw (by unfold Ev.okE;omega))).symm)
 refine zp (Aa R R Gh)<|zp (Ab R R Ai R R)<|XL.call1 R R (E2 _ _ _) R<|zp (B6 R R)<|zq R R R<|zn<|?_
 refine zd R (fun c84=> ?_) (fun c84=> ?_)
 exact zr<|za R R<|zn<|zt<|z1 R R (rI (Fy (Fb (Decidable.not_not.1 g11) (Decidable.not_not.1 c17)) (Decidable.not_not.1 c21) c26 (by first|exact fun _=>Decidable.not_not.1 c35|exact fun k=>absurd k g30) (by first|exact fun _=>Hq c43 c49 c55|exact fun k=>absurd k c38) (Iw (by unfold Ev.okE;omega))).symm)
 exact zi<|zr<|za R R<|zn<|zt<|z1 R R (rI (Fy (Fb (Decidable.not_not.1 g11) (Decidable.not_not.1 c17)) (Decidable.not_not.1 c21) c26 (by first|exact fun _=>Decidable.not_not.1 c35|exact fun k=>absurd k g30) (by first|exact fun _=>Hq c43 c49 c55|exact fun k=>absurd k c38) (Alj (by unfold Ev.okE;omega))).symm)
 refine zi<|zs<|zr<|zp (Aa R R Dm)<|zp (Ab R R Ai R R)<|XL.call1 R R (E2 _ _ _) R<|zp (B6 R R)<|zm R R<|?_
 refine XL.dec 61 R (fun g61=> ?_) (fun g61=> ?_)
 refine zk 4 R<|zq R R R<|zm R R<|zk 4 R<|zq R R R<|zm R R<|zk 4 R<|zq R R R<|zm R R<|zk 4 R<|zq R R R<|zn<|Aq (by kernel_rfl) R<|zr<|?_
 exact za R R<|zn<|zt<|z1 R R (rI (Fy (Fb (Decidable.not_not.1 g11) (Decidable.not_not.1 c17)) (Decidable.not_not.1 c21) c26 (by first|exact fun _=>Decidable.not_not.1 c35|exact fun k=>absurd k g30) (by first|exact fun _=>Hq c43 c49 c55|exact fun k=>absurd k c38) (Iw (by unfold Ev.okE;omega))).symm)
 refine zp (Aa R R Hf)<|zp (Ab R R Ai R R)<|XL.call1 R R (E2 _ _ _) R<|zp (B6 R R)<|zq R R R<|zm R R<|?_
 refine XL.dec 67 R (fun g67=> ?_) (fun g67=> ?_)
 exact zk 4 R<|zq R R R<|zm R R<|zk 4 R<|zq R R R<|zm R R<|zk 4 R<|zq R R R<|zn<|Aq (by kernel_rfl) R<|zr<|za R R<|zn<|zt<|z1 R R (rI (Fy (Fb (Decidable.not_not.1 g11) (Decidable.not_not.1 c17)) (Decidable.not_not.1 c21) c26 (by first|exact fun _=>Decidable.not_not.1 c35|exact fun k=>absurd k g30) (by first|exact fun _=>Hq c43 c49 c55|exact fun k=>absurd k c38) (Iw (by unfold Ev.okE;omega))).symm)
 refine zp (Aa R R E9)<|zp (Ab R R Ai R R)<|XL.call1 R R (E2 _ _ _) R<|zp (B6 R R)<|zq R R R<|zm R R<|?_
 refine XL.dec 73 R (fun g73=> ?_) (fun g73=> ?_)
 exact zk 4 R<|zq R R R<|zm R R<|zk 4 R<|zq R R R<|zn<|Aq (by kernel_rfl) R<|zr<|za R R<|zn<|zt<|z1 R R (rI (Fy (Fb (Decidable.not_not.1 g11) (Decidable.not_not.1 c17)) (Decidable.not_not.1 c21) c26 (by first|exact fun _=>Decidable.not_not.1 c35|exact fun k=>absurd k g30) (by first|exact fun _=>Hq c43 c49 c55|exact fun k=>absurd k c38) (Iw (by unfold Ev.okE;omega))).symm)
 refine zp (Aa R R Et)<|zp (Ab R R Ai R R)<|XL.call1 R R (E2 _ _ _) R<|zp (B6 R R)<|zq R R R<|zm R R<|?_
 refine XL.dec 79 R (fun g79=> ?_) (fun g79=> ?_)
 exact zk 4 R<|zq R R R<|zn<|Aq (by kernel_rfl) R<|zr<|za R R<|zn<|zt<|z1 R R (rI (Fy (Fb (Decidable.not_not.1 g11) (Decidable.not_not.1 c17)) (Decidable.not_not.1 c21) c26 (by first|exact fun _=>Decidable.not_not.1 c35|exact fun k=>absurd k g30) (by first|exact fun _=>Hq c43 c49 c55|exact fun k=>absurd k c38) (Iw (by unfold Ev.okE;omega))).symm)
 refine zp (Aa R R Gh)<|zp (Ab R R Ai R R)<|XL.call1 R R (E2 _ _ _) R<|zp (B6 R R)<|zq R R R<|zn<|?_
 refine zd R (fun c84=> ?_) (fun c84=> ?_)
 exact zr<|za R R<|zn<|zt<|z1 R R (rI (Fy (Fb (Decidable.not_not.1 g11) (Decidable.not_not.1 c17)) (Decidable.not_not.1 c21) c26 (by first|exact fun _=>Decidable.not_not.1 c35|exact fun k=>absurd k g30) (by first|exact fun _=>Hq c43 c49 c55|exact fun k=>absurd k c38) (Iw (by unfold Ev.okE;omega))).symm)
 exact zi<|zr<|za R R<|zn<|zt<|z1 R R (rI (Fy (Fb (Decidable.not_not.1 g11) (Decidable.not_not.1 c17)) (Decidable.not_not.1 c21) c26 (by first|exact fun _=>Decidable.not_not.1 c35|exact fun k=>absurd k g30) (by first|exact fun _=>Hq c43 c49 c55|exact fun k=>absurd k c38) (Alj (by unfold Ev.okE;omega))).symm)
end Go.Proofs.YtcihalbakenleaaGreat
namespace Go.Proofs.YtcihalbakenleaaGreat
open Go.RowKit
theorem dno {p:Prop} [Decidable p] (h:¬p):false=decide p:=(decide_eq_false h).symm
theorem Axp {p:Prop} [Decidable p] (h:p):true=decide p:=(decide_eq_true h).symm
theorem Ev.eqv_iff {a b:Ev}:a.eqv b↔a=b:=by
 constructor
 ·rintro ⟨⟨h1,h2⟩,h3,h4,h5,h6,h7,h8,h9,h10,h11,h12⟩
  obtain ⟨a1,a2,a3,a4,a5,a6,a7,a8,a9,a10,a11,a12⟩:=a
  obtain ⟨b1,b2,b3,b4,b5,b6,b7,b8,b9,b10,b11,b12⟩:=b
  simp only at h1 h2 h3 h4 h5 h6 h7 h8 h9 h10 h11 h12
  subst h1 h2 h3 h4 h5 h6 h7 h8 h9 h10 h11 h12;rfl
 ·rintro rfl
  exact ⟨⟨rfl,rfl⟩,rfl,rfl,rfl,rfl,rfl,rfl,rfl,rfl,rfl,rfl⟩
instance:DecidableEq Ev:=fun a b=>decidable_of_iff _ Ev.eqv_iff
instance:DecidableEq Vo:=fun a b=>decidable_of_iff (a.evs=b.evs∧a.tups=b.tups) ⟨fun h=>by obtain ⟨x,y⟩:=a;obtain ⟨z,t⟩:=b;obtain ⟨rfl,rfl⟩:=h;rfl,fun h=>by rw [h];exact ⟨rfl,rfl⟩⟩
theorem Vo.ext {a b:Vo} (h:a.evs=b.evs) (h2:a.tups=b.tups):a=b:=by obtain ⟨x,y⟩:=a;obtain ⟨z,t⟩:=b;simp only at h h2;subst h h2;rfl
theorem Tp.eq_of {x y:Tp} (h:¬ ¬(x.first=y.first∧x.count=y.count∧x.actual=y.actual∧x.normal=y.normal)):x=y:=by
 obtain ⟨a,b,c,d⟩:=x;obtain ⟨a',b',c',d'⟩:=y;simp only [Decidable.not_not] at h;obtain ⟨rfl,rfl,rfl,rfl⟩:=h;rfl
theorem Tp.ne_of {x y:Tp} (h:¬(x.first=y.first∧x.count=y.count∧x.actual=y.actual∧x.normal=y.normal)):x≠y:=by rintro rfl;exact h ⟨rfl,rfl,rfl,rfl⟩
def Am8 (l:List Hd):List Pit:=l.map Hd.p
theorem Ab9 (a b:Vo):XC Tryz.prog 18 [.agg (Vo.c a), .agg (Vo.c b)] (fun r=>r=dB (decide (a=b))):=by
 refine Ao Ahz Tryz.func18 R R lb<|zr<|XL.step R (At 2 (l:= [.d (.sl 13 (a.evs.map Ev.c)), .d (.sl 4 (a.tups.map Tp.c))]) R R (by kernel_rfl))<|XL.step R (At 3 (l:= [.d (.sl 13 (b.evs.map Ev.c)), .d (.sl 4 (b.tups.map Tp.c))]) R R (by kernel_rfl))<|za R R<|zn<|zs<|zr<|zp (Aa R R Ax)<|zp (Ab R R Bk R R)<|XL.len R R R Tryz.underlying22 fun hl9=>?_
 refine zp (Aa R R Ax)<|zp (Ab R R Bk R R)<|XL.len R R R Tryz.underlying22 fun hl12=>zp (Be R R R)<|zm R R<|?_
 refine XL.dec 14 R (fun g14=> ?_) (fun g14=> ?_)
 exact zk 7 R<|zq R R R<|zn<|Aq (by kernel_rfl) R<|zr<|za R R<|zn<|zt<|z1 R R (rB (dno (fun h=>g14 (by rw [h]))))
 refine zp (Aa R R Bn)<|zp (Ab R R B1 R R)<|XL.len R R R Tryz.underlying23 fun hl17=>zp (Aa R R Bn)<|zp (Ab R R B1 R R)<|XL.len R R R Tryz.underlying23 fun hl20=>zp (Be R R R)<|zq R R R<|zn<|?_
 refine zd R (fun c22=> ?_) (fun c22=> ?_)
 exact zr<|za R R<|zn<|zt<|z1 R R (rB (dno (fun h=>c22 (by rw [h]))))
 refine zi<|zs<|zr<|za R R<|zn<|Ah<|?_
 refine Ay (α:=Nat) (fun k=>k≤a.evs.length∧∀j x y,j<k→a.evs[j]? =some x→b.evs[j]? =some y→x=y) (fun k=>mkF [(2, .ptr 2 0 0),(3, .ptr 3 0 0),(5, .d (dI k))]) (fun k=>mkH [(2, .box ((Vo.c a).map S.d)),(3, .box ((Vo.c b).map S.d))]) (fun k=>a.evs.length - k) (0) (⟨Nat.zero_le _,fun j x y h=>absurd h (Nat.not_lt_zero _)⟩) ?_ ?_ ?_
 exact fz ⟨sr,sr,sr,trivial⟩
 exact gz ⟨R,R,trivial⟩
 intro k hk0
 obtain ⟨hk,hf0⟩:=hk0
 refine zs<|zr<|zm R R<|zp (Aa R R Ax)<|zp (Ab R R Bk R R)<|XL.len R R R Tryz.underlying22 fun hl26=>zp (As R R R)<|zn<|?_
 refine zd R (fun c27=> ?_) (fun c27=> ?_)
 have hk0a:k<a.evs.length:=by omega
 obtain ⟨x,hx0⟩:=Au hk0a
 obtain ⟨y,hy0⟩:∃y,b.evs[k]? =some y:=Au (by omega)
 refine zi<|zs<|Ah<|zs<|?_
 by_cases q42:¬(x.site=y.site∧x.num=y.num)
 refine Bm [] (by kernel_rfl) (by kernel_rfl) (by kernel_rfl) (by decide)<|yp (Aa R R Ax)<|yp (Ab R R Bk R R)<|ym R R<|yp (Am R R R B5 (hx0))<|yp (Bq R R Fm)<|yp (Av R R Kw lb)<|yp (Aa R R Ax)<|yp (Ab R R Bk R R)<|ym R R<|yp (Am R R R B5 (hy0))<|yp (Bq R R Fm)<|yp (Av R R Kw lb)<|?_
 refine yp (Dz (Abu R R R) (q42))<|ym R R<|ChK.skip R<|ChK.skip R<|ChK.skip R<|ChK.skip R<|ChK.skip R<|ChK.skip R<|ChK.skip R<|ChK.skip R<|ChK.skip R<|ChK.skip R<|ChK.skip R<|ChK.skip R<|?_
 refine yp (Ba R R (by conv=>lhs;whnf))<|?_
 refine ChK.nil ⟨by kernel_rfl, ?_⟩
 exact Aq (by kernel_rfl) R<|zr<|za R R<|zn<|zt<|z1 R R (rB (dno (fun h=>by subst h;rw [hx0] at hy0;cases hy0;first|exact q42 ⟨rfl,rfl⟩|exact c56 (Ev.eqv_iff.2 rfl).2)))
 refine Bm [] (by kernel_rfl) (by kernel_rfl) (by kernel_rfl) (by decide)<|yp (Aa R R Ax)<|yp (Ab R R Bk R R)<|ym R R<|yp (Am R R R B5 (hx0))<|yp (Bq R R Fm)<|yp (Av R R Kw lb)<|yp (Aa R R Ax)<|yp (Ab R R Bk R R)<|ym R R<|yp (Am R R R B5 (hy0))<|yp (Bq R R Fm)<|yp (Av R R Kw lb)<|?_
 refine yp (F7 (Abu R R R) (q42))<|ym R R<|yp (Aa R R Ax)<|yp (Ab R R Bk R R)<|ym R R<|yp (Am R R R B5 (hx0))<|yp (Ae (s':= .d (.agg (Ev.c x))) (Av R R A3 lb) (by kernel_rfl))<|yp (Aa R R Ax)<|yp (Ab R R Bk R R)<|ym R R<|yp (Am R R R B5 (hy0))<|?_
 refine yp (Ae (s':= .d (.agg (Ev.c y))) (Av R R A3 lb) (by kernel_rfl))<|ChK.cons R (CStep.call R (Abd _ _) R)<|yp (B6 R R)<|yp (Ba R R (by conv=>lhs;whnf))<|?_
 refine ChK.nil ⟨by kernel_rfl, ?_⟩
 refine zd R (fun c56=> ?_) (fun c56=> ?_)
 exact zr<|za R R<|zn<|zt<|z1 R R (rB (dno (fun h=>by subst h;rw [hx0] at hy0;cases hy0;first|exact q42 ⟨rfl,rfl⟩|exact c56 (Ev.eqv_iff.2 rfl).2)))
 refine zi<|Af (by kernel_rfl)<|zm R R<|zp (Aj R R R (by omega) (by omega))<|za R R<|zn<|?_
 exact Ak (k+1) (⟨by omega,fun j x' y' hj hx' hy'=>by by_cases e:j=k;(· subst e;rw [hx0] at hx';rw [hy0] at hy';cases hx';cases hy';exact Ev.eqv_iff.1 ⟨Decidable.not_not.1 q42,Decidable.not_not.1 c56⟩);(· exact hf0 j x' y' (by omega) hx' hy')⟩) (by omega) (fz ⟨sr,sr,sr,trivial⟩) (gz ⟨rfl,rfl,trivial⟩)
 have hk0b:k=a.evs.length:=by omega
 have hq0:a.evs=b.evs:=I5 (by omega) (fun j x y hj=>hf0 j x y (by omega))
 refine Ap<|zs<|zr<|za R R<|zn<|Ah<|?_
 refine Ay (α:=Nat) (fun m=>m≤a.tups.length∧∀j x y,j<m→a.tups[j]? =some x→b.tups[j]? =some y→x=y) (fun m=>mkF [(2, .ptr 2 0 0),(3, .ptr 3 0 0),(6, .d (dI m))]) (fun m=>mkH [(2, .box ((Vo.c a).map S.d)),(3, .box ((Vo.c b).map S.d))]) (fun m=>a.tups.length - m) (0) (⟨Nat.zero_le _,fun j x y h=>absurd h (Nat.not_lt_zero _)⟩) ?_ ?_ ?_
 exact fz ⟨sr,sr,sr,trivial⟩
 exact gz ⟨R,R,trivial⟩
 intro m hk2
 obtain ⟨hk,hf2⟩:=hk2
 refine zs<|zr<|zm R R<|zp (Aa R R Bn)<|zp (Ab R R B1 R R)<|XL.len R R R Tryz.underlying23 fun hl60=>zp (As R R R)<|zn<|?_
 refine zd R (fun c61=> ?_) (fun c61=> ?_)
 have hk2a:m<a.tups.length:=by omega
 obtain ⟨x,hx2⟩:=Au hk2a
 obtain ⟨y,hy2⟩:∃y,b.tups[m]? =some y:=Au (by omega)
 refine zi<|zs<|Ah<|zs<|Bm [] (by kernel_rfl) (by kernel_rfl) (by kernel_rfl) (by decide)<|yp (Aa R R Bn)<|yp (Ab R R B1 R R)<|ym R R<|yp (Am R R R D9 hx2)<|yp (Ae (s':= .d (.agg (Tp.c x))) (Av R R Cb lb) (by kernel_rfl))<|yp (Aa R R Bn)<|yp (Ab R R B1 R R)<|ym R R<|yp (Am R R R D9 (hy2))<|?_
 refine yp (Ae (s':= .d (.agg (Tp.c y))) (Av R R Cb lb) (by kernel_rfl))<|yp (Ana R R R)<|?_
 refine ChK.nil ⟨by kernel_rfl, ?_⟩
 refine zd R (fun c74=> ?_) (fun c74=> ?_)
 exact zr<|za R R<|zn<|zt<|z1 R R (rB (dno (fun h=>by subst h;rw [hx2] at hy2;cases hy2;exact Tp.ne_of c74 rfl)))
 refine zi<|Af (by kernel_rfl)<|zm R R<|zp (Aj R R R (by omega) (by omega))<|za R R<|zn<|?_
 exact Ak (m+1) (⟨by omega,fun j x' y' hj hx' hy'=>by by_cases e:j=m;(· subst e;rw [hx2] at hx';rw [hy2] at hy';cases hx';cases hy';exact Tp.eq_of c74);(· exact hf2 j x' y' (by omega) hx' hy')⟩) (by omega) (fz ⟨sr,sr,sr,trivial⟩) (gz ⟨rfl,rfl,trivial⟩)
 have hk2b:m=a.tups.length:=by omega
 have hq2:a.tups=b.tups:=I5 (by omega) (fun j x y hj=>hf2 j x y (by omega))
 exact Ap<|zr<|za R R<|zn<|zt<|z1 R R (rB (Axp (Vo.ext hq0 hq2)))
def Vo.few (v:Vo):Prop:=(∀e∈v.evs,e.heads.length≤12∧e.graces.length≤12∧e.lyr.length≤12)∧v.evs.length≤130∧v.tups.length≤20
instance (v:Vo):Decidable v.few:=by unfold Vo.few;exact inferInstance
theorem Vo.few.fit {v:Vo} (h:v.few):v.fit:=⟨by have:=h.2.1;omega,by have:=h.2.2;omega,fun e he=>by have:=h.1 e he;exact ⟨by omega,by omega,by omega⟩⟩
theorem At1 {v:Vo} (h:∀(j:Nat) e,j<v.evs.length→v.evs[j]? =some e→e.heads.length≤12∧e.graces.length≤12∧e.lyr.length≤12):∀e∈v.evs,e.heads.length≤12∧e.graces.length≤12∧e.lyr.length≤12:=fun e he=>by
 obtain ⟨j,hj⟩:=List.getElem?_of_mem he
 exact h j e (List.getElem?_eq_some_iff.1 hj).1 hj
theorem Avs (v:Vo):XC Tryz.prog 14 [.agg (Vo.c v)] (fun r=>r=dB (decide v.few)):=by
 refine Ao Ah3 Tryz.func14 R R lb<|zr<|XL.step R (At 1 (l:= [.d (.sl 13 (v.evs.map Ev.c)), .d (.sl 4 (v.tups.map Tp.c))]) R R (by kernel_rfl))<|za R R<|zn<|zs<|zr<|za R R<|zn<|Ah<|?_
 refine Ay (α:=Nat) (fun k=>k≤v.evs.length∧∀(j:Nat) e,j<k→v.evs[j]? =some e→e.heads.length≤12∧e.graces.length≤12∧e.lyr.length≤12) (fun k=>mkF [(1, .ptr 1 0 0),(3, .d (dI k))]) (fun k=>mkH [(1, .box ((Vo.c v).map S.d))]) (fun k=>v.evs.length - k) (0) (⟨Nat.zero_le _,fun j x h=>absurd h (Nat.not_lt_zero _)⟩) ?_ ?_ ?_
 exact fz ⟨sr,sr,trivial⟩
 exact gz ⟨R,trivial⟩
 intro k hk0
 obtain ⟨hk,hf⟩:=hk0
 refine zs<|zr<|zm R R<|zp (Aa R R Ax)<|zp (Ab R R Bk R R)<|XL.len R R R Tryz.underlying22 fun hl8=>zp (As R R R)<|zn<|?_
 refine zd R (fun c9=> ?_) (fun c9=> ?_)
 have hk0a:k<v.evs.length:=by omega
 obtain ⟨x0,hx0⟩:=Au hk0a
 refine zi<|zs<|Ah<|zr<|zp (Aa R R Ax)<|zp (Ab R R Bk R R)<|zm R R<|zp (Am R R R B5 hx0)<|zp (Ae (s':= .d (.agg (Ev.c x0))) (Av R R A3 lb) (by kernel_rfl))<|?_
 refine XL.step R (A0 4 (l:= [.d (dI 0), .d (dI 0), .d (dI 0), .d (dI 0), .d (dI 0), .d (.v (.slice none 0 0)), .d (.v (.slice none 0 0)), .d (dI 0), .d (dI 0), .d (dI 0), .d (.v (.slice none 0 0)), .d (dI 0), .d (dI 0)]) R Bw (by kernel_rfl))<|?_
 refine XL.step R (Ag (l':= [.d (dI x0.site), .d (dI x0.num), .d (dI x0.kind), .d (dI x0.v.log), .d (dI x0.v.dots), .d (.sl 5 (x0.heads.map Hd.c)), .d (.sl 5 (x0.graces.map Gr.c)), .d (dI x0.art), .d (dI x0.orn), .d (dI x0.dyn), .d (.sl 2 (x0.lyr.map Sy.c)), .d (dI x0.stem), .d (dI x0.beam)]) R R R R B4 R lb (by kernel_rfl))<|znr<|zp (Aa R R Bi)<|zp (Ab R R Ct R R)<|?_
 refine XL.len R R R Tryz.underlying48 fun hl19=>zp (Bb R R R)<|zm R R<|?_
 refine XL.dec 21 R (fun g21=> ?_) (fun g21=> ?_)
 exact zk 4 R<|zq R R R<|zm R R<|zk 4 R<|zq R R R<|zn<|Aq (by kernel_rfl) R<|zr<|za R R<|zn<|zt<|z1 R R (rB (by rw [eq_comm,decide_eq_false_iff_not];intro h;have:=h.1 x0 (List.mem_of_getElem? hx0);omega))
 refine zp (Aa R R Fa)<|zp (Ab R R J0 R R)<|XL.len R R R Tryz.underlying57 fun hl24=>zp (Bb R R R)<|zq R R R<|zm R R<|?_
 refine XL.dec 27 R (fun g27=> ?_) (fun g27=> ?_)
 exact zk 4 R<|zq R R R<|zn<|Aq (by kernel_rfl) R<|zr<|za R R<|zn<|zt<|z1 R R (rB (by rw [eq_comm,decide_eq_false_iff_not];intro h;have:=h.1 x0 (List.mem_of_getElem? hx0);omega))
 refine zp (Aa R R E8)<|zp (Ab R R Jz R R)<|XL.len R R R Tryz.underlying58 fun hl30=>zp (Bb R R R)<|zq R R R<|zn<|?_
 refine zd R (fun c32=> ?_) (fun c32=> ?_)
 exact zr<|za R R<|zn<|zt<|z1 R R (rB (by rw [eq_comm,decide_eq_false_iff_not];intro h;have:=h.1 x0 (List.mem_of_getElem? hx0);omega))
 refine zi<|Af (by kernel_rfl)<|zm R R<|zp (Aj R R R (by omega) (by omega))<|za R R<|zn<|?_
 exact Ak (k+1) (⟨by omega,fun j e hj he=>by by_cases q:j=k;(· subst q;rw [hx0] at he;cases he;omega);(· exact hf j e (by omega) he)⟩) (by omega) (fz ⟨sr,sr,trivial⟩) (gz ⟨rfl,trivial⟩)
 have hk0b:k=v.evs.length:=by omega
 have hfa:=At1 (v:=v) (fun j e hj=>hf j e (by omega))
 refine Ap<|zr<|zp (Aa R R Ax)<|zp (Ab R R Bk R R)<|XL.len R R R Tryz.underlying22 fun hl35=>zp (Fx R R R)<|zm R R<|?_
 refine XL.dec 37 R (fun g37=> ?_) (fun g37=> ?_)
 exact zp (Aa R R Bn)<|zp (Ab R R B1 R R)<|XL.len R R R Tryz.underlying23 fun hl40=>zp (Fx R R R)<|zq R R R<|za R R<|zn<|zt<|z1 R R (rB (by rw [decide_eq_decide];exact ⟨fun h=>⟨hfa,by omega,by omega⟩,fun h=>by have:=h.2.2;omega⟩))
 exact zk 4 R<|zq R R R<|za R R<|zn<|zt<|z1 R R (rB (by rw [eq_comm,decide_eq_false_iff_not];intro h;have:=h.2.1;omega))
theorem Ati:XC Tryz.prog 15 [.agg (Vo.c kV), .agg (Pl.c kP),dI 483840] (fun r=>r= .tup [.agg (Vo.c kW),dI 0]):=by
 have:=Aoq kV kP 483840 (fun e he=>by have:=List.mem_singleton.1 he;subst this;decide) (Vo.few.fit (by decide))
 rw [Avk] at this;exact this
theorem Atg:XC Tryz.prog 20 [.agg (Vo.c kW), .agg (Pl.c kP)] (fun r=>r= .tup [.agg (Vo.c kV),dI 0]):=by
 have:=Aft kW kP (fun e he=>by simp [kW] at he;rcases he with rfl|rfl|rfl<;>decide) (Vo.few.fit (by decide))
 rw [Avj] at this;exact this
theorem U8  :XC Tryz.prog 13 [] (fun r=>r=dB true):=by
 refine Ao Ah4 Tryz.func13 R R lb<|zr<|za R R<|znr<|zp (Ae (s':= .d (.agg [dI 1,dI 1])) (Ac (A4 R Auk Aru R)) (by kernel_rfl))<|zp (Ae (s':= .d (.agg [dI 0,dI 0,dI 5])) (Ac (A4 R Auj Art R)) (by kernel_rfl))<|zp (Ae (s':= .d (.agg [dI 0,dI 0,dI 5,dB false,dI 0])) (Ac (A4 R Aa0 H9 R)) (by kernel_rfl))<|?_
 refine XL.step R (Lb (l:= [kH false].map Hd.c) R Tryz.underlying48 Nf H9 (by kernel_rfl) R (by omega) (by omega))<|?_
 refine zp (Od (.agg (Ev.c (kE 1 ⟨0,0⟩ false))) (Ae (s':= .d (.agg [dI 1,dI 1,dI 1,dI 0,dI 0, .sl 5 ([kH false].map Hd.c), .v (.slice none 0 0),dI 0,dI 0,dI 0, .v (.slice none 0 0),dI 0,dI 0])) (Ac (A4 R Jp Bw R)) (by kernel_rfl)) (.agg (.cons (.same R) (.cons (.same R) (.cons (.same R) (.cons (.same R) (.cons (.same R) (.cons (.same R) (.cons (.nil 5) (.cons (.same R) (.cons (.same R) (.cons (.same R) (.cons (.nil 2) (.cons (.same R) (.cons (.same R) (.nil))))))))))))))))<|?_
 refine XL.step R (A0 1 (l:= [.d (dI 0), .d (dI 0), .d (dI 0), .d (dI 0), .d (dI 0), .d (.v (.slice none 0 0)), .d (.v (.slice none 0 0)), .d (dI 0), .d (dI 0), .d (dI 0), .d (.v (.slice none 0 0)), .d (dI 0), .d (dI 0)]) R Bw (by kernel_rfl))<|?_
 refine XL.step R (Ag (l':= [.d (dI (kE 1 ⟨0,0⟩ false).site), .d (dI (kE 1 ⟨0,0⟩ false).num), .d (dI (kE 1 ⟨0,0⟩ false).kind), .d (dI (kE 1 ⟨0,0⟩ false).v.log), .d (dI (kE 1 ⟨0,0⟩ false).v.dots), .d (.sl 5 ((kE 1 ⟨0,0⟩ false).heads.map Hd.c)), .d (.sl 5 ((kE 1 ⟨0,0⟩ false).graces.map Gr.c)), .d (dI (kE 1 ⟨0,0⟩ false).art), .d (dI (kE 1 ⟨0,0⟩ false).orn), .d (dI (kE 1 ⟨0,0⟩ false).dyn), .d (.sl 2 ((kE 1 ⟨0,0⟩ false).lyr.map Sy.c)), .d (dI (kE 1 ⟨0,0⟩ false).stem), .d (dI (kE 1 ⟨0,0⟩ false).beam)]) R R R R B4 R lb (by kernel_rfl))<|?_
 refine znr<|zp (Ae (s':= .d (.agg (Ev.c (kE 1 ⟨0,0⟩ false)))) (Ac (Ad R R A3 R lb)) (by kernel_rfl))<|XL.step R (Lb (l:= [kE 1 ⟨0,0⟩ false].map Ev.c) R Tryz.underlying22 B4 Bw (by kernel_rfl) R (by omega) (by omega))<|?_
 refine zp (Od (.agg (Vo.c kV)) (Ae (s':= .d (.agg [.sl 13 ([kE 1 ⟨0,0⟩ false].map Ev.c), .v (.slice none 0 0)])) (Ac (A4 R Br A1 R)) (by kernel_rfl)) (.agg (.cons (.same R) (.cons (.nil 4) (.nil)))))<|XL.step R (A0 2 (l:= [.d (.v (.slice none 0 0)), .d (.v (.slice none 0 0))]) R A1 (by kernel_rfl))<|?_
 refine XL.step R (Ag (l':= [.d (.sl 13 (kV.evs.map Ev.c)), .d (.sl 4 (kV.tups.map Tp.c))]) R R R R Bc R lb (by kernel_rfl))<|znr<|zp (Ae (s':= .d (.agg (Me.c kP.m))) (Ac (A4 R Aum Arv R)) (by kernel_rfl))<|zp (Ae (s':= .d (.agg (Pl.c kP))) (Ac (A4 R Aul Ah6 R)) (by kernel_rfl))<|?_
 refine XL.step R (A0 3 (l:= [.d (dI 0), .d (dI 0), .d (dI 0), .d (dI 0), .d (dI 0), .d (dI 0), .d (dI 0), .d (dI 0), .d (dI 0), .d (dI 0)]) R Ah6 (by kernel_rfl))<|?_
 refine XL.step R (Ag (l':= [.d (dI kP.m.count), .d (dI kP.m.unit), .d (dI kP.m.g0), .d (dI kP.m.g1), .d (dI kP.m.g2), .d (dI kP.m.g3), .d (dI kP.m.g4), .d (dI kP.m.g5), .d (dI kP.off), .d (dI kP.len)]) R R R R Awh R lb (by kernel_rfl))<|znr<|zp (Ae (s':= .d (.agg (Vo.c kV))) (Ac (Ad R R An R lb)) (by kernel_rfl))<|?_
 refine zp (Ae (s':= .d (.agg (Pl.c kP))) (Ac (Ad R R G7 R lb)) (by kernel_rfl))<|XL.call1 R R (Ati) R<|zm R R<|zp (A6 R R R)<|zp (A6 R R R)<|XL.step R (A0 4 (l:= [.d (.v (.slice none 0 0)), .d (.v (.slice none 0 0))]) R A1 (by kernel_rfl))<|?_
 refine XL.step R (Ag (l':= [.d (.sl 13 (kW.evs.map Ev.c)), .d (.sl 4 (kW.tups.map Tp.c))]) R R R R Bc R lb (by kernel_rfl))<|za R R<|znr<|zp (Ae (s':= .d (.agg (Vo.c kW))) (Ac (Ad R R An R lb)) (by kernel_rfl))<|zp (Ae (s':= .d (.agg (Pl.c kP))) (Ac (Ad R R G7 R lb)) (by kernel_rfl))<|XL.call1 R R (Atg) R<|zm R R<|zp (A6 R R R)<|?_
 refine zp (A6 R R R)<|XL.step R (A0 6 (l:= [.d (.v (.slice none 0 0)), .d (.v (.slice none 0 0))]) R A1 (by kernel_rfl))<|XL.step R (Ag (l':= [.d (.sl 13 (kV.evs.map Ev.c)), .d (.sl 4 (kV.tups.map Tp.c))]) R R R R Bc R lb (by kernel_rfl))<|za R R<|znr<|zm R R<|zp (Dz (A5 R R R) (R))<|zm R R<|zp (Aa R R Ax)<|zp (Ab R R Bk R R)<|?_
 refine XL.len R R R Tryz.underlying22 fun hl35=>zp (Dz (A5 R R R) (by decide))<|zq R R R<|zm R R<|zp (Aa R R Ax)<|zp (Ab R R Bk R R)<|zp (Am (k:=0) R R R B5 ((R:kW.evs[0]? =some (kE 1 ⟨2,0⟩ true))))<|zp (Bq R R Cm)<|zp (Ae (s':= .d (.agg (Val.c (kE 1 ⟨2,0⟩ true).v))) (Av R R Co lb) (by kernel_rfl))<|?_
 refine zp (Ae (s':= .d (.agg [dI 2,dI 0])) (Ac (A4 R J5 Do R)) (by kernel_rfl))<|zp (Dz (Q7 R R R) (by decide))<|zq R R R<|zm R R<|zp (Aa R R Ax)<|zp (Ab R R Bk R R)<|zp (Am (k:=2) R R R B5 ((R:kW.evs[2]? =some (kE 0 ⟨1,0⟩ false))))<|zp (Bq R R Cm)<|?_
 refine zp (Ae (s':= .d (.agg (Val.c (kE 0 ⟨1,0⟩ false).v))) (Av R R Co lb) (by kernel_rfl))<|zp (Ae (s':= .d (.agg [dI 1,dI 0])) (Ac (A4 R J5 Do R)) (by kernel_rfl))<|zp (Dz (Q7 R R R) (by decide))<|zq R R R<|zm R R<|zp (Aa R R Ax)<|zp (Ab R R Bk R R)<|?_
 refine zp (Am (k:=1) R R R B5 ((R:kW.evs[1]? =some (kE 0 ⟨2,0⟩ true))))<|zp (Bq R R Bi)<|zp (Az R R Ct)<|zp (Am (k:=0) R R R Fl ((R:(kE 0 ⟨2,0⟩ true).heads[0]? =some (kH true))))<|zp (Bq R R Dv)<|zp (Ae (s':= .d (dB true)) (Az R R Kv) (by kernel_rfl))<|zq R R R<|zm R R<|zm R R<|zp (Dz (A5 R R R) (R))<|zq R R R<|?_
 refine zm R R<|zp (Aa R R Ax)<|zp (Ab R R Bk R R)<|XL.len R R R Tryz.underlying22 fun hl73=>zp (Dz (A5 R R R) (by decide))<|zq R R R<|zm R R<|zp (Aa R R Ax)<|zp (Ab R R Bk R R)<|zp (Am (k:=0) R R R B5 ((R:kV.evs[0]? =some (kE 1 ⟨0,0⟩ false))))<|zp (Bq R R Cm)<|?_
 exact zp (Ae (s':= .d (.agg (Val.c (kE 1 ⟨0,0⟩ false).v))) (Av R R Co lb) (by kernel_rfl))<|zp (Ae (s':= .d (.agg [dI 0,dI 0])) (Ac (A4 R J5 Do R)) (by kernel_rfl))<|zp (Dz (Q7 R R R) (by decide))<|zq R R R<|za R R<|zn<|zt<|z1 R R (R)
end Go.Proofs.YtcihalbakenleaaGreat
namespace Go.Proofs.YtcihalbakenleaaGreat
open Go.RowKit
theorem Oa (t:Tp) (n:Int) (ht:t.ok):XC Tryz.prog 97 [.agg (Tp.c t), .v (.int .i64 n)] (fun r=>r=dB (decide (t.has n))):=by
 have h2t:=ht
 simp only [Tp.ok] at h2t
 refine Ao Af8 Tryz.func97 R R lb<|zr<|XL.step R (At 2 (l:= [.d (dI t.first), .d (dI t.count), .d (dI t.actual), .d (dI t.normal)]) R R (by kernel_rfl))<|za R R<|znr<|zp (Aa R R Er)<|zp (Ab R R Ai R R)<|zm R R<|zp (Fx R R R)<|zm R R<|?_
 refine XL.dec 9 R (fun g9=> ?_) (fun g9=> ?_)
 exact zm R R<|zp (Aa R R Er)<|zp (Ab R R Ai R R)<|zp (Aa R R G3)<|zp (Ab R R Ai R R)<|zp (Aj R R R (by omega) (by omega))<|zp (As R R R)<|zq R R R<|za R R<|zn<|zt<|z1 R R (rB (by rw [decide_eq_decide];unfold Tp.has;omega))
 exact zk 7 R<|zq R R R<|za R R<|zn<|zt<|z1 R R (rB (by rw [eq_comm,decide_eq_false_iff_not];unfold Tp.has;omega))
theorem Am4 (a b:Tp):XC Tryz.prog 146 [.agg (Tp.c a), .agg (Tp.c b)] (fun r=>r=dB (decide (¬b.bef a))):=by
 refine Ao Ad9 Tryz.func146 R R lb<|zr<|XL.step R (At 2 (l:= [.d (dI a.first), .d (dI a.count), .d (dI a.actual), .d (dI a.normal)]) R R (by kernel_rfl))<|XL.step R (At 3 (l:= [.d (dI b.first), .d (dI b.count), .d (dI b.actual), .d (dI b.normal)]) R R (by kernel_rfl))<|za R R<|znr<|zp (Aa R R Er)<|zp (Ab R R Ai R R)<|zp (Aa R R Er)<|?_
 refine zp (Ab R R Ai R R)<|zp (As R R R)<|zm R R<|?_
 refine XL.dec 10 R (fun g10=> ?_) (fun g10=> ?_)
 exact zk 12 R<|zq R R R<|za R R<|zn<|zt<|z1 R R (rB (by rw [eq_comm,decide_eq_true_iff];unfold Tp.bef;omega))
 refine zp (Aa R R Er)<|zp (Ab R R Ai R R)<|zp (Aa R R Er)<|zp (Ab R R Ai R R)<|zp (A5 R R R)<|zm R R<|?_
 refine XL.dec 16 R (fun g16=> ?_) (fun g16=> ?_)
 exact zp (Aa R R G3)<|zp (Ab R R Ai R R)<|zp (Aa R R G3)<|zp (Ab R R Ai R R)<|zp (Bb R R R)<|zq R R R<|zq R R R<|za R R<|zn<|zt<|z1 R R (rB (by rw [decide_eq_decide];unfold Tp.bef;omega))
 exact zk 5 R<|zq R R R<|zq R R R<|za R R<|zn<|zt<|z1 R R (rB (by rw [eq_comm,decide_eq_false_iff_not];unfold Tp.bef;omega))
def Tp.inside (a b:Tp):Prop:=b.first≤a.first∧a.e≤b.e
instance (a b:Tp):Decidable (a.inside b):=by unfold Tp.inside;exact inferInstance
theorem Wc (a b:Tp) (ha:a.ok) (hb:b.ok):XC Tryz.prog 147 [.agg (Tp.c a), .agg (Tp.c b)] (fun r=>r=dB (decide (a.inside b))):=by
 have h2a:=ha
 have h2b:=hb
 simp only [Tp.ok] at h2a
 simp only [Tp.ok] at h2b
 refine Ao Ad8 Tryz.func147 R R lb<|zr<|XL.step R (At 2 (l:= [.d (dI a.first), .d (dI a.count), .d (dI a.actual), .d (dI a.normal)]) R R (by kernel_rfl))<|XL.step R (At 3 (l:= [.d (dI b.first), .d (dI b.count), .d (dI b.actual), .d (dI b.normal)]) R R (by kernel_rfl))<|za R R<|znr<|zp (Aa R R Er)<|zp (Ab R R Ai R R)<|zp (Aa R R Er)<|?_
 refine zp (Ab R R Ai R R)<|zp (Fx R R R)<|zm R R<|?_
 refine XL.dec 10 R (fun g10=> ?_) (fun g10=> ?_)
 refine zp (Aa R R Er)<|zp (Ab R R Ai R R)<|zp (Aa R R G3)<|zp (Ab R R Ai R R)<|zp (Aj R R R (by omega) (by omega))<|zp (Aa R R Er)<|zp (Ab R R Ai R R)<|zp (Aa R R G3)<|zp (Ab R R Ai R R)<|zp (Aj R R R (by omega) (by omega))<|zp (Fx R R R)<|zq R R R<|za R R<|zn<|?_
 exact zt<|z1 R R (rB (by rw [decide_eq_decide];unfold Tp.inside Tp.e;omega))
 exact zk 11 R<|zq R R R<|za R R<|zn<|zt<|z1 R R (rB (by rw [eq_comm,decide_eq_false_iff_not];unfold Tp.inside Tp.e;omega))
theorem Akl {l:List Tp} {k:Nat} (h:k≤l.length):Ni l k=(l.take k).getLast? :=by
 cases k with
 |zero=>rfl
 |succ k=>
  rw [Fj,List.getLast?_eq_getElem?,List.length_take,Nat.min_eq_left h,Nat.add_sub_cancel,List.getElem?_take,if_pos (by omega)]
theorem Afo {l:List Tp} {k:Nat} {t:Tp} {n:Int} (h:k≤l.length) (hv:TV (l.take k) n):Iz (Ni l k) t↔¬ ∀a∈l.take k,a.bef t:=by
 rw [Akl h];exact Rt hv.ord
theorem Atr {P:List Tp} {t:Tp} {e:Int} (hb:∀a∈P,a.bef t) (he:t.has e):hits P e≤hits P t.first:=by
 unfold hits
 rw [←List.countP_eq_length_filter, ←List.countP_eq_length_filter]
 refine List.countP_mono_left fun o ho hh=> ?_
 have h7:=(hb o ho).first
 simp only [decide_eq_true_eq] at hh ⊢
 unfold Tp.has at hh he ⊢
 omega
theorem Aiz {P s:List Tp} {t o:Tp} {n e:Int} (hr:Rep P s) (hv:TV P n) (hb:∀a∈P,a.bef t) (ho:o∈P) (h1:t.has e) (h2:o.has e) (h3:¬t.inside o):D8 t (C4 t s):=
 (hr.over hv fun a ha=>(hb a ha).first).2 (.inl ⟨o,ho,by unfold Tp.has at h1 h2;unfold Tp.e;omega,by have:=(hb o ho).first;unfold Tp.inside at h3;omega⟩)
theorem Aiy {P s:List Tp} {t:Tp} {n e:Int} (hr:Rep P s) (hv:TV P n) (hb:∀a∈P,a.bef t) (h1:t.has e) (h2:3≤hits P e):D8 t (C4 t s):=
 (hr.over hv fun a ha=>(hb a ha).first).2 (.inr (Nat.le_trans h2 (Atr hb h1)))
theorem And {P s:List Tp} {t:Tp} {n:Int} (hr:Rep P s) (hv:TV P n) (hb:∀a∈P,a.bef t) (hi:t.inR n) (h:∀e:Nat,(e:Int)<n→t.has e→(∀o∈P,o.has e→t.inside o)∧hits P e≤2):¬D8 t (C4 t s):=fun k=>by
 have hi2:=hi
 unfold Tp.inR at hi2
 have hf:((t.first.toNat:Nat):Int)=t.first:=by omega
 obtain ⟨h1,h2⟩:=h t.first.toNat (by omega) (by unfold Tp.has;omega)
 rcases (hr.over hv fun a ha=>(hb a ha).first).1 k with ⟨o,ho,k1,k2⟩|k
 ·have:=h1 o ho (by have:=(hb o ho).first;unfold Tp.has;unfold Tp.e at k1;omega)
  unfold Tp.inside at this;omega
 ·rw [hf] at h2;omega
theorem Tw {P s:List Tp} {t:Tp} {n:Int} (hr:Rep P s) (hv:TV P n) (hb:∀a∈P,a.bef t) (hi:t.inR n) (ho:¬D8 t (C4 t s)):TV (P++ [t]) n∧Rep (P++ [t]) (t::C4 t s):=
 ⟨(hv.step hi hb).2 fun k=>ho ((hr.over hv fun a ha=>(hb a ha).first).2 k),hr.snoc (fun a ha=>(hb a ha).first) ho⟩
theorem Afx (l:List Tp) (n:Int):XC Tryz.prog 112 [.sl 4 (l.map Tp.c), .v (.int .i64 n)] (fun r=>r=dI (Ew l n)):=by
 refine Ao Ae6 Tryz.func112 R R lb<|zr<|za R R<|zn<|zs<|zr<|zm R R<|zp (As R R R)<|zm R R<|?_
 refine XL.dec 12 R (fun g12=> ?_) (fun g12=> ?_)
 exact zk 2 R<|zq R R R<|zn<|Aq (by kernel_rfl) R<|zr<|za R R<|zn<|zt<|z1 R R (rI (Z4 (by omega)))
 refine zm R R<|zp (Bb R R R)<|zq R R R<|zn<|?_
 refine zd R (fun c15=> ?_) (fun c15=> ?_)
 exact zr<|za R R<|zn<|zt<|z1 R R (rI (Z4 (by omega)))
 refine zi<|zs<|zr<|zm R R<|XL.len R R R Tryz.underlying98 fun hl17=>zp (Bb R R R)<|zn<|?_
 refine zd R (fun c18=> ?_) (fun c18=> ?_)
 exact zr<|za R R<|zn<|zt<|z1 R R (rI (Aq9 (by omega) (by omega) c18))
 refine zi<|zs<|zr<|za R R<|zn<|Ah<|?_
 refine Ay (α:=Nat) (fun k=>k≤l.length∧TV (l.take k) n∧Rep (l.take k) (stk l k)∧Fc n (Ni l k) (stk l k) (l.drop k)=Fc n none [] l) (fun k=>mkF [(0, .d (.sl 4 (l.map Tp.c))),(1, .d (dI n)),(5, .d (dI k))]) (fun k=>mkH []) (fun k=>l.length - k) (0) (⟨Nat.zero_le _,TV.nil n,Rep.nil,by rw [List.drop_zero];rfl⟩) ?_ ?_ ?_
 exact fz ⟨sr,sr,sr,trivial⟩
 exact HSub.nil
 intro k hk0
 obtain ⟨hk,hv,hr,hgo⟩:=hk0
 refine zs<|zr<|zm R R<|zm R R<|XL.len R R R Tryz.underlying98 fun hl21=>zp (As R R R)<|zn<|?_
 refine zd R (fun c22=> ?_) (fun c22=> ?_)
 have hk0a:k<l.length:=by omega
 obtain ⟨x0,hx0⟩:=Au hk0a
 refine zi<|zs<|Ah<|zr<|zm R R<|zm R R<|zp (Am R R R Iq hx0)<|zp (Ae (s':= .d (.agg (Tp.c x0))) (Av R R Fd lb) (by kernel_rfl))<|XL.step R (A0 6 (l:= [.d (dI 0), .d (dI 0), .d (dI 0), .d (dI 0)]) R K3 (by kernel_rfl))<|?_
 refine XL.step R (Ag (l':= [.d (dI x0.first), .d (dI x0.count), .d (dI x0.actual), .d (dI x0.normal)]) R R R R P8 R lb (by kernel_rfl))<|zn<|zs<|zr<|zp (Aa R R G3)<|zp (Ab R R Ai R R)<|zp (As R R R)<|zm R R<|?_
 refine XL.dec 32 R (fun g32=> ?_) (fun g32=> ?_)
 refine zk 4 R<|zq R R R<|zm R R<|zk 3 R<|zq R R R<|zm R R<|zk 7 R<|zq R R R<|zm R R<|zk 3 R<|zq R R R<|zm R R<|zk 3 R<|zq R R R<|?_
 refine zm R R<|zk 3 R<|zq R R R<|zm R R<|zk 3 R<|zq R R R<|zm R R<|zk 5 R<|zq R R R<|zn<|Aq (by kernel_rfl) R<|zr<|za R R<|zn<|?_
 exact zt<|z1 R R (rI (Ed (by omega) (by omega) (by omega) (by rw [←hgo,Dt hx0 (by unfold Tp.inR;omega)])))
 refine zp (Aa R R G3)<|zp (Ab R R Ai R R)<|zm R R<|zp (Bb R R R)<|zq R R R<|zm R R<|?_
 refine XL.dec 38 R (fun g38=> ?_) (fun g38=> ?_)
 refine zk 3 R<|zq R R R<|zm R R<|zk 7 R<|zq R R R<|zm R R<|zk 3 R<|zq R R R<|zm R R<|zk 3 R<|zq R R R<|zm R R<|zk 3 R<|zq R R R<|?_
 exact zm R R<|zk 3 R<|zq R R R<|zm R R<|zk 5 R<|zq R R R<|zn<|Aq (by kernel_rfl) R<|zr<|za R R<|zn<|zt<|z1 R R (rI (Ed (by omega) (by omega) (by omega) (by rw [←hgo,Dt hx0 (by unfold Tp.inR;omega)])))
 refine zp (Aa R R Er)<|zp (Ab R R Ai R R)<|zp (As R R R)<|zq R R R<|zm R R<|?_
 refine XL.dec 43 R (fun g43=> ?_) (fun g43=> ?_)
 refine zk 7 R<|zq R R R<|zm R R<|zk 3 R<|zq R R R<|zm R R<|zk 3 R<|zq R R R<|zm R R<|zk 3 R<|zq R R R<|zm R R<|zk 3 R<|zq R R R<|?_
 exact zm R R<|zk 5 R<|zq R R R<|zn<|Aq (by kernel_rfl) R<|zr<|za R R<|zn<|zt<|z1 R R (rI (Ed (by omega) (by omega) (by omega) (by rw [←hgo,Dt hx0 (by unfold Tp.inR;omega)])))
 refine zp (Aa R R Er)<|zp (Ab R R Ai R R)<|zm R R<|zp (Aa R R G3)<|zp (Ab R R Ai R R)<|zp (C9 R R R (by omega) (by omega))<|zp (Bb R R R)<|zq R R R<|zm R R<|?_
 refine XL.dec 52 R (fun g52=> ?_) (fun g52=> ?_)
 refine zk 3 R<|zq R R R<|zm R R<|zk 3 R<|zq R R R<|zm R R<|zk 3 R<|zq R R R<|zm R R<|zk 3 R<|zq R R R<|zm R R<|zk 5 R<|zq R R R<|?_
 exact zn<|Aq (by kernel_rfl) R<|zr<|za R R<|zn<|zt<|z1 R R (rI (Ed (by omega) (by omega) (by omega) (by rw [←hgo,Dt hx0 (by unfold Tp.inR;omega)])))
 refine zp (Aa R R Li)<|zp (Ab R R Ai R R)<|zp (As R R R)<|zq R R R<|zm R R<|?_
 refine XL.dec 57 R (fun g57=> ?_) (fun g57=> ?_)
 refine zk 3 R<|zq R R R<|zm R R<|zk 3 R<|zq R R R<|zm R R<|zk 3 R<|zq R R R<|zm R R<|zk 5 R<|zq R R R<|zn<|Aq (by kernel_rfl) R<|zr<|?_
 exact za R R<|zn<|zt<|z1 R R (rI (Ed (by omega) (by omega) (by omega) (by rw [←hgo,Dt hx0 (by unfold Tp.inR;omega)])))
 refine zp (Aa R R Li)<|zp (Ab R R Ai R R)<|zp (Bb R R R)<|zq R R R<|zm R R<|?_
 refine XL.dec 62 R (fun g62=> ?_) (fun g62=> ?_)
 exact zk 3 R<|zq R R R<|zm R R<|zk 3 R<|zq R R R<|zm R R<|zk 5 R<|zq R R R<|zn<|Aq (by kernel_rfl) R<|zr<|za R R<|zn<|zt<|z1 R R (rI (Ed (by omega) (by omega) (by omega) (by rw [←hgo,Dt hx0 (by unfold Tp.inR;omega)])))
 refine zp (Aa R R M2)<|zp (Ab R R Ai R R)<|zp (As R R R)<|zq R R R<|zm R R<|?_
 refine XL.dec 67 R (fun g67=> ?_) (fun g67=> ?_)
 exact zk 3 R<|zq R R R<|zm R R<|zk 5 R<|zq R R R<|zn<|Aq (by kernel_rfl) R<|zr<|za R R<|zn<|zt<|z1 R R (rI (Ed (by omega) (by omega) (by omega) (by rw [←hgo,Dt hx0 (by unfold Tp.inR;omega)])))
 refine zp (Aa R R M2)<|zp (Ab R R Ai R R)<|zp (Bb R R R)<|zq R R R<|zm R R<|?_
 refine XL.dec 72 R (fun g72=> ?_) (fun g72=> ?_)
 exact zk 5 R<|zq R R R<|zn<|Aq (by kernel_rfl) R<|zr<|za R R<|zn<|zt<|z1 R R (rI (Ed (by omega) (by omega) (by omega) (by rw [←hgo,Dt hx0 (by unfold Tp.inR;omega)])))
 refine zp (Aa R R Li)<|zp (Ab R R Ai R R)<|zp (Aa R R M2)<|zp (Ab R R Ai R R)<|zp (A5 R R R)<|zq R R R<|zn<|?_
 refine zd R (fun c78=> ?_) (fun c78=> ?_)
 exact zr<|za R R<|zn<|zt<|z1 R R (rI (Ed (by omega) (by omega) (by omega) (by rw [←hgo,Dt hx0 (by unfold Tp.inR;omega)])))
 have hin:x0.inR n:=by unfold Tp.inR;omega
 have hok:x0.ok:=hin.ok (by omega)
 refine zi<|zs<|zs<|?_
 by_cases q80:(0:Int)<(k:Int)
 obtain ⟨q,hq⟩:∃q,l[k - 1]? =some q:=Au (by omega)
 refine Bm [] (by kernel_rfl) (by kernel_rfl) (by kernel_rfl) (by decide)<|ym R R<|yp (Dz (Bb R R R) (q80))<|ym R R<|yp (Ae (s':= .d (.agg (Tp.c x0))) (Ac (Ad R R Fd R lb)) (by kernel_rfl))<|ym R R<|ym R R<|yp (C9 R R R (by omega) (by omega))<|yp (F9 R R R (by omega) Iq (hq))<|?_
 refine yp (Ae (s':= .d (.agg (Tp.c q))) (Av R R Fd lb) (by kernel_rfl))<|ChK.cons R (CStep.call R (Am4 _ _) R)<|yp (Ba R R (by conv=>lhs;whnf))<|?_
 refine ChK.nil ⟨by kernel_rfl, ?_⟩
 refine zd R (fun c89=> ?_) (fun c89=> ?_)
 exact zr<|za R R<|zn<|zt<|z1 R R (rI (Ed (by omega) (by omega) (by omega) (by rw [←hgo,Ty hx0 hin ((Ru (by omega) hq).2 (Decidable.not_not.1 fun hno=>c89 ((Ya _ _).2 hno)))])))
 have hna:¬Iz (Ni l k) x0:=fun h=>c89 (fun hbf=>(Ya _ _).1 hbf ((Ru (by omega) hq).1 h))
 have hb:=Decidable.not_not.1 (fun j=>hna ((Afo (by omega) hv).2 j))
 refine zi<|zr<|za R R<|zn<|Ah<|?_
 refine Ay (α:=Nat) (fun m=>(m:Int)≤n∧∀e:Nat,e<m→x0.has e→(∀o∈l.take k,o.has e→x0.inside o)∧hits (l.take k) e≤2) (fun m=>mkF [(0, .d (.sl 4 (l.map Tp.c))),(1, .d (dI n)),(5, .d (dI k)),(6, .ptr 6 0 0),(7, .d (dI (m:Nat)))]) (fun m=>mkH [(6, .box ((Tp.c x0).map S.d))]) (fun m=>n.toNat - m) (0) (⟨by omega,fun e h=>absurd h (Nat.not_lt_zero _)⟩) ?_ ?_ ?_
 exact fz ⟨sr,sr,sr,sr,sr,trivial⟩
 exact gz ⟨R,trivial⟩
 intro m hk2
 obtain ⟨hm,hall⟩:=hk2
 refine zs<|zr<|zm R R<|zm R R<|zp (As R R R)<|zn<|?_
 refine zd R (fun c92=> ?_) (fun c92=> ?_)
 refine zi<|zs<|Ah<|zr<|za R R<|zn<|zs<|zr<|za R R<|zn<|Ah<|?_
 refine Ay (α:=Nat) (fun j=>j≤k∧(x0.has m→∀o∈l.take j,o.has m→x0.inside o)) (fun j=>mkF [(0, .d (.sl 4 (l.map Tp.c))),(1, .d (dI n)),(5, .d (dI k)),(6, .ptr 6 0 0),(7, .d (dI (m:Nat))),(8, .d (dI (if x0.has m then (hits (l.take j) m:Int) else 0))),(9, .d (dI (j:Nat)))]) (fun j=>mkH [(6, .box ((Tp.c x0).map S.d))]) (fun j=>k - j) (0) (⟨Nat.zero_le _,fun _ o ho=>(by cases ho)⟩) ?_ ?_ ?_
 exact fz ⟨sr,sr,sr,sr,sr, .same (sI (by split<;>rfl)),sr,trivial⟩
 exact gz ⟨R,trivial⟩
 intro j hk4
 obtain ⟨hj,hall4⟩:=hk4
 refine zs<|zr<|zm R R<|zm R R<|zp (As R R R)<|zn<|?_
 refine zd R (fun c97=> ?_) (fun c97=> ?_)
 have hjk2:j<k:=by omega
 obtain ⟨y,hy⟩:∃y,l[j]? =some y:=Au (by omega)
 have hym:y∈l.take k:=List.mem_of_getElem? (by rw [List.getElem?_take,if_pos hjk2];exact hy)
 have hyok:=(hv.inR y hym).ok (by omega)
 have hhl:=Vc (l.take j) m
 have htl:(l.take j).length≤j:=List.length_take_le _ _
 refine zi<|zs<|Ah<|zs<|zr<|zp (Ae (s':= .d (.agg (Tp.c x0))) (Ac (Ad R R Fd R lb)) (by kernel_rfl))<|zm R R<|XL.call1 R R (Oa _ _ (by assumption)) R<|zp (B6 R R)<|zm R R<|?_
 refine XL.dec 104 R (fun g104=> ?_) (fun g104=> ?_)
 refine zk 7 R<|zq R R R<|zn<|Aq (by kernel_rfl) R<|Ap<|Af (by kernel_rfl)<|zm R R<|zp (Aj R R R (by omega) (by omega))<|za R R<|zn<|?_
 exact Ak (j+1) (⟨by omega,fun h=>absurd h g104⟩) (by omega) (fz ⟨sr,sr,sr,sr,sr, .same (sI (by rw [if_neg g104,if_neg g104])),sr,trivial⟩) (gz ⟨rfl,trivial⟩)
 refine zm R R<|zm R R<|zp (Am R R R Iq (hy))<|zp (Ae (s':= .d (.agg (Tp.c y))) (Av R R Fd lb) (by kernel_rfl))<|zm R R<|XL.call1 R R (Oa _ _ (by assumption)) R<|zp (B6 R R)<|zq R R R<|zn<|?_
 refine zd R (fun c112=> ?_) (fun c112=> ?_)
 refine Ap<|Af (by kernel_rfl)<|zm R R<|zp (Aj R R R (by omega) (by omega))<|za R R<|zn<|?_
 exact Ak (j+1) (⟨by omega,fun h o ho hh=>by rw [Bp hy] at ho;rcases List.mem_append.1 ho with q|q;(· exact hall4 h o q hh);(· rw [List.mem_singleton.1 q] at hh;exact absurd hh c112)⟩) (by omega) (fz ⟨sr,sr,sr,sr,sr, .same (sI (by rw [if_pos (Decidable.not_not.1 g104),if_pos (Decidable.not_not.1 g104),X0 hy c112])),sr,trivial⟩) (gz ⟨rfl,trivial⟩)
 refine zi<|zs<|?_
 have hd1:(if x0.has m then (hits (l.take j) m:Int) else 0)≤16:=by split<;>omega
 have hd0:0≤(if x0.has m then (hits (l.take j) m:Int) else 0):=by split<;>omega
 refine Af (by kernel_rfl)<|zm R R<|zp (Aj R R R (by omega) (by omega))<|za R R<|zn<|zs<|Bm [] (by kernel_rfl) (by kernel_rfl) (by kernel_rfl) (by decide)<|yp (Ae (s':= .d (.agg (Tp.c x0))) (Ac (Ad R R Fd R lb)) (by kernel_rfl))<|ym R R<|ym R R<|yp (Am R R R Iq (hy))<|yp (Ae (s':= .d (.agg (Tp.c y))) (Av R R Fd lb) (by kernel_rfl))<|?_
 refine ChK.cons R (CStep.call R (Wc _ _ (by assumption) (by assumption)) R)<|yp (B6 R R)<|?_
 refine ChK.nil ⟨by kernel_rfl, ?_⟩
 refine zd R (fun c121=> ?_) (fun c121=> ?_)
 exact zr<|za R R<|zn<|zt<|z1 R R (rI (Ed (by omega) (by omega) (by omega) (by rw [←hgo,Fh hx0 hin hna (Aiz hr hv hb hym (Decidable.not_not.1 g104) (Decidable.not_not.1 c112) c121)])))
 refine zi<|Af (by kernel_rfl)<|zm R R<|zp (Aj R R R (by omega) (by omega))<|za R R<|zn<|?_
 exact Ak (j+1) (⟨by omega,fun h o ho hh=>by rw [Bp hy] at ho;rcases List.mem_append.1 ho with q|q;(· exact hall4 h o q hh);(· rw [List.mem_singleton.1 q];exact Decidable.not_not.1 c121)⟩) (by omega) (fz ⟨sr,sr,sr,sr,sr, .same (sI (by rw [if_pos (Decidable.not_not.1 g104),if_pos (Decidable.not_not.1 g104),Vb hy (Decidable.not_not.1 c112)];rfl)),sr,trivial⟩) (gz ⟨rfl,trivial⟩)
 have hjk:j=k:=by omega
 refine Ap<|zr<|zm R R<|zp (Dr R R R)<|zn<|?_
 refine zd R (fun c123=> ?_) (fun c123=> ?_)
 exact zr<|za R R<|zn<|zt<|z1 R R (rI (Ed (by omega) (by omega) (by omega) (by rw [←hgo,Fh hx0 hin hna (by split at c123;(· rename_i hh;exact Aiy hr hv hb hh (by rw [←hjk];omega));(· omega))])))
 refine zi<|Af (by kernel_rfl)<|zm R R<|zp (Aj R R R (by omega) (by omega))<|za R R<|zn<|?_
 exact Ak (m+1) (⟨by omega,fun e he hh=>by by_cases q:e=m;(· subst q;rw [if_pos hh] at c123;exact ⟨fun o ho=>hall4 hh o (by rw [hjk];exact ho),by rw [←hjk];omega⟩);(· exact hall e (by omega) hh)⟩) (by omega) (fz ⟨sr,sr,sr,sr,sr,trivial⟩) (gz ⟨rfl,trivial⟩)
 have hov:=And hr hv hb hin (fun e he=>hall e (by omega))
 refine Ap<|Af (by kernel_rfl)<|zm R R<|zp (Aj R R R (by omega) (by omega))<|za R R<|zn<|?_
 exact Ak (k+1) (⟨by omega,by rw [Bp hx0];exact (Tw hr hv hb hin hov).1,by rw [Bp hx0,Cd hx0];exact (Tw hr hv hb hin hov).2,by rw [Fj,hx0,Cd hx0, ←Gv hx0 hin hna hov];exact hgo⟩) (by omega) (fz ⟨sr,sr,sr,trivial⟩) (HSub.nil)
 have hna:=Xf (l:=l) (t:=x0) q80
 have hb:=Decidable.not_not.1 (fun j=>hna ((Afo (by omega) hv).2 j))
 refine Bm [] (by kernel_rfl) (by kernel_rfl) (by kernel_rfl) (by decide)<|ym R R<|yp (F7 (Bb R R R) (q80))<|ym R R<|ChK.skip R<|ChK.skip R<|ChK.skip R<|ChK.skip R<|ChK.skip R<|ChK.skip R<|ChK.skip R<|yp (Ba R R (by conv=>lhs;whnf))<|?_
 refine ChK.nil ⟨by kernel_rfl, ?_⟩
 refine A9 (by kernel_rfl) R<|zi<|zr<|za R R<|zn<|Ah<|?_
 refine Ay (α:=Nat) (fun m=>(m:Int)≤n∧∀e:Nat,e<m→x0.has e→(∀o∈l.take k,o.has e→x0.inside o)∧hits (l.take k) e≤2) (fun m=>mkF [(0, .d (.sl 4 (l.map Tp.c))),(1, .d (dI n)),(5, .d (dI k)),(6, .ptr 6 0 0),(7, .d (dI (m:Nat)))]) (fun m=>mkH [(6, .box ((Tp.c x0).map S.d))]) (fun m=>n.toNat - m) (0) (⟨by omega,fun e h=>absurd h (Nat.not_lt_zero _)⟩) ?_ ?_ ?_
 exact fz ⟨sr,sr,sr,sr,sr,trivial⟩
 exact gz ⟨R,trivial⟩
 intro m hk2
 obtain ⟨hm,hall⟩:=hk2
 refine zs<|zr<|zm R R<|zm R R<|zp (As R R R)<|zn<|?_
 refine zd R (fun c92=> ?_) (fun c92=> ?_)
 refine zi<|zs<|Ah<|zr<|za R R<|zn<|zs<|zr<|za R R<|zn<|Ah<|?_
 refine Ay (α:=Nat) (fun j=>j≤k∧(x0.has m→∀o∈l.take j,o.has m→x0.inside o)) (fun j=>mkF [(0, .d (.sl 4 (l.map Tp.c))),(1, .d (dI n)),(5, .d (dI k)),(6, .ptr 6 0 0),(7, .d (dI (m:Nat))),(8, .d (dI (if x0.has m then (hits (l.take j) m:Int) else 0))),(9, .d (dI (j:Nat)))]) (fun j=>mkH [(6, .box ((Tp.c x0).map S.d))]) (fun j=>k - j) (0) (⟨Nat.zero_le _,fun _ o ho=>(by cases ho)⟩) ?_ ?_ ?_
 exact fz ⟨sr,sr,sr,sr,sr, .same (sI (by split<;>rfl)),sr,trivial⟩
 exact gz ⟨R,trivial⟩
 intro j hk4
 obtain ⟨hj,hall4⟩:=hk4
 refine zs<|zr<|zm R R<|zm R R<|zp (As R R R)<|zn<|?_
 refine zd R (fun c97=> ?_) (fun c97=> ?_)
 have hjk2:j<k:=by omega
 obtain ⟨y,hy⟩:∃y,l[j]? =some y:=Au (by omega)
 have hym:y∈l.take k:=List.mem_of_getElem? (by rw [List.getElem?_take,if_pos hjk2];exact hy)
 have hyok:=(hv.inR y hym).ok (by omega)
 have hhl:=Vc (l.take j) m
 have htl:(l.take j).length≤j:=List.length_take_le _ _
 refine zi<|zs<|Ah<|zs<|zr<|zp (Ae (s':= .d (.agg (Tp.c x0))) (Ac (Ad R R Fd R lb)) (by kernel_rfl))<|zm R R<|XL.call1 R R (Oa _ _ (by assumption)) R<|zp (B6 R R)<|zm R R<|?_
 refine XL.dec 104 R (fun g104=> ?_) (fun g104=> ?_)
 refine zk 7 R<|zq R R R<|zn<|Aq (by kernel_rfl) R<|Ap<|Af (by kernel_rfl)<|zm R R<|zp (Aj R R R (by omega) (by omega))<|za R R<|zn<|?_
 exact Ak (j+1) (⟨by omega,fun h=>absurd h g104⟩) (by omega) (fz ⟨sr,sr,sr,sr,sr, .same (sI (by rw [if_neg g104,if_neg g104])),sr,trivial⟩) (gz ⟨rfl,trivial⟩)
 refine zm R R<|zm R R<|zp (Am R R R Iq (hy))<|zp (Ae (s':= .d (.agg (Tp.c y))) (Av R R Fd lb) (by kernel_rfl))<|zm R R<|XL.call1 R R (Oa _ _ (by assumption)) R<|zp (B6 R R)<|zq R R R<|zn<|?_
 refine zd R (fun c112=> ?_) (fun c112=> ?_)
 refine Ap<|Af (by kernel_rfl)<|zm R R<|zp (Aj R R R (by omega) (by omega))<|za R R<|zn<|?_
 exact Ak (j+1) (⟨by omega,fun h o ho hh=>by rw [Bp hy] at ho;rcases List.mem_append.1 ho with q|q;(· exact hall4 h o q hh);(· rw [List.mem_singleton.1 q] at hh;exact absurd hh c112)⟩) (by omega) (fz ⟨sr,sr,sr,sr,sr, .same (sI (by rw [if_pos (Decidable.not_not.1 g104),if_pos (Decidable.not_not.1 g104),X0 hy c112])),sr,trivial⟩) (gz ⟨rfl,trivial⟩)
 refine zi<|zs<|?_
 have hd1:(if x0.has m then (hits (l.take j) m:Int) else 0)≤16:=by split<;>omega
 have hd0:0≤(if x0.has m then (hits (l.take j) m:Int) else 0):=by split<;>omega
 refine Af (by kernel_rfl)<|zm R R<|zp (Aj R R R (by omega) (by omega))<|za R R<|zn<|zs<|Bm [] (by kernel_rfl) (by kernel_rfl) (by kernel_rfl) (by decide)<|yp (Ae (s':= .d (.agg (Tp.c x0))) (Ac (Ad R R Fd R lb)) (by kernel_rfl))<|ym R R<|ym R R<|yp (Am R R R Iq (hy))<|yp (Ae (s':= .d (.agg (Tp.c y))) (Av R R Fd lb) (by kernel_rfl))<|?_
 refine ChK.cons R (CStep.call R (Wc _ _ (by assumption) (by assumption)) R)<|yp (B6 R R)<|?_
 refine ChK.nil ⟨by kernel_rfl, ?_⟩
 refine zd R (fun c121=> ?_) (fun c121=> ?_)
 exact zr<|za R R<|zn<|zt<|z1 R R (rI (Ed (by omega) (by omega) (by omega) (by rw [←hgo,Fh hx0 hin hna (Aiz hr hv hb hym (Decidable.not_not.1 g104) (Decidable.not_not.1 c112) c121)])))
 refine zi<|Af (by kernel_rfl)<|zm R R<|zp (Aj R R R (by omega) (by omega))<|za R R<|zn<|?_
 exact Ak (j+1) (⟨by omega,fun h o ho hh=>by rw [Bp hy] at ho;rcases List.mem_append.1 ho with q|q;(· exact hall4 h o q hh);(· rw [List.mem_singleton.1 q];exact Decidable.not_not.1 c121)⟩) (by omega) (fz ⟨sr,sr,sr,sr,sr, .same (sI (by rw [if_pos (Decidable.not_not.1 g104),if_pos (Decidable.not_not.1 g104),Vb hy (Decidable.not_not.1 c112)];rfl)),sr,trivial⟩) (gz ⟨rfl,trivial⟩)
 have hjk:j=k:=by omega
 refine Ap<|zr<|zm R R<|zp (Dr R R R)<|zn<|?_
 refine zd R (fun c123=> ?_) (fun c123=> ?_)
 exact zr<|za R R<|zn<|zt<|z1 R R (rI (Ed (by omega) (by omega) (by omega) (by rw [←hgo,Fh hx0 hin hna (by split at c123;(· rename_i hh;exact Aiy hr hv hb hh (by rw [←hjk];omega));(· omega))])))
 refine zi<|Af (by kernel_rfl)<|zm R R<|zp (Aj R R R (by omega) (by omega))<|za R R<|zn<|?_
 exact Ak (m+1) (⟨by omega,fun e he hh=>by by_cases q:e=m;(· subst q;rw [if_pos hh] at c123;exact ⟨fun o ho=>hall4 hh o (by rw [hjk];exact ho),by rw [←hjk];omega⟩);(· exact hall e (by omega) hh)⟩) (by omega) (fz ⟨sr,sr,sr,sr,sr,trivial⟩) (gz ⟨rfl,trivial⟩)
 have hov:=And hr hv hb hin (fun e he=>hall e (by omega))
 refine Ap<|Af (by kernel_rfl)<|zm R R<|zp (Aj R R R (by omega) (by omega))<|za R R<|zn<|?_
 exact Ak (k+1) (⟨by omega,by rw [Bp hx0];exact (Tw hr hv hb hin hov).1,by rw [Bp hx0,Cd hx0];exact (Tw hr hv hb hin hov).2,by rw [Fj,hx0,Cd hx0, ←Gv hx0 hin hna hov];exact hgo⟩) (by omega) (fz ⟨sr,sr,sr,trivial⟩) (HSub.nil)
 have hk0b:k=l.length:=by omega
 have hz:Fc n none [] l=0:=by rw [←hgo,hk0b,List.drop_length];rfl
 exact Ap<|zr<|za R R<|zn<|zt<|z1 R R (rI (Ed (by omega) (by omega) (by omega) hz.symm))
end Go.Proofs.YtcihalbakenleaaGreat
namespace Go.Proofs.YtcihalbakenleaaGreat
open Go.RowKit
theorem Au8 {p:Prop} [Decidable p] (h:(!decide p)=true):¬p:=by simpa using h
theorem Au9 {p:Prop} [Decidable p] (h:(!decide p)=false):¬ ¬p:=by simpa using h
def Nu (n:Int) (p:Int × Int) (t:Tp):Int × Int:=if t.has n then (p.1*t.normal,p.2*t.actual) else p
def Fz (l:List Tp) (n w:Int):Int × Int:=l.foldl (Nu n) (w,1)
theorem O1 (l:List Tp) (t:Tp) (n w:Int):Fz (l++ [t]) n w=Nu n (Fz l n w) t:=by unfold Fz;rw [List.foldl_append];rfl
theorem U0 {l:List Tp} {k:Nat} {t:Tp} {n w:Int} (h:l[k]? =some t) (ht:t.has n):Fz (l.take (k+1)) n w=((Fz (l.take k) n w).1*t.normal,(Fz (l.take k) n w).2*t.actual):=by rw [Bp h,O1,Nu,if_pos ht]
theorem Yt {l:List Tp} {k:Nat} {t:Tp} {n w:Int} (h:l[k]? =some t) (ht:¬t.has n):Fz (l.take (k+1)) n w=Fz (l.take k) n w:=by rw [Bp h,O1,Nu,if_neg ht]
theorem Asx (l:List Tp) (n w:Int) (hw:0≤w):(∀t∈l,t.ok)→0≤(Fz l n w).1∧(Fz l n w).1≤w*32 ^ hits l n∧1≤(Fz l n w).2∧(Fz l n w).2≤32 ^ hits l n:=by
 refine L6 (p:=fun l=>(∀t∈l,t.ok)→0≤(Fz l n w).1∧(Fz l n w).1≤w*32 ^ hits l n∧1≤(Fz l n w).2∧(Fz l n w).2≤32 ^ hits l n) (fun _=>by simp [Fz,hits];omega) (fun l t ih hl=> ?_) l
 obtain ⟨h1,h2,h3,h4⟩:=ih (fun t ht=>hl t (List.mem_append_left _ ht))
 obtain ⟨_,_,_,_,q1,q2,q3,q4⟩:=hl t (List.mem_append_right _ (List.mem_singleton.2 rfl))
 rw [O1,I3,Nu]
 by_cases h:t.has n
 ·rw [if_pos h,if_pos h,Int.pow_succ, ←Int.mul_assoc]
  exact ⟨Int.mul_nonneg h1 (by omega),Int.mul_le_mul h2 q4 (by omega) (by omega),Int.le_trans h3 (Mg (by omega) q1),Int.mul_le_mul h4 q2 (by omega) (by omega)⟩
 ·rw [if_neg h,if_neg h];exact ⟨h1,h2,h3,h4⟩
theorem Awm {k:Nat} (h:k≤3):(32:Int) ^ k≤32768:=by
 match k,h with
 |0,_=>decide
 |1,_=>decide
 |2,_=>decide
 |3,_=>decide
 |k+4,h=>omega
theorem Am2 {l:List Tp} {n w:Int} (hw:0≤w) (hw2:w≤7741440) (hl:∀t∈l,t.ok) (h:hits l n≤3):0≤(Fz l n w).1∧(Fz l n w).1≤253671505920∧1≤(Fz l n w).2∧(Fz l n w).2≤32768:=by
 obtain ⟨h1,h2,h3,h4⟩:=Asx l n w hw hl
 have e:=Awm h
 have e2:w*32 ^ hits l n≤7741440*32768:=Int.mul_le_mul hw2 e (by omega) (by omega)
 omega
theorem Asv (l:List Tp) (n w:Int):(∀t∈l,t.ok)→∃g:Int,0<g∧Fz l n w=(w*(Bf l n).1*g,(Bf l n).2*g):=by
 refine L6 (p:=fun l=>(∀t∈l,t.ok)→∃g:Int,0<g∧Fz l n w=(w*(Bf l n).1*g,(Bf l n).2*g)) (fun _=>⟨1,by decide,by simp [Fz,Bf]⟩) (fun l t ih hl=> ?_) l
 have hl':∀t∈l,t.ok:=fun t ht=>hl t (List.mem_append_left _ ht)
 obtain ⟨g,hg,e⟩:=ih hl'
 obtain ⟨_,_,_,_,q1,q2,q3,q4⟩:=hl t (List.mem_append_right _ (List.mem_singleton.2 rfl))
 rw [O1,Nh,Nu,Gm]
 by_cases h:t.has n
 ·rw [if_pos h,if_pos h,e]
  have hb:=Se l n hl'
  have e1:1≤(Bf l n).1*t.normal:=Int.le_trans hb.1 (Mg (by omega) q3)
  have e2:1≤(Bf l n).2*t.actual:=Int.le_trans hb.2.2.1 (Mg (by omega) q1)
  have hd:=(No e1 e2).2.2.1
  have d1:=Int.mul_ediv_cancel' (Int.gcd_dvd_left ((Bf l n).1*t.normal) ((Bf l n).2*t.actual))
  have d2:=Int.mul_ediv_cancel' (Int.gcd_dvd_right ((Bf l n).1*t.normal) ((Bf l n).2*t.actual))
  generalize (Int.gcd ((Bf l n).1*t.normal) ((Bf l n).2*t.actual):Int)=d at*
  refine ⟨g*d,Int.mul_pos hg (by omega), ?_⟩
  have f1:w*((Bf l n).1*t.normal / d)*(g*d)=w*g*(d*((Bf l n).1*t.normal / d)):=by ac_rfl
  have f2:((Bf l n).2*t.actual / d)*(g*d)=g*(d*((Bf l n).2*t.actual / d)):=by ac_rfl
  refine Prod.ext ?_ ?_
  ·show w*(Bf l n).1*g*t.normal=w*((Bf l n).1*t.normal / d)*(g*d)
   rw [f1,d1];ac_rfl
  ·show (Bf l n).2*g*t.actual=((Bf l n).2*t.actual / d)*(g*d)
   rw [f2,d2];ac_rfl
 ·rw [if_neg h,if_neg h];exact ⟨g,hg,e⟩
theorem Asw {l:List Tp} {n w:Int} (hl:∀t∈l,t.ok):(Fz l n w).1 / (Fz l n w).2=w*(Bf l n).1 / (Bf l n).2∧((Fz l n w).1 % (Fz l n w).2=0↔w*(Bf l n).1 % (Bf l n).2=0):=by
 obtain ⟨g,hg,e⟩:=Asv l n w hl
 rw [e]
 refine ⟨Int.mul_ediv_mul_of_pos_left _ _ hg, ?_⟩
 show w*(Bf l n).1*g % ((Bf l n).2*g)=0↔_
 rw [←Int.dvd_iff_emod_eq_zero, ←Int.dvd_iff_emod_eq_zero]
 exact Int.mul_dvd_mul_iff_right (by omega)
theorem Yv (l:List Tp) (f:Nat) (n w:Int) (hf:f≤l.length) (hl:∀t∈l.drop f,t.ok) (hh:hits (l.drop f) n≤3) (hw:0≤w) (hw2:w≤7741440) (hlen:l.length≤16):XC Tryz.prog 113 [.sl 4 (l.map Tp.c), .v (.int .i64 (f:Nat)), .v (.int .i64 n), .v (.int .i64 w)] (fun r=>r= .tup [dI (w*(Bf (l.drop f) n).1 / (Bf (l.drop f) n).2),dB (decide (w*(Bf (l.drop f) n).1 % (Bf (l.drop f) n).2=0))]):=by
 have hdl:(l.drop f).length=l.length - f:=List.length_drop
 refine Ao Ae5 Tryz.func113 R R lb<|zr<|za R R<|za R R<|znr<|zm R R<|za R R<|za R R<|zn<|zs<|zr<|zm R R<|za R R<|zn<|?_
 refine Ah<|?_
 refine Ay (α:=Nat) (fun j=>j≤(l.drop f).length) (fun j=>mkF [(0, .d (.sl 4 (l.map Tp.c))),(2, .d (dI n)),(8, .d (dI 0)),(9, .d (dB false)),(10, .d (dI (Fz ((l.drop f).take j) n w).1)),(11, .d (dI (Fz ((l.drop f).take j) n w).2)),(12, .d (dI (f+j:Nat)))]) (fun j=>mkH []) (fun j=>(l.drop f).length - j) (0) (Nat.zero_le _) ?_ ?_ ?_
 exact fz ⟨sr,sr,sr,sr,sr,sr,sr,trivial⟩
 exact HSub.nil
 intro j hk0
 refine zs<|zr<|zm R R<|zm R R<|XL.len R R R Tryz.underlying98 fun hl17=>zp (As R R R)<|zn<|?_
 refine zd R (fun c18=> ?_) (fun c18=> ?_)
 have hjl:j<(l.drop f).length:=by omega
 obtain ⟨y,hy⟩:=Au hjl
 have hly:l[f+j]? =some y:=by rw [←List.getElem?_drop];exact hy
 have hok:y.ok:=hl y (List.mem_of_getElem? hy)
 have hb:=Am2 (n:=n) hw hw2 (Xq hl (j+1)) (Nat.le_trans (Pf _ (j+1) n) hh)
 refine zi<|zs<|Ah<|zr<|zm R R<|zm R R<|zp (Am R R R Iq (hly))<|zp (Ae (s':= .d (.agg (Tp.c y))) (Av R R Fd lb) (by kernel_rfl))<|zm R R<|XL.call1 R R (Oa _ _ (by assumption)) R<|zn<|?_
 refine zd R (fun c26=> ?_) (fun c26=> ?_)
 rw [U0 hy c26] at hb
 simp only at hb
 refine Bm [] (by kernel_rfl) (by kernel_rfl) (by kernel_rfl) (by decide)<|ym R R<|ym R R<|ym R R<|yp (Am R R R Iq (hly))<|yp (Bq R R M2)<|yp (Az R R Ai)<|yp (H7 R R R (by omega) (by omega))<|ym R R<|ym R R<|ym R R<|yp (Am R R R Iq (hly))<|yp (Bq R R Li)<|yp (Az R R Ai)<|?_
 refine yp (H7 R R R (by omega) (by omega))<|ya R R<|ya R R<|?_
 refine ChK.nil ⟨by kernel_rfl, ?_⟩
 refine Af (by kernel_rfl)<|zm R R<|zp (Aj R R R (by omega) (by omega))<|za R R<|zn<|?_
 exact Ak (j+1) (by omega) (by omega) (fz ⟨sr,sr,sr,sr, .same (sI (by rw [U0 hy c26])), .same (sI (by rw [U0 hy c26])), .same (sI (by omega)),trivial⟩) (HSub.nil)
 refine zi<|Af (by kernel_rfl)<|zm R R<|zp (Aj R R R (by omega) (by omega))<|za R R<|zn<|?_
 exact Ak (j+1) (by omega) (by omega) (fz ⟨sr,sr,sr,sr, .same (sI (by rw [Yt hy c26])), .same (sI (by rw [Yt hy c26])), .same (sI (by omega)),trivial⟩) (HSub.nil)
 have ht:(l.drop f).take j=l.drop f:=List.take_of_length_le (by omega)
 rw [ht]
 have hb:=Am2 (n:=n) hw hw2 hl hh
 have hd:=Asw (n:=n) (w:=w) hl
 refine Ap<|zs<|Bm [] (by kernel_rfl) (by kernel_rfl) (by kernel_rfl) (by decide)<|ym R R<|ym R R<|yp (Gy R R R (by omega) (by omega) (by omega))<|ym R R<|ym R R<|yp (D1 R R R (by omega) (by omega))<|yp (A5 R R R)<|ya R R<|ya R R<|?_
 refine ChK.nil ⟨by kernel_rfl, ?_⟩
 refine zt<|?_
 exact Bh R (RV.tmp R R) (RV.tmp R R) (r2 (rI hd.1) (rB (by rw [decide_eq_decide];exact hd.2)))
theorem Akb (l:List Tp) (n w:Int) (hl:∀t∈l,t.ok) (hh:hits l n≤3) (hw:0≤w) (hw2:w≤7741440) (hlen:l.length≤16):XC Tryz.prog 113 [.sl 4 (l.map Tp.c),dI 0,dI n,dI w] (fun r=>r= .tup [dI (w*(Bf l n).1 / (Bf l n).2),dB (decide (w*(Bf l n).1 % (Bf l n).2=0))]):=by
 have:=Yv l 0 n w (Nat.zero_le _) hl hh hw hw2 hlen
 rw [List.drop_zero] at this;exact this
theorem V3 {l:List Tp} {n w:Int} (hw:0≤w) (hw2:w≤7741440) (h:¬w*(Bf l n).1 % (Bf l n).2=0):El l n w=16:=(Xm (by omega) (by omega) h).2.symm
theorem Ao6 {l:List Tp} {n w:Int} (hw:0≤w) (hw2:w≤7741440) (h:¬ ¬w*(Bf l n).1 % (Bf l n).2=0):El l n w=0∧Ek l n w=w*(Bf l n).1 / (Bf l n).2:=⟨(Ta (by omega) (by omega) h).2.symm,(Ta (by omega) (by omega) h).1.symm⟩
theorem Kz (l:List Tp) (ws:List Int):XC Tryz.prog 73 [.sl 4 (l.map Tp.c), .sl 1 (B8 ws)] (fun r=>r= .tup [.sl 1 (B8 (Id l ws)),dI (C1 l ws)]):=by
 refine Ao Agu Tryz.func73 R R lb<|zr<|za R R<|za R R<|zn<|zs<|zr<|zm R R<|zm R R<|XL.len R R R Tryz.underlying64 fun hl13=>XL.call1 R R (Afx _ _) R<|za R R<|znr<|zm R R<|?_
 refine zp (Be R R R)<|zn<|?_
 refine zd R (fun c16=> ?_) (fun c16=> ?_)
 refine zr<|zm R R<|za R R<|za R R<|zn<|zt<|?_
 exact Bh R (RV.nil (sz:=1) R R) (RV.tmp R R) (r2 (rSl (Vx c16).1) (rI (Vx c16).2))
 refine zi<|zs<|?_
 have hT:=S6 c16
 have hbd:=hT.bd
 have hlen:=hT.len
 refine Af (by kernel_rfl)<|za R R<|zn<|zs<|zr<|za R R<|zn<|Ah<|Di 900 7 3 1 R<|?_
 refine Ay (α:=Nat) (fun k=>k≤ws.length∧I9 l k (ws.drop k)=I9 l 0 ws) (fun k=>mkF [(0, .d (.sl 4 (l.map Tp.c))),(1, .d (.sl 1 (B8 ws))),(7, .own 900),(8, .d (dI k))]) (fun k=>mkH [(900, .row 3 1 ((Dg l 0 (ws.take k)).map iv))]) (fun k=>ws.length - k) (0) (⟨Nat.zero_le _,by rw [List.drop_zero]⟩) ?_ ?_ ?_
 exact fz ⟨sr,sr,sr,sr,trivial⟩
 exact gz ⟨R,trivial⟩
 intro k hk0
 obtain ⟨hk,hgo⟩:=hk0
 refine zs<|zr<|zm R R<|zm R R<|XL.len R R R Tryz.underlying64 fun hl20=>zp (As R R R)<|zn<|?_
 refine zd R (fun c21=> ?_) (fun c21=> ?_)
 have hk0a:k<ws.length:=by omega
 obtain ⟨x0,hx0⟩:=Au hk0a
 have hll:(Dg l 0 (ws.take k)).length=k:=by rw [Jh,List.length_take];omega
 refine zi<|zs<|Ah<|zs<|zr<|zm R R<|zm R R<|zp (Am R R R C5 hx0)<|zp (Az R R Ai)<|zp (As R R R)<|zm R R<|?_
 refine XL.dec 29 R (fun g29=> ?_) (fun g29=> ?_)
 refine zk 5 R<|zq R R R<|zn<|Aq (by kernel_rfl) R<|zr<|za R R<|za R R<|zn<|zt<|?_
 exact Bh R (RV.nil (sz:=1) R R) (RV.tmp R R) (r2 (rSl (Mv c16 (e:=2) (by rw [←hgo,J8 hx0 (by rw [←(Ia (l:=l) (n:=k) (w:=x0) (.inl g29)).2];decide), ←(Ia (l:=l) (n:=k) (w:=x0) (.inl g29)).2]) (by decide)).1) (rI (Mv c16 (e:=2) (by rw [←hgo,J8 hx0 (by rw [←(Ia (l:=l) (n:=k) (w:=x0) (.inl g29)).2];decide), ←(Ia (l:=l) (n:=k) (w:=x0) (.inl g29)).2]) (by decide)).2))
 refine zm R R<|zm R R<|zp (Am R R R C5 hx0)<|zp (Az R R Ai)<|zp (Bb R R R)<|zq R R R<|zn<|?_
 refine zd R (fun c35=> ?_) (fun c35=> ?_)
 refine zr<|za R R<|za R R<|zn<|zt<|?_
 exact Bh R (RV.nil (sz:=1) R R) (RV.tmp R R) (r2 (rSl (Mv c16 (e:=2) (by rw [←hgo,J8 hx0 (by rw [←(Ia (l:=l) (n:=k) (w:=x0) (.inr c35)).2];decide), ←(Ia (l:=l) (n:=k) (w:=x0) (.inr c35)).2]) (by decide)).1) (rI (Mv c16 (e:=2) (by rw [←hgo,J8 hx0 (by rw [←(Ia (l:=l) (n:=k) (w:=x0) (.inr c35)).2];decide), ←(Ia (l:=l) (n:=k) (w:=x0) (.inr c35)).2]) (by decide)).2))
 refine zi<|zs<|?_
 have hh:=hT.hits k
 refine Af (by kernel_rfl)<|zm R R<|zm R R<|zm R R<|zm R R<|zp (Am R R R C5 hx0)<|zp (Az R R Ai)<|XL.call1 R R (Akb l k x0 hT.ok hh (by omega) (by omega) hlen) R<|zm R R<|zp (A6 R R R)<|zp (A6 R R R)<|za R R<|za R R<|zn<|?_
 refine zs<|zr<|zm R R<|zp (Dd R R)<|zn<|?_
 refine Dw (by kernel_rfl) R (fun c47=> ?_) (fun c47=> ?_)
 have c47:=Au8 c47
 refine zr<|za R R<|za R R<|zn<|zt<|?_
 exact Bh R (RV.nil (sz:=1) R R) (RV.tmp R R) (r2 (rSl (Mv c16 (e:=16) (by rw [←hgo,J8 hx0 (by rw [V3 (by omega) (by omega) c47];decide),V3 (by omega) (by omega) c47]) (by decide)).1) (rI (Mv c16 (e:=16) (by rw [←hgo,J8 hx0 (by rw [V3 (by omega) (by omega) c47];decide),V3 (by omega) (by omega) c47]) (by decide)).2))
 have c47:=Au9 c47
 refine zi<|Af (by kernel_rfl)<|zp (Aw R (by conv=>lhs;whnf))<|?_
 refine zm R R<|XL.step R (Bj 50 R Tryz.underlying64 Cs Eu R R (by omega) (by omega))<|XL.step R (A7 R H3 (.own R) (Src.own R) (by unfold maxLen;simp;omega) (by simp;omega))<|zp (Ar R (by conv=>lhs;whnf))<|?_
 refine zn<|Af (by kernel_rfl)<|zm R R<|zp (Aj R R R (by omega) (by omega))<|za R R<|zn<|?_
 exact Ak (k+1) (⟨by omega,by rw [←Yp hx0 (by rw [(Ao6 (by omega) (by omega) c47).1];decide)];exact hgo⟩) (by omega) (fz ⟨sr,sr,sr,sr,trivial⟩) (gz ⟨Ea (by rw [←(Ao6 (l:=l) (n:=k) (by omega) (by omega) c47).2];rfl) (T6 hx0),trivial⟩)
 have hk0b:k=ws.length:=by omega
 have hz:I9 l 0 ws=0:=by rw [←hgo,hk0b,List.drop_length];rfl
 have ht:ws.take k=ws:=by rw [hk0b,List.take_length]
 refine Ap<|zr<|zp (Aw R (by conv=>lhs;whnf))<|?_
 refine zp (Ar R (by conv=>lhs;whnf))<|?_
 refine za R R<|zn<|zt<|Bg (i:=900) R<|?_
 exact Bh R (RV.tmp R R) (RV.tmp R R) (r2 (rSl (by rw [ht];exact (Vw c16 hz).1)) (rI (Vw c16 hz).2))
theorem Aq2 {f c e:Nat} (h:¬(f≤e∧e<f+c)):min (e+1 - f) c=min (e - f) c:=by omega
theorem Sv {f c e:Nat} (h:f≤e∧e<f+c):min (e - f) c=e - f∧min (e+1 - f) c=e - f+1:=by omega
theorem Aph (l:List Tp) (i:Nat) (t:Tp) (ws:List Int) (ht:l[i]? =some t) (hT:Tups l ws.length) (hws:∀w∈ws,0≤w∧w≤7741440):XC Tryz.prog 98 [.sl 4 (l.map Tp.c), .v (.int .i64 i), .sl 1 (B8 ws)] (fun r=>r= .tup [dI ((Fv (l.drop (i+1)) t ws).getD 0),dB (Fv (l.drop (i+1)) t ws).isSome]):=by
 have hin:=hT.inR t (List.mem_of_getElem? ht)
 have hok:=hT.ok t (List.mem_of_getElem? ht)
 have hbd:=hT.bd
 have hlen:=hT.len
 have hil:=(List.getElem?_eq_some_iff.1 ht).1
 have hin2:=hin
 simp only [Tp.inR] at hin2
 obtain ⟨f,hf⟩:∃f:Nat,t.first=f:=⟨t.first.toNat,by omega⟩
 obtain ⟨c,hc⟩:∃c:Nat,t.count=c:=⟨t.count.toNat,by omega⟩
 have hf2:t.first.toNat=f:=by omega
 have hc2:t.count.toNat=c:=by omega
 have hsl:(Gk t ws).length=c:=by rw [Gk,List.length_take,List.length_drop];omega
 have hoks:=Ai1 hT.ok (i+1)
 have hhs:∀e,hits (l.drop (i+1)) e≤3:=fun e=>Nat.le_trans (Zm _ _ e) (hT.hits e)
 refine Ao Af7 Tryz.func98 R R lb<|zr<|za R R<|za R R<|znr<|za R R<|zn<|zs<|zr<|za R R<|zn<|Ah<|?_
 refine Ay (α:=Nat × Int) (fun p=>p.1≤ws.length∧F2 (l.drop (i+1)) (f+min (p.1 - f) c) ((Gk t ws).drop (min (p.1 - f) c)) p.2=F2 (l.drop (i+1)) f (Gk t ws) 0∧0≤p.2∧p.2≤(p.1:Int)*253671505920) (fun p=>mkF [(0, .d (.sl 4 (l.map Tp.c))),(1, .d (dI i)),(2, .d (.sl 1 (B8 ws))),(8, .d (dI p.2)),(9, .d (dI (p.1:Nat)))]) (fun p=>mkH []) (fun p=>ws.length - p.1) ((0,0)) (⟨Nat.zero_le _,by rw [Nat.zero_sub,Nat.zero_min,List.drop_zero];rfl,Int.le_refl _,by simp⟩) ?_ ?_ ?_
 exact fz ⟨sr,sr,sr,sr,sr,trivial⟩
 exact HSub.nil
 intro p hk0
 obtain ⟨hk,hgo,hs0,hs1⟩:=hk0
 refine zs<|zr<|zm R R<|zm R R<|XL.len R R R Tryz.underlying64 fun hl16=>zp (As R R R)<|zn<|?_
 refine zd R (fun c17=> ?_) (fun c17=> ?_)
 have hpl:p.1<ws.length:=by omega
 obtain ⟨w,hw⟩:∃w,ws[p.1]? =some w:=Au hpl
 have hwb:=hws w (List.mem_of_getElem? hw)
 have hh:=hhs (p.1:Nat)
 have hsb:=Uu (n:=((p.1:Nat):Int)) (w:=w) hoks hh
 have hdl:(l.drop (i+1)).length=l.length - (i+1):=List.length_drop
 refine zi<|zs<|Ah<|zs<|zr<|zm R R<|zm R R<|zp (Am R R R Iq (ht))<|zp (Ae (s':= .d (.agg (Tp.c t))) (Av R R Fd lb) (by kernel_rfl))<|zm R R<|XL.call1 R R (Oa _ _ (by assumption)) R<|zp (B6 R R)<|zn<|?_
 refine zd R (fun c26=> ?_) (fun c26=> ?_)
 refine Ap<|Af (by kernel_rfl)<|zm R R<|zp (Aj R R R (by omega) (by omega))<|za R R<|zn<|?_
 exact Ak ((p.1+1,p.2)) (⟨by simp only;omega,by rw [Aq2 (fun h=>c26 (by unfold Tp.has;omega))];exact hgo,hs0,by simp only;omega⟩) (by simp only;omega) (fz ⟨sr,sr,sr,sr,sr,trivial⟩) (HSub.nil)
 refine zi<|zs<|?_
 have hhas:f≤p.1∧p.1<f+c:=by have:=Decidable.not_not.1 c26;unfold Tp.has at this;omega
 refine Af (by kernel_rfl)<|zm R R<|zm R R<|zp (Ae (s':= .d (dI (i+1:Nat))) (Aj R R R (by omega) (by omega)) (sI (by omega)))<|zm R R<|zm R R<|zm R R<|zp (Am R R R C5 (hw))<|zp (Az R R Ai)<|XL.call1 R R (Yv l (i+1) (p.1:Nat) w (by omega) hoks hh hwb.1 hwb.2 hlen) R<|zm R R<|zp (A6 R R R)<|zp (A6 R R R)<|za R R<|?_
 refine za R R<|zn<|zs<|zr<|zm R R<|zp (Dd R R)<|zn<|?_
 refine Dw (by kernel_rfl) R (fun c40=> ?_) (fun c40=> ?_)
 have c40:=Au8 c40
 refine zr<|za R R<|za R R<|zn<|zt<|?_
 exact Bh R (RV.tmp R R) (RV.tmp R R) (Rb (Vt (by rw [hf2, ←hgo,(Sv hhas).1,show f+(p.1 - f)=p.1 by omega];exact Vu (w:=w) (by rw [Xl (by omega),hf2,show f+(p.1 - f)=p.1 by omega];exact hw) (by rw [V3 hwb.1 hwb.2 c40];decide))))
 have c40:=Au9 c40
 have hE0:=Ao6 hwb.1 hwb.2 c40
 refine zi<|Af (by kernel_rfl)<|zm R R<|zm R R<|zp (Ae (s':= .d (dI (p.2+w*(Bf (l.drop (i+1)) (p.1:Nat)).1 / (Bf (l.drop (i+1)) (p.1:Nat)).2))) (Aj R R R (by rw [hE0.2] at hsb;omega) (by rw [hE0.2] at hsb;omega)) (sI (R)))<|za R R<|zn<|Af (by kernel_rfl)<|zm R R<|zp (Aj R R R (by omega) (by omega))<|za R R<|zn<|?_
 have hfe:f+(p.1 - f)=p.1:=by omega
 have hsw:(Gk t ws)[p.1 - f]? =some w:=by rw [Xl (by omega),hf2,hfe];exact hw
 have hnext:F2 (l.drop (i+1)) (f+min (p.1+1 - f) c) ((Gk t ws).drop (min (p.1+1 - f) c)) (p.2+Ek (l.drop (i+1)) (p.1:Nat) w)=F2 (l.drop (i+1)) f (Gk t ws) 0:=by rw [(Sv hhas).1,hfe] at hgo;rw [(Sv hhas).2, ←hgo,Vv hsw (by rw [hE0.1];decide),show f+(p.1 - f+1)=p.1+1 by omega]
 exact Ak ((p.1+1,p.2+Ek (l.drop (i+1)) (p.1:Nat) w)) (⟨by simp only;omega,hnext,by simp only;omega,by simp only;omega⟩) (by simp only;omega) (fz ⟨sr,sr,sr, .same (sI (by rw [hE0.2])),sr,trivial⟩) (HSub.nil)
 have hu:F2 (l.drop (i+1)) t.first.toNat (Gk t ws) 0=some p.2:=by rw [hf2, ←hgo];exact Yj (by omega)
 have hkb:p.2≤128*253671505920:=by omega
 refine Ap<|zr<|za R R<|zn<|zs<|zr<|za R R<|zn<|Ah<|?_
 refine Ay (α:=Nat) (fun k=>k≤10∧∀j,j<k→¬p.2=t.actual*(3870720 / 2 ^ j)) (fun k=>mkF [(0, .d (.sl 4 (l.map Tp.c))),(1, .d (dI i)),(8, .d (dI p.2)),(12, .d (dI (Jr k))),(13, .d (dI ((k:Int) - 1)))]) (fun k=>mkH []) (fun k=>10 - k) (0) (⟨Nat.zero_le _,fun j hj=>absurd hj (Nat.not_lt_zero _)⟩) ?_ ?_ ?_
 exact fz ⟨sr,sr,sr, .same (sI (by decide)), .same (sI (by decide)),trivial⟩
 exact HSub.nil
 intro k hk2
 obtain ⟨hk,hno⟩:=hk2
 have hsh:=Sq k
 refine zs<|zr<|zm R R<|zp (Fx R R R)<|zn<|?_
 refine zd R (fun c45=> ?_) (fun c45=> ?_)
 have hml1:0≤Jr k*t.actual:=Int.mul_nonneg hsh.1 (by omega)
 have hml2:Jr k*t.actual≤3870720*32:=Int.mul_le_mul hsh.2 (by omega) (by omega) (by omega)
 refine zi<|zs<|Ah<|zs<|zr<|zm R R<|zm R R<|zm R R<|zm R R<|zp (Am R R R Iq (ht))<|zp (Bq R R Li)<|zp (Az R R Ai)<|zp (H7 R R R (by omega) (by omega))<|zp (A5 R R R)<|?_
 refine zn<|?_
 refine zd R (fun c56=> ?_) (fun c56=> ?_)
 refine zr<|zm R R<|za R R<|za R R<|zn<|zt<|?_
 exact Bh R (RV.tmp R R) (RV.tmp R R) (Abx (by rw [Nd hu];exact Ai4 (by omega) (by rw [Int.mul_comm];exact c56) hno))
 refine zi<|Af (by kernel_rfl)<|zm R R<|zp (Gy R R R (by omega) (by omega) (by omega))<|za R R<|zn<|Af (by kernel_rfl)<|zm R R<|zp (Aj R R R (by omega) (by omega))<|za R R<|zn<|?_
 exact Ak (k+1) (⟨by omega,fun j hj=>by by_cases e:j=k;(· subst e;rw [Int.mul_comm];exact c56);(· exact hno j (by omega))⟩) (by omega) (fz ⟨sr,sr,sr, .same (sI (P2 k)), .same (sI (by omega)),trivial⟩) (HSub.nil)
 have hke:k=10:=by omega
 have hnone:Sm t.actual p.2=none:=Zh (fun j hj=>hno j (by omega))
 refine Ap<|zr<|za R R<|za R R<|zn<|zt<|?_
 exact Bh R (RV.tmp R R) (RV.tmp R R) (Rb (by rw [Nd hu];exact hnone))
end Go.Proofs.YtcihalbakenleaaGreat
namespace Go.Proofs.YtcihalbakenleaaGreat
open Go.RowKit
theorem J9 (l:List Tp) (h:l.length≤1000):XC Tryz.prog 55 [.sl 4 (l.map Tp.c)] (fun r=>r= .sl 4 (l.map Tp.c)):=by
 refine Ao Ag8 Tryz.func55 R R lb<|zr<|za R R<|znr<|za R R<|zn<|zs<|zr<|za R R<|zn<|Ah<|Di 900 3 135 4 R<|?_
 refine Ay (α:=Nat) (fun k=>k≤l.length) (fun k=>mkF [(0, .d (.sl 4 (l.map Tp.c))),(2, .d (.v (.slice none 0 0))),(3, .own 900),(4, .d (dI k))]) (fun k=>mkH [(900, .row 135 4 ((l.take k).map Tp.c))]) (fun k=>l.length - k) (0) (Nat.zero_le _) ?_ ?_ ?_
 exact fz ⟨sr,sr,sr,sr,trivial⟩
 exact gz ⟨R,trivial⟩
 intro k hk0
 refine zs<|zr<|zm R R<|zm R R<|XL.len R R R Tryz.underlying23 fun hl7=>zp (As R R R)<|zn<|?_
 refine zd R (fun c8=> ?_) (fun c8=> ?_)
 have hk0a:k<l.length:=by omega
 obtain ⟨x0,hx0⟩:=Au hk0a
 have htl:(l.take k).length=k:=by rw [List.length_take];omega
 refine zi<|zs<|Ah<|Ce 23 [] (by kernel_rfl) (by kernel_rfl) (by kernel_rfl) (by kernel_rfl) (by decide)<|yp (Aw R (by conv=>lhs;whnf))<|?_
 refine ym R R<|ym R R<|yp (Am R R R D9 hx0)<|yp (Bq R R Bv)<|yp (Az R R Ai)<|ym R R<|ym R R<|yp (Am R R R D9 hx0)<|yp (Bq R R Dn)<|yp (Az R R Ai)<|ym R R<|ym R R<|yp (Am R R R D9 hx0)<|yp (Bq R R M3)<|?_
 refine yp (Az R R Ai)<|ym R R<|ym R R<|yp (Am R R R D9 hx0)<|yp (Bq R R Pj)<|yp (Az R R Ai)<|yp (Ae (s':= .d (.agg [dI x0.first,dI x0.count,dI x0.actual,dI x0.normal])) (Ac (A4 R Asj K3 R)) (by kernel_rfl))<|ChK.cons R (CStep.slice R Tryz.underlying98 P8 K3 R R (by omega) (by omega))<|?_
 refine ChK.nil ⟨by kernel_rfl, ?_⟩
 refine XL.step R (A7 R Xa (.own R) (Src.sl (by omega)) (by unfold maxLen;simp;omega) (by simp;omega))<|zp (Ar R (by conv=>lhs;whnf))<|?_
 refine zn<|Af (by kernel_rfl)<|zm R R<|zp (Aj R R R (by omega) (by omega))<|za R R<|zn<|?_
 exact Ak (k+1) (by omega) (by omega) (fz ⟨sr,sr,sr,sr,trivial⟩) (gz ⟨Ea R (Bp hx0),trivial⟩)
 have hk0b:k=l.length:=by omega
 have ht:l.take k=l:=by rw [hk0b,List.take_length]
 refine Ap<|zr<|zp (Aw R (by conv=>lhs;whnf))<|?_
 refine zp (Ar R (by conv=>lhs;whnf))<|?_
 exact zn<|zt<|Bg (i:=900) R<|z1 R R (rSl (by rw [ht]))
theorem Jt (l:List Ev) (hv:∀e∈l,e.err=0∧e.kind≠3) (h:l.length≤1000):XC Tryz.prog 74 [.sl 13 (l.map Ev.c)] (fun r=>r= .sl 1 (B8 (wrS l))):=by
 refine Ao Agt Tryz.func74 R R lb<|zr<|za R R<|znr<|za R R<|zn<|zs<|zr<|za R R<|zn<|Ah<|Di 900 3 3 1 R<|?_
 refine Ay (α:=Nat) (fun k=>k≤l.length) (fun k=>mkF [(0, .d (.sl 13 (l.map Ev.c))),(2, .d (.v (.slice none 0 0))),(3, .own 900),(4, .d (dI k))]) (fun k=>mkH [(900, .row 3 1 ((wrS (l.take k)).map iv))]) (fun k=>l.length - k) (0) (Nat.zero_le _) ?_ ?_ ?_
 exact fz ⟨sr,sr,sr,sr,trivial⟩
 exact gz ⟨R,trivial⟩
 intro k hk0
 refine zs<|zr<|zm R R<|zm R R<|XL.len R R R Tryz.underlying22 fun hl7=>zp (As R R R)<|zn<|?_
 refine zd R (fun c8=> ?_) (fun c8=> ?_)
 have hk0a:k<l.length:=by omega
 obtain ⟨x0,hx0⟩:=Au hk0a
 have htl:(wrS (l.take k)).length=k:=by rw [Hv,List.length_take];omega
 have hxv:=hv x0 (List.mem_of_getElem? hx0)
 have hval:=(err_iff.1 hxv.1).2.2.2.1 hxv.2
 refine zi<|zs<|Ah<|Af (by kernel_rfl)<|zp (Aw R (by conv=>lhs;whnf))<|?_
 refine zm R R<|zm R R<|zp (Am R R R B5 hx0)<|zp (Bq R R Cm)<|zp (Ae (s':= .d (.agg (Val.c x0.v))) (Av R R Co lb) (by kernel_rfl))<|XL.call1 R R (Ams _ (by assumption)) R<|XL.step R (Bj 18 R Tryz.underlying64 Cs Eu R R (by omega) (by omega))<|XL.step R (A7 R H3 (.own R) (Src.own R) (by unfold maxLen;simp;omega) (by simp;omega))<|?_
 refine zp (Ar R (by conv=>lhs;whnf))<|?_
 refine zn<|Af (by kernel_rfl)<|zm R R<|zp (Aj R R R (by omega) (by omega))<|za R R<|zn<|?_
 exact Ak (k+1) (by omega) (by omega) (fz ⟨sr,sr,sr,sr,trivial⟩) (gz ⟨Ea (a:=x0.len) (by rw [Ev.len_ok hxv.1 hxv.2];rfl) (by rw [Bp hx0,P4];rfl),trivial⟩)
 have hk0b:k=l.length:=by omega
 have ht:l.take k=l:=by rw [hk0b,List.take_length]
 refine Ap<|zr<|zp (Aw R (by conv=>lhs;whnf))<|?_
 refine zp (Ar R (by conv=>lhs;whnf))<|?_
 exact zn<|zt<|Bg (i:=900) R<|z1 R R (rSl (by rw [ht]))
theorem Aim (l:List Int) (h:Nums l):XC Tryz.prog 58 [.sl 1 (B8 l)] (fun r=>r=dI (tot l)):=by
 refine Ao Ag6 Tryz.func58 R R lb<|zr<|za R R<|znr<|za R R<|zn<|zs<|zr<|za R R<|zn<|Ah<|?_
 refine Ay (α:=Nat) (fun k=>k≤l.length) (fun k=>mkF [(0, .d (.sl 1 (B8 l))),(2, .d (dI 0)),(3, .d (dI (tot (l.take k)))),(4, .d (dI k))]) (fun k=>mkH []) (fun k=>l.length - k) (0) (Nat.zero_le _) ?_ ?_ ?_
 exact fz ⟨sr,sr,sr,sr,trivial⟩
 exact HSub.nil
 intro k hk0
 refine zs<|zr<|zm R R<|zm R R<|XL.len R R R Tryz.underlying64 fun hl7=>zp (As R R R)<|zn<|?_
 refine zd R (fun c8=> ?_) (fun c8=> ?_)
 have hk0a:k<l.length:=by omega
 obtain ⟨x0,hx0⟩:=Au hk0a
 have h1:=(h.take k).tot
 have h2:=h.bd x0 (List.mem_of_getElem? hx0)
 refine zi<|zs<|Ah<|Af (by kernel_rfl)<|zm R R<|zm R R<|zm R R<|zp (Am R R R C5 hx0)<|zp (Az R R Ai)<|zp (Aj R R R (by omega) (by omega))<|za R R<|zn<|Af (by kernel_rfl)<|zm R R<|?_
 refine zp (Aj R R R (by omega) (by omega))<|za R R<|zn<|?_
 exact Ak (k+1) (by omega) (by omega) (fz ⟨sr,sr, .same (sI (by rw [Bp hx0,Hb])),sr,trivial⟩) (HSub.nil)
 have hk0b:k=l.length:=by omega
 have ht:l.take k=l:=by rw [hk0b,List.take_length]
 exact Ap<|zr<|zm R R<|za R R<|zn<|zt<|z1 R R (rI (by rw [ht]))
theorem Q0 (v:Vo):XC Tryz.prog 72 [.agg (Vo.c v)] (fun r=>r=dB (decide v.rest)):=by
 refine Ao Agv Tryz.func72 R R lb<|zr<|XL.step R (At 1 (l:= [.d (.sl 13 (v.evs.map Ev.c)), .d (.sl 4 (v.tups.map Tp.c))]) R R (by kernel_rfl))<|za R R<|znr<|zp (Aa R R Ax)<|zp (Ab R R Bk R R)<|XL.len R R R Tryz.underlying22 fun hl5=>zp (A5 R R R)<|zm R R<|?_
 refine XL.dec 7 R (fun g7=> ?_) (fun g7=> ?_)
 obtain ⟨e,he⟩:∃e,v.evs[0]? =some e:=Au (by omega)
 exact zp (Aa R R Ax)<|zp (Ab R R Bk R R)<|zp (Am (k:=0) R R R B5 (he))<|zp (Bq R R B2)<|zp (Az R R Ai)<|zp (A5 R R R)<|zq R R R<|za R R<|zn<|zt<|z1 R R (rB (by rw [decide_eq_decide];exact ⟨fun h=>⟨(Ha he).2 h,by omega⟩,fun h=>(Ha he).1 h.1⟩))
 exact zk 6 R<|zq R R R<|za R R<|zn<|zt<|z1 R R (rB (by rw [eq_comm,decide_eq_false_iff_not];exact fun h=>g7 (by have:=h.2;omega)))
theorem Yu (l:List Tp) (i:Nat) (t:Tp) (ws:List Int) (ht:l[i]? =some t) (hT:Tups l ws.length) (hws:∀w∈ws,0≤w∧w≤7741440):XC Tryz.prog 98 [.sl 4 (l.map Tp.c),dI i, .sl 1 (B8 ws)] (fun r=>r= .tup [dI ((Fv (Ky l i) t ws).getD 0),dB (Fv (Ky l i) t ws).isSome]):=by
 have:=Aph l i t ws ht hT hws
 rwa [←Uo] at this
theorem Acb {v:Vo} {L:Int} (h:¬(L<1∨15482880<L)):Cj v L=Cj v 1:=by unfold Cj;rw [if_neg h,if_neg (show ¬((1:Int)<1∨(15482880:Int)<1) by decide)]
theorem Zi {v:Vo} (h2:¬128<(v.evs.length:Int)) (hr:v.rest) {e:Ev} (he:v.evs[0]? =some e):Cj v 1=(if e.err≠0 then e.err else if 0<v.tups.length then 21 else 0):=Wy (by decide) (by decide) h2 hr.1 (by have:=hr.2;omega) he
theorem Nv {v:Vo} (h2:¬128<(v.evs.length:Int)) (hr:¬v.rest):Cj v 1=Dq v:=(Ww (by decide) (by decide) h2 (fun k=>hr ⟨k.1,by have:=k.2;omega⟩)).2.symm
theorem Aux {v:Vo} {k:Nat} {e:Ev} (h2:¬128<(v.evs.length:Int)) (he:v.evs[k]? =some e) (h:e.err≠0) (hgo:Da v.evs.length k (v.evs.drop k)=Da v.evs.length 0 v.evs):e.err=Cj v 1:=by
 by_cases hr:v.rest
 ·have hk:=(List.getElem?_eq_some_iff.1 he).1
  have:k=0:=by have:=hr.2;omega
  subst this
  rw [Zi h2 hr he,if_pos h]
 ·rw [Nv h2 hr, ←(Pe (v:=v) (e:=e.err) (by rw [←hgo,Ri he h]) h).2]
theorem As2 {v:Vo} {k:Nat} {e:Ev} (h2:¬128<(v.evs.length:Int)) (he:v.evs[k]? =some e) (h:¬e.err≠0) (h3:e.kind=3) (h4:¬(v.evs.length:Int)=1) (hgo:Da v.evs.length k (v.evs.drop k)=Da v.evs.length 0 v.evs):11=Cj v 1:=by
 have hk:=(List.getElem?_eq_some_iff.1 he).1
 have hr:¬v.rest:=fun k=>h4 (by have:=k.2;omega)
 rw [Nv h2 hr, ←(Pe (v:=v) (e:=11) (by rw [←hgo,Lf he h ⟨h3,by omega⟩]) (by decide)).2]
theorem Auw {v:Vo} (hz:Da v.evs.length 0 v.evs=0):∀e∈v.evs,e.err=0:=fun e he=>by
 obtain ⟨j,hj⟩:=List.getElem?_of_mem he
 exact (inGo_zero.1 hz j e hj).1
theorem Wg {v:Vo} (hz:Da v.evs.length 0 v.evs=0) (hr:¬v.rest):∀e∈v.evs,e.err=0∧e.kind≠3:=fun e he=>by
 obtain ⟨j,hj⟩:=List.getElem?_of_mem he
 have h5:=inGo_zero.1 hz j e hj
 refine ⟨h5.1,fun k=> ?_⟩
 have h6:=fun q=>h5.2 ⟨k,q⟩
 have hl:=(List.getElem?_eq_some_iff.1 hj).1
 have:j=0∧v.evs.length=1:=by omega
 rw [this.1] at hj
 exact hr ⟨(Ha hj).2 k,this.2⟩
theorem Aiv {v:Vo} (h2:¬128<(v.evs.length:Int)) (hz:Da v.evs.length 0 v.evs=0) (hr:v.rest):Cj v 1=if 0<v.tups.length then 21 else 0:=by
 obtain ⟨e,he⟩:∃e,v.evs[0]? =some e:=Au (by rw [hr.2];omega)
 rw [Zi h2 hr he,if_neg (by rw [Auw hz e (List.mem_of_getElem? he)];decide)]
theorem Auv {v:Vo} (h2:¬128<(v.evs.length:Int)) (hz:Da v.evs.length 0 v.evs=0) (hr:¬v.rest) (h:C1 v.tups (wrS v.evs)≠0):C1 v.tups (wrS v.evs)=Cj v 1:=by
 rw [Nv h2 hr, ←(Ak4 hz h).2]
theorem As1 {v:Vo} {k:Nat} {t:Tp} (h2:¬128<(v.evs.length:Int)) (hz:Da v.evs.length 0 v.evs=0) (hr:¬v.rest) (h:¬C1 v.tups (wrS v.evs)≠0) (ht:v.tups[k]? =some t) (hn:(!(Fv (Ky v.tups k) t (wrS v.evs)).isSome)=true):21=Cj v 1:=by
 rw [Nv h2 hr, ←(Ak3 hz h (by rw [←(Aj2 h ht hn).2];decide)).2]
theorem Awl {v:Vo} (h2:¬128<(v.evs.length:Int)) (hz:Da v.evs.length 0 v.evs=0) (hr:¬v.rest) (h:¬C1 v.tups (wrS v.evs)≠0) (hn:Js v.tups (wrS v.evs)):0=Cj v 1:=by
 rw [Nv h2 hr, ←(Ak2 hz h (by rw [←(Aj1 h hn).2];decide)).2]
theorem Amu (v:Vo) (hE:Evs v.evs) (ht:v.tups.length≤1000):XC Tryz.prog 57 [.agg (Vo.c v), .v (.bool true)] (fun r=>r=dI (Cj v 1)):=by
 refine Ao Uh Tryz.func57 R R lb<|zr<|XL.step R (At 2 (l:= [.d (.sl 13 (v.evs.map Ev.c)), .d (.sl 4 (v.tups.map Tp.c))]) R R (by kernel_rfl))<|za R R<|zn<|zs<|zr<|zp (Aa R R Ax)<|zp (Ab R R Bk R R)<|XL.len R R R Tryz.underlying22 fun hl14=>zp (Bb R R R)<|zn<|?_
 refine zd R (fun c15=> ?_) (fun c15=> ?_)
 exact zr<|za R R<|zn<|zt<|z1 R R (rI (Ak0 (v:=v) (L:=1) (by decide) (by decide) c15).2)
 refine zi<|zs<|zr<|za R R<|zn<|Ah<|?_
 refine Ay (α:=Nat) (fun k=>k≤v.evs.length∧Da v.evs.length k (v.evs.drop k)=Da v.evs.length 0 v.evs) (fun k=>mkF [(1, .d (dB true)),(2, .ptr 2 0 0),(5, .d (dI k))]) (fun k=>mkH [(2, .box ((Vo.c v).map S.d))]) (fun k=>v.evs.length - k) (0) (⟨Nat.zero_le _,by rw [List.drop_zero]⟩) ?_ ?_ ?_
 exact fz ⟨sr,sr,sr,trivial⟩
 exact gz ⟨R,trivial⟩
 intro k hk0
 obtain ⟨hk,hgo⟩:=hk0
 refine zs<|zr<|zm R R<|zp (Aa R R Ax)<|zp (Ab R R Bk R R)<|XL.len R R R Tryz.underlying22 fun hl19=>zp (As R R R)<|zn<|?_
 refine zd R (fun c20=> ?_) (fun c20=> ?_)
 have hk0a:k<v.evs.length:=by omega
 obtain ⟨x0,hx0⟩:=Au hk0a
 have he:=hE x0 (List.mem_of_getElem? hx0)
 refine zi<|zs<|Ah<|zs<|zr<|zp (Aa R R Ax)<|zp (Ab R R Bk R R)<|zm R R<|zp (Am R R R B5 hx0)<|zp (Ae (s':= .d (.agg (Ev.c x0))) (Av R R A3 lb) (by kernel_rfl))<|XL.call1 R R (T2 _ (by assumption)) R<|za R R<|znr<|zm R R<|?_
 refine zp (Be R R R)<|zn<|?_
 refine zd R (fun c30=> ?_) (fun c30=> ?_)
 exact zr<|zm R R<|za R R<|zn<|zt<|z1 R R (rI (Aux c15 hx0 c30 hgo))
 refine zi<|zr<|zp (Aa R R Ax)<|zp (Ab R R Bk R R)<|zm R R<|zp (Am R R R B5 hx0)<|zp (Bq R R B2)<|zp (Az R R Ai)<|zp (A5 R R R)<|zm R R<|?_
 refine XL.dec 39 R (fun g39=> ?_) (fun g39=> ?_)
 refine zm R R<|zm R R<|zp (Aa R R Ax)<|zp (Ab R R Bk R R)<|XL.len R R R Tryz.underlying22 fun hl44=>zp (A5 R R R)<|zq R R R<|zp (B6 R R)<|zq R R R<|zn<|?_
 refine zd R (fun c48=> ?_) (fun c48=> ?_)
 exact zr<|za R R<|zn<|zt<|z1 R R (rI (As2 c15 hx0 c30 g39 c48 hgo))
 refine zi<|Af (by kernel_rfl)<|zm R R<|zp (Aj R R R (by omega) (by omega))<|za R R<|zn<|?_
 exact Ak (k+1) (⟨by omega,by rw [←M1 hx0 c30 (by omega)];exact hgo⟩) (by omega) (fz ⟨sr,sr,sr,trivial⟩) (gz ⟨rfl,trivial⟩)
 refine zk 8 R<|zq R R R<|zn<|A9 (by kernel_rfl) R<|zi<|Af (by kernel_rfl)<|zm R R<|zp (Aj R R R (by omega) (by omega))<|za R R<|zn<|?_
 exact Ak (k+1) (⟨by omega,by rw [←M1 hx0 c30 (by omega)];exact hgo⟩) (by omega) (fz ⟨sr,sr,sr,trivial⟩) (gz ⟨rfl,trivial⟩)
 have hk0b:k=v.evs.length:=by omega
 have hz:Da v.evs.length 0 v.evs=0:=by rw [←hgo,hk0b,List.drop_length];rfl
 refine Ap<|zs<|zr<|zp (Ae (s':= .d (.agg (Vo.c v))) (Ac (Ad R R An R lb)) (by kernel_rfl))<|XL.call1 R R (Q0 _) R<|zn<|?_
 refine zd R (fun c50=> ?_) (fun c50=> ?_)
 refine zs<|zr<|zp (Aa R R Bn)<|zp (Ab R R B1 R R)<|XL.len R R R Tryz.underlying23 fun hl53=>zp (Bb R R R)<|zn<|?_
 refine zd R (fun c54=> ?_) (fun c54=> ?_)
 exact zr<|za R R<|zn<|zt<|z1 R R (rI (by rw [Aiv c15 hz c50,if_pos (by omega)]))
 exact zi<|zr<|za R R<|zn<|zt<|z1 R R (rI (by rw [Aiv c15 hz c50,if_neg (by omega)]))
 refine zi<|zs<|zs<|?_
 have hnr:¬v.rest:=c50
 have hva:=Wg hz hnr
 refine Bm [] (by kernel_rfl) (by kernel_rfl) (by kernel_rfl) (by decide)<|yp (Aa R R Bn)<|yp (Ab R R B1 R R)<|ChK.cons R (CStep.call R (J9 _ (by omega)) R)<|yp (Aa R R Ax)<|yp (Ab R R Bk R R)<|ChK.cons R (CStep.call R (Jt _ (by assumption) (by omega)) R)<|ChK.cons R (CStep.call R (Kz _ _) R)<|ym R R<|yp (A6 R R R)<|?_
 refine yp (A6 R R R)<|ya R R<|ya R R<|?_
 refine ChK.nil ⟨by kernel_rfl, ?_⟩
 refine zr<|zm R R<|zp (Be R R R)<|zn<|?_
 refine zd R (fun c66=> ?_) (fun c66=> ?_)
 exact zr<|zm R R<|za R R<|zn<|zt<|z1 R R (rI (Auv c15 hz c50 c66))
 refine zi<|zs<|zs<|?_
 have hT:=I1 c66
 have hws:=Ajt hva
 refine Af (by kernel_rfl)<|za R R<|zn<|Ah<|?_
 refine Ay (α:=Nat) (fun m=>m≤v.tups.length∧∀j,j<m→(Qn v.tups j (wrS v.evs)).isSome=true) (fun m=>mkF [(2, .ptr 2 0 0),(9, .d (dI m))]) (fun m=>mkH [(2, .box ((Vo.c v).map S.d))]) (fun m=>v.tups.length - m) (0) (⟨Nat.zero_le _,fun j hj=>absurd hj (Nat.not_lt_zero _)⟩) ?_ ?_ ?_
 exact fz ⟨sr,sr,trivial⟩
 exact gz ⟨R,trivial⟩
 intro m hk2
 obtain ⟨hm,hall⟩:=hk2
 refine zs<|zr<|zm R R<|zp (Aa R R Bn)<|zp (Ab R R B1 R R)<|XL.len R R R Tryz.underlying23 fun hl71=>zp (As R R R)<|zn<|?_
 refine zd R (fun c72=> ?_) (fun c72=> ?_)
 have hk2a:m<v.tups.length:=by omega
 obtain ⟨x2,hx2⟩:=Au hk2a
 refine zi<|zs<|Ah<|zs<|Bm [] (by kernel_rfl) (by kernel_rfl) (by kernel_rfl) (by decide)<|yp (Aa R R Bn)<|yp (Ab R R B1 R R)<|ChK.cons R (CStep.call R (J9 _ (by omega)) R)<|ym R R<|yp (Aa R R Ax)<|yp (Ab R R Bk R R)<|ChK.cons R (CStep.call R (Jt _ (by assumption) (by omega)) R)<|?_
 refine ChK.cons R (CStep.call R (Yu v.tups m x2 (wrS v.evs) hx2 hT hws) R)<|ym R R<|yp (A6 R R R)<|yp (A6 R R R)<|ya R R<|ya R R<|?_
 refine ChK.nil ⟨by kernel_rfl, ?_⟩
 refine zr<|zm R R<|zp (Dd R R)<|zn<|?_
 refine Dw (by kernel_rfl) R (fun c87=> ?_) (fun c87=> ?_)
 exact zr<|za R R<|zn<|zt<|z1 R R (rI (As1 c15 hz c50 c66 hx2 c87))
 refine zi<|Af (by kernel_rfl)<|zm R R<|zp (Aj R R R (by omega) (by omega))<|za R R<|zn<|?_
 exact Ak (m+1) (⟨by omega,fun j hj=>by by_cases e:j=m;(· subst e;rw [K4 hx2];exact (by simpa using c87));(· exact hall j (by omega))⟩) (by omega) (fz ⟨sr,sr,trivial⟩) (gz ⟨rfl,trivial⟩)
 have hk2b:m=v.tups.length:=by omega
 have ha:Js v.tups (wrS v.evs):=fun j hj=>hall j (by omega)
 exact Ap<|zr<|za R R<|zn<|zt<|z1 R R (rI (Awl c15 hz c50 c66 ha))
theorem Ano {v:Vo} {L:Int} (h:Cj v L=0) (hr:v.rest): [L]=Cz v L:=by rw [Cz,if_neg (by rw [h];decide),if_pos (show v.whole∧v.evs.length=1 from hr)]
theorem Anm {v:Vo} (h:Cj v 1=0) (hr:¬v.rest):Dq v=0:=by
 have h2:¬128<(v.evs.length:Int):=by
  obtain ⟨h5,_⟩:=len_ok h
  omega
 rw [←Nv h2 hr];exact h
theorem Atf {v:Vo} {L:Int} (h:Cj v L=0) (h1:Cj v 1=0) (hr:¬v.rest):Id v.tups (wrS v.evs)=Cz v L:=by
 rw [Cz,if_neg (by rw [h];decide),if_neg (show ¬(v.whole∧v.evs.length=1) from hr),D7,if_pos (Anm h1 hr)]
theorem Ate {v:Vo} (h:Cj v 1=0) (hr:¬v.rest):∀e∈v.evs,e.err=0∧e.kind≠3:=Wg (innE_zero.1 (Anm h hr)).1 hr
theorem M8 (v:Vo) (L:Int) (h:Cj v L=0) (h1:Cj v 1=0):XC Tryz.prog 32 [.agg (Vo.c v), .v (.int .i64 L)] (fun r=>r= .sl 1 (B8 (Cz v L))):=by
 have hev:=(len_ok h).1
 have htl:v.tups.length≤100:=by (rcases (len_ok h1).2.1 with q|q;(· omega);(· have:=(I1 (fun k=>k q)).len;omega))
 refine Ao Uj Tryz.func32 R R lb<|zr<|XL.step R (At 2 (l:= [.d (.sl 13 (v.evs.map Ev.c)), .d (.sl 4 (v.tups.map Tp.c))]) R R (by kernel_rfl))<|za R R<|zn<|zs<|zr<|zp (Ae (s':= .d (.agg (Vo.c v))) (Ac (Ad R R An R lb)) (by kernel_rfl))<|XL.call1 R R (Q0 _) R<|zn<|?_
 refine zd R (fun c8=> ?_) (fun c8=> ?_)
 refine zr<|zm R R<|XL.step R (Bj 10 R Tryz.underlying64 Cs Eu R R (by omega) (by omega))<|zp (Ar R (by conv=>lhs;whnf))<|?_
 exact zn<|zt<|Bg (i:=10) R<|z1 R R (rSl (l:= [L]) (g:=iv) (Ano h c8))
 refine zi<|zs<|?_
 have hva:=Ate h1 c8
 refine Bm [] (by kernel_rfl) (by kernel_rfl) (by kernel_rfl) (by decide)<|yp (Aa R R Bn)<|yp (Ab R R B1 R R)<|ChK.cons R (CStep.call R (J9 _ (by omega)) R)<|yp (Aa R R Ax)<|yp (Ab R R Bk R R)<|ChK.cons R (CStep.call R (Jt _ (by assumption) (by omega)) R)<|ChK.cons R (CStep.call R (Kz _ _) R)<|ym R R<|yp (A6 R R R)<|?_
 refine yp (A6 R R R)<|ya R R<|ya R R<|?_
 refine ChK.nil ⟨by kernel_rfl, ?_⟩
 exact zr<|zm R R<|za R R<|zn<|zt<|z1 R R (rSl (Atf h h1 c8))
theorem Alq {v:Vo} {L a:Int} (h:Cj v L=a) (ha:a≠0):a=ckE v L:=by rw [ckE,if_neg (by rw [h];exact fun k=>ha k.1),h]
theorem Axa {v:Vo} {L:Int} (h:Cj v L=0) (h2:0<(v.evs.length:Int)) (h3:tot (Cz v L)≠L):20=ckE v L:=by rw [ckE,if_pos ⟨h,by rw [Xv h];omega,h3⟩]
theorem Awa {v:Vo} {L:Int} (h:Cj v L=0) (h3:¬(0<(v.evs.length:Int)∧tot (Cz v L)≠L)):0=ckE v L:=by
 rw [ckE,if_neg,h]
 rintro ⟨_,k2,k3⟩
 rw [Xv h] at k2
 exact h3 ⟨by omega,k3⟩
theorem Py (v:Vo) (L:Int) (hE:Evs v.evs) (ht:v.tups.length≤1000):XC Tryz.prog 19 [.agg (Vo.c v), .v (.int .i64 L)] (fun r=>r=dI (ckE v L)):=by
 refine Ao Ahy Tryz.func19 R R lb<|zr<|XL.step R (At 2 (l:= [.d (.sl 13 (v.evs.map Ev.c)), .d (.sl 4 (v.tups.map Tp.c))]) R R (by kernel_rfl))<|za R R<|zn<|zs<|zr<|zm R R<|zp (As R R R)<|zm R R<|?_
 refine XL.dec 8 R (fun g8=> ?_) (fun g8=> ?_)
 exact zk 2 R<|zq R R R<|zn<|Aq (by kernel_rfl) R<|zr<|za R R<|zn<|zt<|z1 R R (rI (Alq (Tl (v:=v) (L:=L) (by omega)).2.symm (by decide)))
 refine zm R R<|zp (Bb R R R)<|zq R R R<|zn<|?_
 refine zd R (fun c11=> ?_) (fun c11=> ?_)
 exact zr<|za R R<|zn<|zt<|z1 R R (rI (Alq (Tl (v:=v) (L:=L) (by omega)).2.symm (by decide)))
 refine zi<|zs<|zs<|?_
 have hany:Cj v L=Cj v 1:=Acb (by omega)
 refine Af (by kernel_rfl)<|zp (Ae (s':= .d (.agg (Vo.c v))) (Ac (Ad R R An R lb)) (by kernel_rfl))<|XL.call1 R R (Amu _ (by assumption) (by omega)) R<|za R R<|znr<|zm R R<|zp (Be R R R)<|zn<|?_
 refine zd R (fun c15=> ?_) (fun c15=> ?_)
 exact zr<|zm R R<|za R R<|zn<|zt<|z1 R R (rI (Alq hany c15))
 refine zi<|zs<|zs<|?_
 have hl1:Cj v 1=0:=by omega
 have hl:Cj v L=0:=by omega
 have hN:=M0 v L
 refine Af (by kernel_rfl)<|zp (Aa R R Ax)<|zp (Ab R R Bk R R)<|XL.len R R R Tryz.underlying22 fun hl19=>zp (Bb R R R)<|zm R R<|?_
 refine XL.dec 21 R (fun g21=> ?_) (fun g21=> ?_)
 refine zp (Ae (s':= .d (.agg (Vo.c v))) (Ac (Ad R R An R lb)) (by kernel_rfl))<|zm R R<|XL.call1 R R (M8 _ _ (by assumption) (by assumption)) R<|XL.call1 R R (Aim _ (by assumption)) R<|zm R R<|zp (Be R R R)<|zq R R R<|zn<|?_
 refine zd R (fun c28=> ?_) (fun c28=> ?_)
 exact zr<|za R R<|zn<|zt<|z1 R R (rI (Axa hl g21 c28))
 exact zi<|zr<|za R R<|zn<|zt<|z1 R R (rI (Awa hl (fun k=>c28 k.2)))
 exact zk 6 R<|zq R R R<|zn<|A9 (by kernel_rfl) R<|zi<|zr<|za R R<|zn<|zt<|z1 R R (rI (Awa hl (fun k=>g21 k.1)))
theorem Y6 {l:List Int} {k:Nat} (h:k≤l.length):(Bl l).take k=(List.range k).map fun j=>tot (l.take j):=by
 rw [Bl, ←List.map_take,List.take_range,Nat.min_eq_left h]
theorem Anf {l:List Int} {k:Nat} (h:k<l.length):(Bl l).take (k+1)=(Bl l).take k++ [tot (l.take k)]:=by
 rw [Y6 (by omega),Y6 (by omega),List.range_succ,List.map_append];rfl
theorem Wd (v:Vo) (L:Int) (h:Cj v L=0) (h1:Cj v 1=0):XC Tryz.prog 33 [.agg (Vo.c v), .v (.int .i64 L)] (fun r=>r= .sl 1 (B8 (Bl (Cz v L)))):=by
 have hN:=M0 v L
 have hNl:=hN.len
 have hol:=Jd (Cz v L)
 refine Ao Ahq Tryz.func33 R R lb<|zr<|XL.step R (At 2 (l:= [.d (.sl 13 (v.evs.map Ev.c)), .d (.sl 4 (v.tups.map Tp.c))]) R R (by kernel_rfl))<|za R R<|znr<|za R R<|znr<|za R R<|znr<|zp (Ae (s':= .d (.agg (Vo.c v))) (Ac (Ad R R An R lb)) (by kernel_rfl))<|zm R R<|XL.call1 R R (M8 _ _ (by assumption) (by assumption)) R<|za R R<|zn<|?_
 refine zs<|zr<|za R R<|zn<|Ah<|Di 900 5 3 1 R<|?_
 refine Ay (α:=Nat) (fun k=>k≤(Cz v L).length) (fun k=>mkF [(4, .d (.v (.slice none 0 0))),(5, .own 900),(6, .d (dI (tot ((Cz v L).take k)))),(7, .d (.sl 1 (B8 (Cz v L)))),(8, .d (dI k))]) (fun k=>mkH [(900, .row 3 1 (((Bl (Cz v L)).take k).map iv))]) (fun k=>(Cz v L).length - k) (0) (Nat.zero_le _) ?_ ?_ ?_
 exact fz ⟨sr,sr,sr,sr,sr,trivial⟩
 exact gz ⟨R,trivial⟩
 intro k hk0
 refine zs<|zr<|zm R R<|zm R R<|XL.len R R R Tryz.underlying64 fun hl14=>zp (As R R R)<|zn<|?_
 refine zd R (fun c15=> ?_) (fun c15=> ?_)
 have hk0a:k<(Cz v L).length:=by omega
 obtain ⟨x0,hx0⟩:=Au hk0a
 have htl:((Bl (Cz v L)).take k).length=k:=by rw [List.length_take];omega
 have hb1:=(hN.take k).tot
 have hb2:=hN.bd x0 (List.mem_of_getElem? hx0)
 refine zi<|zs<|Ah<|zr<|zp (Aw R (by conv=>lhs;whnf))<|?_
 refine zm R R<|XL.step R (Bj 20 R Tryz.underlying64 Cs Eu R R (by omega) (by omega))<|XL.step R (A7 R H3 (.own R) (Src.own R) (by unfold maxLen;simp;omega) (by simp;omega))<|zp (Ar R (by conv=>lhs;whnf))<|?_
 refine zng<|zm R R<|zm R R<|zm R R<|zp (Am R R R C5 hx0)<|zp (Az R R Ai)<|zp (Aj R R R (by omega) (by omega))<|za R R<|zn<|Af (by kernel_rfl)<|zm R R<|zp (Aj R R R (by omega) (by omega))<|za R R<|zn<|?_
 exact Ak (k+1) (by omega) (by omega) (fz ⟨sr,sr, .same (sI (by rw [Bp hx0,Hb])),sr,sr,trivial⟩) (gz ⟨Ea R (Anf hk0a),trivial⟩)
 have hk0b:k=(Cz v L).length:=by omega
 have ht:(Bl (Cz v L)).take k=Bl (Cz v L):=List.take_of_length_le (by omega)
 refine Ap<|zr<|zp (Aw R (by conv=>lhs;whnf))<|?_
 refine zp (Ar R (by conv=>lhs;whnf))<|?_
 exact zn<|zt<|Bg (i:=900) R<|z1 R R (rSl (by rw [ht]))
theorem K5 {l:List Int} (h:∀x∈l,0<x) {j k:Nat} (hjk:j≤k):tot (l.take j)≤tot (l.take k):=by
 rw [P5 l j k hjk]
 have:∀l:List Int,(∀x∈l,0<x)→0≤tot l:=by
  intro l
  induction l with
  |nil=>intro _;exact Int.le_refl _
  |cons x l ih=>intro h;rw [Hy];have:=h x List.mem_cons_self;have:=ih fun y hy=>h y (List.mem_cons_of_mem _ hy);omega
 have:=this ((l.take k).drop j) fun x hx=>h x (List.mem_of_mem_take (List.mem_of_mem_drop hx))
 omega
def atJ (l:List Int):Nat→Int × Int
 |0=>(0,0)
 |j+1=>((j:Int),tot (l.take j))
theorem Aak {l:List Int} (h:∀x∈l,0<x) {t:Int} {j:Nat} (hj:j≤l.length) (h1:∀i,i<j→tot (l.take i)≤t) (h2:j=l.length∨t<tot (l.take j)):∀n,j≤n→n≤l.length→atS l t n=atJ l j:=by
 have h0:atS l t j=atJ l j:=by
  cases j with
  |zero=>rfl
  |succ j=>
   obtain ⟨x,hx⟩:∃x,l[j]? =some x:=Au (by omega)
   rw [Xd hx (h1 j (by omega)) (h x (List.mem_of_getElem? hx))];rfl
 intro n
 induction n with
 |zero=>
  intro hn _
  have:j=0:=by omega
  subst this;exact h0
 |succ n ih=>
  intro hn hl
  by_cases e:j=n+1
  ·rw [←e];exact h0
  ·obtain ⟨x,hx⟩:∃x,l[n]? =some x:=Au (by omega)
   rw [Nz hx,ih (by omega) (by omega)]
   rintro ⟨k,_⟩
   have:=K5 h (j:=j) (k:=n) (by omega)
   omega
theorem Ar8 {v:Val} (h:Dj v=0):0<Cq v:=by
 have hv:=O5 (v:=v) (by omega)
 have hp:0<Eo v:=by
  unfold Eo
  obtain ⟨k,hk⟩:∃k:Nat,(v.log+1).toNat=k:=⟨_,rfl⟩
  rw [hk]
  have:k<10:=by omega
  match k,this with
  |0,_=>decide
  |1,_=>decide
  |2,_=>decide
  |3,_=>decide
  |4,_=>decide
  |5,_=>decide
  |6,_=>decide
  |7,_=>decide
  |8,_=>decide
  |9,_=>decide
  |k+10,h=>omega
 have:∀n,Eo v≤(E6 (Eo v) n).2:=by
  intro n
  induction n with
  |zero=>exact Int.le_refl _
  |succ n ih=>have:=(Lj (Int.le_of_lt hp) n).1;simp only [E6];omega
 have:=this v.dots.toNat
 unfold Cq
 omega
theorem Auq {T:List Tp} {n w:Int} (hT:∀t∈T,t.ok) (hw:0<w) (h:El T n w=0):0<Ek T n w:=by
 have hb:=Se T n hT
 unfold El at h
 split at h
 ·omega
 ·rename_i c
  split at h
  ·omega
  ·rename_i c2
   rw [Ek,if_neg c,if_neg c2]
   have h1:0<w*(Bf T n).1:=Int.mul_pos hw (by omega)
   have h2:=Int.ediv_mul_cancel (Int.dvd_of_emod_eq_zero (Decidable.not_not.1 c2))
   refine Int.not_le.1 fun k=> ?_
   have:=Int.mul_le_mul_of_nonneg_right k (show 0≤(Bf T n).2 by omega)
   omega
theorem Lk {v:Vo} {L:Int} (h:ckE v L=0):∀x∈ckL v L,0<x:=by
 by_cases c:v.rest
 ·obtain ⟨_,hl,_⟩:=Nx c h
  have:=(len_ok (On h).1).2.2.1
  rw [hl];intro x hx;rw [List.mem_singleton.1 hx];omega
 ·obtain ⟨_,_,hv,_⟩:=(K2 c).1 ⟨h,rfl⟩
  have hok:∀t∈v.tups,t.ok:=fun t ht=>(hv.tl.tv.inR t ht).ok (by have:=hv.tl.wl;omega)
  intro x hx
  obtain ⟨i,hi⟩:=List.getElem?_of_mem hx
  rw [hv.tl.ls] at hi
  have hil:=(List.getElem?_eq_some_iff.1 hi).1
  rw [Jh] at hil
  obtain ⟨w,hw⟩:∃w,(wrS v.evs)[i]? =some w:=Au hil
  have hg:∀(ws:List Int) (n i:Nat) (w:Int),ws[i]? =some w→(Dg v.tups n ws)[i]? =some (Ek v.tups ((n+i:Nat):Int) w):=by
   intro ws
   induction ws with
   |nil=>intro n i w h;simp at h
   |cons a ws ih=>
    intro n i w h
    cases i with
    |zero=>cases h;rfl
    |succ i=>
     have:=ih (n+1) i w (by simpa using h)
     rw [Dg,List.getElem?_cons_succ,this,show n+1+i=n+(i+1) by omega]
  have hs:=hv.tl.sc i w hw
  rw [hg _ 0 i w hw,Nat.zero_add] at hi
  cases hi
  refine Auq hok ?_ hs
  obtain ⟨e,he,rfl⟩:=List.mem_map.1 (List.mem_of_getElem? hw)
  have hee:=hv.ev e he
  rw [Ev.len_ok hee.1 hee.2]
  exact Ar8 ((err_iff.1 hee.1).2.2.2.1 hee.2)
theorem Tv {v:Vo} {L:Int} (h:ckE v L=0):Cz v L=ckL v L∧Cj v L=0∧Cj v 1=0:=by
 obtain ⟨h1,h2⟩:=On h
 exact ⟨h2.symm,h1,by obtain ⟨_,_,h6,h7⟩:=len_ok h1;rw [←Acb (L:=L) (by omega)];exact h1⟩
theorem Aus (v:Vo) (L t:Int) (h:ckE v L=0):XC Tryz.prog 24 [.agg (Vo.c v), .v (.int .i64 L), .v (.int .i64 t)] (fun r=>r= .tup [dI (atS (ckL v L) t (ckL v L).length).1,dI (atS (ckL v L) t (ckL v L).length).2]):=by
 obtain ⟨hlL,hl,hl1⟩:=Tv h
 rw [←hlL]
 have hp:=Lk h
 rw [←hlL] at hp
 have hol:=Jd (Cz v L)
 have hNl:=(M0 v L).len
 refine Ao Ahu Tryz.func24 R R lb<|zr<|XL.step R (At 3 (l:= [.d (.sl 13 (v.evs.map Ev.c)), .d (.sl 4 (v.tups.map Tp.c))]) R R (by kernel_rfl))<|za R R<|za R R<|znr<|zp (Ae (s':= .d (.agg (Vo.c v))) (Ac (Ad R R An R lb)) (by kernel_rfl))<|zm R R<|XL.call1 R R (Wd _ _ (by assumption) (by assumption)) R<|za R R<|zn<|zs<|zr<|za R R<|?_
 refine zn<|Ah<|?_
 refine Ay (α:=Nat) (fun j=>j≤(Cz v L).length∧∀i,i<j→tot ((Cz v L).take i)≤t) (fun j=>mkF [(2, .d (dI t)),(6, .d (dI (atJ (Cz v L) j).1)),(7, .d (dI (atJ (Cz v L) j).2)),(8, .d (.sl 1 (B8 (Bl (Cz v L))))),(9, .d (dI (j:Nat)))]) (fun j=>mkH []) (fun j=>(Cz v L).length - j) (0) (⟨Nat.zero_le _,fun i h=>absurd h (Nat.not_lt_zero _)⟩) ?_ ?_ ?_
 exact fz ⟨sr,sr,sr,sr,sr,trivial⟩
 exact HSub.nil
 intro j hk0
 obtain ⟨hj,hall⟩:=hk0
 refine zs<|zr<|zm R R<|zm R R<|XL.len R R R Tryz.underlying64 fun hl15=>zp (As R R R)<|zm R R<|?_
 refine XL.dec 17 R (fun g17=> ?_) (fun g17=> ?_)
 obtain ⟨x,hx⟩:∃x,(Bl (Cz v L))[j]? =some x:=Au (by omega)
 refine zm R R<|zm R R<|zp (Am R R R C5 (hx))<|zp (Az R R Ai)<|zm R R<|zp (Fx R R R)<|zq R R R<|zn<|?_
 refine zd R (fun c24=> ?_) (fun c24=> ?_)
 refine zi<|zs<|Ah<|Bm [] (by kernel_rfl) (by kernel_rfl) (by kernel_rfl) (by decide)<|ym R R<|ym R R<|ym R R<|yp (Am R R R C5 (hx))<|yp (Az R R Ai)<|ya R R<|ya R R<|?_
 refine ChK.nil ⟨by kernel_rfl, ?_⟩
 refine Af (by kernel_rfl)<|zm R R<|zp (Aj R R R (by omega) (by omega))<|za R R<|zn<|?_
 exact Ak (j+1) (⟨by omega,fun i hi=>by by_cases e:i=j;(· subst e;rw [←Hc hx];exact c24);(· exact hall i (by omega))⟩) (by omega) (fz ⟨sr,sr, .same (sI (Hc hx)),sr,sr,trivial⟩) (HSub.nil)
 have he:=Aak hp hj hall (.inr (by rw [←Hc hx];omega)) (Cz v L).length hj (Nat.le_refl _)
 refine Ap<|zr<|zm R R<|zm R R<|za R R<|za R R<|zn<|zt<|?_
 exact Bh R (RV.tmp R R) (RV.tmp R R) (r2 (rI (by rw [he])) (rI (by rw [he])))
 have he:=Aak hp hj hall (.inl (by omega)) (Cz v L).length hj (Nat.le_refl _)
 refine zk 6 R<|zq R R R<|zn<|A9 (by kernel_rfl) R<|Ap<|zr<|zm R R<|zm R R<|za R R<|za R R<|zn<|zt<|?_
 exact Bh R (RV.tmp R R) (RV.tmp R R) (r2 (rI (by rw [he])) (rI (by rw [he])))
end Go.Proofs.YtcihalbakenleaaGreat
namespace Go.Proofs.YtcihalbakenleaaGreat
open Go.RowKit
theorem Em:DecQ Tryz.prog 3 Gj:=DecQ.int Tryz.underlying3
def QPit:List D→Prop:=QS [Gj,Gj,Gj]
theorem Aog:DecQ Tryz.prog 89 QPit:=by
 refine DecQ.struct _ Tryz.underlying89 rfl (by kernel_rfl) fun i f Q hf hQ=> ?_
 match i,hf,hQ with
 |0,hf,hQ=>cases hf;cases hQ;exact Em
 |1,hf,hQ=>cases hf;cases hQ;exact Em
 |2,hf,hQ=>cases hf;cases hQ;exact Em
 |_+3,hf,hQ=>simp at hQ
def QHd:List D→Prop:=QS [QPit,Alx,Gj]
theorem Aw6:DecQ Tryz.prog 91 QHd:=by
 refine DecQ.struct _ Tryz.underlying91 rfl (by kernel_rfl) fun i f Q hf hQ=> ?_
 match i,hf,hQ with
 |0,hf,hQ=>cases hf;cases hQ;exact Aog
 |1,hf,hQ=>cases hf;cases hQ;exact (DecQ.bool Tryz.underlying4)
 |2,hf,hQ=>cases hf;cases hQ;exact Em
 |_+3,hf,hQ=>simp at hQ
def QGr:List D→Prop:=QS [QPit,Gj,Alx]
theorem Aw7:DecQ Tryz.prog 138 QGr:=by
 refine DecQ.struct _ Tryz.underlying138 rfl (by kernel_rfl) fun i f Q hf hQ=> ?_
 match i,hf,hQ with
 |0,hf,hQ=>cases hf;cases hQ;exact Aog
 |1,hf,hQ=>cases hf;cases hQ;exact Em
 |2,hf,hQ=>cases hf;cases hQ;exact (DecQ.bool Tryz.underlying4)
 |_+3,hf,hQ=>simp at hQ
def QSy:List D→Prop:=QS [Awc,Gj]
theorem Aw2:DecQ Tryz.prog 140 QSy:=by
 refine DecQ.struct _ Tryz.underlying140 rfl (by kernel_rfl) fun i f Q hf hQ=> ?_
 match i,hf,hQ with
 |0,hf,hQ=>cases hf;cases hQ;exact (DecQ.str Tryz.underlying9)
 |1,hf,hQ=>cases hf;cases hQ;exact Em
 |_+2,hf,hQ=>simp at hQ
def QId:List D→Prop:=QS [Gj,Gj]
theorem Aw5:DecQ Tryz.prog 54 QId:=by
 refine DecQ.struct _ Tryz.underlying54 rfl (by kernel_rfl) fun i f Q hf hQ=> ?_
 match i,hf,hQ with
 |0,hf,hQ=>cases hf;cases hQ;exact Em
 |1,hf,hQ=>cases hf;cases hQ;exact Em
 |_+2,hf,hQ=>simp at hQ
def Awb:List D→Prop:=QS [Gj,Gj]
theorem Av5:DecQ Tryz.prog 56 Awb:=by
 refine DecQ.struct _ Tryz.underlying56 rfl (by kernel_rfl) fun i f Q hf hQ=> ?_
 match i,hf,hQ with
 |0,hf,hQ=>cases hf;cases hQ;exact Em
 |1,hf,hQ=>cases hf;cases hQ;exact Em
 |_+2,hf,hQ=>simp at hQ
def QEv:List D→Prop:=QS [QId,Gj,Awb,QSl 5 QHd,QSl 5 QGr,Gj,Gj,Gj,QSl 2 QSy,Gj,Gj]
theorem Aw8:DecQ Tryz.prog 60 QEv:=by
 refine DecQ.struct _ Tryz.underlying60 rfl (by kernel_rfl) fun i f Q hf hQ=> ?_
 match i,hf,hQ with
 |0,hf,hQ=>cases hf;cases hQ;exact Aw5
 |1,hf,hQ=>cases hf;cases hQ;exact Em
 |2,hf,hQ=>cases hf;cases hQ;exact Av5
 |3,hf,hQ=>cases hf;cases hQ;exact (DecQ.slice Tryz.underlying48 Aw6 (by kernel_rfl) (by decide))
 |4,hf,hQ=>cases hf;cases hQ;exact (DecQ.slice Tryz.underlying57 Aw7 (by kernel_rfl) (by decide))
 |5,hf,hQ=>cases hf;cases hQ;exact Em
 |6,hf,hQ=>cases hf;cases hQ;exact Em
 |7,hf,hQ=>cases hf;cases hQ;exact Em
 |8,hf,hQ=>cases hf;cases hQ;exact (DecQ.slice Tryz.underlying58 Aw2 (by kernel_rfl) (by decide))
 |9,hf,hQ=>cases hf;cases hQ;exact Em
 |10,hf,hQ=>cases hf;cases hQ;exact Em
 |_+11,hf,hQ=>simp at hQ
def QTp:List D→Prop:=QS [Gj,Gj,Gj,Gj]
theorem Aw1:DecQ Tryz.prog 102 QTp:=by
 refine DecQ.struct _ Tryz.underlying102 rfl (by kernel_rfl) fun i f Q hf hQ=> ?_
 match i,hf,hQ with
 |0,hf,hQ=>cases hf;cases hQ;exact Em
 |1,hf,hQ=>cases hf;cases hQ;exact Em
 |2,hf,hQ=>cases hf;cases hQ;exact Em
 |3,hf,hQ=>cases hf;cases hQ;exact Em
 |_+4,hf,hQ=>simp at hQ
def QVo:List D→Prop:=QS [QSl 13 QEv,QSl 4 QTp]
theorem Aw0:DecQ Tryz.prog 25 QVo:=by
 refine DecQ.struct _ Tryz.underlying25 rfl (by kernel_rfl) fun i f Q hf hQ=> ?_
 match i,hf,hQ with
 |0,hf,hQ=>cases hf;cases hQ;exact (DecQ.slice Tryz.underlying22 Aw8 (by kernel_rfl) (by decide))
 |1,hf,hQ=>cases hf;cases hQ;exact (DecQ.slice Tryz.underlying23 Aw1 (by kernel_rfl) (by decide))
 |_+2,hf,hQ=>simp at hQ
def QMe:List D→Prop:=QS [Gj,Gj,QS (List.replicate 6 Gj)]
theorem Aw4:DecQ Tryz.prog 28 QMe:=by
 refine DecQ.struct _ Tryz.underlying28 rfl (by kernel_rfl) fun i f Q hf hQ=> ?_
 match i,hf,hQ with
 |0,hf,hQ=>cases hf;cases hQ;exact Em
 |1,hf,hQ=>cases hf;cases hQ;exact Em
 |2,hf,hQ=>cases hf;cases hQ;exact (DecQ.array Tryz.underlying26 (by kernel_rfl) Em)
 |_+3,hf,hQ=>simp at hQ
def QPl:List D→Prop:=QS [QMe,Gj,Gj]
theorem Aw3:DecQ Tryz.prog 30 QPl:=by
 refine DecQ.struct _ Tryz.underlying30 rfl (by kernel_rfl) fun i f Q hf hQ=> ?_
 match i,hf,hQ with
 |0,hf,hQ=>cases hf;cases hQ;exact Aw4
 |1,hf,hQ=>cases hf;cases hQ;exact Em
 |2,hf,hQ=>cases hf;cases hQ;exact Em
 |_+3,hf,hQ=>simp at hQ
def QA2:List D→Prop:=QS (List.replicate 2 Gj)
theorem Aw9:DecQ Tryz.prog 62 QA2:=DecQ.array Tryz.underlying62 (by kernel_rfl) Em
theorem Mh {α:Type} {Q:List D→Prop} {c:α→List D} {ok:α→Prop} (hq:∀ds,Q ds→∃a,ds=c a∧ok a):∀{l:List (List D)},(∀x∈l,Q x)→∃L:List α,l=L.map c∧∀a∈L,ok a
 | [],_=>⟨[],rfl,fun a h=>by cases h⟩
 |x::l,h=>by
  obtain ⟨a,rfl,ha⟩:=hq x (h x List.mem_cons_self)
  obtain ⟨L,rfl,hL⟩:=Mh hq fun y hy=>h y (List.mem_cons_of_mem _ hy)
  refine ⟨a::L,rfl,fun b hb=> ?_⟩
  rcases List.mem_cons.1 hb with e|e
  ·rw [e];exact ha
  ·exact hL b e
theorem QPit.inv {ds:List D} (h:QPit ds):∃p:Pit,ds=p.c:=by
 obtain ⟨_,_,rfl,⟨a,rfl,ha⟩,_,_,rfl,⟨b,rfl,hb⟩,_,_,rfl,⟨c,rfl,hc⟩,rfl⟩:=h
 exact ⟨⟨a,b,c⟩,rfl⟩
theorem QHd.inv (ds:List D) (h:QHd ds):∃x:Hd,ds=x.c∧True:=by
 obtain ⟨_,_,rfl,hp,_,_,rfl,⟨t,rfl⟩,_,_,rfl,⟨s,rfl,_⟩,rfl⟩:=h
 obtain ⟨p,rfl⟩:=hp.inv
 exact ⟨⟨p,t,s⟩,rfl,trivial⟩
theorem QGr.inv (ds:List D) (h:QGr ds):∃x:Gr,ds=x.c∧True:=by
 obtain ⟨_,_,rfl,hp,_,_,rfl,⟨s,rfl,_⟩,_,_,rfl,⟨t,rfl⟩,rfl⟩:=h
 obtain ⟨p,rfl⟩:=hp.inv
 exact ⟨⟨p,s,t⟩,rfl,trivial⟩
theorem QSy.inv (ds:List D) (h:QSy ds):∃x:Sy,ds=x.c∧True:=by
 obtain ⟨_,_,rfl,⟨t,rfl⟩,_,_,rfl,⟨s,rfl,_⟩,rfl⟩:=h
 exact ⟨⟨t.data.toList,s⟩,rfl,trivial⟩
theorem QTp.inv (ds:List D) (h:QTp ds):∃x:Tp,ds=x.c∧True:=by
 obtain ⟨_,_,rfl,⟨a,rfl,ha⟩,_,_,rfl,⟨b,rfl,hb⟩,_,_,rfl,⟨c,rfl,hc⟩,_,_,rfl,⟨d,rfl,hd⟩,rfl⟩:=h
 exact ⟨⟨a,b,c,d⟩,rfl,trivial⟩
theorem QEv.inv (ds:List D) (h:QEv ds):∃x:Ev,ds=x.c∧x.art≤9223372036854775807:=by
 obtain ⟨_, _, rfl, ⟨_, _, rfl, ⟨s, rfl, _⟩, _, _, rfl, ⟨n, rfl, _⟩, rfl⟩, _, _, rfl, ⟨k, rfl, _⟩, _, _, rfl, ⟨_, _, rfl, ⟨lg, rfl, _⟩, _, _, rfl, ⟨dt, rfl, _⟩, rfl⟩, _, _, rfl, ⟨hs, rfl, hh⟩, _, _, rfl, ⟨gs, rfl, hg⟩,
  _, _, rfl, ⟨ar, rfl, har⟩, _, _, rfl, ⟨om, rfl, _⟩, _, _, rfl, ⟨dy, rfl, _⟩, _, _, rfl, ⟨ls, rfl, hl⟩, _, _, rfl, ⟨st, rfl, _⟩, _, _, rfl, ⟨be, rfl, _⟩, rfl⟩ := h
 obtain ⟨H,rfl,_⟩:=Mh QHd.inv hh
 obtain ⟨G,rfl,_⟩:=Mh QGr.inv hg
 obtain ⟨L,rfl,_⟩:=Mh QSy.inv hl
 exact ⟨⟨s,n,k,⟨lg,dt⟩,H,G,ar,om,dy,L,st,be⟩,rfl,har.2⟩
theorem QVo.inv (ds:List D) (h:QVo ds):∃v:Vo,ds=v.c∧Evs v.evs:=by
 obtain ⟨_,_,rfl,⟨es,rfl,he⟩,_,_,rfl,⟨ts,rfl,ht⟩,rfl⟩:=h
 obtain ⟨E,rfl,hE⟩:=Mh QEv.inv he
 obtain ⟨T,rfl,_⟩:=Mh QTp.inv ht
 exact ⟨⟨E,T⟩,rfl,hE⟩
theorem QA2.inv (ds:List D) (h:QA2 ds):∃a b:Int,ds= [dI a,dI b]:=by
 obtain ⟨_,_,rfl,⟨a,rfl,_⟩,_,_,rfl,⟨b,rfl,_⟩,rfl⟩:=h
 exact ⟨a,b,rfl⟩
theorem QMe.inv (ds:List D) (h:QMe ds):∃m:Me,ds=m.c:=by
 obtain ⟨_,_,rfl,⟨c,rfl,_⟩,_,_,rfl,⟨u,rfl,_⟩,_,_,rfl,⟨_,_,rfl,⟨g0,rfl,hg0⟩,_,_,rfl,⟨g1,rfl,hg1⟩,_,_,rfl,⟨g2,rfl,hg2⟩,_,_,rfl,⟨g3,rfl,hg3⟩,_,_,rfl,⟨g4,rfl,hg4⟩,_,_,rfl,⟨g5,rfl,hg5⟩,rfl⟩,rfl⟩:=h
 exact ⟨⟨c,u,g0,g1,g2,g3,g4,g5⟩,rfl⟩
theorem QPl.inv (ds:List D) (h:QPl ds):∃p:Pl,ds=p.c:=by
 obtain ⟨_,_,rfl,hm,_,_,rfl,⟨a,rfl,_⟩,_,_,rfl,⟨b,rfl,_⟩,rfl⟩:=h
 obtain ⟨m,rfl⟩:=QMe.inv _ hm
 exact ⟨⟨m,a,b⟩,rfl⟩
end Go.Proofs.YtcihalbakenleaaGreat
namespace Go.Proofs.YtcihalbakenleaaGreat
open Go.RowKit
def Jq (v:Vo) (L t:Int):List Hd:=if atE v L t≠0 then [] else match v.evs[(atV v L t).1.toNat]? with
 |some x=>x.heads
 |none=> []
theorem Aa3 {v:Vo} {L t:Int} (h:atE v L t≠0):Jq v L t= []:=by rw [Jq,if_pos h]
theorem Aa4 {v:Vo} {L t a:Int} {k:Nat} {x:Ev} (h:¬atE v L t≠0) (hat:atV v L t=((k:Int),a)) (hx:v.evs[k]? =some x):Jq v L t=x.heads:=by
 rw [Jq,if_neg h,hat]
 simp only [Int.toNat_natCast,hx]
theorem Xe (v:Vo) (L t:Int):(ckE v L≠0→atE v L t=ckE v L)∧(ckE v L=0→v.evs.length=0→atE v L t=10)∧(ckE v L=0→v.evs.length≠0→(t<0∨L≤t)→atE v L t=2)∧(ckE v L=0→v.evs.length≠0→¬(t<0∨L≤t)→atE v L t=0):=by
 refine ⟨fun h=>Afk h,fun h h2=>Afj (fun k=>k h) (by have:=Ge h;omega),fun h h2 h3=>Vh (fun k=>k h) (by have:=Ge h;omega) h3,fun h h2 h3=>(Alv (fun k=>k h) (by have:=Ge h;omega) h3).2.symm⟩
theorem Alu {v:Vo} {L t:Int} (h:atE v L t=0):atV v L t=atS (ckL v L) t (ckL v L).length:=by rw [atV,if_neg (by omega)]
theorem Aa2 (v:Vo) (L t:Int) (hE:Evs v.evs) (hF:v.fit):XC Tryz.prog 23 [.agg (Vo.c v), .v (.int .i64 L), .v (.int .i64 t)] (fun r=>r= .sl 5 ((Jq v L t).map Hd.c)):=by
 refine Ao Ahv Tryz.func23 R R lb<|zr<|XL.step R (At 3 (l:= [.d (.sl 13 (v.evs.map Ev.c)), .d (.sl 4 (v.tups.map Tp.c))]) R R (by kernel_rfl))<|za R R<|znr<|zp (Ae (s':= .d (.agg (Vo.c v))) (Ac (Ad R R An R lb)) (by kernel_rfl))<|zm R R<|zm R R<|XL.call1 R R (Ars _ _ _ (by assumption)) R<|zm R R<|zp (A6 R R R)<|zp (A6 R R R)<|zp (A6 R R R)<|za R R<|?_
 refine za R R<|za R R<|zn<|zs<|zr<|zm R R<|zp (Be R R R)<|zn<|?_
 refine zd R (fun c19=> ?_) (fun c19=> ?_)
 refine zr<|za R R<|zn<|zt<|?_
 exact F6 R (RV.nil (sz:=5) R R) (rSl (Aa3 c19).symm)
 refine zi<|zs<|?_
 obtain ⟨k,a,hat,_,_,hak⟩:=Qi v L t
 have hkl:=(hak (by omega)).1
 have hcl:=Ge (Vg (v:=v) (L:=L) (t:=t) (by omega)).1
 obtain ⟨x,hx⟩:∃x,v.evs[k]? =some x:=Au (by omega)
 have hxh:=(hF.ev x (List.mem_of_getElem? hx)).1
 refine Af (by kernel_rfl)<|zp (Aa R R Ax)<|zp (Ab R R Bk R R)<|zm R R<|zp (F9 R R R (by rw [hat]) B5 (hx))<|zp (Bq R R Bi)<|zp (Az R R Ct)<|XL.callS R R ((Il _ (by omega)).lab 7001) R<|zp (Ar R (by conv=>lhs;whnf))<|?_
 exact zn<|zt<|Bg (i:=7001) R<|z1 R R (rSl (Aa4 c19 hat hx).symm)
end Go.Proofs.YtcihalbakenleaaGreat
namespace Go.Proofs.YtcihalbakenleaaGreat
def Uq:List (List Pit × Int)→Int→List Pit
  | [],_=> []
  |(p,w)::r,t=>if t<w then p else Uq r (t - w)
def evP (e:Ev):List Pit:=Am8 e.heads
def Ajr (es:List Ev) (ls:List Int):List (List Pit × Int):=(es.map evP).zip ls
theorem Aa6:∀{ls:List Int} {t:Int},0≤t→t<tot ls→∃(k:Nat) (w:Int),ls[k]? =some w∧tot (ls.take k)≤t∧t<tot (ls.take k)+w
  | [],t,h0,h=>by rw [Hx] at h;omega
  |w::r,t,h0,h=>by
    rw [Hy] at h
    by_cases c:t<w
    · exact ⟨0,w,rfl,by rw [List.take_zero,Hx];exact h0,by rw [List.take_zero,Hx];omega⟩
    · obtain ⟨k,u,h1,h2,h3⟩:=Aa6 (ls:=r) (t:=t - w) (by omega) (by omega)
      exact ⟨k+1,u,by simpa using h1,by rw [List.take_succ_cons,Hy];omega,by rw [List.take_succ_cons,Hy];omega⟩
theorem Xj:∀{es:List Ev} {ls:List Int} {k:Nat} {x:Ev} {w t:Int},(∀u∈ls,0<u)→es[k]? =some x→ls[k]? =some w→tot (ls.take k)≤t→t<tot (ls.take k)+w→Uq (Ajr es ls) t=evP x
  |e::es,u::ls,0,x,w,t,hp,hx,hw,h1,h2=>by
    cases hx;cases hw
    rw [List.take_zero,Hx] at h2
    show Uq ((evP e,u)::Ajr es ls) t=evP e
    rw [Uq,if_pos (by omega)]
  |e::es,u::ls,k+1,x,w,t,hp,hx,hw,h1,h2=>by
    rw [List.take_succ_cons,Hy] at h1 h2
    have hp':∀y∈ls,0<y:=fun y hy=>hp y (List.mem_cons_of_mem _ hy)
    have h3:0≤tot (ls.take k):=by have:=K5 hp' (j:=0) (k:=k) (Nat.zero_le _);rwa [List.take_zero,Hx] at this
    show Uq ((evP e,u)::Ajr es ls) t=evP x
    rw [Uq,if_neg (by omega)]
    exact Xj hp' (by simpa using hx) (by simpa using hw) (by omega) (by omega)
  | [],_,_,x,w,t,_,hx,_,_,_=>by simp at hx
  |_::_, [],k,x,w,t,_,_,hw,_,_=>by simp at hw
theorem Sw {v:Vo} {L:Int} (h:ckE v L=0) (hne:v.evs≠ []):tot (ckL v L)=L:=by
  by_cases c:v.rest
  · rw [(Nx c h).2.1,Hy,Hx];omega
  · exact ((K2 c).1 ⟨h,rfl⟩).2.2.2 hne
theorem Amg {v:Vo} {L t:Int} (h:ckE v L=0) (h0:0≤t) (h1:t<L):Am8 (Jq v L t)=Uq (Ajr v.evs (ckL v L)) t:=by
  have hcl:=Ge h
  obtain ⟨hA1,hA2,hA3,hA4⟩:=Xe v L t
  by_cases c:v.evs= []
  · rw [Aa3 (by rw [hA2 h (by rw [c];rfl)];decide),c];rfl
  · have hlen:v.evs.length≠0:=fun k=>c (List.eq_nil_of_length_eq_zero k)
    have he:=hA4 h hlen (by omega)
    obtain ⟨k,w,hw,k1,k2⟩:=Aa6 h0 (by rw [Sw h c];exact h1)
    have hp:=Lk h
    have hkl:=(List.getElem?_eq_some_iff.1 hw).1
    obtain ⟨x,hx⟩:∃x,v.evs[k]? =some x:=Au (by omega)
    rw [Xj hp hx hw k1 k2]
    have hj:=Aak hp (t:=t) (j:=k+1) (by omega) (fun i hi=>by have:=K5 hp (j:=i) (k:=k) (by omega);omega) (.inr (by rw [Bp hw,Hb];omega)) (ckL v L).length (by omega) (Nat.le_refl _)
    have hat:atV v L t=((k:Int),tot ((ckL v L).take k)):=by rw [Alu he,hj];rfl
    rw [Aa4 (by omega) hat hx];rfl
end Go.Proofs.YtcihalbakenleaaGreat
namespace Go.Proofs.YtcihalbakenleaaGreat
open Go.RowKit
def M9 (u:Int) (j:Nat):Bool:=(List.range j).any fun i=>decide (u=2 ^ i)
theorem Yy (u:Int) (j:Nat):M9 u (j+1)=(M9 u j||decide (u=2 ^ j)):=by
 unfold M9;rw [List.range_succ,List.any_append];simp
theorem Auz {j:Nat} (h:j≤7):(j<7∧1≤(2:Int) ^ j∧(2:Int) ^ j≤64)∨(j=7∧(2:Int) ^ j=128):=by
 match j,h with
 |0,_=>decide
 |1,_=>decide
 |2,_=>decide
 |3,_=>decide
 |4,_=>decide
 |5,_=>decide
 |6,_=>decide
 |7,_=>decide
 |j+8,h=>omega
theorem pow_iff {m:Me}:M9 m.unit 7=true↔¬(m.unit<1∨64<m.unit∨¬m.pow):=by
 have h0:∀n:Nat,n<65→(M9 (n:Int) 7=true↔¬((n:Int)<1∨64<(n:Int)∨¬(((n:Int).toNat &&& ((n:Int) - 1).toNat:Nat):Int)=0)):=by decide+kernel
 by_cases c:0≤m.unit∧m.unit≤64
 ·obtain ⟨n,hn⟩:=Int.eq_ofNat_of_zero_le c.1
  have:=h0 n (by omega)
  unfold Me.pow
  rw [hn];exact this
 ·constructor
  ·intro h
   unfold M9 at h
   rw [List.any_eq_true] at h
   obtain ⟨i,hi,h⟩:=h
   have hi:=List.mem_range.1 hi
   have h:=of_decide_eq_true h
   have:=Auz (j:=i) (by omega)
   omega
  ·intro h;omega
theorem An8 {m:Me} {s n:Int} (h:gGo 0 0 0 m.gs=some (s,n)):m.flat↔n=0:=by
 have hg:∀(l:List Int) (k:Nat) (s n s' n':Int),gGo k s n l=some (s',n')→0≤n→n≤n'∧(n'=n↔∀g∈l,g=0):=by
  intro l
  induction l with
  |nil=>
   intro k s n s' n' h _
   rw [gGo] at h;cases h
   exact ⟨Int.le_refl _,fun _ g hg=>(by cases hg),fun _=>rfl⟩
  |cons g l ih=>
   intro k s n s' n' h h0
   rw [gGo] at h
   split at h
   ·cases h
   ·rename_i c
    split at h
    ·rename_i c2
     obtain ⟨h1,h2⟩:=ih _ _ _ _ _ h (by omega)
     exact ⟨by omega,fun e=>by omega,fun e=>by have:=e g List.mem_cons_self;omega⟩
    ·rename_i c2
     obtain ⟨h1,h2⟩:=ih _ _ _ _ _ h h0
     refine ⟨h1,fun e x hx=> ?_,fun e=>h2.2 fun x hx=>e x (List.mem_cons_of_mem _ hx)⟩
     rcases List.mem_cons.1 hx with q|q
     ·rw [q];omega
     ·exact h2.1 e x q
 have h2:=(hg m.gs 0 0 0 s n h (Int.le_refl _)).2
 rw [h2]
 unfold Me.flat Me.gs
 simp only [List.mem_cons,List.not_mem_nil,or_false,forall_eq_or_imp,forall_eq]
theorem Att {m:Me} {s n:Int} (h:gGo 0 0 0 m.gs=some (s,n)) (h0:0≤n):m.grouped↔¬(n=1∨(1<n∧s≠m.count)):=by
 by_cases c:m.flat
 ·have:=(An8 h).1 c
  exact ⟨fun _=>by omega,fun _=> .inl c⟩
 ·have hn:=(not_congr (An8 h)).1 c
  rw [Acj c h];omega
theorem Wu {m:Me} (h:¬(m.count<1∨64<m.count)) (h2:M9 m.unit 7=true) (h3:¬m.grouped):19=m.err:=Avd h (pow_iff.1 h2) h3
theorem Arm {m:Me} (h:¬(m.count<1∨64<m.count)) (h2:M9 m.unit 7=true) (h3:m.grouped):0=m.err:=Avc h (pow_iff.1 h2) h3
theorem Awt {m:Me} (h:¬(m.count<1∨64<m.count)) (h2:¬M9 m.unit 7=true):17=m.err:=Akw h (Decidable.not_not.1 fun k=>h2 (pow_iff.2 k))
theorem Ab4 {m:Me} (h1:gGo 0 0 0 m.gs=none):¬m.grouped:=by
 rintro (h|h)
 ·have:m.gs= [0,0,0,0,0,0]:=by unfold Me.flat at h;unfold Me.gs;rw [h.1,h.2.1,h.2.2.1,h.2.2.2.1,h.2.2.2.2.1,h.2.2.2.2.2]
  rw [this] at h1
  revert h1;decide
 ·rw [h1] at h;exact h
theorem Ach {m:Me} {k:Nat} {g:Int} (h:m.gs[k]? =some g):((Me.c m).map S.d)[2+k]? =some (S.d (dI g)):=by
 have:(m.gs.map fun g=>S.d (dI g))[k]? =some (S.d (dI g)):=by rw [List.getElem?_map,h];rfl
 have e:((Me.c m).map S.d)= [S.d (dI m.count),S.d (dI m.unit)]++m.gs.map fun g=>S.d (dI g):=rfl
 rw [e,List.getElem?_append_right (by simp)]
 simpa using this
theorem Axn {b:Bool} (h:(!b)=true):¬b=true:=by cases b<;>simp_all
theorem Aws {b:Bool} (h:(!b)=false):b=true:=by cases b<;>simp_all
theorem Afw (m:Me):XC Tryz.prog 36 [.agg (Me.c m)] (fun r=>r=dI m.err):=by
 refine Ao Aho Tryz.func36 R R lb<|zr<|XL.step R (At 1 (l:= [.d (dI m.count), .d (dI m.unit), .d (dI m.g0), .d (dI m.g1), .d (dI m.g2), .d (dI m.g3), .d (dI m.g4), .d (dI m.g5)]) R R (by kernel_rfl))<|za R R<|zn<|zs<|zr<|zp (Aa R R Eb)<|zp (Ab R R Ai R R)<|zp (As R R R)<|zm R R<|?_
 refine XL.dec 12 R (fun g12=> ?_) (fun g12=> ?_)
 exact zk 3 R<|zq R R R<|zn<|Aq (by kernel_rfl) R<|zr<|za R R<|zn<|zt<|z1 R R (rI (Akx (.inl g12)))
 refine zp (Aa R R Eb)<|zp (Ab R R Ai R R)<|zp (Bb R R R)<|zq R R R<|zn<|?_
 refine zd R (fun c16=> ?_) (fun c16=> ?_)
 exact zr<|za R R<|zn<|zt<|z1 R R (rI (Akx (.inr c16)))
 refine zi<|zr<|za R R<|zn<|zs<|zr<|za R R<|zn<|Ah<|?_
 refine Ay (α:=Nat) (fun j=>j≤7) (fun j=>mkF [(1, .ptr 1 0 0),(2, .d (dI 0)),(3, .d (dB (M9 m.unit j))),(4, .d (dI (2 ^ j)))]) (fun j=>mkH [(1, .box ((Me.c m).map S.d))]) (fun j=>7 - j) (0) (Nat.zero_le _) ?_ ?_ ?_
 exact fz ⟨sr,sr,sr, .same (sI (by decide)),trivial⟩
 exact gz ⟨R,trivial⟩
 intro j hk0
 have hp7:=Auz hk0
 refine zs<|zr<|zm R R<|zp (Fx R R R)<|zn<|?_
 refine zd R (fun c18=> ?_) (fun c18=> ?_)
 refine zi<|zs<|Ah<|Af (by kernel_rfl)<|zm R R<|zm R R<|?_
 refine XL.bool 22 R (fun g22=> ?_) (fun g22=> ?_)
 refine zk 4 R<|zq R R R<|za R R<|zn<|Af (by kernel_rfl)<|zm R R<|zp (H7 R R R (by omega) (by omega))<|za R R<|zn<|?_
 exact Ak (j+1) (by omega) (by omega) (fz ⟨sr,sr, .same (sB (by rw [Yy,g22];rfl)), .same (sI (by rw [Int.pow_succ];omega)),trivial⟩) (gz ⟨R,trivial⟩)
 refine zp (Aa R R Ij)<|zp (Ab R R Ai R R)<|zm R R<|zp (A5 R R R)<|zq R R R<|za R R<|zn<|Af (by kernel_rfl)<|zm R R<|zp (H7 R R R (by omega) (by omega))<|za R R<|zn<|?_
 exact Ak (j+1) (by omega) (by omega) (fz ⟨sr,sr, .same (sB (by rw [Yy,g22];rfl)), .same (sI (by rw [Int.pow_succ];omega)),trivial⟩) (gz ⟨R,trivial⟩)
 have hj7:j=7:=by omega
 subst hj7
 refine Ap<|zs<|zr<|zm R R<|zp (Dd R R)<|zn<|?_
 refine Dw (by kernel_rfl) R (fun c29=> ?_) (fun c29=> ?_)
 exact zr<|za R R<|zn<|zt<|z1 R R (rI (Awt (by omega) (Axn c29)))
 have hpw:=Aws c29
 refine zi<|zr<|za R R<|za R R<|zn<|zs<|zr<|za R R<|zn<|Ah<|?_
 refine Ay (α:=Nat × Int × Int) (fun p=>p.1≤6∧gGo p.1 p.2.1 p.2.2 (m.gs.drop p.1)=gGo 0 0 0 m.gs∧0≤p.2.1∧p.2.1≤64*p.1∧0≤p.2.2∧p.2.2≤p.1) (fun p=>mkF [(1, .ptr 1 0 0),(5, .d (dI p.2.1)),(6, .d (dI p.2.2)),(7, .d (dI (p.1:Nat)))]) (fun p=>mkH [(1, .box ((Me.c m).map S.d))]) (fun p=>6 - p.1) ((0,0,0)) (⟨Nat.zero_le _,R,by simp,by simp,by simp,by simp⟩) ?_ ?_ ?_
 exact fz ⟨sr,sr,sr,sr,trivial⟩
 exact gz ⟨R,trivial⟩
 intro p hk2
 obtain ⟨hk,hgo,hs0,hs1,hn0,hn1⟩:=hk2
 refine zs<|zr<|zm R R<|zp (As R R R)<|zn<|?_
 refine zd R (fun c31=> ?_) (fun c31=> ?_)
 obtain ⟨g,hg⟩:∃g,m.gs[p.1]? =some g:=Au (by show p.1<6;omega)
 refine zi<|zs<|Ah<|zr<|zm R R<|zp (Aa R R Gq)<|zp (D2 R R R Tryz.underlying26 Cs (by omega))<|zp (Ab R R Ai R (Ach hg))<|za R R<|zn<|zs<|zr<|zm R R<|zp (As R R R)<|?_
 refine zm R R<|?_
 refine XL.dec 40 R (fun g40=> ?_) (fun g40=> ?_)
 exact zk 2 R<|zq R R R<|zm R R<|zk 7 R<|zq R R R<|zn<|Aq (by kernel_rfl) R<|zr<|za R R<|zn<|zt<|z1 R R (rI (Wu (by omega) hpw (Ab4 (by rw [←hgo];exact Mi hg (by omega)))))
 refine zm R R<|zp (Bb R R R)<|zq R R R<|zm R R<|?_
 refine XL.dec 44 R (fun g44=> ?_) (fun g44=> ?_)
 exact zk 7 R<|zq R R R<|zn<|Aq (by kernel_rfl) R<|zr<|za R R<|zn<|zt<|z1 R R (rI (Wu (by omega) hpw (Ab4 (by rw [←hgo];exact Mi hg (by omega)))))
 refine zm R R<|zp (Bb R R R)<|zm R R<|?_
 refine XL.dec 47 R (fun g47=> ?_) (fun g47=> ?_)
 refine zm R R<|zm R R<|zp (As R R R)<|zq R R R<|zq R R R<|zn<|?_
 refine zd R (fun c52=> ?_) (fun c52=> ?_)
 exact zr<|za R R<|zn<|zt<|z1 R R (rI (Wu (by omega) hpw (Ab4 (by rw [←hgo];exact Mi hg (by omega)))))
 refine zi<|zr<|zm R R<|zp (Bb R R R)<|zn<|?_
 refine zd R (fun c54=> ?_) (fun c54=> ?_)
 refine Af (by kernel_rfl)<|zm R R<|zm R R<|zp (Aj R R R (by omega) (by omega))<|zm R R<|zp (Aj R R R (by omega) (by omega))<|za R R<|za R R<|zn<|Af (by kernel_rfl)<|zm R R<|zp (Aj R R R (by omega) (by omega))<|za R R<|zn<|?_
 exact Ak ((p.1+1,p.2.1+g,p.2.2+1)) (⟨by simp only;omega,by rw [←Ai9 hg (by omega) c54];exact hgo,by simp only;omega,by simp only;omega,by simp only;omega,by simp only;omega⟩) (by simp only;omega) (fz ⟨sr,sr,sr,sr,trivial⟩) (gz ⟨rfl,trivial⟩)
 refine zi<|Af (by kernel_rfl)<|zm R R<|zp (Aj R R R (by omega) (by omega))<|za R R<|zn<|?_
 exfalso;omega
 refine zk 3 R<|zq R R R<|zq R R R<|zn<|A9 (by kernel_rfl) R<|zi<|zr<|zm R R<|zp (Bb R R R)<|zn<|?_
 refine zd R (fun c54=> ?_) (fun c54=> ?_)
 refine Af (by kernel_rfl)<|zm R R<|zm R R<|zp (Aj R R R (by omega) (by omega))<|zm R R<|zp (Aj R R R (by omega) (by omega))<|za R R<|za R R<|zn<|Af (by kernel_rfl)<|zm R R<|zp (Aj R R R (by omega) (by omega))<|za R R<|zn<|?_
 exfalso;omega
 refine zi<|Af (by kernel_rfl)<|zm R R<|zp (Aj R R R (by omega) (by omega))<|za R R<|zn<|?_
 exact Ak ((p.1+1,p.2.1,p.2.2)) (⟨by simp only;omega,by rw [←An6 hg (by omega) c54];exact hgo,by simp only;omega,by simp only;omega,by simp only;omega,by simp only;omega⟩) (by simp only;omega) (fz ⟨sr,sr,sr,sr,trivial⟩) (gz ⟨rfl,trivial⟩)
 have hke:p.1=6:=by omega
 have hend:gGo 0 0 0 m.gs=some (p.2.1,p.2.2):=by rw [←hgo,hke];rfl
 have hgr:=Att hend hn0
 refine Ap<|zs<|zr<|zm R R<|zp (A5 R R R)<|zm R R<|?_
 refine XL.dec 62 R (fun g62=> ?_) (fun g62=> ?_)
 exact zk 8 R<|zq R R R<|zn<|Aq (by kernel_rfl) R<|zr<|za R R<|zn<|zt<|z1 R R (rI (Wu (by omega) hpw (fun k=>hgr.1 k (.inl g62))))
 refine zm R R<|zp (Bb R R R)<|zm R R<|?_
 refine XL.dec 65 R (fun g65=> ?_) (fun g65=> ?_)
 refine zm R R<|zp (Aa R R Eb)<|zp (Ab R R Ai R R)<|zp (Be R R R)<|zq R R R<|zq R R R<|zn<|?_
 refine zd R (fun c71=> ?_) (fun c71=> ?_)
 exact zr<|za R R<|zn<|zt<|z1 R R (rI (Wu (by omega) hpw (fun k=>hgr.1 k (by omega))))
 exact zi<|zr<|za R R<|zn<|zt<|z1 R R (rI (Arm (by omega) hpw (hgr.2 (by omega))))
 exact zk 4 R<|zq R R R<|zq R R R<|zn<|A9 (by kernel_rfl) R<|zi<|zr<|za R R<|zn<|zt<|z1 R R (rI (Arm (by omega) hpw (hgr.2 (by omega))))
def Pl.err (p:Pl):Int:=if p.m.err≠0 then p.m.err else if p.bad then 2 else 0
theorem Awo {p:Pl} (h:p.m.err≠0):p.m.err=p.err:=by rw [Pl.err,if_pos h]
theorem Aaa {p:Pl} (h:¬p.m.err≠0) (h2:p.bad):2=p.err:=by rw [Pl.err,if_neg h,if_pos h2]
theorem Awn {p:Pl} (h:¬p.m.err≠0) (h2:¬p.bad):0=p.err:=by rw [Pl.err,if_neg h,if_neg h2]
theorem Arr {p:Pl} {v:Vo}:p.chk v=if p.err≠0 then p.err else ckE v p.len:=by
 unfold Pl.chk Pl.err
 by_cases c:p.m.err≠0
 ·rw [if_pos c,if_pos c,if_pos c]
 ·rw [if_neg c,if_neg c]
  by_cases c2:p.bad
  ·rw [if_pos c2,if_pos c2];rfl
  ·rw [if_neg c2,if_neg c2,if_neg (by decide)]
theorem Am3 (p:Pl):XC Tryz.prog 49 [.agg (Pl.c p)] (fun r=>r=dI p.err):=by
 refine Ao Ahe Tryz.func49 R R lb<|zr<|XL.step R (At 1 (l:= [.d (dI p.m.count), .d (dI p.m.unit), .d (dI p.m.g0), .d (dI p.m.g1), .d (dI p.m.g2), .d (dI p.m.g3), .d (dI p.m.g4), .d (dI p.m.g5), .d (dI p.off), .d (dI p.len)]) R R (by kernel_rfl))<|za R R<|zn<|zs<|zr<|zp (Aa R R K8)<|?_
 refine zp (Ae (s':= .d (.agg (Me.c p.m))) (Ac (Ad R R Bo R lb)) (by kernel_rfl))<|XL.call1 R R (Afw _) R<|za R R<|znr<|zm R R<|zp (Be R R R)<|zn<|?_
 refine zd R (fun c8=> ?_) (fun c8=> ?_)
 exact zr<|zm R R<|za R R<|zn<|zt<|z1 R R (rI (Awo c8))
 refine zi<|zs<|zr<|zp (Aa R R D5)<|zp (Ab R R Ai R R)<|zp (As R R R)<|zm R R<|?_
 refine XL.dec 13 R (fun g13=> ?_) (fun g13=> ?_)
 exact zk 3 R<|zq R R R<|zm R R<|zk 3 R<|zq R R R<|zm R R<|zk 3 R<|zq R R R<|zn<|Aq (by kernel_rfl) R<|zr<|za R R<|zn<|zt<|z1 R R (rI (Aaa c8 (by unfold Pl.bad;omega)))
 refine zp (Aa R R D5)<|zp (Ab R R Ai R R)<|zp (Bb R R R)<|zq R R R<|zm R R<|?_
 refine XL.dec 18 R (fun g18=> ?_) (fun g18=> ?_)
 exact zk 3 R<|zq R R R<|zm R R<|zk 3 R<|zq R R R<|zn<|Aq (by kernel_rfl) R<|zr<|za R R<|zn<|zt<|z1 R R (rI (Aaa c8 (by unfold Pl.bad;omega)))
 refine zp (Aa R R Jl)<|zp (Ab R R Ai R R)<|zp (As R R R)<|zq R R R<|zm R R<|?_
 refine XL.dec 23 R (fun g23=> ?_) (fun g23=> ?_)
 exact zk 3 R<|zq R R R<|zn<|Aq (by kernel_rfl) R<|zr<|za R R<|zn<|zt<|z1 R R (rI (Aaa c8 (by unfold Pl.bad;omega)))
 refine zp (Aa R R Jl)<|zp (Ab R R Ai R R)<|zp (Bb R R R)<|zq R R R<|zn<|?_
 refine zd R (fun c27=> ?_) (fun c27=> ?_)
 exact zr<|za R R<|zn<|zt<|z1 R R (rI (Aaa c8 (by unfold Pl.bad;omega)))
 exact zi<|zr<|za R R<|zn<|zt<|z1 R R (rI (Awn c8 (by unfold Pl.bad;omega)))
theorem Alc (v:Vo) (p:Pl) (hE:Evs v.evs) (ht:v.tups.length≤1000):XC Tryz.prog 16 [.agg (Vo.c v), .agg (Pl.c p)] (fun r=>r=dI (p.chk v)):=by
 refine Ao Ah1 Tryz.func16 R R lb<|zr<|XL.step R (At 2 (l:= [.d (.sl 13 (v.evs.map Ev.c)), .d (.sl 4 (v.tups.map Tp.c))]) R R (by kernel_rfl))<|XL.step R (At 3 (l:= [.d (dI p.m.count), .d (dI p.m.unit), .d (dI p.m.g0), .d (dI p.m.g1), .d (dI p.m.g2), .d (dI p.m.g3), .d (dI p.m.g4), .d (dI p.m.g5), .d (dI p.off), .d (dI p.len)]) R R (by kernel_rfl))<|za R R<|zn<|zs<|zr<|?_
 refine zp (Ae (s':= .d (.agg (Pl.c p))) (Ac (Ad R R G7 R lb)) (by kernel_rfl))<|XL.call1 R R (Am3 _) R<|za R R<|znr<|zm R R<|zp (Be R R R)<|zn<|?_
 refine zd R (fun c9=> ?_) (fun c9=> ?_)
 exact zr<|zm R R<|za R R<|zn<|zt<|z1 R R (rI (by rw [Arr,if_pos c9]))
 exact zi<|zr<|zp (Ae (s':= .d (.agg (Vo.c v))) (Ac (Ad R R An R lb)) (by kernel_rfl))<|zp (Aa R R Fn)<|zp (Ab R R Ai R R)<|XL.call1 R R (Py _ _ (by assumption) (by omega)) R<|za R R<|zn<|zt<|z1 R R (rI (by rw [Arr,if_neg c9]))
end Go.Proofs.YtcihalbakenleaaGreat
namespace Go.Proofs.YtcihalbakenleaaGreat
open Go.RowKit
theorem Hu (m:Me) (h:Mok m):XC Tryz.prog 161 [.agg (Me.c m)] (fun r=>r=dI m.u):=by
 have hu:=h.unit
 exact Ao Adu Tryz.func161 R R lb<|zr<|XL.step R (At 1 (l:= [.d (dI m.count), .d (dI m.unit), .d (dI m.g0), .d (dI m.g1), .d (dI m.g2), .d (dI m.g3), .d (dI m.g4), .d (dI m.g5)]) R R (by kernel_rfl))<|za R R<|znr<|zp (Aa R R Ij)<|zp (Ab R R Ai R R)<|zp (Gy R R R (by omega) (by omega) (by omega))<|za R R<|zn<|zt<|z1 R R (rI R)
theorem U1 (m:Me) (h:Mok m):XC Tryz.prog 157 [.agg (Me.c m)] (fun r=>r=dI m.len):=by
 have hu:=h.u
 have hc:=h.count
 have hl:=h.len
 have hl2:m.count*m.u=m.len:=rfl
 refine Ao Ady Tryz.func157 R R lb<|zr<|XL.step R (At 1 (l:= [.d (dI m.count), .d (dI m.unit), .d (dI m.g0), .d (dI m.g1), .d (dI m.g2), .d (dI m.g3), .d (dI m.g4), .d (dI m.g5)]) R R (by kernel_rfl))<|za R R<|zn<|zs<|Bm [] (by kernel_rfl) (by kernel_rfl) (by kernel_rfl) (by decide)<|yp (Aa R R Eb)<|yp (Ab R R Ai R R)<|?_
 refine yp (Ae (s':= .d (.agg (Me.c m))) (Ac (Ad R R Bo R lb)) (by kernel_rfl))<|ChK.cons R (CStep.call R (Hu _ (by assumption)) R)<|yp (H7 R R R (by omega) (by omega))<|ya R R<|?_
 refine ChK.nil ⟨by kernel_rfl, ?_⟩
 exact zt<|z1 R R (rI R)
theorem X2:∀(l:List Int) (k:Nat) (s n s' n':Int),gGo k s n l=some (s',n')→n≤k→(n<k→∀g∈l,g=0)∧(n=k→l.filter nz=l.takeWhile fun g=>decide (0<g))
 | [],k,s,n,s',n',h,hn=>⟨fun _ g hg=>(by cases hg),fun _=>rfl⟩
 |g::l,k,s,n,s',n',h,hn=>by
  rw [gGo] at h
  split at h
  ·cases h
  ·rename_i c
   split at h
   ·rename_i c2
    have hk:(k:Int)=n:=by omega
    obtain ⟨h1,h2⟩:=X2 l (k+1) _ _ _ _ h (by omega)
    refine ⟨fun e=>by omega,fun e=> ?_⟩
    rw [List.filter_cons_of_pos (Wn (by omega)),List.takeWhile_cons_of_pos (by simpa using c2),h2 (by omega)]
   ·rename_i c2
    obtain ⟨h1,h2⟩:=X2 l (k+1) _ _ _ _ h (by omega)
    have h3:=h1 (by omega)
    refine ⟨fun e x hx=> ?_,fun e=> ?_⟩
    ·rcases List.mem_cons.1 hx with q|q
     ·omega
     ·exact h3 x q
    ·rw [List.filter_cons_of_neg (by rw [Akr (by omega)];exact Bool.false_ne_true),List.takeWhile_cons_of_neg (by simpa using c2)]
     exact List.filter_eq_nil_iff.2 fun x hx=>by rw [Akr (h3 x hx)];exact Bool.false_ne_true
theorem X1 {m:Me} (h:m.grouped):m.gs.filter nz=m.gs.takeWhile fun g=>decide (0<g):=by
 rcases h with h|h
 ·have:m.gs= [0,0,0,0,0,0]:=by unfold Me.flat at h;unfold Me.gs;rw [h.1,h.2.1,h.2.2.1,h.2.2.2.1,h.2.2.2.2.1,h.2.2.2.2.2]
  rw [this];rfl
 ·cases hg:gGo 0 0 0 m.gs with
  |none=>rw [hg] at h;exact h.elim
  |some p=>exact (X2 m.gs 0 0 0 p.1 p.2 hg (Int.le_refl _)).2 rfl
theorem Z3 {p:Int→Bool}:∀{l:List Int} {k:Nat},k≤l.length→(∀(j:Nat) x,j<k→l[j]? =some x→p x=true)→(k=l.length∨∃x,l[k]? =some x∧p x=false)→l.takeWhile p=l.take k
 | [],k,_,_,_=>by rw [List.takeWhile_nil,List.take_nil]
 |x::l,0,_,_,h=>by
  rcases h with h|⟨y,h1,h2⟩
  ·simp at h
  ·cases h1;rw [List.takeWhile_cons_of_neg (by rw [h2];decide)];rfl
 |x::l,k+1,hk,h,h2=>by
  rw [List.takeWhile_cons_of_pos (h 0 x (by omega) rfl),List.take_succ_cons,Z3 (k:=k) (by simpa using hk) (fun j y hj hy=>h (j+1) y (by omega) hy)]
  rcases h2 with h2|⟨y,h4,h5⟩
  ·left;simpa using h2
  ·right;exact ⟨y,by simpa using h4,h5⟩
def Me.gsz (m:Me):Int:=if 8≤m.unit∧m.count % 3=0 then 3 else 1
theorem Tq {m:Me} (h:8≤m.unit∧m.count % 3=0):m.gsz=3:=by rw [Me.gsz,if_pos h]
theorem K1 {m:Me} (h:¬(8≤m.unit∧m.count % 3=0)):m.gsz=1:=by rw [Me.gsz,if_neg h]
theorem Avn (m:Me):1≤m.gsz∧m.gsz≤3:=by unfold Me.gsz;split<;>omega
theorem Qf (m:Me) (j:Nat):(j:Int)≤m.gsz*j:=by unfold Me.gsz;split<;>omega
theorem Nw {m:Me} (h:m.flat) {j:Nat} (h1:m.count≤m.gsz*j) (h2:j=0∨m.gsz*(j - 1:Nat)<m.count) (hc:1≤m.count):List.replicate j m.gsz=m.groups:=by
 unfold Me.gsz at*
 by_cases c:8≤m.unit∧m.count % 3=0
 ·rw [if_pos c] at h1 h2 ⊢
  rw [Ak7 (fun k=>k h) c,show j=(m.count / 3).toNat by omega]
 ·rw [if_neg c] at h1 h2 ⊢
  rw [Aag (fun k=>k h) c,show j=m.count.toNat by omega]
theorem Ib {m:Me} (h:m.grouped) (h0:m.g0=0):m.flat:=by
 have h1:=X1 h
 have:m.gs.takeWhile (fun g=>decide (0<g))= []:=by
  show (m.g0:: [m.g1,m.g2,m.g3,m.g4,m.g5]).takeWhile _= []
  rw [List.takeWhile_cons_of_neg (by rw [h0];decide)]
 rw [this,List.filter_eq_nil_iff] at h1
 have hz:∀g∈m.gs,g=0:=fun g hg=>by
  refine Decidable.not_not.1 fun k=>h1 g hg (Wn k)
 unfold Me.flat
 unfold Me.gs at hz
 simp only [List.mem_cons,List.not_mem_nil,or_false,forall_eq_or_imp,forall_eq] at hz
 exact hz
theorem Ap7 {m:Me} (h:¬m.g0=0):¬m.flat:=fun k=>h k.1
theorem Ma (n:Nat) (x:Int):List.replicate (n+1) x=List.replicate n x++ [x]:=List.replicate_succ'
theorem He {m:Me} (h:m.grouped) {k:Nat} (hk:m.gs.takeWhile (fun g=>decide (0<g))=m.gs.take k) (h0:¬m.g0=0):m.gs.take k=m.groups:=by rw [Aah (Ap7 h0),X1 h,hk]
theorem Lg {m:Me} (h:m.flat) {k:Nat} (hk:m.gs.takeWhile (fun g=>decide (0<g))=m.gs.take k):m.gs.take k= []:=by
 rw [←hk]
 show (m.g0:: [m.g1,m.g2,m.g3,m.g4,m.g5]).takeWhile _= []
 rw [List.takeWhile_cons_of_neg (by rw [h.1];decide)]
theorem T4 (m:Me) (h:Mok m):XC Tryz.prog 160 [.agg (Me.c m)] (fun r=>r= .sl 1 (B8 m.groups)):=by
 have hgr:=h.grp
 have hc:=h.count
 have hz:=Avn m
 have hgl:m.gs.length=6:=rfl
 refine Ao Adv Tryz.func160 R R lb<|zr<|XL.step R (At 1 (l:= [.d (dI m.count), .d (dI m.unit), .d (dI m.g0), .d (dI m.g1), .d (dI m.g2), .d (dI m.g3), .d (dI m.g4), .d (dI m.g5)]) R R (by kernel_rfl))<|za R R<|znr<|za R R<|zn<|zs<|zr<|za R R<|zn<|Ah<|Di 900 3 3 1 R<|?_
 refine Ay (α:=Nat) (fun k=>k≤6∧∀(j:Nat) x,j<k→m.gs[j]? =some x→decide (0<x)=true) (fun k=>mkF [(1, .ptr 1 0 0),(2, .d (.v (.slice none 0 0))),(3, .own 900),(4, .d (dI (k:Nat)))]) (fun k=>mkH [(1, .box ((Me.c m).map S.d)),(900, .row 3 1 ((m.gs.take k).map iv))]) (fun k=>6 - k) (0) (⟨Nat.zero_le _,fun j x hj=>absurd hj (Nat.not_lt_zero _)⟩) ?_ ?_ ?_
 exact fz ⟨sr,sr,sr,sr,trivial⟩
 exact gz ⟨R,R,trivial⟩
 intro k hk0
 obtain ⟨hk,hall⟩:=hk0
 have htl:(m.gs.take k).length=k:=by rw [List.length_take];omega
 refine zs<|zr<|zm R R<|zp (As R R R)<|zm R R<|?_
 refine XL.dec 9 R (fun g9=> ?_) (fun g9=> ?_)
 obtain ⟨g,hg⟩:∃g,m.gs[k]? =some g:=Au (by omega)
 refine zm R R<|zp (Aa R R Gq)<|zp (D2 R R R Tryz.underlying26 Cs (by omega))<|zp (Ab R R Ai R (Ach hg))<|zp (Bb R R R)<|zq R R R<|zn<|?_
 refine zd R (fun c15=> ?_) (fun c15=> ?_)
 refine zi<|zs<|Ah<|Af (by kernel_rfl)<|zp (Aw R (by conv=>lhs;whnf))<|?_
 refine zm R R<|zp (Aa R R Gq)<|zp (D2 R R R Tryz.underlying26 Cs (by omega))<|zp (Ab R R Ai R (Ach hg))<|XL.step R (Bj 23 R Tryz.underlying64 Cs Eu R R (by omega) (by omega))<|XL.step R (A7 R H3 (.own R) (Src.own R) (by unfold maxLen;simp;omega) (by simp;omega))<|zp (Ar R (by conv=>lhs;whnf))<|?_
 refine zn<|Af (by kernel_rfl)<|zm R R<|zp (Aj R R R (by omega) (by omega))<|za R R<|zn<|?_
 exact Ak (k+1) (⟨by omega,fun j x hj hx=>by by_cases e:j=k;(· subst e;rw [hg] at hx;cases hx;exact decide_eq_true c15);(· exact hall j x (by omega) hx)⟩) (by omega) (fz ⟨sr,sr,sr,sr,trivial⟩) (gz ⟨rfl,Ea rfl (Bp hg),trivial⟩)
 have htw:=Z3 (p:=fun g=>decide (0<g)) (l:=m.gs) (k:=k) (by omega) hall (.inr ⟨g,hg,decide_eq_false c15⟩)
 refine Ap<|zr<|za R R<|zn<|zs<|zr<|zp (Aa R R Ij)<|zp (Ab R R Ai R R)<|zp (Dr R R R)<|zm R R<|?_
 refine XL.dec 28 R (fun g28=> ?_) (fun g28=> ?_)
 refine zp (Aa R R Eb)<|zp (Ab R R Ai R R)<|zp (D1 R R R (by omega) (by omega))<|zp (A5 R R R)<|zq R R R<|zn<|?_
 refine zd R (fun c33=> ?_) (fun c33=> ?_)
 refine Af (by kernel_rfl)<|za R R<|zn<|zs<|zr<|za R R<|zn<|Ah<|?_
 refine Ay (α:=Nat) (fun j=>m.gsz*j≤m.count+2∧(j=0∨(m.g0=0∧m.gsz*(j - 1:Nat)<m.count))) (fun j=>mkF [(1, .ptr 1 0 0),(2, .d (.v (.slice none 0 0))),(3, .own 900),(5, .d (dI m.gsz)),(6, .d (dI (m.gsz*j)))]) (fun j=>mkH [(1, .box ((Me.c m).map S.d)),(900, .row 3 1 ((m.gs.take k++List.replicate j m.gsz).map iv))]) (fun j=>m.count.toNat+3 - j) (0) (⟨by omega, .inl rfl⟩) ?_ ?_ ?_
 exact fz ⟨sr,sr,sr, .same (sI (by first|exact (Tq ⟨g28,c33⟩).symm|exact (K1 (fun k=>c33 k.2)).symm|exact (K1 (fun k=>g28 k.1)).symm)), .same (sI (by rw [Int.natCast_zero,Int.mul_zero])),trivial⟩
 exact gz ⟨R,by rw [List.replicate_zero,List.append_nil];rfl,trivial⟩
 intro j hk2
 obtain ⟨hj1,hj2⟩:=hk2
 have hj0:=Qf m j
 have hjj:j≤66:=by unfold Me.gsz at hj1;split at hj1<;>omega
 have hll:(m.gs.take k++List.replicate j m.gsz).length=k+j:=by rw [List.length_append,List.length_replicate,List.length_take];omega
 refine zs<|zr<|zm R R<|zp (Aa R R Eb)<|zp (Ab R R Ai R R)<|zp (As R R R)<|zm R R<|?_
 refine XL.dec 38 R (fun g38=> ?_) (fun g38=> ?_)
 refine zp (Aa R R Gq)<|zp (D2 (k:=0) R R R Tryz.underlying26 Cs (by omega))<|zp (Ab R R Ai R R)<|zp (A5 R R R)<|zq R R R<|zn<|?_
 refine zd R (fun c43=> ?_) (fun c43=> ?_)
 refine zi<|zs<|Ah<|Af (by kernel_rfl)<|zp (Aw R (by conv=>lhs;whnf))<|?_
 refine zm R R<|XL.step R (Bj 49 R Tryz.underlying64 Cs Eu R R (by omega) (by omega))<|XL.step R (A7 R H3 (.own R) (Src.own R) (by unfold maxLen;simp;omega) (by simp;omega))<|zp (Ar R (by conv=>lhs;whnf))<|?_
 refine zn<|Af (by kernel_rfl)<|zm R R<|zm R R<|zp (Aj R R R (by omega) (by omega))<|za R R<|zn<|?_
 exact Ak (j+1) (⟨by rw [Int.natCast_add,Int.mul_add];omega, .inr ⟨c43,by rw [Nat.add_sub_cancel];exact g38⟩⟩) (by omega) (fz ⟨sr,sr,sr,sr, .same (sI (by rw [Int.natCast_add,Int.mul_add];omega)),trivial⟩) (gz ⟨rfl,Ea rfl (by rw [Ma,List.append_assoc]),trivial⟩)
 have hfin:(m.gs.take k++List.replicate j m.gsz)=m.groups:=by rw [show j=0 by omega,List.replicate_zero,List.append_nil];exact He hgr htw c43
 refine Ap<|zr<|zp (Aw R (by conv=>lhs;whnf))<|?_
 refine zp (Ar R (by conv=>lhs;whnf))<|?_
 exact zn<|zt<|Bg (i:=900) R<|z1 R R (rSl hfin)
 have hfin:(m.gs.take k++List.replicate j m.gsz)=m.groups:=by by_cases c0:m.g0=0;(· rw [Lg (Ib hgr c0) htw,List.nil_append];exact Nw (Ib hgr c0) (by omega) (by omega) hc.1);(· rw [show j=0 by omega,List.replicate_zero,List.append_nil];exact He hgr htw c0)
 refine zk 4 R<|zq R R R<|zn<|A9 (by kernel_rfl) R<|Ap<|zr<|zp (Aw R (by conv=>lhs;whnf))<|?_
 refine zp (Ar R (by conv=>lhs;whnf))<|?_
 exact zn<|zt<|Bg (i:=900) R<|z1 R R (rSl hfin)
 refine zi<|zs<|zr<|za R R<|zn<|Ah<|?_
 refine Ay (α:=Nat) (fun j=>m.gsz*j≤m.count+2∧(j=0∨(m.g0=0∧m.gsz*(j - 1:Nat)<m.count))) (fun j=>mkF [(1, .ptr 1 0 0),(2, .d (.v (.slice none 0 0))),(3, .own 900),(5, .d (dI m.gsz)),(6, .d (dI (m.gsz*j)))]) (fun j=>mkH [(1, .box ((Me.c m).map S.d)),(900, .row 3 1 ((m.gs.take k++List.replicate j m.gsz).map iv))]) (fun j=>m.count.toNat+3 - j) (0) (⟨by omega, .inl rfl⟩) ?_ ?_ ?_
 exact fz ⟨sr,sr,sr, .same (sI (by first|exact (Tq ⟨g28,c33⟩).symm|exact (K1 (fun k=>c33 k.2)).symm|exact (K1 (fun k=>g28 k.1)).symm)), .same (sI (by rw [Int.natCast_zero,Int.mul_zero])),trivial⟩
 exact gz ⟨R,by rw [List.replicate_zero,List.append_nil];rfl,trivial⟩
 intro j hk2
 obtain ⟨hj1,hj2⟩:=hk2
 have hj0:=Qf m j
 have hjj:j≤66:=by unfold Me.gsz at hj1;split at hj1<;>omega
 have hll:(m.gs.take k++List.replicate j m.gsz).length=k+j:=by rw [List.length_append,List.length_replicate,List.length_take];omega
 refine zs<|zr<|zm R R<|zp (Aa R R Eb)<|zp (Ab R R Ai R R)<|zp (As R R R)<|zm R R<|?_
 refine XL.dec 38 R (fun g38=> ?_) (fun g38=> ?_)
 refine zp (Aa R R Gq)<|zp (D2 (k:=0) R R R Tryz.underlying26 Cs (by omega))<|zp (Ab R R Ai R R)<|zp (A5 R R R)<|zq R R R<|zn<|?_
 refine zd R (fun c43=> ?_) (fun c43=> ?_)
 refine zi<|zs<|Ah<|Af (by kernel_rfl)<|zp (Aw R (by conv=>lhs;whnf))<|?_
 refine zm R R<|XL.step R (Bj 49 R Tryz.underlying64 Cs Eu R R (by omega) (by omega))<|XL.step R (A7 R H3 (.own R) (Src.own R) (by unfold maxLen;simp;omega) (by simp;omega))<|zp (Ar R (by conv=>lhs;whnf))<|?_
 refine zn<|Af (by kernel_rfl)<|zm R R<|zm R R<|zp (Aj R R R (by omega) (by omega))<|za R R<|zn<|?_
 exact Ak (j+1) (⟨by rw [Int.natCast_add,Int.mul_add];omega, .inr ⟨c43,by rw [Nat.add_sub_cancel];exact g38⟩⟩) (by omega) (fz ⟨sr,sr,sr,sr, .same (sI (by rw [Int.natCast_add,Int.mul_add];omega)),trivial⟩) (gz ⟨rfl,Ea rfl (by rw [Ma,List.append_assoc]),trivial⟩)
 have hfin:(m.gs.take k++List.replicate j m.gsz)=m.groups:=by rw [show j=0 by omega,List.replicate_zero,List.append_nil];exact He hgr htw c43
 refine Ap<|zr<|zp (Aw R (by conv=>lhs;whnf))<|?_
 refine zp (Ar R (by conv=>lhs;whnf))<|?_
 exact zn<|zt<|Bg (i:=900) R<|z1 R R (rSl hfin)
 have hfin:(m.gs.take k++List.replicate j m.gsz)=m.groups:=by by_cases c0:m.g0=0;(· rw [Lg (Ib hgr c0) htw,List.nil_append];exact Nw (Ib hgr c0) (by omega) (by omega) hc.1);(· rw [show j=0 by omega,List.replicate_zero,List.append_nil];exact He hgr htw c0)
 refine zk 4 R<|zq R R R<|zn<|A9 (by kernel_rfl) R<|Ap<|zr<|zp (Aw R (by conv=>lhs;whnf))<|?_
 refine zp (Ar R (by conv=>lhs;whnf))<|?_
 exact zn<|zt<|Bg (i:=900) R<|z1 R R (rSl hfin)
 refine zk 4 R<|zq R R R<|zn<|A9 (by kernel_rfl) R<|zi<|zs<|zr<|za R R<|zn<|Ah<|?_
 refine Ay (α:=Nat) (fun j=>m.gsz*j≤m.count+2∧(j=0∨(m.g0=0∧m.gsz*(j - 1:Nat)<m.count))) (fun j=>mkF [(1, .ptr 1 0 0),(2, .d (.v (.slice none 0 0))),(3, .own 900),(5, .d (dI m.gsz)),(6, .d (dI (m.gsz*j)))]) (fun j=>mkH [(1, .box ((Me.c m).map S.d)),(900, .row 3 1 ((m.gs.take k++List.replicate j m.gsz).map iv))]) (fun j=>m.count.toNat+3 - j) (0) (⟨by omega, .inl rfl⟩) ?_ ?_ ?_
 exact fz ⟨sr,sr,sr, .same (sI (by first|exact (Tq ⟨g28,c33⟩).symm|exact (K1 (fun k=>c33 k.2)).symm|exact (K1 (fun k=>g28 k.1)).symm)), .same (sI (by rw [Int.natCast_zero,Int.mul_zero])),trivial⟩
 exact gz ⟨R,by rw [List.replicate_zero,List.append_nil];rfl,trivial⟩
 intro j hk2
 obtain ⟨hj1,hj2⟩:=hk2
 have hj0:=Qf m j
 have hjj:j≤66:=by unfold Me.gsz at hj1;split at hj1<;>omega
 have hll:(m.gs.take k++List.replicate j m.gsz).length=k+j:=by rw [List.length_append,List.length_replicate,List.length_take];omega
 refine zs<|zr<|zm R R<|zp (Aa R R Eb)<|zp (Ab R R Ai R R)<|zp (As R R R)<|zm R R<|?_
 refine XL.dec 38 R (fun g38=> ?_) (fun g38=> ?_)
 refine zp (Aa R R Gq)<|zp (D2 (k:=0) R R R Tryz.underlying26 Cs (by omega))<|zp (Ab R R Ai R R)<|zp (A5 R R R)<|zq R R R<|zn<|?_
 refine zd R (fun c43=> ?_) (fun c43=> ?_)
 refine zi<|zs<|Ah<|Af (by kernel_rfl)<|zp (Aw R (by conv=>lhs;whnf))<|?_
 refine zm R R<|XL.step R (Bj 49 R Tryz.underlying64 Cs Eu R R (by omega) (by omega))<|XL.step R (A7 R H3 (.own R) (Src.own R) (by unfold maxLen;simp;omega) (by simp;omega))<|zp (Ar R (by conv=>lhs;whnf))<|?_
 refine zn<|Af (by kernel_rfl)<|zm R R<|zm R R<|zp (Aj R R R (by omega) (by omega))<|za R R<|zn<|?_
 exact Ak (j+1) (⟨by rw [Int.natCast_add,Int.mul_add];omega, .inr ⟨c43,by rw [Nat.add_sub_cancel];exact g38⟩⟩) (by omega) (fz ⟨sr,sr,sr,sr, .same (sI (by rw [Int.natCast_add,Int.mul_add];omega)),trivial⟩) (gz ⟨rfl,Ea rfl (by rw [Ma,List.append_assoc]),trivial⟩)
 have hfin:(m.gs.take k++List.replicate j m.gsz)=m.groups:=by rw [show j=0 by omega,List.replicate_zero,List.append_nil];exact He hgr htw c43
 refine Ap<|zr<|zp (Aw R (by conv=>lhs;whnf))<|?_
 refine zp (Ar R (by conv=>lhs;whnf))<|?_
 exact zn<|zt<|Bg (i:=900) R<|z1 R R (rSl hfin)
 have hfin:(m.gs.take k++List.replicate j m.gsz)=m.groups:=by by_cases c0:m.g0=0;(· rw [Lg (Ib hgr c0) htw,List.nil_append];exact Nw (Ib hgr c0) (by omega) (by omega) hc.1);(· rw [show j=0 by omega,List.replicate_zero,List.append_nil];exact He hgr htw c0)
 refine zk 4 R<|zq R R R<|zn<|A9 (by kernel_rfl) R<|Ap<|zr<|zp (Aw R (by conv=>lhs;whnf))<|?_
 refine zp (Ar R (by conv=>lhs;whnf))<|?_
 exact zn<|zt<|Bg (i:=900) R<|z1 R R (rSl hfin)
 have htw:=Z3 (p:=fun g=>decide (0<g)) (l:=m.gs) (k:=k) (by omega) hall (.inl (by omega))
 refine zk 5 R<|zq R R R<|zn<|A9 (by kernel_rfl) R<|Ap<|zr<|za R R<|zn<|zs<|zr<|zp (Aa R R Ij)<|zp (Ab R R Ai R R)<|zp (Dr R R R)<|zm R R<|?_
 refine XL.dec 28 R (fun g28=> ?_) (fun g28=> ?_)
 refine zp (Aa R R Eb)<|zp (Ab R R Ai R R)<|zp (D1 R R R (by omega) (by omega))<|zp (A5 R R R)<|zq R R R<|zn<|?_
 refine zd R (fun c33=> ?_) (fun c33=> ?_)
 refine Af (by kernel_rfl)<|za R R<|zn<|zs<|zr<|za R R<|zn<|Ah<|?_
 refine Ay (α:=Nat) (fun j=>m.gsz*j≤m.count+2∧(j=0∨(m.g0=0∧m.gsz*(j - 1:Nat)<m.count))) (fun j=>mkF [(1, .ptr 1 0 0),(2, .d (.v (.slice none 0 0))),(3, .own 900),(5, .d (dI m.gsz)),(6, .d (dI (m.gsz*j)))]) (fun j=>mkH [(1, .box ((Me.c m).map S.d)),(900, .row 3 1 ((m.gs.take k++List.replicate j m.gsz).map iv))]) (fun j=>m.count.toNat+3 - j) (0) (⟨by omega, .inl rfl⟩) ?_ ?_ ?_
 exact fz ⟨sr,sr,sr, .same (sI (by first|exact (Tq ⟨g28,c33⟩).symm|exact (K1 (fun k=>c33 k.2)).symm|exact (K1 (fun k=>g28 k.1)).symm)), .same (sI (by rw [Int.natCast_zero,Int.mul_zero])),trivial⟩
 exact gz ⟨R,by rw [List.replicate_zero,List.append_nil];rfl,trivial⟩
 intro j hk2
 obtain ⟨hj1,hj2⟩:=hk2
 have hj0:=Qf m j
 have hjj:j≤66:=by unfold Me.gsz at hj1;split at hj1<;>omega
 have hll:(m.gs.take k++List.replicate j m.gsz).length=k+j:=by rw [List.length_append,List.length_replicate,List.length_take];omega
 refine zs<|zr<|zm R R<|zp (Aa R R Eb)<|zp (Ab R R Ai R R)<|zp (As R R R)<|zm R R<|?_
 refine XL.dec 38 R (fun g38=> ?_) (fun g38=> ?_)
 refine zp (Aa R R Gq)<|zp (D2 (k:=0) R R R Tryz.underlying26 Cs (by omega))<|zp (Ab R R Ai R R)<|zp (A5 R R R)<|zq R R R<|zn<|?_
 refine zd R (fun c43=> ?_) (fun c43=> ?_)
 refine zi<|zs<|Ah<|Af (by kernel_rfl)<|zp (Aw R (by conv=>lhs;whnf))<|?_
 refine zm R R<|XL.step R (Bj 49 R Tryz.underlying64 Cs Eu R R (by omega) (by omega))<|XL.step R (A7 R H3 (.own R) (Src.own R) (by unfold maxLen;simp;omega) (by simp;omega))<|zp (Ar R (by conv=>lhs;whnf))<|?_
 refine zn<|Af (by kernel_rfl)<|zm R R<|zm R R<|zp (Aj R R R (by omega) (by omega))<|za R R<|zn<|?_
 exact Ak (j+1) (⟨by rw [Int.natCast_add,Int.mul_add];omega, .inr ⟨c43,by rw [Nat.add_sub_cancel];exact g38⟩⟩) (by omega) (fz ⟨sr,sr,sr,sr, .same (sI (by rw [Int.natCast_add,Int.mul_add];omega)),trivial⟩) (gz ⟨rfl,Ea rfl (by rw [Ma,List.append_assoc]),trivial⟩)
 have hfin:(m.gs.take k++List.replicate j m.gsz)=m.groups:=by rw [show j=0 by omega,List.replicate_zero,List.append_nil];exact He hgr htw c43
 refine Ap<|zr<|zp (Aw R (by conv=>lhs;whnf))<|?_
 refine zp (Ar R (by conv=>lhs;whnf))<|?_
 exact zn<|zt<|Bg (i:=900) R<|z1 R R (rSl hfin)
 have hfin:(m.gs.take k++List.replicate j m.gsz)=m.groups:=by by_cases c0:m.g0=0;(· rw [Lg (Ib hgr c0) htw,List.nil_append];exact Nw (Ib hgr c0) (by omega) (by omega) hc.1);(· rw [show j=0 by omega,List.replicate_zero,List.append_nil];exact He hgr htw c0)
 refine zk 4 R<|zq R R R<|zn<|A9 (by kernel_rfl) R<|Ap<|zr<|zp (Aw R (by conv=>lhs;whnf))<|?_
 refine zp (Ar R (by conv=>lhs;whnf))<|?_
 exact zn<|zt<|Bg (i:=900) R<|z1 R R (rSl hfin)
 refine zi<|zs<|zr<|za R R<|zn<|Ah<|?_
 refine Ay (α:=Nat) (fun j=>m.gsz*j≤m.count+2∧(j=0∨(m.g0=0∧m.gsz*(j - 1:Nat)<m.count))) (fun j=>mkF [(1, .ptr 1 0 0),(2, .d (.v (.slice none 0 0))),(3, .own 900),(5, .d (dI m.gsz)),(6, .d (dI (m.gsz*j)))]) (fun j=>mkH [(1, .box ((Me.c m).map S.d)),(900, .row 3 1 ((m.gs.take k++List.replicate j m.gsz).map iv))]) (fun j=>m.count.toNat+3 - j) (0) (⟨by omega, .inl rfl⟩) ?_ ?_ ?_
 exact fz ⟨sr,sr,sr, .same (sI (by first|exact (Tq ⟨g28,c33⟩).symm|exact (K1 (fun k=>c33 k.2)).symm|exact (K1 (fun k=>g28 k.1)).symm)), .same (sI (by rw [Int.natCast_zero,Int.mul_zero])),trivial⟩
 exact gz ⟨R,by rw [List.replicate_zero,List.append_nil];rfl,trivial⟩
 intro j hk2
 obtain ⟨hj1,hj2⟩:=hk2
 have hj0:=Qf m j
 have hjj:j≤66:=by unfold Me.gsz at hj1;split at hj1<;>omega
 have hll:(m.gs.take k++List.replicate j m.gsz).length=k+j:=by rw [List.length_append,List.length_replicate,List.length_take];omega
 refine zs<|zr<|zm R R<|zp (Aa R R Eb)<|zp (Ab R R Ai R R)<|zp (As R R R)<|zm R R<|?_
 refine XL.dec 38 R (fun g38=> ?_) (fun g38=> ?_)
 refine zp (Aa R R Gq)<|zp (D2 (k:=0) R R R Tryz.underlying26 Cs (by omega))<|zp (Ab R R Ai R R)<|zp (A5 R R R)<|zq R R R<|zn<|?_
 refine zd R (fun c43=> ?_) (fun c43=> ?_)
 refine zi<|zs<|Ah<|Af (by kernel_rfl)<|zp (Aw R (by conv=>lhs;whnf))<|?_
 refine zm R R<|XL.step R (Bj 49 R Tryz.underlying64 Cs Eu R R (by omega) (by omega))<|XL.step R (A7 R H3 (.own R) (Src.own R) (by unfold maxLen;simp;omega) (by simp;omega))<|zp (Ar R (by conv=>lhs;whnf))<|?_
 refine zn<|Af (by kernel_rfl)<|zm R R<|zm R R<|zp (Aj R R R (by omega) (by omega))<|za R R<|zn<|?_
 exact Ak (j+1) (⟨by rw [Int.natCast_add,Int.mul_add];omega, .inr ⟨c43,by rw [Nat.add_sub_cancel];exact g38⟩⟩) (by omega) (fz ⟨sr,sr,sr,sr, .same (sI (by rw [Int.natCast_add,Int.mul_add];omega)),trivial⟩) (gz ⟨rfl,Ea rfl (by rw [Ma,List.append_assoc]),trivial⟩)
 have hfin:(m.gs.take k++List.replicate j m.gsz)=m.groups:=by rw [show j=0 by omega,List.replicate_zero,List.append_nil];exact He hgr htw c43
 refine Ap<|zr<|zp (Aw R (by conv=>lhs;whnf))<|?_
 refine zp (Ar R (by conv=>lhs;whnf))<|?_
 exact zn<|zt<|Bg (i:=900) R<|z1 R R (rSl hfin)
 have hfin:(m.gs.take k++List.replicate j m.gsz)=m.groups:=by by_cases c0:m.g0=0;(· rw [Lg (Ib hgr c0) htw,List.nil_append];exact Nw (Ib hgr c0) (by omega) (by omega) hc.1);(· rw [show j=0 by omega,List.replicate_zero,List.append_nil];exact He hgr htw c0)
 refine zk 4 R<|zq R R R<|zn<|A9 (by kernel_rfl) R<|Ap<|zr<|zp (Aw R (by conv=>lhs;whnf))<|?_
 refine zp (Ar R (by conv=>lhs;whnf))<|?_
 exact zn<|zt<|Bg (i:=900) R<|z1 R R (rSl hfin)
 refine zk 4 R<|zq R R R<|zn<|A9 (by kernel_rfl) R<|zi<|zs<|zr<|za R R<|zn<|Ah<|?_
 refine Ay (α:=Nat) (fun j=>m.gsz*j≤m.count+2∧(j=0∨(m.g0=0∧m.gsz*(j - 1:Nat)<m.count))) (fun j=>mkF [(1, .ptr 1 0 0),(2, .d (.v (.slice none 0 0))),(3, .own 900),(5, .d (dI m.gsz)),(6, .d (dI (m.gsz*j)))]) (fun j=>mkH [(1, .box ((Me.c m).map S.d)),(900, .row 3 1 ((m.gs.take k++List.replicate j m.gsz).map iv))]) (fun j=>m.count.toNat+3 - j) (0) (⟨by omega, .inl rfl⟩) ?_ ?_ ?_
 exact fz ⟨sr,sr,sr, .same (sI (by first|exact (Tq ⟨g28,c33⟩).symm|exact (K1 (fun k=>c33 k.2)).symm|exact (K1 (fun k=>g28 k.1)).symm)), .same (sI (by rw [Int.natCast_zero,Int.mul_zero])),trivial⟩
 exact gz ⟨R,by rw [List.replicate_zero,List.append_nil];rfl,trivial⟩
 intro j hk2
 obtain ⟨hj1,hj2⟩:=hk2
 have hj0:=Qf m j
 have hjj:j≤66:=by unfold Me.gsz at hj1;split at hj1<;>omega
 have hll:(m.gs.take k++List.replicate j m.gsz).length=k+j:=by rw [List.length_append,List.length_replicate,List.length_take];omega
 refine zs<|zr<|zm R R<|zp (Aa R R Eb)<|zp (Ab R R Ai R R)<|zp (As R R R)<|zm R R<|?_
 refine XL.dec 38 R (fun g38=> ?_) (fun g38=> ?_)
 refine zp (Aa R R Gq)<|zp (D2 (k:=0) R R R Tryz.underlying26 Cs (by omega))<|zp (Ab R R Ai R R)<|zp (A5 R R R)<|zq R R R<|zn<|?_
 refine zd R (fun c43=> ?_) (fun c43=> ?_)
 refine zi<|zs<|Ah<|Af (by kernel_rfl)<|zp (Aw R (by conv=>lhs;whnf))<|?_
 refine zm R R<|XL.step R (Bj 49 R Tryz.underlying64 Cs Eu R R (by omega) (by omega))<|XL.step R (A7 R H3 (.own R) (Src.own R) (by unfold maxLen;simp;omega) (by simp;omega))<|zp (Ar R (by conv=>lhs;whnf))<|?_
 refine zn<|Af (by kernel_rfl)<|zm R R<|zm R R<|zp (Aj R R R (by omega) (by omega))<|za R R<|zn<|?_
 exact Ak (j+1) (⟨by rw [Int.natCast_add,Int.mul_add];omega, .inr ⟨c43,by rw [Nat.add_sub_cancel];exact g38⟩⟩) (by omega) (fz ⟨sr,sr,sr,sr, .same (sI (by rw [Int.natCast_add,Int.mul_add];omega)),trivial⟩) (gz ⟨rfl,Ea rfl (by rw [Ma,List.append_assoc]),trivial⟩)
 have hfin:(m.gs.take k++List.replicate j m.gsz)=m.groups:=by rw [show j=0 by omega,List.replicate_zero,List.append_nil];exact He hgr htw c43
 refine Ap<|zr<|zp (Aw R (by conv=>lhs;whnf))<|?_
 refine zp (Ar R (by conv=>lhs;whnf))<|?_
 exact zn<|zt<|Bg (i:=900) R<|z1 R R (rSl hfin)
 have hfin:(m.gs.take k++List.replicate j m.gsz)=m.groups:=by by_cases c0:m.g0=0;(· rw [Lg (Ib hgr c0) htw,List.nil_append];exact Nw (Ib hgr c0) (by omega) (by omega) hc.1);(· rw [show j=0 by omega,List.replicate_zero,List.append_nil];exact He hgr htw c0)
 refine zk 4 R<|zq R R R<|zn<|A9 (by kernel_rfl) R<|Ap<|zr<|zp (Aw R (by conv=>lhs;whnf))<|?_
 refine zp (Ar R (by conv=>lhs;whnf))<|?_
 exact zn<|zt<|Bg (i:=900) R<|z1 R R (rSl hfin)
end Go.Proofs.YtcihalbakenleaaGreat
