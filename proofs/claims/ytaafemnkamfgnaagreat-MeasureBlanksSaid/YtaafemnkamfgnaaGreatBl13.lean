/- Part 13 of what the statements need: lemmas and walks. -/
import Derived.SizedLaws
import Derived.Test.YtaafemnkamfgnaaGreatBl12
set_option linter.unusedVariables false
set_option linter.unusedSimpArgs false
set_option linter.unusedSectionVars false
namespace Go.Proofs.YtaafemnkamfgnaaGreat
open Go.RowKit Go.ChangeShapes Go.WideShapes Go.ChangeAt Go.Deep
def Hw (w:World):Hp:=fun b o=>match w.cell? ⟨b,o,none⟩ with
  |some u=>if u.oneCell'=true then some u else none
  |none=>none
theorem Hw.imm (w:World):Imm (Hw w) w:=fun b o u h=>by
  unfold Hw at h
  split at h
  · rename_i v hv
    split at h
    · rename_i h1;cases h;exact ⟨hv,h1⟩
    · cases h
  · cases h
structure VDs (H:Hp) (cs:List Value) (ds:List D):Prop where
  len:cs.length=ds.length
  vd:∀(i:Nat) (x:Value) (d:D),cs[i]? =some x→ds[i]? =some d→VD H x d
  one:∀x∈cs,x.oneCell'=true
theorem VDs.nil (H:Hp):VDs H [] []:=⟨rfl,fun i x d h _=>by simp at h,fun x h=>by cases h⟩
theorem VDs.app {H:Hp} {a b:List Value} {x y:List D} (h:VDs H a x) (k:VDs H b y):VDs H (a++b) (x++y):=by
  refine ⟨by rw [List.length_append,List.length_append,h.len,k.len],fun i u d hu hd=> ?_,fun u hu=> ?_⟩
  · by_cases hi:i<a.length
    · rw [List.getElem?_append_left hi] at hu
      rw [List.getElem?_append_left (by rw [←h.len];exact hi)] at hd
      exact h.vd i u d hu hd
    · rw [List.getElem?_append_right (by omega)] at hu
      rw [List.getElem?_append_right (by rw [←h.len];omega), ←h.len] at hd
      exact k.vd _ u d hu hd
  · rcases List.mem_append.1 hu with e|e
    · exact h.one u e
    · exact k.one u e
theorem VDs.single {H:Hp} {u:Value} {d:D} (h:VD H u d) (h1:u.oneCell'=true):VDs H [u] [d]:=by
  refine ⟨rfl,fun i x e hx he=> ?_,fun x hx=>by rw [List.mem_singleton.1 hx];exact h1⟩
  match i with
  |0=>cases hx;cases he;exact h
  |i+1=>simp at hx
def DecQ (P:Program) (t:TypeId) (Q:List D→Prop):Prop:=
  ∀(H:Type) (enc:TypeId × Value→H) (w:World) (fuel:Nat) (cs:List Value) (x:DataW H × List MemPlace),
    DataW.trod enc P w 0 (fun _=>true) true fuel t cs=some x→(∀n∈x.1.weights P t,n≤reachBytes)→∃ds,VDs (Hw w) cs ds∧Q ds
theorem Mz {H:Type} {P:Program} {e:TypeId}:∀{l:List (DataW H)} {d:DataW H},d∈l→∀n∈d.weights P e,n∈DataW.weightsAll P e l
  |x::l,d,h,n,hn=>by
    simp only [DataW.weightsAll,List.mem_append]
    rcases List.mem_cons.1 h with rfl|h
    · exact .inl hn
    · exact .inr (Mz h n hn)
def Dh (ds:List D):Prop:=∃n:Int,ds= [.v (.int .i64 n)]∧ -9223372036854775808≤n∧n≤9223372036854775807
def W8 (ds:List D):Prop:=∃b:Bool,ds= [.v (.bool b)]
def As9 (ds:List D):Prop:=∃s:ByteArray,ds= [.v (.string s)]
def Ana (sz by_:Nat) (Q:List D→Prop) (ds:List D):Prop:=∃l:List (List D),ds= [.sl sz l]∧(∀x∈l,Q x)∧l.length*by_≤reachBytes
def QSl (sz:Nat) (Q:List D→Prop) (ds:List D):Prop:=∃l:List (List D),ds= [.sl sz l]∧∀x∈l,Q x
def QS:List (List D→Prop)→List D→Prop
  | [],ds=>ds= []
  |Q::r,ds=>∃a b,ds=a++b∧Q a∧QS r b
theorem DecQ.int {P:Program} {t:TypeId} (ht:P.underlying t=some (.int .i64)):DecQ P t Dh:=by
  intro H enc w fuel cs x h _
  obtain ⟨n,rfl,_,hw⟩:=DataW.trod_int ht h
  refine ⟨[.v (.int .i64 n)],VDs.single (.v _) rfl,n,rfl, ?_⟩
  simp [Lit.wf,IntKind.min,IntKind.max,IntKind.signed,IntKind.bits] at hw
  omega
def contB (P:Program):Nat→List (TypeId × Nat)→Nat→Bool
  |o, [],n=>o==n
  |o,(t,f)::r,n=>f==o && contB P (o+P.cellsOf t) r n
theorem X9 {P:Program} {H:Type} {enc:TypeId × Value→H} {w:World} {m:Nat} {cs:List Value}:∀(ps:List (TypeId × Nat)) (Qs:List (List D→Prop)) (o:Nat),ps.length=Qs.length→contB P o ps cs.length=true→
    (∀(i:Nat) t f Q,ps[i]? =some (t,f)→Qs[i]? =some Q→DecQ P t Q)→
    (∀(i:Nat) t f,ps[i]? =some (t,f)→∃y,DataW.trod enc P w 0 (fun _=>true) true m t ((cs.drop f).take (P.cellsOf t))=some y∧∀n∈y.1.weights P t,n≤reachBytes)→
    ∃ds,VDs (Hw w) (cs.drop o) ds∧QS Qs ds
  | [], [],o,_,hc,_,_=>by
    simp [contB] at hc
    exact ⟨[],by rw [List.drop_eq_nil_of_le (by omega)];exact VDs.nil _,rfl⟩
  |(t,f)::ps,Q::Qs,o,hl,hc,hq,ht=>by
    simp only [contB,Bool.and_eq_true,beq_iff_eq] at hc
    obtain ⟨rfl,hc⟩:=hc
    obtain ⟨y,hy,hyz⟩:=ht 0 t f rfl
    obtain ⟨a,ha,hQ⟩:=hq 0 t f Q rfl rfl _ _ _ _ _ _ hy hyz
    obtain ⟨b,hb,hR⟩:=X9 ps Qs (f+P.cellsOf t) (by simpa using hl) hc (fun i t' f' Q' h1 h2=>hq (i+1) t' f' Q' h1 h2) fun i t' f' h1=>ht (i+1) t' f' h1
    refine ⟨a++b, ?_,a,b,rfl,hQ,hR⟩
    have:cs.drop f=(cs.drop f).take (P.cellsOf t)++cs.drop (f+P.cellsOf t):=by rw [←List.drop_drop,List.take_append_drop]
    rw [this]
    exact ha.app hb
theorem DecQ.struct {P:Program} {t:TypeId} {fs:Array Field} (Qs:List (List D→Prop)) (ht:P.underlying t=some (.struct fs)) (hl:fs.toList.length=Qs.length) (hc:contB P 0 (fs.toList.map fun f=>(f.type,f.offset)) (P.cellsOf t)=true)
    (hq:∀(i:Nat) f Q,fs.toList[i]? =some f→Qs[i]? =some Q→DecQ P f.type Q):DecQ P t (QS Qs):=by
  intro H enc w fuel cs x h hz
  obtain ⟨xs,n,_,hxe,hcl,hxl,hg⟩:=DataW.trod_struct ht h
  have:=X9 (P:=P) (enc:=enc) (w:=w) (m:=n) (cs:=cs) (fs.toList.map fun f=>(f.type,f.offset)) Qs 0 (by rw [List.length_map];exact hl) (by rw [hcl];exact hc) (fun i t' f' Q' h1 h2=> ?_) fun i t' f' h1=> ?_
  · rwa [List.drop_zero] at this
  · rw [List.getElem?_map] at h1
    cases hf:fs.toList[i]? with
    |none=>rw [hf] at h1;cases h1
    |some f=>rw [hf] at h1;cases h1;exact hq i f Q' hf h2
  · rw [List.getElem?_map] at h1
    cases hf:fs.toList[i]? with
    |none=>rw [hf] at h1;cases h1
    |some f=>
      rw [hf] at h1;cases h1
      have hfa:fs[i]? =some f:=by simpa using hf
      have hi:i<xs.length:=by rw [hxl];exact (Array.getElem?_eq_some_iff.1 hfa).1
      exact ⟨xs[i], by rw [hg i f hfa, List.getElem?_eq_getElem hi], fun n hn => hz n (by
        rw [hxe]
        simp only [DataW.weights,ht]
        exact DataW.weights_mem_each (j := i) (t := f.type) (d := xs[i].1) (by rw [List.getElem?_map, hf]; rfl) (by rw [List.getElem?_map, List.getElem?_eq_getElem hi]; rfl) n hn)⟩
theorem DecQ.array {P:Program} {t e:TypeId} {n:Nat} {Q:List D→Prop} (ht:P.underlying t=some (.array n e)) (hc:contB P 0 ((List.range n).map fun i=>(e,i*P.cellsOf e)) (P.cellsOf t)=true) (hq:DecQ P e Q):DecQ P t (QS (List.replicate n Q)):=by
  intro H enc w fuel cs x h hz
  obtain ⟨xs,m,_,hxe,hcl,hxl,hg⟩:=DataW.trod_array ht h
  have:=X9 (P:=P) (enc:=enc) (w:=w) (m:=m) (cs:=cs) ((List.range n).map fun i=>(e,i*P.cellsOf e)) (List.replicate n Q) 0 (by simp) (by rw [hcl];exact hc) (fun i t' f' Q' h1 h2=> ?_) fun i t' f' h1=> ?_
  · rwa [List.drop_zero] at this
  · rw [List.getElem?_map] at h1
    rw [List.getElem?_replicate] at h2
    split at h2
    · cases h2
      rename_i hi
      rw [List.getElem?_range hi] at h1
      cases h1;exact hq
    · cases h2
  · have hi:i<n:=by have:=(List.getElem?_eq_some_iff.1 h1).1;simpa using this
    rw [List.getElem?_map,List.getElem?_range hi] at h1
    cases h1
    exact ⟨xs[i]'(by omega), by rw [hg i hi, List.getElem?_eq_getElem (by omega)], fun n hn => hz n (by
      rw [hxe]
      simp only [DataW.weights,ht]
      exact Mz (d := (xs[i]'(by omega)).1) (List.mem_map.2 ⟨_, List.getElem_mem _, rfl⟩) n hn)⟩
section
variable {H:Type} {enc:TypeId × Value→H} {P:Program} {w:World}
theorem Ald {Q:List D→Prop} {r:Reach} {b0:Nat} {t:TypeId} {fs:Array Field} {v:Value} {d:DataW H} {p:List MemPlace} (ht:P.underlying t=some (.struct fs))
    (hD:DecQ P t Q) (hv:Value.okWide P w r b0 t v) (h:DataW.Trod enc P w 0 (fun _=>true) true t v d p) (hz:∀n∈d.weights P t,n≤reachBytes):∃ds,VD (Hw w) v (.agg ds)∧Q ds:=by
  obtain ⟨cs,rfl,_⟩:=okWide_struct ht hv
  obtain ⟨fuel,hf⟩:=h
  obtain ⟨ds,h1,h2⟩:=hD _ _ _ _ _ _ hf hz
  exact ⟨ds, .agg cs ds (by have:=h1.len;simpa [Value.cells] using this) fun i x d hx hd=>h1.vd i x d (by simpa [Value.cells] using hx) hd,h2⟩
theorem Ale {Q:List D→Prop} {r:Reach} {b0:Nat} {t e:TypeId} {n:Nat} {v:Value} {d:DataW H} {p:List MemPlace} (ht:P.underlying t=some (.array n e))
    (hD:DecQ P t Q) (hv:Value.okWide P w r b0 t v) (h:DataW.Trod enc P w 0 (fun _=>true) true t v d p) (hz:∀n∈d.weights P t,n≤reachBytes):∃ds,VD (Hw w) v (.agg ds)∧Q ds:=by
  obtain ⟨cs,rfl⟩:∃cs,v= .agg cs:=by
    simp only [Value.okWide,ht] at hv
    obtain ⟨cs,h1,_⟩:=hv
    exact ⟨cs,h1⟩
  obtain ⟨fuel,hf⟩:=h
  obtain ⟨ds,h1,h2⟩:=hD _ _ _ _ _ _ hf hz
  exact ⟨ds, .agg cs ds (by have:=h1.len;simpa [Value.cells] using this) fun i x d hx hd=>h1.vd i x d (by simpa [Value.cells] using hx) hd,h2⟩
end
theorem XC.law {P:Program} {F:FuncId} {ds:List D} {w:World} {vs:Array Value} (hx:XC P F ds (fun r=>r= .v (.bool true))) (hs:vs.size=ds.length) (hv:∀(i:Nat) (x:Value) (d:D),vs[i]? =some x→ds[i]? =some d→VD (Hw w) x d):
    Calls P F vs w fun e w'=>e= .returned (.bool true)∧Below w.heap.size w w':=
  (hx.calls (Hw w) w vs (Hw.imm w) hs hv).mono fun e w' ⟨H',u,r,e1,e2,_,_,_,hb,hu⟩=>by
    subst e2
    cases hu
    exact ⟨e1,hb⟩
end Go.Proofs.YtaafemnkamfgnaaGreat
namespace Go.Proofs.YtaafemnkamfgnaaGreat
open Go.RowKit
theorem Uf:DecQ Tryz.prog 3 Dh:=DecQ.int Tryz.underlying3
def Ata:List D→Prop:=QS [Dh,Dh,Dh]
def QHd:List D→Prop:=QS [Ata,W8,Dh]
def QGr:List D→Prop:=QS [Ata,Dh,W8]
def QSy:List D→Prop:=QS [As9,Dh]
def QId:List D→Prop:=QS [Dh,Dh]
def Au2:List D→Prop:=QS [Dh,Dh]
def QEv:List D→Prop:=QS [QId,Dh,Au2,Ana 5 40 QHd,Ana 5 40 QGr,Dh,Dh,Dh,Ana 2 24 QSy,Dh,Dh]
def QTp:List D→Prop:=QS [Dh,Dh,Dh,Dh]
def QVo:List D→Prop:=QS [QSl 13 QEv,QSl 4 QTp]
def QMe:List D→Prop:=QS [Dh,Dh,QS (List.replicate 6 Dh)]
theorem At4:DecQ Tryz.prog 26 QMe:=by
 refine DecQ.struct _ Tryz.underlying26 rfl (by kernel_rfl) fun i f Q hf hQ=> ?_
 match i,hf,hQ with
 |0,hf,hQ=>cases hf;cases hQ;exact Uf
 |1,hf,hQ=>cases hf;cases hQ;exact Uf
 |2,hf,hQ=>cases hf;cases hQ;exact (DecQ.array Tryz.underlying24 (by kernel_rfl) Uf)
 |_+3,hf,hQ=>simp at hQ
def QCf:List D→Prop:=QS [Dh,Dh]
def QCe:List D→Prop:=QS [QSl 2 QCf,QSl 2 QVo]
def QTm:List D→Prop:=QS [Dh,Dh,W8]
def QMs:List D→Prop:=QS [QId,QMe,Dh,Dh,W8,Dh,Dh,Dh,Dh,Dh,Dh,As9,QSl 3 QTm,QSl 2 QCe]
def QSp:List D→Prop:=QS [Dh,Dh,Dh]
def QA2:List D→Prop:=QS (List.replicate 2 Dh)
def QA3:List D→Prop:=QS (List.replicate 3 Dh)
theorem At5:DecQ Tryz.prog 97 QA3:=DecQ.array Tryz.underlying97 (by kernel_rfl) Uf
theorem QMe.inv (ds:List D) (h:QMe ds):∃m:Me,ds=m.c:=by
 obtain ⟨_,_,rfl,⟨c,rfl,_⟩,_,_,rfl,⟨u,rfl,_⟩,_,_,rfl,⟨_,_,rfl,⟨g0,rfl,hg0⟩,_,_,rfl,⟨g1,rfl,hg1⟩,_,_,rfl,⟨g2,rfl,hg2⟩,_,_,rfl,⟨g3,rfl,hg3⟩,_,_,rfl,⟨g4,rfl,hg4⟩,_,_,rfl,⟨g5,rfl,hg5⟩,rfl⟩,rfl⟩:=h
 exact ⟨⟨c,u,g0,g1,g2,g3,g4,g5⟩,rfl⟩
theorem QA3.inv (ds:List D) (h:QA3 ds):∃a b c:Int,ds= [dI a,dI b,dI c]∧(-9223372036854775808≤a∧a≤9223372036854775807)∧(-9223372036854775808≤b∧b≤9223372036854775807)∧ -9223372036854775808≤c∧c≤9223372036854775807:=by
 obtain ⟨_,_,rfl,⟨a,rfl,ha⟩,_,_,rfl,⟨b,rfl,hb⟩,_,_,rfl,⟨c,rfl,hc⟩,rfl⟩:=h
 exact ⟨a,b,c,rfl,ha,hb,hc⟩
end Go.Proofs.YtaafemnkamfgnaaGreat
namespace Go.Proofs.YtaafemnkamfgnaaGreat
open Go.RowKit
open Go.ChangeShapes Go.WideShapes Go.ChangeAt Go.RowKit
set_option maxRecDepth 100000 in
theorem Ou (os:Os) (started:os.Started) (H:Type) (enc:TypeId × Value→H):
  ReturnsInHanded {} Tryz.checked os 12 .any (Rows.measureBlanksSpec.pre6 enc Tryz.prog Tryz.f12 Rows.measureBlanksRow.domain false) (Rows.measureBlanksSpec.post enc Tryz.prog Tryz.f12 false true false false):=by
 refine returnsInHanded_of_change_sized (C:=Tryz.checked) Aup started (by kernel_rfl) Tryz.func12
  (ChangeSpec.witness6 (enc:=enc) (C:=Tryz.checked) false ⟨#[], #[.agg #[.int .i64 0, .int .i64 0, .int .i64 0, .int .i64 0, .int .i64 0, .int .i64 0, .int .i64 0, .int .i64 0], .agg #[.int .i64 0, .int .i64 0, .int .i64 0]], []⟩ 8 (by kernel_rfl) (by kernel_rfl) (by kernel_rfl) (by kernel_rfl)) ?_
 intro W base args ds gs before hval0 hW hcnd hwt _
 have hval:∀(j:Nat) t v,Tryz.f12.params[j]? =some t→args[j]? =some v→Value.okWide Tryz.prog W .any base t v:=hval0
 have hW':=hW
 obtain ⟨p,q,hA0,hV,rfl,hfz,hnd⟩:=hW
 have hA:DataW.TrodAll enc Tryz.prog W 0 (fun _=>true) true Tryz.f12.params.toList args.toList ds p:=hA0
 rw [Tryz.params12] at hA hval
 obtain ⟨v0,vs0,d0,ds0,p0,q0,hargs,rfl,rfl,h0,r0⟩:=trodAll_cons hA
 obtain ⟨v1,vs1,d1,ds1,p1,q1,rfl,rfl,rfl,h1,r1⟩:=trodAll_cons r0
 obtain ⟨rfl,rfl,rfl⟩:=trodAll_nil r1
 obtain rfl:args= #[v0,v1]:=by cases args;simp_all
 obtain ⟨rfl,rfl⟩:=trodVars_none hV
 obtain ⟨c0,g0,k0⟩:=Ald Tryz.underlying26 At4 (hval 0 26 v0 rfl rfl) h0 (fun n hn=>of_decide_eq_true (List.all_eq_true.1 hwt n (DataW.weights_mem_each (j:=0) (t:=26) (by kernel_rfl) rfl n hn)))
 obtain ⟨x0,rfl⟩:=QMe.inv _ k0
 obtain ⟨c1,g1,k1⟩:=Ale Tryz.underlying97 At5 (hval 1 97 v1 rfl rfl) h1 (fun n hn=>of_decide_eq_true (List.all_eq_true.1 hwt n (DataW.weights_mem_each (j:=1) (t:=97) (by kernel_rfl) rfl n hn)))
 obtain ⟨a1,b1,c1,rfl,_⟩:=QA3.inv _ k1
 refine (XC.law (w:=W) (vs:= #[v0,v1]) (Yp x0 a1 b1 c1) rfl (fun i x d hx hd=> ?_)).mono fun e W' ⟨he,hb⟩=> ?_
 ·match i,hx,hd with
  |0,hx,hd=>cases hx;cases hd;exact g0
  |1,hx,hd=>cases hx;cases hd;exact g1
  |_+2,hx,hd=>simp at hx
 ·subst he
  exact ⟨_,rfl,Alr Ys (by rw [Tryz.params12];intro t ht;simp only [List.mem_cons,List.not_mem_nil,or_false] at ht;rcases ht with rfl|rfl<;>exact ⟨by kernel_rfl,of_decide_eq_true (by kernel_rfl)⟩) rfl Tryz.underlying4 rfl rfl hW' hb⟩
end Go.Proofs.YtaafemnkamfgnaaGreat
namespace Go.Proofs.YtaafemnkamfgnaaGreat
open Go.RowKit
open Go.ChangeShapes Go.WideShapes Go.ChangeAt Go.RowKit
set_option maxRecDepth 100000 in
theorem Sw:(Rows.measureBlanksRow.wf (OpenSpec.ofChange Rows.measureBlanksSpec))=true:=by kernel_rfl
set_option maxRecDepth 100000 in
theorem Sv:(mapsRowed Tryz.pinned.checked.prog)=true:=by kernel_rfl
set_option maxRecDepth 100000 in
theorem Su:(Tryz.f12.params.all (Tryz.pinned.checked.prog.readableRec ·))=true:=by kernel_rfl
set_option maxRecDepth 100000 in
theorem St:(namedTie Tryz.pinned.checked.prog Rows.measureBlanksRow.named Rows.measureBlanksSpec.vars)=true:=by kernel_rfl
set_option maxRecDepth 100000 in
theorem Ss:((Rows.measureBlanksRow.stops== []))=true:=by kernel_rfl
set_option maxRecDepth 100000 in
theorem Sr:((Tryz.pinned.checked.prog.stops== []))=true:=by kernel_rfl
set_option maxRecDepth 100000 in
theorem Sq:((Rows.measureBlanksRow.knobs== []))=true:=by kernel_rfl
set_option maxRecDepth 100000 in
theorem Sp:((Tryz.pinned.checked.prog.stopKnobs== []))=true:=by kernel_rfl
set_option maxRecDepth 100000 in
theorem So:((Rows.measureBlanksRow.inPlace==Tryz.pinned.checked.prog.inPlace 12))=true:=by kernel_rfl
set_option maxRecDepth 100000 in
theorem Rr:((Rows.measureBlanksRow.unfollowed==Tryz.pinned.checked.prog.unfollowed 12))=true:=by kernel_rfl
set_option maxRecDepth 100000 in
theorem Rq:((Rows.measureBlanksRow.recurses==Tryz.pinned.checked.prog.recurses 12))=true:=by kernel_rfl
set_option maxRecDepth 100000 in
theorem Rp:((Rows.measureBlanksRow.named==Tryz.pinned.checked.prog.varsNamed 12))=true:=by kernel_rfl
set_option maxRecDepth 100000 in
theorem Ro:((Rows.measureBlanksRow.maps==(Tryz.f12.params.toList++Rows.measureBlanksSpec.plain.varTypes Tryz.pinned.checked.prog).any (Tryz.pinned.checked.prog.mapsRec ·)))=true:=by kernel_rfl
set_option maxRecDepth 100000 in
theorem Rn:((Rows.measureBlanksRow.ifaces==(Tryz.f12.params.toList++Rows.measureBlanksSpec.plain.varTypes Tryz.pinned.checked.prog).any (Tryz.pinned.checked.prog.ifacesRec ·)))=true:=by kernel_rfl
set_option maxRecDepth 100000 in
theorem Rm:((Rows.measureBlanksRow.mapsOut==Tryz.pinned.checked.prog.mapsAmong Tryz.f12.resultTypes.toList))=true:=by kernel_rfl
set_option maxRecDepth 100000 in
theorem Rl:((Rows.measureBlanksRow.loops==(Tryz.f12.params.toList++Rows.measureBlanksSpec.plain.varTypes Tryz.pinned.checked.prog).any (Tryz.pinned.checked.prog.loopsFrom ·)))=true:=by kernel_rfl
set_option maxRecDepth 100000 in
theorem Rk:((Rows.measureBlanksRow.wideKeys==(Tryz.f12.params.toList++Rows.measureBlanksSpec.plain.varTypes Tryz.pinned.checked.prog++Tryz.f12.resultTypes.toList).any (Tryz.pinned.checked.prog.wideKeysFrom ·)))=true:=by kernel_rfl
set_option maxRecDepth 100000 in
theorem Rj:(Rows.measureBlanksSpec.vars.all (Tryz.pinned.checked.prog.varReadable ·))=true:=by kernel_rfl
set_option maxRecDepth 100000 in
theorem Ri:(Tryz.f12.resultTypes.all (fun t=>Tryz.pinned.checked.prog.readableRec t && decide (t<Tryz.pinned.checked.prog.types.size)))=true:=by kernel_rfl
set_option maxRecDepth 100000 in
theorem Rh:((Rows.measureBlanksRow.ifacesOut==Tryz.f12.resultTypes.toList.any (Tryz.pinned.checked.prog.ifacesRec ·)))=true:=by kernel_rfl
set_option maxRecDepth 100000 in
theorem Rg:((Rows.measureBlanksRow.loopsOut==Tryz.f12.resultTypes.toList.any (Tryz.pinned.checked.prog.loopsFrom ·)))=true:=by kernel_rfl
set_option maxRecDepth 100000 in
theorem Rf:((Rows.measureBlanksRow.plainKeys==Tryz.pinned.checked.prog.plainKeys))=true:=by kernel_rfl
set_option maxRecDepth 100000 in
theorem Re:(Rows.measureBlanksRow.shortTexts.isNone)=true:=by kernel_rfl
set_option maxRecDepth 100000 in
theorem Rd:(Tryz.pinned.checked.prog.stopsHeard)=true:=by kernel_rfl
set_option maxRecDepth 100000 in
theorem Rc:(Tryz.pinned.checked.prog.mayEnter)=true:=by kernel_rfl
set_option maxRecDepth 100000 in
theorem Rb:((Rows.measureBlanksRow.lifted==Tryz.pinned.checked.prog.liftsFinal))=true:=by kernel_rfl
set_option maxRecDepth 100000 in
theorem Ra:((Tryz.pinned.checked.prog.make==some Rows.measureBlanksRow.make))=true:=by kernel_rfl
set_option maxRecDepth 100000 in
theorem Q9:((Rows.measureBlanksRow.pinned==Rows.measureBlanksRow.pinnedBy))=true:=by kernel_rfl
set_option maxRecDepth 100000 in
theorem Q8:((Rows.measureBlanksRow.veiled==(Tryz.f12.params.toList++Rows.measureBlanksSpec.plain.varTypes Tryz.pinned.checked.prog++Tryz.f12.resultTypes.toList).any (Tryz.pinned.checked.prog.veiledRec ·)))=true:=by kernel_rfl
set_option maxRecDepth 100000 in
theorem Q7:(Rows.measureBlanksRow.veiledFits Tryz.pinned.checked.prog Tryz.f12.params.toList (Tryz.f12.params.toList++Rows.measureBlanksSpec.plain.varTypes Tryz.pinned.checked.prog++Tryz.f12.resultTypes.toList))=true:=by kernel_rfl
end Go.Proofs.YtaafemnkamfgnaaGreat
