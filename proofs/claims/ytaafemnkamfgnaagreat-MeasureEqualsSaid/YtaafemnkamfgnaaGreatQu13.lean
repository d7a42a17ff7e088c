/- Part 13 of what the statements need: lemmas and walks. -/
import Derived.SizedLaws
import Derived.Test.YtaafemnkamfgnaaGreatQu12
set_option linter.unusedVariables false
set_option linter.unusedSimpArgs false
set_option linter.unusedSectionVars false
namespace Go.Proofs.YtaafemnkamfgnaaGreat
open Go.RowKit Go.ChangeShapes Go.WideShapes Go.ChangeAt Go.Deep
def Hw (w:World):Hp:=fun b o=>match w.cell? ⟨b,o,none⟩ with
  |some u=>if u.oneCell'=true then some u else none
  |none=>none
theorem Hw.imm (w:World):Imm (Hw w) w:=fun b o u h=>by
  unfold Hw at h
  split at h
  · rename_i v hv
    split at h
    · rename_i h1;cases h;exact ⟨hv,h1⟩
    · cases h
  · cases h
theorem Hw.mk {w:World} {b o:Nat} {u:Value} (h:w.cell? ⟨b,o,none⟩=some u) (h1:u.oneCell'=true):Hw w b o=some u:=by
  unfold Hw;rw [h];simp [h1]
structure VDs (H:Hp) (cs:List Value) (ds:List D):Prop where
  len:cs.length=ds.length
  vd:∀(i:Nat) (x:Value) (d:D),cs[i]? =some x→ds[i]? =some d→VD H x d
  one:∀x∈cs,x.oneCell'=true
theorem VDs.nil (H:Hp):VDs H [] []:=⟨rfl,fun i x d h _=>by simp at h,fun x h=>by cases h⟩
theorem VDs.app {H:Hp} {a b:List Value} {x y:List D} (h:VDs H a x) (k:VDs H b y):VDs H (a++b) (x++y):=by
  refine ⟨by rw [List.length_append,List.length_append,h.len,k.len],fun i u d hu hd=> ?_,fun u hu=> ?_⟩
  · by_cases hi:i<a.length
    · rw [List.getElem?_append_left hi] at hu
      rw [List.getElem?_append_left (by rw [←h.len];exact hi)] at hd
      exact h.vd i u d hu hd
    · rw [List.getElem?_append_right (by omega)] at hu
      rw [List.getElem?_append_right (by rw [←h.len];omega), ←h.len] at hd
      exact k.vd _ u d hu hd
  · rcases List.mem_append.1 hu with e|e
    · exact h.one u e
    · exact k.one u e
theorem VDs.single {H:Hp} {u:Value} {d:D} (h:VD H u d) (h1:u.oneCell'=true):VDs H [u] [d]:=by
  refine ⟨rfl,fun i x e hx he=> ?_,fun x hx=>by rw [List.mem_singleton.1 hx];exact h1⟩
  match i with
  |0=>cases hx;cases he;exact h
  |i+1=>simp at hx
def DecQ (P:Program) (t:TypeId) (Q:List D→Prop):Prop:=
  ∀(H:Type) (enc:TypeId × Value→H) (w:World) (fuel:Nat) (cs:List Value) (x:DataW H × List MemPlace),
    DataW.trod enc P w 0 (fun _=>true) true fuel t cs=some x→(∀n∈x.1.weights P t,n≤reachBytes)→∃ds,VDs (Hw w) cs ds∧Q ds
theorem Ia {H:Type} {P:Program} {e:TypeId}:∀{l:List (DataW H)} {d:DataW H},d∈l→∀n∈d.weights P e,n∈DataW.weightsAll P e l
  |x::l,d,h,n,hn=>by
    simp only [DataW.weightsAll,List.mem_append]
    rcases List.mem_cons.1 h with rfl|h
    · exact .inl hn
    · exact .inr (Ia h n hn)
def Dh (ds:List D):Prop:=∃n:Int,ds= [.v (.int .i64 n)]∧ -9223372036854775808≤n∧n≤9223372036854775807
def Vd (ds:List D):Prop:=∃b:Bool,ds= [.v (.bool b)]
def An3 (ds:List D):Prop:=∃s:ByteArray,ds= [.v (.string s)]
def Aie (sz by_:Nat) (Q:List D→Prop) (ds:List D):Prop:=∃l:List (List D),ds= [.sl sz l]∧(∀x∈l,Q x)∧l.length*by_≤reachBytes
def QSl (sz:Nat) (Q:List D→Prop) (ds:List D):Prop:=∃l:List (List D),ds= [.sl sz l]∧∀x∈l,Q x
def QS:List (List D→Prop)→List D→Prop
  | [],ds=>ds= []
  |Q::r,ds=>∃a b,ds=a++b∧Q a∧QS r b
theorem DecQ.int {P:Program} {t:TypeId} (ht:P.underlying t=some (.int .i64)):DecQ P t Dh:=by
  intro H enc w fuel cs x h _
  obtain ⟨n,rfl,_,hw⟩:=DataW.trod_int ht h
  refine ⟨[.v (.int .i64 n)],VDs.single (.v _) rfl,n,rfl, ?_⟩
  simp [Lit.wf,IntKind.min,IntKind.max,IntKind.signed,IntKind.bits] at hw
  omega
theorem DecQ.bool {P:Program} {t:TypeId} (ht:P.underlying t=some .bool):DecQ P t Vd:=by
  intro H enc w fuel cs x h _
  obtain ⟨b,rfl,_⟩:=DataW.trod_bool ht h
  exact ⟨[.v (.bool b)],VDs.single (.v _) rfl,b,rfl⟩
theorem DecQ.str {P:Program} {t:TypeId} (ht:P.underlying t=some .string):DecQ P t An3:=by
  intro H enc w fuel cs x h _
  obtain ⟨s,rfl,_,_⟩:=DataW.trod_string ht h
  exact ⟨[.v (.string s)],VDs.single (.v _) rfl,s,rfl⟩
def contB (P:Program):Nat→List (TypeId × Nat)→Nat→Bool
  |o, [],n=>o==n
  |o,(t,f)::r,n=>f==o && contB P (o+P.cellsOf t) r n
theorem Zb {P:Program} {H:Type} {enc:TypeId × Value→H} {w:World} {m:Nat} {cs:List Value}:∀(ps:List (TypeId × Nat)) (Qs:List (List D→Prop)) (o:Nat),ps.length=Qs.length→contB P o ps cs.length=true→
    (∀(i:Nat) t f Q,ps[i]? =some (t,f)→Qs[i]? =some Q→DecQ P t Q)→
    (∀(i:Nat) t f,ps[i]? =some (t,f)→∃y,DataW.trod enc P w 0 (fun _=>true) true m t ((cs.drop f).take (P.cellsOf t))=some y∧∀n∈y.1.weights P t,n≤reachBytes)→
    ∃ds,VDs (Hw w) (cs.drop o) ds∧QS Qs ds
  | [], [],o,_,hc,_,_=>by
    simp [contB] at hc
    exact ⟨[],by rw [List.drop_eq_nil_of_le (by omega)];exact VDs.nil _,rfl⟩
  |(t,f)::ps,Q::Qs,o,hl,hc,hq,ht=>by
    simp only [contB,Bool.and_eq_true,beq_iff_eq] at hc
    obtain ⟨rfl,hc⟩:=hc
    obtain ⟨y,hy,hyz⟩:=ht 0 t f rfl
    obtain ⟨a,ha,hQ⟩:=hq 0 t f Q rfl rfl _ _ _ _ _ _ hy hyz
    obtain ⟨b,hb,hR⟩:=Zb ps Qs (f+P.cellsOf t) (by simpa using hl) hc (fun i t' f' Q' h1 h2=>hq (i+1) t' f' Q' h1 h2) fun i t' f' h1=>ht (i+1) t' f' h1
    refine ⟨a++b, ?_,a,b,rfl,hQ,hR⟩
    have:cs.drop f=(cs.drop f).take (P.cellsOf t)++cs.drop (f+P.cellsOf t):=by rw [←List.drop_drop,List.take_append_drop]
    rw [this]
    exact ha.app hb
theorem DecQ.struct {P:Program} {t:TypeId} {fs:Array Field} (Qs:List (List D→Prop)) (ht:P.underlying t=some (.struct fs)) (hl:fs.toList.length=Qs.length) (hc:contB P 0 (fs.toList.map fun f=>(f.type,f.offset)) (P.cellsOf t)=true)
    (hq:∀(i:Nat) f Q,fs.toList[i]? =some f→Qs[i]? =some Q→DecQ P f.type Q):DecQ P t (QS Qs):=by
  intro H enc w fuel cs x h hz
  obtain ⟨xs,n,_,hxe,hcl,hxl,hg⟩:=DataW.trod_struct ht h
  have:=Zb (P:=P) (enc:=enc) (w:=w) (m:=n) (cs:=cs) (fs.toList.map fun f=>(f.type,f.offset)) Qs 0 (by rw [List.length_map];exact hl) (by rw [hcl];exact hc) (fun i t' f' Q' h1 h2=> ?_) fun i t' f' h1=> ?_
  · rwa [List.drop_zero] at this
  · rw [List.getElem?_map] at h1
    cases hf:fs.toList[i]? with
    |none=>rw [hf] at h1;cases h1
    |some f=>rw [hf] at h1;cases h1;exact hq i f Q' hf h2
  · rw [List.getElem?_map] at h1
    cases hf:fs.toList[i]? with
    |none=>rw [hf] at h1;cases h1
    |some f=>
      rw [hf] at h1;cases h1
      have hfa:fs[i]? =some f:=by simpa using hf
      have hi:i<xs.length:=by rw [hxl];exact (Array.getElem?_eq_some_iff.1 hfa).1
      exact ⟨xs[i], by rw [hg i f hfa, List.getElem?_eq_getElem hi], fun n hn => hz n (by
        rw [hxe]
        simp only [DataW.weights,ht]
        exact DataW.weights_mem_each (j := i) (t := f.type) (d := xs[i].1) (by rw [List.getElem?_map, hf]; rfl) (by rw [List.getElem?_map, List.getElem?_eq_getElem hi]; rfl) n hn)⟩
theorem DecQ.array {P:Program} {t e:TypeId} {n:Nat} {Q:List D→Prop} (ht:P.underlying t=some (.array n e)) (hc:contB P 0 ((List.range n).map fun i=>(e,i*P.cellsOf e)) (P.cellsOf t)=true) (hq:DecQ P e Q):DecQ P t (QS (List.replicate n Q)):=by
  intro H enc w fuel cs x h hz
  obtain ⟨xs,m,_,hxe,hcl,hxl,hg⟩:=DataW.trod_array ht h
  have:=Zb (P:=P) (enc:=enc) (w:=w) (m:=m) (cs:=cs) ((List.range n).map fun i=>(e,i*P.cellsOf e)) (List.replicate n Q) 0 (by simp) (by rw [hcl];exact hc) (fun i t' f' Q' h1 h2=> ?_) fun i t' f' h1=> ?_
  · rwa [List.drop_zero] at this
  · rw [List.getElem?_map] at h1
    rw [List.getElem?_replicate] at h2
    split at h2
    · cases h2
      rename_i hi
      rw [List.getElem?_range hi] at h1
      cases h1;exact hq
    · cases h2
  · have hi:i<n:=by have:=(List.getElem?_eq_some_iff.1 h1).1;simpa using this
    rw [List.getElem?_map,List.getElem?_range hi] at h1
    cases h1
    exact ⟨xs[i]'(by omega), by rw [hg i hi, List.getElem?_eq_getElem (by omega)], fun n hn => hz n (by
      rw [hxe]
      simp only [DataW.weights,ht]
      exact Ia (d := (xs[i]'(by omega)).1) (List.mem_map.2 ⟨_, List.getElem_mem _, rfl⟩) n hn)⟩
theorem DecQ.sliceB {P:Program} {t e:TypeId} {Q:List D→Prop} {sz by_:Nat} (ht:P.underlying t=some (.slice e)) (he:DecQ P e Q) (hsz:P.cellsOf e=sz) (hpos:0<sz) (hby:P.bytesOf e=by_):DecQ P t (Aie sz by_ Q):=by
  intro H enc w fuel cs x h hz
  rcases Go.Deep.open_slice ht h with ⟨rfl,rfl⟩|⟨a,len,cap,m,n,D0,Pl,rfl,hb,hl,hm,hmm,rfl,hx⟩
  · exact ⟨[.sl sz []],VDs.single (.emp none 0 sz (fun _=>rfl) (Nat.zero_le _)) rfl, [],rfl,(fun x h=>by cases h),by simp⟩
  · have hw1:=hz (((List.range len).map D0).length*1*0+(((List.range len).map D0).length+((List.range (m - len)).map fun j=>D0 (len+j)).length)*P.bytesOf e) (by simp only [DataW.weights,ht];simp)
    have hall : ∀ i, i < m → ∀ n ∈ (D0 i).weights P e, n ≤ reachBytes := fun i hi n hn => hz n (by
      simp only [DataW.weights,ht,List.mem_cons,List.mem_append]
      by_cases hil:i<len
      · exact .inr (.inl (Ia (List.mem_map.2 ⟨i,List.mem_range.2 hil,rfl⟩) n hn))
      · exact .inr (.inr (Ia (List.mem_map.2 ⟨i - len, List.mem_range.2 (by omega), by rw [show len + (i - len) = i by omega]⟩) n hn)))
    simp only [if_true] at hmm
    obtain rfl:cap=m:=hmm.symm
    rw [hsz] at hx
    by_cases hl0:len=0
    · subst hl0
      exact ⟨[.sl sz []],VDs.single (.emp (some a) cap sz (fun h=>by cases h) hm) rfl, [],rfl,(fun x h=>by cases h),by simp⟩
    obtain ⟨F,hF⟩:∃F:Nat→List Value × List D,∀i,i<len→w.cells? 0 (a.add (i*sz)) sz=some (F i).1∧VDs (Hw w) (F i).1 (F i).2∧Q (F i).2:=by
      have:∀i,∃y:List Value × List D,i<len→w.cells? 0 (a.add (i*sz)) sz=some y.1∧VDs (Hw w) y.1 y.2∧Q y.2:=by
        intro i
        by_cases hi:i<len
        · obtain ⟨cs',h1,h2⟩:=hx i (by omega)
          obtain ⟨ds,h3,h4⟩:=he _ _ _ _ _ _ h2 (hall i (by omega))
          exact ⟨(cs',ds),fun _=>⟨h1,h3,h4⟩⟩
        · exact ⟨([], []),fun h=>absurd h hi⟩
      exact ⟨fun i=>Classical.choose (this i),fun i hi=>Classical.choose_spec (this i) hi⟩
    have hlen:∀i,i<len→(F i).1.length=sz:=fun i hi=>by
      obtain ⟨_,h,_⟩:=World.cells?_some (hF i hi).1
      exact h
    obtain ⟨b,off,sp⟩:=a
    have hc:∀i j,i<len→j<sz→w.cell? ((⟨b,off,sp⟩:Addr).add (i*sz+j))=(F i).1[j]? :=by
      intro i j hi hj
      obtain ⟨_,_,hat⟩:=World.cells?_some (hF i hi).1
      rw [←Go.Deep.add_add]
      exact hat j hj
    have h00:=hc 0 0 (by omega) hpos
    have hv0 : (F 0).1[0]? = some ((F 0).1[0]'(by rw [hlen 0 (by omega)]; exact hpos)) := List.getElem?_eq_getElem _
    rw [hv0] at h00
    have hsp:sp=none:=by simpa [Addr.add] using World.cell?_spot h00
    subst hsp
    have hcell:∀i j u,i<len→(F i).1[j]? =some u→Hw w b (off+(i*sz+j))=some u:=by
      intro i j u hi hu
      have hj:j<sz:=by rw [←hlen i hi];exact (List.getElem?_eq_some_iff.1 hu).1
      have:=hc i j hi hj
      rw [Go.WideShapes.add_plain,hu] at this
      exact Hw.mk this ((hF i hi).2.1.one u (List.mem_of_getElem? hu))
    have hk:∀k e,((List.range len).map fun i=>(F i).2)[k]? =some e→k<len∧e=(F k).2:=by
      intro k e he
      have hkl:k<len:=by have:=(List.getElem?_eq_some_iff.1 he).1;simpa using this
      rw [List.getElem?_map,List.getElem?_range hkl] at he
      cases he;exact ⟨hkl,rfl⟩
    refine ⟨[.sl sz ((List.range len).map fun i=>(F i).2)],VDs.single (.sl b off len cap sz _ (fun k j=>(F k).1[j]?.getD undef) (by simp) hl hm (fun e he=> ?_) (fun k j e d h1 h2=> ?_) (fun k j e d h1 h2=> ?_)) rfl,_,rfl,fun y hy=> ?_, ?_⟩
    · obtain ⟨i,hi,rfl⟩:=List.mem_map.1 he
      have hi:=List.mem_range.1 hi
      rw [←(hF i hi).2.1.len,hlen i hi]
    · obtain ⟨hkl,rfl⟩:=hk k e h1
      have hj:j<(F k).1.length:=by rw [(hF k hkl).2.1.len];exact (List.getElem?_eq_some_iff.1 h2).1
      have hu:(F k).1[j]? =some (F k).1[j]:=List.getElem?_eq_getElem hj
      rw [hcell k j _ hkl hu,hu];rfl
    · obtain ⟨hkl,rfl⟩:=hk k e h1
      have hj:j<(F k).1.length:=by rw [(hF k hkl).2.1.len];exact (List.getElem?_eq_some_iff.1 h2).1
      have hu:(F k).1[j]? =some (F k).1[j]:=List.getElem?_eq_getElem hj
      rw [hu]
      exact (hF k hkl).2.1.vd j _ d hu h2
    · obtain ⟨i,hi,rfl⟩:=List.mem_map.1 hy
      exact (hF i (List.mem_range.1 hi)).2.2
    · rw [hby] at hw1
      simp only [List.length_map,List.length_range] at hw1 ⊢
      have:len*by_≤(len+(cap - len))*by_:=Nat.mul_le_mul_right _ (by omega)
      omega
theorem DecQ.slice {P:Program} {t e:TypeId} {Q:List D→Prop} {sz:Nat} (ht:P.underlying t=some (.slice e)) (he:DecQ P e Q) (hsz:P.cellsOf e=sz) (hpos:0<sz):DecQ P t (QSl sz Q):=fun H enc w fuel cs x h hz=>by
  obtain ⟨ds,h1,l,h2,h3,_⟩:=DecQ.sliceB ht he hsz hpos rfl H enc w fuel cs x h hz
  exact ⟨ds,h1,l,h2,h3⟩
section
variable {H:Type} {enc:TypeId × Value→H} {P:Program} {w:World}
theorem Zh {Q:List D→Prop} {r:Reach} {b0:Nat} {t:TypeId} {fs:Array Field} {v:Value} {d:DataW H} {p:List MemPlace} (ht:P.underlying t=some (.struct fs))
    (hD:DecQ P t Q) (hv:Value.okWide P w r b0 t v) (h:DataW.Trod enc P w 0 (fun _=>true) true t v d p) (hz:∀n∈d.weights P t,n≤reachBytes):∃ds,VD (Hw w) v (.agg ds)∧Q ds:=by
  obtain ⟨cs,rfl,_⟩:=okWide_struct ht hv
  obtain ⟨fuel,hf⟩:=h
  obtain ⟨ds,h1,h2⟩:=hD _ _ _ _ _ _ hf hz
  exact ⟨ds, .agg cs ds (by have:=h1.len;simpa [Value.cells] using this) fun i x d hx hd=>h1.vd i x d (by simpa [Value.cells] using hx) hd,h2⟩
theorem Ajo {r:Reach} {b0:Nat} {t:TypeId} {v:Value} {d:DataW H} {p:List MemPlace} (ht:P.underlying t=some (.int .i64))
    (hv:Value.okWide P w r b0 t v) (h:DataW.Trod enc P w 0 (fun _=>true) true t v d p):∃n:Int,VD (Hw w) v (.v (.int .i64 n))∧ -9223372036854775808≤n∧n≤9223372036854775807:=by
  obtain ⟨n,rfl, -, -,hw⟩:=open_int ht hv h
  refine ⟨n, .v _, ?_⟩
  simp [Lit.wf,IntKind.min,IntKind.max,IntKind.signed,IntKind.bits] at hw
  omega
end
theorem XC.law {P:Program} {F:FuncId} {ds:List D} {w:World} {vs:Array Value} (hx:XC P F ds (fun r=>r= .v (.bool true))) (hs:vs.size=ds.length) (hv:∀(i:Nat) (x:Value) (d:D),vs[i]? =some x→ds[i]? =some d→VD (Hw w) x d):
    Calls P F vs w fun e w'=>e= .returned (.bool true)∧Below w.heap.size w w':=
  (hx.calls (Hw w) w vs (Hw.imm w) hs hv).mono fun e w' ⟨H',u,r,e1,e2,_,_,_,hb,hu⟩=>by
    subst e2
    cases hu
    exact ⟨e1,hb⟩
end Go.Proofs.YtaafemnkamfgnaaGreat
namespace Go.Proofs.YtaafemnkamfgnaaGreat
open Go.RowKit
theorem Ct:DecQ Tryz.prog 3 Dh:=DecQ.int Tryz.underlying3
def QPit:List D→Prop:=QS [Dh,Dh,Dh]
theorem Ak5:DecQ Tryz.prog 198 QPit:=by
 refine DecQ.struct _ Tryz.underlying198 rfl (by kernel_rfl) fun i f Q hf hQ=> ?_
 match i,hf,hQ with
 |0,hf,hQ=>cases hf;cases hQ;exact Ct
 |1,hf,hQ=>cases hf;cases hQ;exact Ct
 |2,hf,hQ=>cases hf;cases hQ;exact Ct
 |_+3,hf,hQ=>simp at hQ
def QHd:List D→Prop:=QS [QPit,Vd,Dh]
theorem Aua:DecQ Tryz.prog 200 QHd:=by
 refine DecQ.struct _ Tryz.underlying200 rfl (by kernel_rfl) fun i f Q hf hQ=> ?_
 match i,hf,hQ with
 |0,hf,hQ=>cases hf;cases hQ;exact Ak5
 |1,hf,hQ=>cases hf;cases hQ;exact (DecQ.bool Tryz.underlying4)
 |2,hf,hQ=>cases hf;cases hQ;exact Ct
 |_+3,hf,hQ=>simp at hQ
def QGr:List D→Prop:=QS [QPit,Dh,Vd]
theorem Aub:DecQ Tryz.prog 203 QGr:=by
 refine DecQ.struct _ Tryz.underlying203 rfl (by kernel_rfl) fun i f Q hf hQ=> ?_
 match i,hf,hQ with
 |0,hf,hQ=>cases hf;cases hQ;exact Ak5
 |1,hf,hQ=>cases hf;cases hQ;exact Ct
 |2,hf,hQ=>cases hf;cases hQ;exact (DecQ.bool Tryz.underlying4)
 |_+3,hf,hQ=>simp at hQ
def QSy:List D→Prop:=QS [An3,Dh]
theorem At8:DecQ Tryz.prog 171 QSy:=by
 refine DecQ.struct _ Tryz.underlying171 rfl (by kernel_rfl) fun i f Q hf hQ=> ?_
 match i,hf,hQ with
 |0,hf,hQ=>cases hf;cases hQ;exact (DecQ.str Tryz.underlying9)
 |1,hf,hQ=>cases hf;cases hQ;exact Ct
 |_+2,hf,hQ=>simp at hQ
def QId:List D→Prop:=QS [Dh,Dh]
theorem Aor:DecQ Tryz.prog 23 QId:=by
 refine DecQ.struct _ Tryz.underlying23 rfl (by kernel_rfl) fun i f Q hf hQ=> ?_
 match i,hf,hQ with
 |0,hf,hQ=>cases hf;cases hQ;exact Ct
 |1,hf,hQ=>cases hf;cases hQ;exact Ct
 |_+2,hf,hQ=>simp at hQ
def Ate:List D→Prop:=QS [Dh,Dh]
theorem As4:DecQ Tryz.prog 54 Ate:=by
 refine DecQ.struct _ Tryz.underlying54 rfl (by kernel_rfl) fun i f Q hf hQ=> ?_
 match i,hf,hQ with
 |0,hf,hQ=>cases hf;cases hQ;exact Ct
 |1,hf,hQ=>cases hf;cases hQ;exact Ct
 |_+2,hf,hQ=>simp at hQ
def QEv:List D→Prop:=QS [QId,Dh,Ate,Aie 5 40 QHd,Aie 5 40 QGr,Dh,Dh,Dh,Aie 2 24 QSy,Dh,Dh]
theorem Auc:DecQ Tryz.prog 59 QEv:=by
 refine DecQ.struct _ Tryz.underlying59 rfl (by kernel_rfl) fun i f Q hf hQ=> ?_
 match i,hf,hQ with
 |0,hf,hQ=>cases hf;cases hQ;exact Aor
 |1,hf,hQ=>cases hf;cases hQ;exact Ct
 |2,hf,hQ=>cases hf;cases hQ;exact As4
 |3,hf,hQ=>cases hf;cases hQ;exact (DecQ.sliceB Tryz.underlying55 Aua (by kernel_rfl) (by decide) (by kernel_rfl))
 |4,hf,hQ=>cases hf;cases hQ;exact (DecQ.sliceB Tryz.underlying56 Aub (by kernel_rfl) (by decide) (by kernel_rfl))
 |5,hf,hQ=>cases hf;cases hQ;exact Ct
 |6,hf,hQ=>cases hf;cases hQ;exact Ct
 |7,hf,hQ=>cases hf;cases hQ;exact Ct
 |8,hf,hQ=>cases hf;cases hQ;exact (DecQ.sliceB Tryz.underlying57 At8 (by kernel_rfl) (by decide) (by kernel_rfl))
 |9,hf,hQ=>cases hf;cases hQ;exact Ct
 |10,hf,hQ=>cases hf;cases hQ;exact Ct
 |_+11,hf,hQ=>simp at hQ
def QTp:List D→Prop:=QS [Dh,Dh,Dh,Dh]
theorem At6:DecQ Tryz.prog 157 QTp:=by
 refine DecQ.struct _ Tryz.underlying157 rfl (by kernel_rfl) fun i f Q hf hQ=> ?_
 match i,hf,hQ with
 |0,hf,hQ=>cases hf;cases hQ;exact Ct
 |1,hf,hQ=>cases hf;cases hQ;exact Ct
 |2,hf,hQ=>cases hf;cases hQ;exact Ct
 |3,hf,hQ=>cases hf;cases hQ;exact Ct
 |_+4,hf,hQ=>simp at hQ
def QVo:List D→Prop:=QS [QSl 13 QEv,QSl 4 QTp]
theorem At5:DecQ Tryz.prog 82 QVo:=by
 refine DecQ.struct _ Tryz.underlying82 rfl (by kernel_rfl) fun i f Q hf hQ=> ?_
 match i,hf,hQ with
 |0,hf,hQ=>cases hf;cases hQ;exact (DecQ.slice Tryz.underlying79 Auc (by kernel_rfl) (by decide))
 |1,hf,hQ=>cases hf;cases hQ;exact (DecQ.slice Tryz.underlying80 At6 (by kernel_rfl) (by decide))
 |_+2,hf,hQ=>simp at hQ
def QMe:List D→Prop:=QS [Dh,Dh,QS (List.replicate 6 Dh)]
theorem At9:DecQ Tryz.prog 26 QMe:=by
 refine DecQ.struct _ Tryz.underlying26 rfl (by kernel_rfl) fun i f Q hf hQ=> ?_
 match i,hf,hQ with
 |0,hf,hQ=>cases hf;cases hQ;exact Ct
 |1,hf,hQ=>cases hf;cases hQ;exact Ct
 |2,hf,hQ=>cases hf;cases hQ;exact (DecQ.array Tryz.underlying24 (by kernel_rfl) Ct)
 |_+3,hf,hQ=>simp at hQ
def QCf:List D→Prop:=QS [Dh,Dh]
theorem Aud:DecQ Tryz.prog 84 QCf:=by
 refine DecQ.struct _ Tryz.underlying84 rfl (by kernel_rfl) fun i f Q hf hQ=> ?_
 match i,hf,hQ with
 |0,hf,hQ=>cases hf;cases hQ;exact Ct
 |1,hf,hQ=>cases hf;cases hQ;exact Ct
 |_+2,hf,hQ=>simp at hQ
def QCe:List D→Prop:=QS [QSl 2 QCf,QSl 2 QVo]
theorem Aue:DecQ Tryz.prog 78 QCe:=by
 refine DecQ.struct _ Tryz.underlying78 rfl (by kernel_rfl) fun i f Q hf hQ=> ?_
 match i,hf,hQ with
 |0,hf,hQ=>cases hf;cases hQ;exact (DecQ.slice Tryz.underlying75 Aud (by kernel_rfl) (by decide))
 |1,hf,hQ=>cases hf;cases hQ;exact (DecQ.slice Tryz.underlying76 At5 (by kernel_rfl) (by decide))
 |_+2,hf,hQ=>simp at hQ
def QTm:List D→Prop:=QS [Dh,Dh,Vd]
theorem At7:DecQ Tryz.prog 119 QTm:=by
 refine DecQ.struct _ Tryz.underlying119 rfl (by kernel_rfl) fun i f Q hf hQ=> ?_
 match i,hf,hQ with
 |0,hf,hQ=>cases hf;cases hQ;exact Ct
 |1,hf,hQ=>cases hf;cases hQ;exact Ct
 |2,hf,hQ=>cases hf;cases hQ;exact (DecQ.bool Tryz.underlying4)
 |_+3,hf,hQ=>simp at hQ
def QMs:List D→Prop:=QS [QId,QMe,Dh,Dh,Vd,Dh,Dh,Dh,Dh,Dh,Dh,An3,QSl 3 QTm,QSl 2 QCe]
theorem Aoq:DecQ Tryz.prog 30 QMs:=by
 refine DecQ.struct _ Tryz.underlying30 rfl (by kernel_rfl) fun i f Q hf hQ=> ?_
 match i,hf,hQ with
 |0,hf,hQ=>cases hf;cases hQ;exact Aor
 |1,hf,hQ=>cases hf;cases hQ;exact At9
 |2,hf,hQ=>cases hf;cases hQ;exact Ct
 |3,hf,hQ=>cases hf;cases hQ;exact Ct
 |4,hf,hQ=>cases hf;cases hQ;exact (DecQ.bool Tryz.underlying4)
 |5,hf,hQ=>cases hf;cases hQ;exact Ct
 |6,hf,hQ=>cases hf;cases hQ;exact Ct
 |7,hf,hQ=>cases hf;cases hQ;exact Ct
 |8,hf,hQ=>cases hf;cases hQ;exact Ct
 |9,hf,hQ=>cases hf;cases hQ;exact Ct
 |10,hf,hQ=>cases hf;cases hQ;exact Ct
 |11,hf,hQ=>cases hf;cases hQ;exact (DecQ.str Tryz.underlying9)
 |12,hf,hQ=>cases hf;cases hQ;exact (DecQ.slice Tryz.underlying27 At7 (by kernel_rfl) (by decide))
 |13,hf,hQ=>cases hf;cases hQ;exact (DecQ.slice Tryz.underlying28 Aue (by kernel_rfl) (by decide))
 |_+14,hf,hQ=>simp at hQ
def QSp:List D→Prop:=QS [Dh,Dh,Dh]
def QA2:List D→Prop:=QS (List.replicate 2 Dh)
def QA3:List D→Prop:=QS (List.replicate 3 Dh)
theorem G1 {α:Type} {Q:List D→Prop} {c:α→List D} {ok:α→Prop} (hq:∀ds,Q ds→∃a,ds=c a∧ok a):∀{l:List (List D)},(∀x∈l,Q x)→∃L:List α,l=L.map c∧∀a∈L,ok a
 | [],_=>⟨[],rfl,fun a h=>by cases h⟩
 |x::l,h=>by
  obtain ⟨a,rfl,ha⟩:=hq x (h x List.mem_cons_self)
  obtain ⟨L,rfl,hL⟩:=G1 hq fun y hy=>h y (List.mem_cons_of_mem _ hy)
  refine ⟨a::L,rfl,fun b hb=> ?_⟩
  rcases List.mem_cons.1 hb with e|e
  ·rw [e];exact ha
  ·exact hL b e
theorem QPit.inv {ds:List D} (h:QPit ds):∃p:Pit,ds=p.c:=by
 obtain ⟨_,_,rfl,⟨a,rfl,ha⟩,_,_,rfl,⟨b,rfl,hb⟩,_,_,rfl,⟨c,rfl,hc⟩,rfl⟩:=h
 exact ⟨⟨a,b,c⟩,rfl⟩
theorem QHd.inv (ds:List D) (h:QHd ds):∃x:Hd,ds=x.c∧True:=by
 obtain ⟨_,_,rfl,hp,_,_,rfl,⟨t,rfl⟩,_,_,rfl,⟨s,rfl,_⟩,rfl⟩:=h
 obtain ⟨p,rfl⟩:=hp.inv
 exact ⟨⟨p,t,s⟩,rfl,trivial⟩
theorem QGr.inv (ds:List D) (h:QGr ds):∃x:Gr,ds=x.c∧True:=by
 obtain ⟨_,_,rfl,hp,_,_,rfl,⟨s,rfl,_⟩,_,_,rfl,⟨t,rfl⟩,rfl⟩:=h
 obtain ⟨p,rfl⟩:=hp.inv
 exact ⟨⟨p,s,t⟩,rfl,trivial⟩
theorem QSy.inv (ds:List D) (h:QSy ds):∃x:Sy,ds=x.c∧True:=by
 obtain ⟨_,_,rfl,⟨t,rfl⟩,_,_,rfl,⟨s,rfl,_⟩,rfl⟩:=h
 exact ⟨⟨t.data.toList,s⟩,rfl,trivial⟩
theorem QTp.inv (ds:List D) (h:QTp ds):∃x:Tp,ds=x.c∧True:=by
 obtain ⟨_,_,rfl,⟨a,rfl,ha⟩,_,_,rfl,⟨b,rfl,hb⟩,_,_,rfl,⟨c,rfl,hc⟩,_,_,rfl,⟨d,rfl,hd⟩,rfl⟩:=h
 exact ⟨⟨a,b,c,d⟩,rfl,trivial⟩
theorem QEv.inv (ds:List D) (h:QEv ds):∃x:Ev,ds=x.c∧x.art≤9223372036854775807∧x.room:=by
 obtain ⟨_, _, rfl, ⟨_, _, rfl, ⟨s, rfl, _⟩, _, _, rfl, ⟨n, rfl, _⟩, rfl⟩, _, _, rfl, ⟨k, rfl, _⟩, _, _, rfl, ⟨_, _, rfl, ⟨lg, rfl, _⟩, _, _, rfl, ⟨dt, rfl, _⟩, rfl⟩, _, _, rfl, ⟨hs, rfl, hh, h1⟩, _, _, rfl, ⟨gs, rfl, hg, h2⟩,
  _, _, rfl, ⟨ar, rfl, har⟩, _, _, rfl, ⟨om, rfl, _⟩, _, _, rfl, ⟨dy, rfl, _⟩, _, _, rfl, ⟨ls, rfl, hl, h3⟩, _, _, rfl, ⟨st, rfl, _⟩, _, _, rfl, ⟨be, rfl, _⟩, rfl⟩ := h
 obtain ⟨H,rfl,_⟩:=G1 QHd.inv hh
 obtain ⟨G,rfl,_⟩:=G1 QGr.inv hg
 obtain ⟨L,rfl,_⟩:=G1 QSy.inv hl
 rw [List.length_map] at h1 h2 h3
 have hb:reachBytes≤140737488355328:=by decide
 exact ⟨⟨s,n,k,⟨lg,dt⟩,H,G,ar,om,dy,L,st,be⟩,rfl,har.2,Nat.le_trans h1 hb,Nat.le_trans h2 hb,Nat.le_trans h3 hb⟩
theorem QVo.inv (ds:List D) (h:QVo ds):∃v:Vo,ds=v.c∧Evs v.evs∧v.room:=by
 obtain ⟨_,_,rfl,⟨es,rfl,he⟩,_,_,rfl,⟨ts,rfl,ht⟩,rfl⟩:=h
 obtain ⟨E,rfl,hE⟩:=G1 QEv.inv he
 obtain ⟨T,rfl,_⟩:=G1 QTp.inv ht
 exact ⟨⟨E,T⟩,rfl,fun e he=>(hE e he).1,fun e he=>(hE e he).2⟩
theorem QCf.inv (ds:List D) (h:QCf ds):∃x:Cf,ds=x.c∧True:=by
 obtain ⟨_,_,rfl,⟨a,rfl,ha⟩,_,_,rfl,⟨b,rfl,hb⟩,rfl⟩:=h
 exact ⟨⟨a,b⟩,rfl,trivial⟩
theorem QId.inv (ds:List D) (h:QId ds):∃x:Id,ds=x.c∧(-9223372036854775808≤x.site∧x.site≤9223372036854775807)∧ -9223372036854775808≤x.num∧x.num≤9223372036854775807:=by
 obtain ⟨_,_,rfl,⟨a,rfl,ha⟩,_,_,rfl,⟨b,rfl,hb⟩,rfl⟩:=h
 exact ⟨⟨a,b⟩,rfl,ha,hb⟩
theorem QCe.inv (ds:List D) (h:QCe ds):∃x:Ce,ds=x.c∧(∀v∈x.voices,Evs v.evs∧v.room):=by
 obtain ⟨_,_,rfl,⟨fs,rfl,hf⟩,_,_,rfl,⟨vs,rfl,hv⟩,rfl⟩:=h
 obtain ⟨F,rfl,_⟩:=G1 QCf.inv hf
 obtain ⟨V,rfl,hV⟩:=G1 QVo.inv hv
 exact ⟨⟨F,V⟩,rfl,hV⟩
theorem QTm.inv (ds:List D) (h:QTm ds):∃x:Tm,ds=x.c∧True:=by
 obtain ⟨_,_,rfl,⟨a,rfl,ha⟩,_,_,rfl,⟨b,rfl,hb⟩,_,_,rfl,⟨r,rfl⟩,rfl⟩:=h
 exact ⟨⟨a,b,r⟩,rfl,trivial⟩
theorem QMe.inv (ds:List D) (h:QMe ds):∃m:Me,ds=m.c:=by
 obtain ⟨_,_,rfl,⟨c,rfl,_⟩,_,_,rfl,⟨u,rfl,_⟩,_,_,rfl,⟨_,_,rfl,⟨g0,rfl,hg0⟩,_,_,rfl,⟨g1,rfl,hg1⟩,_,_,rfl,⟨g2,rfl,hg2⟩,_,_,rfl,⟨g3,rfl,hg3⟩,_,_,rfl,⟨g4,rfl,hg4⟩,_,_,rfl,⟨g5,rfl,hg5⟩,rfl⟩,rfl⟩:=h
 exact ⟨⟨c,u,g0,g1,g2,g3,g4,g5⟩,rfl⟩
theorem QMs.inv (ds:List D) (h:QMs ds):∃m:Ms,ds=m.c∧m.room∧m.evs:=by
 obtain ⟨_, _, rfl, hid, _, _, rfl, hm, _, _, rfl, ⟨le, rfl, _⟩, _, _, rfl, ⟨fi, rfl, _⟩, _, _, rfl, ⟨rs, rfl⟩, _, _, rfl, ⟨x1, rfl, _⟩, _, _, rfl, ⟨x2, rfl, _⟩, _, _, rfl, ⟨x3, rfl, _⟩, _, _, rfl, ⟨x4, rfl, _⟩, _, _, rfl, ⟨x5, rfl, _⟩, _, _, rfl, ⟨x6, rfl, _⟩,
  _, _, rfl, ⟨re, rfl⟩, _, _, rfl, ⟨ts, rfl, ht⟩, _, _, rfl, ⟨cs, rfl, hc⟩, rfl⟩ := h
 obtain ⟨i,rfl,_⟩:=QId.inv _ hid
 obtain ⟨m,rfl⟩:=QMe.inv _ hm
 obtain ⟨T,rfl,_⟩:=G1 QTm.inv ht
 obtain ⟨C,rfl,hC⟩:=G1 QCe.inv hc
 exact ⟨⟨⟨i.site,i.num,m,le,fi,rs,x1,x2,x3,x4,x5,x6,re.data.toList⟩,T,C⟩,rfl,fun c hc v hv=>(hC c hc v hv).2,fun c hc v hv=>(hC c hc v hv).1⟩
end Go.Proofs.YtaafemnkamfgnaaGreat
namespace Go.Proofs.YtaafemnkamfgnaaGreat
open Go.RowKit
open Go.ChangeShapes Go.WideShapes Go.ChangeAt Go.RowKit
set_option maxRecDepth 100000 in
theorem Po (os:Os) (started:os.Started) (H:Type) (enc:TypeId × Value→H):
  ReturnsInHanded {} Tryz.checked os 9 .any (Rows.measureEqualsSpec.pre6 enc Tryz.prog Tryz.f9 Rows.measureEqualsRow.domain false) (Rows.measureEqualsSpec.post enc Tryz.prog Tryz.f9 false true false false):=by
 refine returnsInHanded_of_change_sized (C:=Tryz.checked) Auw started (by kernel_rfl) Tryz.func9
  (ChangeSpec.witness6 (enc:=enc) (C:=Tryz.checked) false ⟨#[], #[.agg #[.int .i64 0, .int .i64 0, .int .i64 0, .int .i64 0, .int .i64 0, .int .i64 0, .int .i64 0, .int .i64 0, .int .i64 0, .int .i64 0, .int .i64 0, .int .i64 0, .bool false, .int .i64 0, .int .i64 0, .int .i64 0, .int .i64 0, .int .i64 0, .int .i64 0, .string ⟨#[]⟩, .slice none 0 0, .slice none 0 0], .agg #[.int .i64 0, .int .i64 0, .int .i64 0, .int .i64 0, .int .i64 0, .int .i64 0, .int .i64 0, .int .i64 0, .int .i64 0, .int .i64 0, .int .i64 0, .int .i64 0, .bool false, .int .i64 0, .int .i64 0, .int .i64 0, .int .i64 0, .int .i64 0, .int .i64 0, .string ⟨#[]⟩, .slice none 0 0, .slice none 0 0], .int .i64 0], []⟩ 8 (by kernel_rfl) (by kernel_rfl) (by kernel_rfl) (by kernel_rfl)) ?_
 intro W base args ds gs before hval0 hW hcnd hwt _
 have hval:∀(j:Nat) t v,Tryz.f9.params[j]? =some t→args[j]? =some v→Value.okWide Tryz.prog W .any base t v:=hval0
 have hW':=hW
 obtain ⟨p,q,hA0,hV,rfl,hfz,hnd⟩:=hW
 have hA:DataW.TrodAll enc Tryz.prog W 0 (fun _=>true) true Tryz.f9.params.toList args.toList ds p:=hA0
 rw [Tryz.params9] at hA hval
 obtain ⟨v0,vs0,d0,ds0,p0,q0,hargs,rfl,rfl,h0,r0⟩:=trodAll_cons hA
 obtain ⟨v1,vs1,d1,ds1,p1,q1,rfl,rfl,rfl,h1,r1⟩:=trodAll_cons r0
 obtain ⟨v2,vs2,d2,ds2,p2,q2,rfl,rfl,rfl,h2,r2⟩:=trodAll_cons r1
 obtain ⟨rfl,rfl,rfl⟩:=trodAll_nil r2
 obtain rfl:args= #[v0,v1,v2]:=by cases args;simp_all
 obtain ⟨rfl,rfl⟩:=trodVars_none hV
 obtain ⟨c0,g0,k0⟩:=Zh Tryz.underlying30 Aoq (hval 0 30 v0 rfl rfl) h0 (fun n hn=>of_decide_eq_true (List.all_eq_true.1 hwt n (DataW.weights_mem_each (j:=0) (t:=30) (by kernel_rfl) rfl n hn)))
 obtain ⟨x0,rfl,hR0,hE0⟩:=QMs.inv _ k0
 obtain ⟨c1,g1,k1⟩:=Zh Tryz.underlying30 Aoq (hval 1 30 v1 rfl rfl) h1 (fun n hn=>of_decide_eq_true (List.all_eq_true.1 hwt n (DataW.weights_mem_each (j:=1) (t:=30) (by kernel_rfl) rfl n hn)))
 obtain ⟨x1,rfl,hR1,hE1⟩:=QMs.inv _ k1
 obtain ⟨a2,g2,l2,u2⟩:=Ajo Tryz.underlying3 (hval 2 3 v2 rfl rfl) h2
 refine (XC.law (w:=W) (vs:= #[v0,v1,v2]) (Zu x0 x1 a2 hR0 hR1) rfl (fun i x d hx hd=> ?_)).mono fun e W' ⟨he,hb⟩=> ?_
 ·match i,hx,hd with
  |0,hx,hd=>cases hx;cases hd;exact g0
  |1,hx,hd=>cases hx;cases hd;exact g1
  |2,hx,hd=>cases hx;cases hd;exact g2
  |_+3,hx,hd=>simp at hx
 ·subst he
  exact ⟨_,rfl,Am1 Zx (by rw [Tryz.params9];intro t ht;simp only [List.mem_cons,List.not_mem_nil,or_false] at ht;rcases ht with rfl|rfl|rfl<;>exact ⟨by kernel_rfl,of_decide_eq_true (by kernel_rfl)⟩) rfl Tryz.underlying4 rfl rfl hW' hb⟩
end Go.Proofs.YtaafemnkamfgnaaGreat
namespace Go.Proofs.YtaafemnkamfgnaaGreat
open Go.RowKit
open Go.ChangeShapes Go.WideShapes Go.ChangeAt Go.RowKit
set_option maxRecDepth 100000 in
theorem Tu:(Rows.measureEqualsRow.wf (OpenSpec.ofChange Rows.measureEqualsSpec))=true:=by kernel_rfl
set_option maxRecDepth 100000 in
theorem Tt:(mapsRowed Tryz.pinned.checked.prog)=true:=by kernel_rfl
set_option maxRecDepth 100000 in
theorem Ts:(Tryz.f9.params.all (Tryz.pinned.checked.prog.readableRec ·))=true:=by kernel_rfl
set_option maxRecDepth 100000 in
theorem Tr:(namedTie Tryz.pinned.checked.prog Rows.measureEqualsRow.named Rows.measureEqualsSpec.vars)=true:=by kernel_rfl
set_option maxRecDepth 100000 in
theorem Tq:((Rows.measureEqualsRow.stops== []))=true:=by kernel_rfl
set_option maxRecDepth 100000 in
theorem To:((Tryz.pinned.checked.prog.stops== []))=true:=by kernel_rfl
set_option maxRecDepth 100000 in
theorem Tn:((Rows.measureEqualsRow.knobs== []))=true:=by kernel_rfl
set_option maxRecDepth 100000 in
theorem Tl:((Tryz.pinned.checked.prog.stopKnobs== []))=true:=by kernel_rfl
set_option maxRecDepth 100000 in
theorem Tk:((Rows.measureEqualsRow.inPlace==Tryz.pinned.checked.prog.inPlace 9))=true:=by kernel_rfl
set_option maxRecDepth 100000 in
theorem Sp:((Rows.measureEqualsRow.unfollowed==Tryz.pinned.checked.prog.unfollowed 9))=true:=by kernel_rfl
set_option maxRecDepth 100000 in
theorem So:((Rows.measureEqualsRow.recurses==Tryz.pinned.checked.prog.recurses 9))=true:=by kernel_rfl
set_option maxRecDepth 100000 in
theorem Sn:((Rows.measureEqualsRow.named==Tryz.pinned.checked.prog.varsNamed 9))=true:=by kernel_rfl
set_option maxRecDepth 100000 in
theorem Sm:((Rows.measureEqualsRow.maps==(Tryz.f9.params.toList++Rows.measureEqualsSpec.plain.varTypes Tryz.pinned.checked.prog).any (Tryz.pinned.checked.prog.mapsRec ·)))=true:=by kernel_rfl
set_option maxRecDepth 100000 in
theorem Sk:((Rows.measureEqualsRow.ifaces==(Tryz.f9.params.toList++Rows.measureEqualsSpec.plain.varTypes Tryz.pinned.checked.prog).any (Tryz.pinned.checked.prog.ifacesRec ·)))=true:=by kernel_rfl
set_option maxRecDepth 100000 in
theorem Sj:((Rows.measureEqualsRow.mapsOut==Tryz.pinned.checked.prog.mapsAmong Tryz.f9.resultTypes.toList))=true:=by kernel_rfl
set_option maxRecDepth 100000 in
theorem Si:((Rows.measureEqualsRow.loops==(Tryz.f9.params.toList++Rows.measureEqualsSpec.plain.varTypes Tryz.pinned.checked.prog).any (Tryz.pinned.checked.prog.loopsFrom ·)))=true:=by kernel_rfl
set_option maxRecDepth 100000 in
theorem Sh:((Rows.measureEqualsRow.wideKeys==(Tryz.f9.params.toList++Rows.measureEqualsSpec.plain.varTypes Tryz.pinned.checked.prog++Tryz.f9.resultTypes.toList).any (Tryz.pinned.checked.prog.wideKeysFrom ·)))=true:=by kernel_rfl
set_option maxRecDepth 100000 in
theorem Sg:(Rows.measureEqualsSpec.vars.all (Tryz.pinned.checked.prog.varReadable ·))=true:=by kernel_rfl
set_option maxRecDepth 100000 in
theorem Sf:(Tryz.f9.resultTypes.all (fun t=>Tryz.pinned.checked.prog.readableRec t && decide (t<Tryz.pinned.checked.prog.types.size)))=true:=by kernel_rfl
set_option maxRecDepth 100000 in
theorem Se:((Rows.measureEqualsRow.ifacesOut==Tryz.f9.resultTypes.toList.any (Tryz.pinned.checked.prog.ifacesRec ·)))=true:=by kernel_rfl
set_option maxRecDepth 100000 in
theorem Sd:((Rows.measureEqualsRow.loopsOut==Tryz.f9.resultTypes.toList.any (Tryz.pinned.checked.prog.loopsFrom ·)))=true:=by kernel_rfl
set_option maxRecDepth 100000 in
theorem Sc:((Rows.measureEqualsRow.plainKeys==Tryz.pinned.checked.prog.plainKeys))=true:=by kernel_rfl
set_option maxRecDepth 100000 in
theorem Sb:(Rows.measureEqualsRow.shortTexts.isNone)=true:=by kernel_rfl
set_option maxRecDepth 100000 in
theorem Sa:(Tryz.pinned.checked.prog.stopsHeard)=true:=by kernel_rfl
set_option maxRecDepth 100000 in
theorem R9:(Tryz.pinned.checked.prog.mayEnter)=true:=by kernel_rfl
set_option maxRecDepth 100000 in
theorem R8:((Rows.measureEqualsRow.lifted==Tryz.pinned.checked.prog.liftsFinal))=true:=by kernel_rfl
set_option maxRecDepth 100000 in
theorem R7:((Tryz.pinned.checked.prog.make==some Rows.measureEqualsRow.make))=true:=by kernel_rfl
set_option maxRecDepth 100000 in
theorem R6:((Rows.measureEqualsRow.pinned==Rows.measureEqualsRow.pinnedBy))=true:=by kernel_rfl
set_option maxRecDepth 100000 in
theorem R5:((Rows.measureEqualsRow.veiled==(Tryz.f9.params.toList++Rows.measureEqualsSpec.plain.varTypes Tryz.pinned.checked.prog++Tryz.f9.resultTypes.toList).any (Tryz.pinned.checked.prog.veiledRec ·)))=true:=by kernel_rfl
set_option maxRecDepth 100000 in
theorem R4:(Rows.measureEqualsRow.veiledFits Tryz.pinned.checked.prog Tryz.f9.params.toList (Tryz.f9.params.toList++Rows.measureEqualsSpec.plain.varTypes Tryz.pinned.checked.prog++Tryz.f9.resultTypes.toList))=true:=by kernel_rfl
end Go.Proofs.YtaafemnkamfgnaaGreat
