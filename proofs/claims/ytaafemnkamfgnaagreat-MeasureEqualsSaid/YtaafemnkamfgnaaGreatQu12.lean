/- Part 12 of what the statements need: lemmas and walks. -/
import Derived.ProofKit
import Derived.OpenShut
import Derived.Deep.Slices
import Derived.Deep.Fields
import Derived.ChangeSame
import Derived.Test.YtaafemnkamfgnaaGreatQu11
set_option linter.unusedVariables false
set_option linter.unusedSimpArgs false
set_option linter.unusedSectionVars false
namespace Go.Proofs.YtaafemnkamfgnaaGreat
open Go.RowKit Go.ChangeShapes Go.WideShapes Go.ChangeAt Go.Deep
theorem Auw:ownKnob Tryz.prog.godebug=none:=by kernel_rfl
theorem Zx:laidOutB Tryz.prog=true:=by kernel_rfl
section
variable {H:Type} {enc:TypeId × Value→H} {P:Program}
theorem Xr (hl:laidOutB P=true) {ts:List TypeId} (hts:∀t∈ts,P.readableRec t=true∧t<P.types.size) {W W':World} {sp:Nat→Bool}:
  ∀{vs:List Value} {ds:List (DataW H)} {ps:List MemPlace},DataW.TrodAll enc P W 0 (fun _=>true) true ts vs ds ps→(∀p∈ps,W.sameAt W' p)→(∀p∈ps,sp p.block=true)→
   DataW.TrodAll enc P W' 0 sp true ts vs ds ps:=by
 induction ts with
 |nil=>
  intro vs ds ps h _ _
  obtain ⟨rfl,rfl,rfl⟩:=trodAll_nil h
  exact trodAll_mk0
 |cons t ts ih=>
  intro vs ds ps h hs hp
  obtain ⟨v,vs',d,ds',p,q,rfl,rfl,rfl,h1,h2⟩:=trodAll_cons h
  have ht:=hts t (by simp)
  exact trodAll_cons_mk (WideElems.Trod_stays hl ht.1 ht.2 h1 (fun x hx=>hs x (by simp [hx])) fun x hx=>hp x (by simp [hx]))
   (ih (fun t ht=>hts t (by simp [ht])) h2 (fun x hx=>hs x (by simp [hx])) fun x hx=>hp x (by simp [hx]))
theorem Am1 {f:Func} {s:ChangeSpec} {fresh:Bool} {W W':World} {args:Array Value} {ds gs:List (DataW H)} {before:List MemPlace} {tb:TypeId}
  (hl:laidOutB P=true) (hts:∀t∈f.params.toList,P.readableRec t=true∧t<P.types.size) (hr:f.resultTypes= #[tb]) (hb:P.underlying tb=some .bool)
  (hv:s.vars= []) (hs:s.fn H (ds++gs)={results:= [.lit (.bool true)],args:=ds,vars:= []})
  (hW:DataW.Whole enc P f.params.toList s.vars false W args.toList ds gs before) (hbel:Below W.heap.size W W'):
  s.post enc P f false fresh false false W args (.bool true) W':=by
 have hlt:∀p∈before,p.block<W.heap.size:=fun p hp=>hW.lt p hp
 have hW0:=hW
 obtain ⟨p,q,hA,hV,hbe,hz,hn⟩:=hW0
 have hq:q= []:=by
  rw [hv] at hV
  exact (trodVars_none hV).2
 subst hq
 simp only [List.append_nil] at hbe
 subst hbe
 have hargs:∀sp:Nat→Bool,(∀x∈before,sp x.block=true)→DataW.TrodAll enc P W' 0 sp true f.params.toList args.toList (s.fn H (ds++gs)).args before:=by
  intro sp hsp
  rw [hs]
  exact Xr hl hts hA (fun x hx=>hbel.same (hlt x hx)) hsp
 have hold:∀x∈before,(fun b=>decide (b<W.heap.size)) x.block=true:=fun x hx=>by simpa using hlt x hx
 refine ⟨ds,gs,before, [],before, [],hW, ?_,hargs _ hold, ?_, ?_,fun h=>by cases h⟩
 ·rw [hs,hr]
  exact trodAll_cons_mk (shut_bool hb _) trodAll_mk0
 ·rw [hs,hv]
  rfl
 ·exact World.keptBut_mono (fun x hx=>⟨hx,Or.inr (Or.inl hx)⟩) (hbel.frame (· ∈before))
end
def Dec (P:Program) (t:TypeId) {α:Type} (f:α→List Value) (ok:World→α→Prop):Prop:=
 ∀(H:Type) (enc:TypeId × Value→H) (w:World) (fuel:Nat) (cs:List Value) (x:DataW H × List MemPlace),
  DataW.trod enc P w 0 (fun _=>true) true fuel t cs=some x→∃a,cs=f a∧ok w a
structure Sl (α:Type) where
 A:Option Addr
 n:Nat
 c:Nat
 l:List α
def Sl.val {α:Type} (s:Sl α):Value:= .slice s.A s.n s.c
structure Sl.Good {α:Type} (f:α→List Value) (okw:World→α→Prop) (w:World) (s:Sl α):Prop where
 len:s.n=s.l.length
 cap:s.n≤s.c
 max:s.c≤maxLen
 nil:s.A=none→s.c=0
 rds:Rds w w.heap.size s.A (s.l.flatMap f)
 all:∀a∈s.l,okw w a
section
variable {H:Type} {enc:TypeId × Value→H} {P:Program} {w:World}
end
end Go.Proofs.YtaafemnkamfgnaaGreat
