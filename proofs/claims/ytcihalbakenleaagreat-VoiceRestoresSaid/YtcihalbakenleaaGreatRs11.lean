/- The statements voiceRestores_holds hold: no condition beyond the rows' own. -/
import Derived.Test.YtcihalbakenleaaGreatRs10
set_option linter.unusedVariables false
set_option linter.unusedSimpArgs false
set_option linter.unusedSectionVars false
namespace Go.Proofs.YtcihalbakenleaaGreat
open Go.RowKit
open Go.ChangeShapes Go.WideShapes Go.ChangeAt Go.RowKit
set_option maxRecDepth 100000 in
theorem Ow (os:Os) (started:os.Started) (H:Type) (enc:TypeId × Value→H):
  ReturnsInHanded {} Tryz.checked os 11 .any (Rows.voiceRestoresSpec.pre6 enc Tryz.prog Tryz.f11 Rows.voiceRestoresRow.domain false) (Rows.voiceRestoresSpec.post enc Tryz.prog Tryz.f11 false true false false):=by
 refine returnsInHanded_of_change (C:=Tryz.checked) Asg started (by kernel_rfl) Tryz.func11
  (ChangeSpec.witness6 (enc:=enc) (C:=Tryz.checked) false ⟨#[], #[.agg #[.slice none 0 0, .slice none 0 0], .agg #[.int .i64 0, .int .i64 0, .int .i64 0, .int .i64 0, .int .i64 0, .int .i64 0, .int .i64 0, .int .i64 0, .int .i64 0, .int .i64 0], .agg #[.int .i64 0, .int .i64 0]], []⟩ 8 (by kernel_rfl) (by kernel_rfl) (by kernel_rfl) (by kernel_rfl)) ?_
 intro W base args ds gs before hval0 hW hcnd _
 have hval:∀(j:Nat) t v,Tryz.f11.params[j]? =some t→args[j]? =some v→Value.okWide Tryz.prog W .any base t v:=hval0
 have hW':=hW
 obtain ⟨p,q,hA0,hV,rfl,hfz,hnd⟩:=hW
 have hA:DataW.TrodAll enc Tryz.prog W 0 (fun _=>true) true Tryz.f11.params.toList args.toList ds p:=hA0
 rw [Tryz.params11] at hA hval
 obtain ⟨v0,vs0,d0,ds0,p0,q0,hargs,rfl,rfl,h0,r0⟩:=trodAll_cons hA
 obtain ⟨v1,vs1,d1,ds1,p1,q1,rfl,rfl,rfl,h1,r1⟩:=trodAll_cons r0
 obtain ⟨v2,vs2,d2,ds2,p2,q2,rfl,rfl,rfl,h2,r2⟩:=trodAll_cons r1
 obtain ⟨rfl,rfl,rfl⟩:=trodAll_nil r2
 obtain rfl:args= #[v0,v1,v2]:=by cases args;simp_all
 obtain ⟨rfl,rfl⟩:=trodVars_none hV
 obtain ⟨c0,g0,k0⟩:=Yk Tryz.underlying25 Arl (hval 0 25 v0 rfl rfl) h0
 obtain ⟨x0,rfl,hE⟩:=QVo.inv _ k0
 obtain ⟨c1,g1,k1⟩:=Yk Tryz.underlying30 Aro (hval 1 30 v1 rfl rfl) h1
 obtain ⟨x1,rfl⟩:=QPl.inv _ k1
 obtain ⟨c2,g2,k2⟩:=Akk Tryz.underlying62 Aru (hval 2 62 v2 rfl rfl) h2
 obtain ⟨a2,b2,rfl⟩:=QA2.inv _ k2
 refine (XC.law (w:=W) (vs:= #[v0,v1,v2]) (Ano x0 x1 a2 b2 hE) rfl (fun i x d hx hd=> ?_)).mono fun e W' ⟨he,hb⟩=> ?_
 ·match i,hx,hd with
  |0,hx,hd=>cases hx;cases hd;exact g0
  |1,hx,hd=>cases hx;cases hd;exact g1
  |2,hx,hd=>cases hx;cases hd;exact g2
  |_+3,hx,hd=>simp at hx
 ·subst he
  exact ⟨_,rfl,Akw Akx (by rw [Tryz.params11];intro t ht;simp only [List.mem_cons,List.not_mem_nil,or_false] at ht;rcases ht with rfl|rfl|rfl<;>exact ⟨by kernel_rfl,of_decide_eq_true (by kernel_rfl)⟩) rfl Tryz.underlying4 rfl rfl hW' hb⟩
theorem voiceRestores_holds:Rows.VoiceRestoresSaid:=
 OpenClaim.holds_of_wide 11 Tryz.f11 rfl rfl rfl rfl rfl rfl rfl ⟨rfl,rfl,rfl,rfl,rfl⟩ rfl rfl rfl rfl rfl (by kernel_rfl) Tryz.func11 (by kernel_rfl)
  (of_decide_eq_true (by kernel_rfl)) (by unfold Func.isWrapper;first|(rw [if_pos (by decide+kernel)];kernel_rfl)|(rw [if_neg (by decide+kernel)];exact ⟨rfl,rfl⟩))
  (fun os started H enc _=>Ow os started H enc)
end Go.Proofs.YtcihalbakenleaaGreat
