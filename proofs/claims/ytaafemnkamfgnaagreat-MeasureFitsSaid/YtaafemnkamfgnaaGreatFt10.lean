/- Part 10 of what the statements need: lemmas and walks. -/
import Derived.Lib.OwnBridge
import Derived.Test.YtaafemnkamfgnaaGreatFt9
set_option linter.unusedVariables false
set_option linter.unusedSimpArgs false
set_option linter.unusedSectionVars false
set_option maxRecDepth 20000
set_option maxHeartbeats 8000000
namespace Go.Proofs.YtaafemnkamfgnaaGreat
open Go.RowKit
open Go.Sort in
theorem Akz {zs:List Int} {c:Array Value} (h:zs.length≤c.size):(putCells (Value.int .i64) 0 zs.toArray c).toList.take zs.length=zs.map (Value.int .i64):=by
 apply List.ext_getElem?
 intro k
 rw [List.getElem?_take,List.getElem?_map]
 by_cases hk:k<zs.length
 ·rw [if_pos hk,Array.getElem?_toList,putCells,Array.getElem?_mapIdx,Array.getElem?_eq_getElem (by omega),Option.map_some,if_pos ⟨by omega,by simpa using hk⟩,List.getElem?_eq_getElem hk,Option.map_some]
  congr 2
  rw [Nat.sub_zero,getElem!_pos _ k (by simpa using hk)]
  simp
 ·rw [if_neg hk,List.getElem?_eq_none (by omega)];rfl
abbrev ixs (zs:List Int):List (List D):=zs.map iv
theorem Afn {E:Env} {H:Hp} {β:Bt} {h:Xh} {w:World} {i:Nat} {zs:List Int} {L:Loc} (hs:Sim E H β h w) (hi:h i=some (.row 3 1 (ixs zs))) (hL:β i=some L):
  (L.v= .slice none 0 0∧zs= [])∨∃cap cur,L.v= .slice (some ⟨L.b,0,none⟩) zs.length cap∧L.sz=1∧E.w.heap.size≤L.b∧w.heap[L.b]? =some (.cells cur 3 (0,0))∧zs.length≤cap∧cap≤maxLen∧cur.size=cap∧cur.toList.take zs.length=zs.map (Value.int .i64):=by
 obtain ⟨hsz,hz,hvb,us,hown,hone,hcells⟩:=hs.obj i _ L hi hL
 have hn:(ixs zs).length=zs.length:=by simp [ixs]
 rw [hn] at hown
 rcases hown.2 with ⟨e1,e2⟩|⟨g,cap,cur,e1,e2,e3,e4,e5,e6,e7⟩
 ·exact .inl ⟨e1,List.length_eq_zero_iff.1 e2⟩
 ·have hg:=hvb g (by rw [e1];rfl)
  subst hg
  rw [Nat.mul_one] at e6 e7
  refine .inr ⟨cap,cur,e1,hsz,e2,e3,e4,e5,e6, ?_⟩
  rw [e7]
  have hl:us.length=zs.length:=by rw [hown.1,Nat.mul_one]
  apply List.ext_getElem?
  intro k
  by_cases hk:k<zs.length
  ·obtain ⟨u,h1,h2⟩:=hcells k 0 [dI zs[k]] (dI zs[k]) (by simp [ixs,hk];rfl) rfl
   rw [Nat.mul_one,Nat.add_zero] at h1
   rw [h1,P9 h2]
   simp [hk]
  ·rw [List.getElem?_eq_none (by omega),List.getElem?_eq_none (by simp;omega)]
open Go.Sort in
theorem Sim.putI {E:Env} {H:Hp} {β:Bt} {h:Xh} {w:World} {i q:Nat} {zs ys:List Int} {L:Loc} {cap:Nat} {cur:Array Value} (hs:Sim E H β h w) (hi:h i=some (.row 3 1 (ixs zs))) (hL:β i=some L)
  (hv:L.v= .slice (some ⟨L.b,0,none⟩) zs.length cap) (hb:E.w.heap.size≤L.b) (hc:w.heap[L.b]? =some (.cells cur 3 (0,0))) (hn:zs.length≤cap) (hm:cap≤maxLen) (hz:cur.size=cap) (hl:ys.length=zs.length):
  Sim E H β (h.set i (.row 3 1 (ixs ys))) (putRow (Value.int .i64) (Sort.ahead w q) L.b 0 ys.toArray):=by
 obtain ⟨hsz,_,hvb,_⟩:=hs.obj i _ L hi hL
 have s2:Sim E H β h (Sort.ahead w q):=hs.call ⟨rfl,rfl,rfl,Nat.le_refl _,fun _ _=>rfl⟩ (Hp.le.refl _) (fun b o u e=> .inl e) hs.imm
 have hcell:(putRow (Value.int .i64) (Sort.ahead w q) L.b 0 ys.toArray).heap[L.b]? =some (.cells (putCells (Value.int .i64) 0 ys.toArray cur) 3 (0,0)):=by
  show (w.heap.modify L.b _)[L.b]? =_
  rw [Array.getElem?_modify,if_pos rfl,hc];rfl
 have hcs:(putCells (Value.int .i64) 0 ys.toArray cur).size=cap:=by simp [putCells,hz]
 refine s2.turn hi hL rfl (Go.Lib.below_putRow hs.below hb) (fun b hb'=> ?_) ?_
 ·show (w.heap.modify L.b _)[b]? =w.heap[b]?
  rw [Array.getElem?_modify,if_neg]
  intro e
  exact hb' (by simp [XO.blk,hv,Value.ownBlock,e])
 ·have hlen:(ixs ys).length=zs.length:=by simp [ixs,hl]
  refine ⟨hsz,fun x hx=> ?_,hvb,ys.map (Value.int .i64),⟨by simp [ixs], .inr ⟨L.b,cap,_,by rw [hlen];exact hv,hb,hcell,by rw [hlen];exact hn,hm,by rw [Nat.mul_one];exact hcs, ?_⟩⟩,fun u hu=> ?_,fun k j x d hk hj=> ?_⟩
  ·obtain ⟨z,_,rfl⟩:=List.mem_map.1 hx;rfl
  ·rw [show (ixs ys).length*1=ys.length by simp [ixs]]
   exact Akz (by omega)
  ·obtain ⟨z,_,rfl⟩:=List.mem_map.1 hu;rfl
  ·rw [ixs,List.getElem?_map] at hk
   cases hy:ys[k]? with
   |none=>rw [hy] at hk;cases hk
   |some z=>
    rw [hy] at hk;cases hk
    match j with
    |0=>cases hj;exact ⟨.int .i64 z,by rw [Nat.mul_one,Nat.add_zero,List.getElem?_map,hy];rfl, .v _⟩
    |j+1=>simp [iv] at hj
open Go.Sort in
theorem Sim.grow {E:Env} {H:Hp} {β:Bt} {h:Xh} {w:World} (hs:Sim E H β h w) (os:Array Obj):Sim E H β h (Go.Sort.grow w os):=by
 have hb:Below w.heap.size w (Go.Sort.grow w os):=⟨rfl,rfl,rfl,by simp,fun k hk=>by simp only [Go.Sort.grow];rw [Array.getElem?_append_left hk]⟩
 exact hs.call hb (Hp.le.refl _) (fun b o u e=> .inl e) (hs.imm.below hb)
theorem Xb {w:World} {b:Nat} {cur:Array Value} {zs:List Int} (hc:w.heap[b]? =some (.cells cur 3 (0,0))) (ht:cur.toList.take zs.length=zs.map (Value.int .i64)):Go.Sort.Holds (Value.int .i64) w b 0 zs.toArray:=fun j hj=>by
 have hj':j<zs.length:=by simpa using hj
 have:cur[j]? =some (.int .i64 zs[j]):=by
  have h1:(cur.toList.take zs.length)[j]? =some (.int .i64 zs[j]):=by rw [ht];simp [hj']
  rw [List.getElem?_take,if_pos hj'] at h1
  simpa using h1
 refine ⟨?_,by simp [World.frozen?,hc]⟩
 simp [World.cell?,hc,this,hj']
def srt (zs:List Int):List Int:=zs.mergeSort fun x y=>decide (x≤y)
theorem Ae5 (zs:List Int):(srt zs).length=zs.length:=List.length_mergeSort _
theorem Ae4:srt []= []:=by simp [srt]
section
variable {n:Nat} {f:Fr} {h:Xh} {o:Oper} {ops rest:List Oper} {K:Cx} {tys:Array TypeId}
theorem Apg {i:Nat} {x:Operand} {zs:List Int} (ho:o.op= .call {callee:= .value (.func 58),args:= #[x],argTypes:=tys}) (hx:ev f x= .own i) (hi:h i=some (.row 3 1 (ixs zs))) (hlen:zs.length<4611686018427387904):
  Step Tryz.prog n o f h .any f (h.set i (.row 3 1 (ixs (srt zs)))):=by
 intro E H β a w hs hfv hop
 have g:=hop x (by rw [ho];simp [Op.operands,Call.operands])
 rw [hx] at g
 obtain ⟨L,hL,hv⟩:=F7 g
 have fin:∀w',Sim E H β (h.set i (.row 3 1 (ixs (srt zs)))) w'→∃H' β' u,a.put o.dst (.tuple #[])=a.put o.dst u∧Sim E H' β' (h.set i (.row 3 1 (ixs (srt zs)))) w'∧FV n H' β' a f∧VS H' β' u .any:=fun w' k=>⟨H,β,_,rfl,k,hfv, .any _⟩
 unfold Oper.wp
 rw [Nv ho Aee,show (#[x]:Array Operand).map a.eval= #[a.eval x] by simp]
 rw [hv]
 rcases Afn hs hi hL with ⟨e1,rfl⟩|⟨cap,cur,e1,_,e2,e3,e4,e5,e6,e7⟩
 ·rw [e1]
  refine (Tryz.slices_Sort_int_none none 0 w).mono ?_
  rintro e w' ⟨rfl,rfl⟩
  exact fin _ (by rw [Ae4,Xh.set_self hi];exact hs)
 ·rw [e1]
  refine (Tryz.slices_Sort_int L.b 0 cap zs w (Xb e3 e7) (Array.getElem?_eq_some_iff.1 e3).1 hlen).mono ?_
  rintro e w' ⟨rfl,q,os,rfl⟩
  exact fin _ ((hs.putI hi hL e1 e2 e3 e4 e5 e6 (Ae5 zs)).grow os)
theorem Xz {h:Xh} {i:Nat} {o o2:XO}:((h.set i o).kill i).set i o2=(h.kill i).set i o2:=by
 funext j
 by_cases e:i=j
 ·subst e;rw [Xh.set_same,Xh.set_same]
 ·rw [Xh.set_ne _ _ e,Xh.set_ne _ _ e,Xh.kill_ne _ e,Xh.kill_ne _ e,Xh.set_ne _ _ e]
def cpt (zs:List Int):List Int:=Go.Lib.compact zs
theorem Af0 (zs:List Int):(cpt zs).length≤zs.length:=Go.Lib.compact_length_le zs
theorem Afz:cpt []= []:=by have:=Af0 [];exact List.length_eq_zero_iff.1 (by simpa using this)
theorem Sim.cutR {E:Env} {H:Hp} {β:Bt} {h:Xh} {w:World} {i m c:Nat} {ty:TypeId} {sz:Nat} {r:List (List D)} {L:Loc} {A:Option Addr} (hs:Sim E H β h w) (hi:h i=some (.row ty sz r)) (hL:β i=some L) (hv:L.v= .slice A r.length c) (hm:m≤r.length):
  Sim E H (β.set i (some ⟨.slice A m c,L.b,sz,noB⟩)) ((h.kill i).set i (.row ty sz (r.take m))) w:=by
 obtain ⟨h1,hz,hvb,us,hown,hone,hc⟩:=hs.obj i _ L hi hL
 have hn2:(r.take m).length=m:=by rw [List.length_take];omega
 have hblk:(Value.slice A m c).ownBlock=L.v.ownBlock:=by rw [hv];cases A<;>rfl
 have hmul:m*sz≤r.length*sz:=Nat.mul_le_mul_right _ hm
 refine hs.lay i _ _ (fun b hb=>⟨_,L,hi,hL, ?_⟩) ⟨rfl,fun x hx=>hz x (List.mem_of_mem_take hx),fun b hb=>hvb b (by rw [←hblk];exact hb),us.take (m*sz),⟨?_, ?_⟩,fun u hu=>hone u (List.mem_of_mem_take hu),fun k j x d hk hj=> ?_⟩
 ·simp only [XO.blk] at hb ⊢
  rw [←hblk];exact hb
 ·rw [hn2,List.length_take,hown.1];omega
 ·rw [hn2]
  rcases hown.2 with ⟨e1,e2⟩|⟨g,cap,cur,e1,e2,e3,e4,e5,e6,e7⟩
  ·rw [hv] at e1
   injection e1 with q1 q2 q3
   subst q1 q3
   have:m=0:=by omega
   subst this
   exact .inl ⟨rfl,rfl⟩
  ·rw [hv] at e1
   injection e1 with q1 q2 q3
   subst q1 q3
   refine .inr ⟨g,c,cur,rfl,e2,e3,by omega,e5,e6, ?_⟩
   rw [←e7,List.take_take,Nat.min_eq_left hmul]
 ·have hkm:k<m:=by have:=(List.getElem?_eq_some_iff.1 hk).1;rw [List.length_take] at this;omega
  rw [List.getElem?_take,if_pos hkm] at hk
  obtain ⟨u,h5,h6⟩:=hc k j x d hk hj
  have hjs:j<sz:=by have:=(List.getElem?_eq_some_iff.1 hj).1;rw [hz x (List.mem_of_getElem? hk)] at this;exact this
  have h7:(k+1)*sz≤m*sz:=Nat.mul_le_mul_right _ hkm
  rw [Nat.add_mul] at h7
  exact ⟨u,by rw [List.getElem?_take,if_pos (by omega)];exact h5,h6⟩
theorem Sim.cutI {E:Env} {H:Hp} {β:Bt} {h:Xh} {w:World} {i m c:Nat} {zs:List Int} {L:Loc} {A:Option Addr} (hs:Sim E H β h w) (hi:h i=some (.row 3 1 (ixs zs))) (hL:β i=some L) (hv:L.v= .slice A zs.length c) (hm:m≤zs.length):
  Sim E H (β.set i (some ⟨.slice A m c,L.b,1,noB⟩)) ((h.kill i).set i (.row 3 1 (ixs (zs.take m)))) w:=by
 have:=hs.cutR hi hL (by rw [List.length_map];exact hv) (by rw [List.length_map];exact hm)
 rw [←List.map_take] at this
 exact this
theorem Agk {i:Nat} {x:Operand} {zs:List Int} (ho:o.op= .call {callee:= .value (.func 59),args:= #[x],argTypes:=tys}) (hx:ev f x= .own i) (hi:h i=some (.row 3 1 (ixs zs))) (hlen:zs.length≤9223372036854775807):
  Step Tryz.prog n o f h (.own i) (D8 f i) ((h.kill i).set i (.row 3 1 (ixs (cpt zs)))):=by
 intro E H β a w hs hfv hop
 have g:=hop x (by rw [ho];simp [Op.operands,Call.operands])
 rw [hx] at g
 obtain ⟨L,hL,hv⟩:=F7 g
 unfold Oper.wp
 rw [Nv ho Aed,show (#[x]:Array Operand).map a.eval= #[a.eval x] by simp]
 rw [hv]
 rcases Afn hs hi hL with ⟨e1,rfl⟩|⟨cap,cur,e1,_,e2,e3,e4,e5,e6,e7⟩
 ·rw [e1]
  refine (Tryz.slices_Compact_int_empty none 0 w).mono ?_
  rintro e w' ⟨rfl,rfl⟩
  have:=hs.cutI hi hL e1 (Nat.le_refl _)
  rw [Afz]
  exact ⟨H,_,_,rfl,this,hfv.kill i _,VS.own (Bt.set_same _ _ _)⟩
 ·rw [e1]
  refine (Tryz.slices_Compact_int L.b 0 cap zs w (Xb e3 e7) hlen e4).mono ?_
  rintro e w' ⟨rfl,q,rfl⟩
  have hl:=Af0 zs
  have hl2:(Go.Lib.compact zs++List.replicate (zs.length - (Go.Lib.compact zs).length) 0).length=zs.length:=by unfold cpt at hl;simp;omega
  have k:=(hs.putI (q:=q) hi hL e1 e2 e3 e4 e5 e6 hl2).cutI (m:=(cpt zs).length) (Xh.set_same _ _ _) hL (by rw [hl2];exact e1) (by rw [hl2];exact hl)
  rw [Xz,cpt,List.take_left] at k
  exact ⟨H,_,_,rfl,k,hfv.kill i _,VS.own (Bt.set_same _ _ _)⟩
end
def Aai (m:Ms):List Int:=cpt (srt ((slL m).map (·.on)))
theorem As6 {m:Ms} (h:slE m≠0):Aai m= []:=by rw [Aai,slL,if_pos h];simp [Ae4,Afz]
theorem r2i {l l':List Int} {a b:Int} (h:l=l') (h2:a=b):D.tup [.sl 1 (l.map iv),dI a]= .tup [.sl 1 (l'.map iv),dI b]:=by rw [h,h2]
theorem Api {m:Ms} (hF:m.fit):(slL m).length≤3000000000:=by
 unfold slL
 split
 ·exact Nat.zero_le _
 ·have:=Aah (L:=mlV m.h.m m.h.len) (l:=m.cells) (fun c hc=>(hF.c c hc).voices)
  have:=hF.cells
  omega
theorem Ahp (m:Ms) (hF:m.fit) (hE:m.evs):XC Tryz.prog 21 [.agg (Ms.c m)] (fun r=>r= .tup [.sl 1 ((Aai m).map iv),dI (slE m)]):=by
 have hsl:=Api hF
 refine Am Aer Tryz.func21 R R lb<|zr<|?_
 refine XL.step R (An 1 (l:= [.d (dI m.h.site), .d (dI m.h.num), .d (dI m.h.m.count), .d (dI m.h.m.unit), .d (dI m.h.m.g0), .d (dI m.h.m.g1), .d (dI m.h.m.g2), .d (dI m.h.m.g3), .d (dI m.h.m.g4), .d (dI m.h.m.g5), .d (dI m.h.len), .d (dI m.h.fifths), .d (dB m.h.start), .d (dI m.h.fin), .d (dI m.h.ends), .d (dI m.h.jump), .d (dI m.h.labels), .d (dI m.h.swing), .d (dI m.h.brk), .d (.v (.string ⟨m.h.reh.toArray⟩)), .d (.sl 3 (m.tempi.map Tm.c)), .d (.sl 2 (m.cells.map Ce.c))]) R R (by kernel_rfl))<|?_
 refine za R R<|za R R<|znr<|zp (Ae (s':= .d (.agg (Ms.c m))) (Ac (Ad R R Bn R lb)) (by kernel_rfl))<|XL.call1 R R (Yw _ (by assumption) (by assumption)) R<|zm R R<|zp (Ar R R R)<|zp (Ar R R R)<|za R R<|za R R<|zn<|zs<|zr<|zm R R<|?_
 refine zp (Az R R R)<|zn<|?_
 refine zd R (fun c15=> ?_) (fun c15=> ?_)
 refine zr<|zm R R<|za R R<|za R R<|zn<|zt<|?_
 exact Ax R (RV.nil (sz:=1) R R) (RV.tmp R R) (r2i (As6 (by assumption)).symm R)
 refine zi<|zr<|za R R<|zn<|zs<|zr<|zm R R<|XL.len R R R Tryz.underlying42 fun hl18=>zm R R<|zn<|Ah<|Di 7801 6 3 1 R<|?_
 refine A0 (α:=Nat) (fun k=>k≤(slL m).length) (fun k=>mkF [(2, .d (.v (.slice none 0 0))),(3, .d (dI 0)),(6, .own 7801),(17, .d (.sl 5 ((slL m).map Slt.c))),(18, .d (dI (slL m).length)),(19, .d (dI k))]) (fun k=>mkH [(7801, .row 3 1 ((((slL m).take k).map (·.on)).map iv))]) (fun k=>(slL m).length - k) (0) (Nat.zero_le _) ?_ ?_ ?_
 exact fz ⟨sr,sr,sr,sr,sr,sr,trivial⟩
 exact gz ⟨R,trivial⟩
 intro k hk0
 refine zr<|zp (As R R R)<|zn<|zs<|?_
 refine zd R (fun c20=> ?_) (fun c20=> ?_)
 have hk0a:k<(slL m).length:=by omega
 obtain ⟨x0,hx0⟩:=Aw hk0a
 refine zi<|zs<|Ah<|zr<|zp (Ap R R R Aom hx0)<|zp (Ae (s':= .d (.agg (Slt.c x0))) (A4 R R Ak3 lb) (by kernel_rfl))<|XL.step R (Ao 8 (l:= [.d (dI 0), .d (dI 0), .d (dI 0), .d (dI 0), .d (dI 0)]) R Mq (by kernel_rfl))<|?_
 refine XL.step R (Af (l':= [.d (dI x0.staff), .d (dI x0.voice), .d (dI x0.ev), .d (dI x0.on), .d (dI x0.off)]) R R R R Agj R lb (by kernel_rfl))<|zng<|zp (At R (by conv=>lhs;whnf))<|?_
 refine zp (Aa R R Am4)<|zp (Ab R R Ai R R)<|XL.step R (Bj 26 R Tryz.underlying45 Er H7 R R (by omega) (by omega))<|XL.step R (A3 R Q9 (.own R) (Src.own R) (by unfold maxLen;simp;omega) (by simp;omega))<|zp (Av R (by conv=>lhs;whnf))<|?_
 refine zn<|Ag (by kernel_rfl)<|zp (Ak R R R (by omega) (by omega))<|zm R R<|zn<|?_
 exact Al (k+1) (by omega) (by omega) (fz ⟨sr,sr,sr,sr,sr,sr,trivial⟩) (gz ⟨Io (a:=x0.on) R (by rw [Bz hx0,List.map_append];rfl),trivial⟩)
 have hk0b:k=(slL m).length:=by omega
 refine Au<|zr<|zp (At R (by conv=>lhs;whnf))<|?_
 refine XL.step R (Apg (zs:=((slL m).take k).map (·.on)) R R R (by rw [List.length_map,List.length_take];omega))<|znr<|zp (At R (by conv=>lhs;whnf))<|?_
 refine XL.step R (Agk (zs:=srt (((slL m).take k).map (·.on))) R R R (by rw [Ae5,List.length_map,List.length_take];omega))<|zp (Av R (by conv=>lhs;whnf))<|?_
 refine za R R<|zn<|zt<|Cg (i:=7801) R<|?_
 exact Ax R (RV.tmp R R) (RV.tmp R R) (r2i (by rw [hk0b,List.take_length];rfl) (by omega))
end Go.Proofs.YtaafemnkamfgnaaGreat
namespace Go.Proofs.YtaafemnkamfgnaaGreat
open Go.RowKit
inductive C3 where
 |bf|fr|af|fl|ff|mu|st
 deriving DecidableEq
def OpF (P:Program) (n:Nat) (ops:Array Oper) (o:Oper) (f:Fr) (h1:Xh) (s:S):Prop:=
 (Bl ops f n o.guard=some true∧Ac0 P o (ev f) h1 [] s)∨(Bl ops f n o.guard=some false∧s= .d (.v undef))
structure FOK (P:Program) (n:Nat) (ops:Array Oper) (κ:S→S) (hA hB hC:Xh) (o:Oper) (fA fB:Fr) (c:C3) (sA sB:S):Prop where
 a:(c= .bf∨c= .fr∨c= .ff)→OpF P n ops o fA hA sA∧sB=κ sA
 b:(c= .af∨c= .fr∨c= .fl∨c= .ff)→OpF P n ops o fB hB sB
 l:(c= .fl∨c= .ff)→OpF P n ops o fB hC sB
 m:c= .mu→Bl ops fA n o.guard=some true∧Jw P n o fA hA 987654 sB κ hB
 s:c= .st→Bl ops fB n o.guard=some true∧Jw P n o fB hB 987654 sB id hC
inductive ChF (P:Program) (n:Nat) (ops:Array Oper) (κ:S→S) (hA hB hC:Xh):List Oper→Fr→Fr→List C3→List S→List S→Fr→Prop where
 |nil (fA fB:Fr):ChF P n ops κ hA hB hC [] fA fB [] [] [] fB
 |step {o:Oper} {rest:List Oper} {fA fB f':Fr} {c:C3} {sA sB:S} {C:List C3} {LA LB:List S} (hok:FOK P n ops κ hA hB hC o fA fB c sA sB) (hr:ChF P n ops κ hA hB hC rest (A6 fA o.dst sA) (A6 fB o.dst sB) C LA LB f'):
   ChF P n ops κ hA hB hC (o::rest) fA fB (c::C) (sA::LA) (sB::LB) f'
def noI (L:List S):List (List Nat × S):=L.map fun s=>([],s)
theorem Rw {L:List S} {k:Nat} {s:S} (h:L[k]? =some s):(noI L)[k]? =some ([],s):=by rw [noI,List.getElem?_map,h];rfl
theorem Ajg {L:List S} {k:Nat} {q:List Nat × S} (h:(noI L)[k]? =some q):L[k]? =some q.2∧q.1= []:=by
 rw [noI,List.getElem?_map] at h
 cases hl:L[k]? with
 |none=>rw [hl] at h;cases h
 |some s=>rw [hl] at h;cases h;exact ⟨rfl,rfl⟩
theorem ChF.ok {P:Program} {n:Nat} {ops:Array Oper} {κ:S→S} {hA hB hC:Xh} {l:List Oper} {fA fB f':Fr} {C:List C3} {LA LB:List S} (hc:ChF P n ops κ hA hB hC l fA fB C LA LB f'):
  C.length=l.length∧LA.length=l.length∧LB.length=l.length∧
  (∀k o c sA sB,l[k]? =some o→C[k]? =some c→LA[k]? =some sA→LB[k]? =some sB→FOK P n ops κ hA hB hC o (A5 fA l (noI LA) Du k) (A5 fB l (noI LB) Du k) c sA sB)∧A5 fB l (noI LB) Du l.length=f':=by
 induction hc with
 |nil=>exact ⟨rfl,rfl,rfl,fun k o c qa qb e=>by simp at e,rfl⟩
 | @step o rest fA fB f' c sA sB C LA LB hok hr ih=>
  obtain ⟨i1,i2,i3,i4,i5⟩:=ih
  refine ⟨by simp [i1],by simp [i2],by simp [i3],fun k o' c' qa qb h1 h2 h3 h4=> ?_, ?_⟩
  ·cases k with
   |zero=>simp at h1 h2 h3 h4;subst h1 h2 h3 h4;exact hok
   |succ k=>
    have e1:noI (sA::LA)=([],sA)::noI LA:=rfl
    have e2:noI (sB::LB)=([],sB)::noI LB:=rfl
    rw [e1,e2,Ft,Ft];exact i4 k o' c' qa qb (by simpa using h1) (by simpa using h2) (by simpa using h3) (by simpa using h4)
  ·have e2:noI (sB::LB)=([],sB)::noI LB:=rfl
   rw [e2,List.length_cons,Ft];exact i5
def Ahq (ops:Array Oper) (p p2:Nat) (C:List C3):Bool:=
 (List.range C.length).all fun k=>
  match C[k]? with
  |some .bf=>C9 ops 9 p k && C9 ops 9 p2 k
  |some .af=>C9 ops 9 k p && C9 ops 9 p2 k
  |some .fl=>C9 ops 9 k p
  |some .mu=>Nat.beq k p && C9 ops 9 p2 k
  |some .st=>Nat.beq k p2 && C9 ops 9 k p
  |some .fr=>C9 ops 9 p2 k
  |some .ff=>true
  |none=>true
section
variable (P:Program) (n:Nat) (ops:Array Oper) (pre:List Oper) (p p2:Nat) (fA fB:Fr) (hA hB hC:Xh) (LA LB:List S) (E:Env)
def An1 (listed:Array Bool) (a:Act) (w:World):Prop:=
 (listed.size=ops.size∧(∀j o e,ops[j]? =some o→listed.getD j false=true→e∈o.after→Region.binds .any e=true→listed.getD e.on false=true)∧∀k,pre.length≤k→listed.getD k false=false)∧
  ((listed.getD p false = false ∧ listed.getD p2 false = false ∧ ∃ H β, Sim E H β hA w ∧ FV n H β a (A5 fA pre (noI LA) (fun j => listed.getD j false) pre.length)) ∨
   (listed.getD p false=true∧listed.getD p2 false=false∧∃H β,Sim E H β hB w∧FV n H β a (A5 fB pre (noI LB) (fun j=>listed.getD j false) pre.length))∨
   (listed.getD p2 false = true ∧ ∃ H β, Sim E H β hC w ∧ FV n H β a (A5 fB pre (noI LB) (fun j => listed.getD j false) pre.length)))
end
theorem Aj2 {P:Program} {n:Nat} {ops:Array Oper} {pre:List Oper} {p p2:Nat} {fA fB:Fr} {hA hB hC:Xh} {LA LB:List S} {E:Env} {Q:Exit→Act→World→Prop} {κ:S→S} {C:List C3}
  (hops:∀j,j<pre.length→ops[j]? =pre[j]?) (hin:pre.all (inN n)=true) (hreg:J0 ops pre=true) (hf:∀t,fB t=κ (fA t)) (hCl:C.length=pre.length) (hAl:LA.length=pre.length) (hBl:LB.length=pre.length)
  (hok:∀k o c sA sB,pre[k]? =some o→C[k]? =some c→LA[k]? =some sA→LB[k]? =some sB→FOK P n ops κ hA hB hC o (A5 fA pre (noI LA) Du k) (A5 fB pre (noI LB) Du k) c sA sB)
  (hp:C[p]? =some .mu) (hp2:C[p2]? =some .st) (hcls:Ahq ops p p2 C=true) {listed:Array Bool} {a:Act} {w:World} (hI:An1 n ops pre p p2 fA fB hA hB hC LA LB E listed a w) {i:Nat} (hi:i∈Region.ready .any ops listed) (hip0:i<pre.length):
  wpOp P ops Q i (fun a' w'=>An1 n ops pre p p2 fA fB hA hB hC LA LB E (listed.setIfInBounds i true) a' w') a w:=by
 obtain ⟨⟨hsz,hdown,hunp⟩,hcase⟩:=hI
 have hcl:∀k c,C[k]? =some c→match c with|C3.bf=>C9 ops 9 p k=true∧C9 ops 9 p2 k=true|C3.af=>C9 ops 9 k p=true∧C9 ops 9 p2 k=true|C3.fl=>C9 ops 9 k p=true|C3.mu=>k=p∧C9 ops 9 p2 k=true|C3.st=>k=p2∧C9 ops 9 k p=true|C3.ff=>True|C3.fr=>C9 ops 9 p2 k=true:=by
  intro k c hck
  unfold Ahq at hcls
  have:=List.all_eq_true.1 hcls k (List.mem_range.2 (List.getElem?_eq_some_iff.1 hck).1)
  rw [hck] at this
  cases c with
  |mu=>simp only [Bool.and_eq_true] at this;exact ⟨Nat.eq_of_beq_eq_true this.1,this.2⟩
  |st=>simp only [Bool.and_eq_true] at this;exact ⟨Nat.eq_of_beq_eq_true this.1,this.2⟩
  |fr=>exact this
  |ff=>trivial
  |fl=>exact this
  |bf=>simpa [Bool.and_eq_true] using this
  |af=>simpa [Bool.and_eq_true] using this
 obtain ⟨hil,hunl,o,ho,hdeps⟩:=Fj hi
 have hil':i<pre.length:=hip0
 have hol:pre[i]? =some o:=by rw [←hops i hip0];exact ho
 obtain ⟨sA,hLA⟩:∃q,LA[i]? =some q:=⟨_,List.getElem?_eq_getElem (by omega)⟩
 obtain ⟨sB,hLB⟩:∃q,LB[i]? =some q:=⟨_,List.getElem?_eq_getElem (by omega)⟩
 obtain ⟨c,hC'⟩:∃q,C[i]? =some q:=⟨_,List.getElem?_eq_getElem (by omega)⟩
 have hunl':listed.getD i false=false:=by rw [←Hr true (by omega)];exact hunl
 have hdown':∀j o e,ops[j]? =some o→(fun j=>listed.getD j false) j=true→e∈o.after→Region.binds .any e=true→(fun j=>listed.getD j false) e.on=true:=fun j o e h1 h2 h3 h4=>hdown j o e (by simpa using h1) h2 h3 h4
 have hwl:∀d j,C9 ops (d+1) i j=true→listed.getD j false=true:=by
  intro d j hw
  unfold C9 at hw
  rw [ho] at hw
  simp only [List.any_eq_true,Bool.and_eq_true,Bool.or_eq_true] at hw
  obtain ⟨e,he,hb,h2⟩:=hw
  have hl:=hdeps e (by simpa using he) hb
  rcases h2 with h2|h2
  ·rw [←Nat.eq_of_beq_eq_true h2];exact hl
  ·exact C0 hdown' d e.on j h2 hl
 have hlo:∀t,t∈B7 ops o→∀j o',j<i→pre[j]? =some o'→o'.dst=some t→listed.getD j false=true:=by
  intro t ht j o' hj hj' hd
  exact hwl 2 j (Hq hreg hj hj' hol (by unfold Lq;rw [hd];simp [H4 ht]))
 have hhi:∀t,t∈B7 ops o→∀j o',i<j→pre[j]? =some o'→o'.dst=some t→listed.getD j false=false:=by
  intro t ht j o' hj hj' hd
  cases hlj:listed.getD j false with
  |false=>rfl
  |true=>
   have hw:=Hq hreg hj hol hj' (by unfold Lq;rw [hd];simp [H4 ht])
   have:=C0 hdown' 3 j i hw hlj
   rw [hunl'] at this;cases this
 have hcur:∀(f0:Fr) (L:List (List Nat × S)) t,t∈B7 ops o→A5 f0 pre L (fun j=>listed.getD j false) pre.length t=A5 f0 pre L Du i t:=by
  intro f0 L t ht
  have h1:∀j o',i≤j→pre[j]? =some o'→o'.dst=some t→(fun j=>listed.getD j false) j=false:=by
   intro j o' hj hj' hd
   by_cases e:j=i
   ·subst e;exact hunl'
   ·exact hhi t ht j o' (by omega) hj' hd
  rw [G8 h1 pre.length (by omega),L5 (hlo t ht) i (Nat.le_refl _)]
 have hin':inN n o=true:=List.all_eq_true.1 hin o (List.mem_of_getElem? hol)
 have hoin:=hin'
 unfold inN at hoin
 rw [Bool.and_eq_true] at hoin
 have hopn:∀t,Operand.tmp t∈o.op.operands→t∈B7 ops o:=by
  intro t hx
  unfold B7 Oper.looksAt
  simp only [List.mem_append,List.mem_filterMap]
  exact .inr (.inl ⟨.tmp t,by simpa using hx,rfl⟩)
 have hev:∀(f0:Fr) (L:List (List Nat × S)),∀x∈o.op.operands,ev (A5 f0 pre L (fun j=>listed.getD j false) pre.length) x=ev (A5 f0 pre L Du i) x:=by
  intro f0 L x hx
  cases x with
  |tmp t=>simp only [ev];exact hcur f0 L t (hopn t hx)
  |_=>rfl
 have hop:∀(f0:Fr) (L:List (List Nat × S)) (H:Hp) (β:Bt),FV n H β a (A5 f0 pre L (fun j=>listed.getD j false) pre.length)→∀x∈o.op.operands,VS H β (a.eval x) (ev (A5 f0 pre L Du i) x):=by
  intro f0 L H β hfv x hx
  rw [←hev f0 L x hx]
  exact hfv.operands hin' x hx
 have hguard:∀(f0:Fr) (L:List (List Nat × S)) (H:Hp) (β:Bt),FV n H β a (A5 f0 pre L (fun j=>listed.getD j false) pre.length)→∀b,Bl ops (A5 f0 pre L Du i) n o.guard=some b→Region.wanted o (yielded ops a.tmps)=b:=by
  intro f0 L H β hfv b hb
  refine Ht hfv ?_
  rw [←hb]
  unfold Bl
  cases hg:o.guard with
  |none=>rfl
  |some g=>
   obtain ⟨j,want⟩:=g
   simp only
   cases ht:(ops[j]?).bind (·.dst) with
   |none=>rfl
   |some t=>
    simp only
    have htn:t∈B7 ops o:=by
     unfold B7 Oper.looksAt
     rw [hg]
     simp only [List.mem_append]
     exact .inr (.inr (by rw [ht];simp))
    rw [hcur f0 L t htn]
 have hlisted':∀j,(listed.setIfInBounds i true).getD j false=if j=i then true else listed.getD j false:=by
  intro j
  by_cases e:j=i
  ·subst e
   simp [Array.getD_eq_getD_getElem?,show j<listed.size by omega]
  ·rw [if_neg e]
   simp [Array.getD_eq_getD_getElem?,Array.getElem?_setIfInBounds_ne (fun h=>e h.symm)]
 have hdown2:∀j o' e,ops[j]? =some o'→(listed.setIfInBounds i true).getD j false=true→e∈o'.after→Region.binds .any e=true→(listed.setIfInBounds i true).getD e.on false=true:=by
  intro j o' e hj hl he hb
  rw [hlisted'] at hl ⊢
  split
  ·rfl
  ·by_cases ej:j=i
   ·subst ej
    rw [ho] at hj;cases hj
    exact hdeps e he hb
   ·rw [if_neg ej] at hl
    exact hdown j o' e hj hl he hb
 have hslot:∀(f0:Fr) (L:List (List Nat × S)) (q:List Nat × S) (H':Hp) (β':Bt) (u:Value),L[i]? =some q→FV n H' β' a (A5 f0 pre L (fun j=>listed.getD j false) pre.length)→VS H' β' u q.2→FV n H' β' (a.put o.dst u) (A5 f0 pre L (fun j=>(listed.setIfInBounds i true).getD j false) pre.length):=by
  intro f0 L q H' β' u hLi hfv' hu
  have hp:=hfv'.put hu o.dst hoin.2
  refine ⟨hp.defers,hp.size,fun t ht=> ?_⟩
  have h1:=hp.slot t ht
  have hsame:∀j,j≠i→(fun j=>(listed.setIfInBounds i true).getD j false) j=(fun j=>listed.getD j false) j:=fun j hj=>by simp only;rw [hlisted',if_neg hj]
  by_cases hd:o.dst=some t
  ·have ht':t∈B7 ops o:=by unfold B7;simp [hd]
   have e1:A5 f0 pre L (fun j=>(listed.setIfInBounds i true).getD j false) pre.length t=A5 f0 pre L (fun j=>(listed.setIfInBounds i true).getD j false) (i+1) t:=by
    refine G8 (fun j o' hj hj' hd'=> ?_) pre.length (by omega)
    show (listed.setIfInBounds i true).getD j false=false
    rw [hlisted',if_neg (by omega)]
    exact hhi t ht' j o' (by omega) hj' hd'
   have e2:A5 f0 pre L (fun j=>(listed.setIfInBounds i true).getD j false) (i+1) t=q.2:=by
    unfold A5
    rw [hol,hLi]
    have hb:(listed.setIfInBounds i true).getD i false=true:=by rw [hlisted',if_pos rfl]
    simp only [hb,cond_true,A6,hd,Ds,Bh]
   have e3:A6 (A5 f0 pre L (fun j=>listed.getD j false) pre.length) o.dst q.2 t=q.2:=by rw [hd];simp only [A6,Ds,Bh,cond_true]
   rw [e1,e2]
   rw [e3] at h1
   exact h1
  ·have e1:=Kz (f:=f0) (L:=L) (lst:=fun j=>listed.getD j false) (t:=t) hsame (fun o' h=>by rw [hol] at h;cases h;exact hd) pre.length
   have e3:A6 (A5 f0 pre L (fun j=>listed.getD j false) pre.length) o.dst q.2 t=A5 f0 pre L (fun j=>listed.getD j false) pre.length t:=by
    cases hdd:o.dst with
    |none=>rfl
    |some t'=>
     have:t'≠t:=fun e=>hd (by rw [hdd,e])
     simp only [A6,Ds,Bp this,cond_false]
   rw [e1]
   rw [e3] at h1
   exact h1
 have hsz':(listed.setIfInBounds i true).size=ops.size:=by simpa using hsz
 have hunp2:∀k,pre.length≤k→(listed.setIfInBounds i true).getD k false=false:=fun k hk=>by rw [hlisted',if_neg (by omega)];exact hunp k hk
 have fok:=hok i o c _ _ hol hC' hLA hLB
 have hcls1:=hcl i c hC'
 have hpp2:p≠p2:=fun e=>by rw [e,hp2] at hp;cases hp
 have hbase:(listed.setIfInBounds i true).size=ops.size∧(∀j o e,ops[j]? =some o→(listed.setIfInBounds i true).getD j false=true→e∈o.after→Region.binds .any e=true→(listed.setIfInBounds i true).getD e.on false=true)∧∀k,pre.length≤k→(listed.setIfInBounds i true).getD k false=false:=⟨hsz',hdown2,hunp2⟩
 have keep:∀j,j≠i→(listed.setIfInBounds i true).getD j false=listed.getD j false:=fun j hj=>by rw [hlisted',if_neg hj]
 have hgB:(noI LB)[i]? =some ([],sB):=Rw hLB
 have hgA:(noI LA)[i]? =some ([],sA):=Rw hLA
 unfold wpOp
 rw [ho]
 simp only
 have cas:∀(f0:Fr) (L:List S) (s:S) (hX:Xh) (H:Hp) (β:Bt),L[i]? =some s→OpF P n ops o (A5 f0 pre (noI L) Du i) hX s→Sim E H β hX w→FV n H β a (A5 f0 pre (noI L) (fun j=>listed.getD j false) pre.length)→
   ∀K:Act→World→Prop,(∀a' w',(∃H' β',Sim E H' β' hX w'∧FV n H' β' a' (A5 f0 pre (noI L) (fun j=>(listed.setIfInBounds i true).getD j false) pre.length))→K a' w')→
   ((Region.wanted o (yielded ops a.tmps)=true∧o.wp P a w K NoQ)∨(Region.wanted o (yielded ops a.tmps)=false∧K (a.put o.dst undef) w)):=by
  intro f0 L s hX H β hL hop' hsim hfv K hK
  rcases hop' with ⟨hw,hcalm⟩|⟨hw,hs0⟩
  ·refine .inl ⟨hguard f0 (noI L) H β hfv _ hw,Dy (hcalm E H β a w hsim (fun _ e=>by cases e) (hop f0 (noI L) H β hfv)) ?_⟩
   rintro a' w' ⟨H',β',u,rfl,k1,k2,k3,_,k5⟩
   exact hK _ _ ⟨H',β',k1,hslot f0 (noI L) ([],s) H' β' u (Rw hL) (hfv.mono k2 k3) k5⟩
  ·exact .inr ⟨hguard f0 (noI L) H β hfv _ hw,hK _ _ ⟨H,β,hsim,hslot f0 (noI L) ([],s) H β undef (Rw hL) hfv (by rw [hs0];exact .d (.v _))⟩⟩
 have fin:∀K:Act→World→Prop,(Region.wanted o (yielded ops a.tmps)=true∧o.wp P a w K NoQ)∨(Region.wanted o (yielded ops a.tmps)=false∧K (a.put o.dst undef) w)→
   if Region.wanted o (yielded ops a.tmps)=true then o.wp P a w K Q∨(o.asks P a w∧LetsOut Q) else K (a.put o.dst undef) w:=by
  intro K h
  rcases h with ⟨h1,h2⟩|⟨h1,h2⟩
  ·rw [if_pos h1];exact .inl (Dy h2 fun _ _ h=>h)
  ·rw [if_neg (by rw [h1];decide)];exact h2
 rcases hcase with ⟨hpn,hpn2,H,β,hsim,hfv⟩|⟨hpy,hpn2,H,β,hsim,hfv⟩|⟨hpy2,H,β,hsim,hfv⟩
 ·by_cases hip:i=p
  ·subst hip
   have:c= .mu:=by rw [hC'] at hp;cases hp;rfl
   subst this
   obtain ⟨k1,k2⟩:=fok.m rfl
   refine fin _ (.inl ⟨hguard fA (noI LA) H β hfv _ k1,Dy (k2 _ (hev fA (noI LA)) E H β a w hsim hfv (hfv.operands hin')) ?_⟩)
   rintro a' w' ⟨H',β',u,rfl,q1,q2,_,q3⟩
   refine ⟨hbase, .inr (.inl ⟨by rw [hlisted',if_pos rfl],by rw [keep p2 (fun e=>hpp2 e.symm)];exact hpn2,H',β',q1,hslot fB (noI LB) ([],sB) H' β' u hgB ⟨q2.defers,q2.size,fun t ht=> ?_⟩ q3⟩)⟩
   have hrel := Td (κ := κ) (l := pre) (LA := noI LA) (LB := noI LB) (lst := fun j => listed.getD j false) (fA := fA) (fB := fB) hf (by rw [noI, noI, List.length_map, List.length_map]; omega) (fun k qa' qb' ha hb hlk => by
    obtain ⟨ha1,_⟩:=Ajg ha
    obtain ⟨hb1,_⟩:=Ajg hb
    have hkl:k<pre.length:=by rw [←hAl];exact (List.getElem?_eq_some_iff.1 ha1).1
    obtain ⟨c',hC2⟩:∃q,C[k]? =some q:=⟨_,List.getElem?_eq_getElem (by omega)⟩
    have hokk:=hok k _ c' _ _ (List.getElem?_eq_getElem hkl) hC2 ha1 hb1
    have hck:=hcl k c' hC2
    cases c' with
    |bf=>exact (hokk.a (.inl rfl)).2
    |fr=>exact (hokk.a (.inr (.inl rfl))).2
    |ff=>exact (hokk.a (.inr (.inr rfl))).2
    |mu=>
     have:k=i:=hck.1
     subst this
     rw [hunl'] at hlk;cases hlk
    |af=>
     have:=C0 hdown' 9 k i hck.1 hlk
     rw [hunl'] at this;cases this
    |fl=>
     have:=C0 hdown' 9 k i hck hlk
     rw [hunl'] at this;cases this
    |st=>
     have:=C0 hdown' 9 k i hck.2 hlk
     rw [hunl'] at this; cases this) pre.length t
   rw [hrel]
   exact q2.slot t ht
  ·have hnw:C9 ops 9 i p=true→False:=fun h=>by
    have:=hwl 8 p h
    rw [hpn] at this;cases this
   have hcase2:c= .bf∨c= .fr∨c= .ff:=by
    cases c with
    |bf=>exact .inl rfl
    |fr=>exact .inr (.inl rfl)
    |ff=>exact .inr (.inr rfl)
    |mu=>exact absurd hcls1.1 hip
    |af=>exact (hnw hcls1.1).elim
    |fl=>exact (hnw hcls1).elim
    |st=>exact (hnw hcls1.2).elim
   have hip2:i≠p2:=fun e=>by subst e;rw [hC'] at hp2;cases hp2;rcases hcase2 with h|h|h<;>cases h
   exact fin _ (cas fA LA sA hA H β hLA (fok.a hcase2).1 hsim hfv _ fun a' w' ⟨H',β',k1,k2⟩=>⟨hbase, .inl ⟨by rw [keep p (fun e=>hip e.symm)];exact hpn,by rw [keep p2 (fun e=>hip2 e.symm)];exact hpn2,H',β',k1,k2⟩⟩)
 ·have hip:i≠p:=fun e=>by subst e;rw [hunl'] at hpy;cases hpy
  by_cases hip2:i=p2
  ·subst hip2
   have:c= .st:=by rw [hC'] at hp2;cases hp2;rfl
   subst this
   obtain ⟨k1,k2⟩:=fok.s rfl
   refine fin _ (.inl ⟨hguard fB (noI LB) H β hfv _ k1,Dy (k2 _ (hev fB (noI LB)) E H β a w hsim hfv (hfv.operands hin')) ?_⟩)
   rintro a' w' ⟨H',β',u,rfl,q1,q2,_,q3⟩
   exact ⟨hbase, .inr (.inr ⟨by rw [hlisted',if_pos rfl],H',β',q1,hslot fB (noI LB) ([],sB) H' β' u hgB q2 q3⟩)⟩
  ·have hcase2:c= .af∨c= .fr∨c= .fl∨c= .ff:=by
    cases c with
    |af=>exact .inl rfl
    |fr=>exact .inr (.inl rfl)
    |fl=>exact .inr (.inr (.inl rfl))
    |ff=>exact .inr (.inr (.inr rfl))
    |mu=>exact absurd hcls1.1 hip
    |st=>exact absurd hcls1.1 hip2
    |bf=>
     have:=C0 hdown' 9 p i hcls1.1 hpy
     rw [hunl'] at this;cases this
   exact fin _ (cas fB LB sB hB H β hLB (fok.b hcase2) hsim hfv _ fun a' w' ⟨H',β',k1,k2⟩=>⟨hbase, .inr (.inl ⟨by rw [keep p (fun e=>hip e.symm)];exact hpy,by rw [keep p2 (fun e=>hip2 e.symm)];exact hpn2,H',β',k1,k2⟩)⟩)
 ·have hip2:i≠p2:=fun e=>by subst e;rw [hunl'] at hpy2;cases hpy2
  have hnw:C9 ops 9 p2 i=true→False:=fun h=>by
   have:=C0 hdown' 9 p2 i h hpy2
   rw [hunl'] at this;cases this
  have hcase2:c= .fl∨c= .ff:=by
   cases c with
   |fl=>exact .inl rfl
   |ff=>exact .inr rfl
   |af=>exact (hnw hcls1.2).elim
   |fr=>exact (hnw hcls1).elim
   |mu=>exact (hnw hcls1.2).elim
   |st=>exact absurd hcls1.1 hip2
   |bf=>exact (hnw hcls1.2).elim
  exact fin _ (cas fB LB sB hC H β hLB (fok.l hcase2) hsim hfv _ fun a' w' ⟨H',β',k1,k2⟩=>⟨hbase, .inr (.inr ⟨by rw [keep p2 (fun e=>hip2 e.symm)];exact hpy2,H',β',k1,k2⟩)⟩)
theorem Akw {f0:Fr} {l:List Oper} {L:List (List Nat × S)} {m:Nat}:∀k,A5 f0 l L (fun j=>(Array.replicate m false).getD j false) k=f0:=by
 intro k
 induction k with
 |zero=>rfl
 |succ k ih=>
  unfold A5
  cases l[k]? with
  |none=>exact ih
  |some o=>
   cases L[k]? with
   |none=>exact ih
   |some q=>
    have hz:(Array.replicate m false).getD k false=false:=by rw [Array.getD_eq_getD_getElem?,Array.getElem?_replicate];split<;>rfl
    simp only
    rw [hz,cond_false]
    exact ih
theorem Aou {P:Program} {n id:Nat} {pre suf:List Oper} {ops:Array Oper} {K:Cx} {f f':Fr} {h hB hC:Xh} {κ:S→S} {C:List C3} {LA LB:List S} (p p2:Nat) (hopsE:ops=(pre++suf).toArray) (hne:0<suf.length) (hm:P.follows .mixedOrders=true) (hin:pre.all (inN n)=true) (hin2:suf.all (inN n)=true)
  (hreg:J0 ops pre=true) (hS:Pe ops pre.length=true) (hc:ChF P n ops κ h hB hC pre f (fun t=>κ (f t)) C LA LB f') (hp:C[p]? =some .mu) (hp2:C[p2]? =some .st) (hcls:Ahq ops p p2 C=true) (hk:XL P n ops suf K f' hC):XW P n (.region id ops true) K f h:=by
 have hops:∀j,j<pre.length→ops[j]? =pre[j]? :=fun j hj=>by rw [hopsE];simp [List.getElem?_append_left hj]
 have hops2:∀j,suf[j]? =ops[pre.length+j]? :=fun j=>by rw [hopsE,List.getElem?_toArray,List.getElem?_append_right (by omega),Nat.add_sub_cancel_left]
 have hsize:ops.size=pre.length+suf.length:=by rw [hopsE];simp
 intro E H β a w hs hf
 obtain ⟨k1,k2,k3,k8,k10⟩:=hc.ok
 have hpl2:p2<pre.length:=by rw [←k1];exact (List.getElem?_eq_some_iff.1 hp2).1
 have hz:∀k,(Array.replicate ops.size false).getD k false=false:=fun k=>by
  rw [Array.getD_eq_getD_getElem?,Array.getElem?_replicate];split<;>rfl
 refine L6 (I:=An1 n ops pre p p2 f (fun t=>κ (f t)) h hB hC LA LB E) pre.length suf hm hops2 hsize hne hS ⟨⟨by simp,fun j o e _ hj=>(by rw [hz] at hj;cases hj),fun k _=>hz k⟩, .inl ⟨hz p,hz p2,H,β,hs.drew,by rw [Akw];exact hf⟩⟩ (fun _ _ _ hI=>hI.1) ?_ ?_
 ·intro listed a w hI i hi hip
  exact Aj2 hops hin hreg (fun _=>rfl) k1 k2 k3 k8 hp hp2 hcls hI hi hip
 ·rintro listed a w ⟨_,hcase⟩ hall
  rcases hcase with ⟨_,hpn,_⟩|⟨_,hpn,_⟩|⟨_,H,β,hsim,hfv⟩
  ·rw [hall p2 hpl2] at hpn;cases hpn
  ·rw [hall p2 hpl2] at hpn;cases hpn
  ·refine hk hin2 E H β a w hsim ?_
   rw [Tf hall pre.length (Nat.le_refl _),k10] at hfv
   exact hfv
def ChFK (P:Program) (n:Nat) (ops:Array Oper) (κ:S→S) (hA hB hC:Xh) (rest:List Oper) (fA fB:Fr) (acc:List C3) (G:List C3→Fr→Prop):Prop:=∃C LA LB f',ChF P n ops κ hA hB hC rest fA fB C LA LB f'∧G (acc++C) f'
section
variable {P:Program} {n:Nat} {ops:Array Oper} {κ:S→S} {hA hB hC:Xh} {rest:List Oper} {fA fB:Fr} {o:Oper} {s s':S} {acc:List C3} {G:List C3→Fr→Prop}
theorem ChFK.nil (hg:G acc fB):ChFK P n ops κ hA hB hC [] fA fB acc G:=⟨[], [], [],fB, .nil _ _,by simpa using hg⟩
theorem ChFK.step {c:C3} (hok:FOK P n ops κ hA hB hC o fA fB c s s') (hr:ChFK P n ops κ hA hB hC rest (A6 fA o.dst s) (A6 fB o.dst s') (acc++ [c]) G):ChFK P n ops κ hA hB hC (o::rest) fA fB acc G:=by
 obtain ⟨C,LA,LB,f',k1,k2⟩:=hr
 refine ⟨_,_,_,f', .step hok k1, ?_⟩
 rw [List.append_assoc] at k2
 exact k2
theorem Ko {f:Fr} {h:Xh} (hw:Bl ops f n o.guard=some true) (hc:CStep P o f h [] s h):OpF P n ops o f h s:= .inl ⟨hw,by obtain ⟨_,_,k⟩:=hc;exact k h (HLe.refl _)⟩
theorem ChFK.ff (hw:Bl ops fA n o.guard=some true) (hw':Bl ops fB n o.guard=some true) (hc:CStep P o fA hA [] s hA) (hc':CStep P o fB hB [] s' hB) (hc2:CStep P o fB hC [] s' hC) (hk:κ s=s') (hr:ChFK P n ops κ hA hB hC rest (A6 fA o.dst s) (A6 fB o.dst s') (acc++ [.ff]) G):ChFK P n ops κ hA hB hC (o::rest) fA fB acc G:=
 .step ⟨fun _=>⟨Ko hw hc,hk.symm⟩,fun _=>Ko hw' hc',fun _=>Ko hw' hc2,fun e=>absurd e (by decide),fun e=>absurd e (by decide)⟩ hr
theorem ChFK.mus (hw:Bl ops fA n o.guard=some true) (hκ:κ=fun s=>s) (hc:∀f',(∀x∈o.op.operands,ev f' x=ev fA x)→Step P n o f' hA s' f' hB) (hr:ChFK P n ops κ hA hB hC rest (A6 fA o.dst .any) (A6 fB o.dst s') (acc++ [.mu]) G):ChFK P n ops κ hA hB hC (o::rest) fA fB acc G:=
 .step ⟨fun e => absurd e (by decide), fun e => absurd e (by decide), fun e => absurd e (by decide), fun _ => ⟨hw, fun f' he E H β a w hs hf hop => Dy (hc f' he E H β a w hs hf hop) (by
  rintro a' w' ⟨H',β',u,e,k1,k2,k3⟩
  subst hκ
  exact ⟨H', β', u, e, k1, k2, .inl rfl, k3⟩)⟩, fun e => absurd e (by decide)⟩ hr
theorem ChFK.bf (hw:Bl ops fA n o.guard=some true) (hc:CStep P o fA hA [] s hA) (hk:κ s=s') (hr:ChFK P n ops κ hA hB hC rest (A6 fA o.dst s) (A6 fB o.dst s') (acc++ [.bf]) G):ChFK P n ops κ hA hB hC (o::rest) fA fB acc G:=
 .step ⟨fun _=>⟨Ko hw hc,hk.symm⟩,fun e=>absurd e (by decide),fun e=>absurd e (by decide),fun e=>absurd e (by decide),fun e=>absurd e (by decide)⟩ hr
theorem ChFK.fr (hw:Bl ops fA n o.guard=some true) (hw':Bl ops fB n o.guard=some true) (hc:CStep P o fA hA [] s hA) (hc':CStep P o fB hB [] s' hB) (hk:κ s=s') (hr:ChFK P n ops κ hA hB hC rest (A6 fA o.dst s) (A6 fB o.dst s') (acc++ [.fr]) G):ChFK P n ops κ hA hB hC (o::rest) fA fB acc G:=
 .step ⟨fun _=>⟨Ko hw hc,hk.symm⟩,fun _=>Ko hw' hc',fun e=>absurd e (by decide),fun e=>absurd e (by decide),fun e=>absurd e (by decide)⟩ hr
theorem ChFK.af (hw':Bl ops fB n o.guard=some true) (hc':CStep P o fB hB [] s' hB) (hr:ChFK P n ops κ hA hB hC rest (A6 fA o.dst .any) (A6 fB o.dst s') (acc++ [.af]) G):ChFK P n ops κ hA hB hC (o::rest) fA fB acc G:=
 .step ⟨fun e=>absurd e (by decide),fun _=>Ko hw' hc',fun e=>absurd e (by decide),fun e=>absurd e (by decide),fun e=>absurd e (by decide)⟩ hr
theorem ChFK.fl (hw':Bl ops fB n o.guard=some true) (hc':CStep P o fB hB [] s' hB) (hc2:CStep P o fB hC [] s' hC) (hr:ChFK P n ops κ hA hB hC rest (A6 fA o.dst .any) (A6 fB o.dst s') (acc++ [.fl]) G):ChFK P n ops κ hA hB hC (o::rest) fA fB acc G:=
 .step ⟨fun e=>absurd e (by decide),fun _=>Ko hw' hc',fun _=>Ko hw' hc2,fun e=>absurd e (by decide),fun e=>absurd e (by decide)⟩ hr
theorem ChFK.mu (hw:Bl ops fA n o.guard=some true) (hc:∀hF,HLe hA hF→Jw P n o fA hF 987654 s' κ (hF.by (fun k _=>hB k))) (hr:ChFK P n ops κ hA hB hC rest (A6 fA o.dst .any) (A6 fB o.dst s') (acc++ [.mu]) G):ChFK P n ops κ hA hB hC (o::rest) fA fB acc G:=
 .step ⟨fun e=>absurd e (by decide),fun e=>absurd e (by decide),fun e=>absurd e (by decide),fun _=>⟨hw,hc hA (HLe.refl _)⟩,fun e=>absurd e (by decide)⟩ hr
theorem ChFK.st (hw:Bl ops fB n o.guard=some true) (hc:∀f',(∀x∈o.op.operands,ev f' x=ev fB x)→Step P n o f' hB s' f' hC) (hr:ChFK P n ops κ hA hB hC rest (A6 fA o.dst .any) (A6 fB o.dst s') (acc++ [.st]) G):ChFK P n ops κ hA hB hC (o::rest) fA fB acc G:=
 .step ⟨fun e => absurd e (by decide), fun e => absurd e (by decide), fun e => absurd e (by decide), fun e => absurd e (by decide), fun _ => ⟨hw, fun f' he E H β a w hs hf hop => Dy (hc f' he E H β a w hs hf hop) (by
  rintro a' w' ⟨H',β',u,e,k1,k2,k3⟩
  exact ⟨H', β', u, e, k1, k2, .inl rfl, k3⟩)⟩⟩ hr
end
theorem Py {P:Program} {n:Nat} {o:Oper} {f:Fr} {h hC:Xh} {t m:Nat} {x y:Operand} {i off:Nat} {l cs l':List S} (ho:o.op= .store t x y) (hx:ev f x= .ptr i 0 off) (hi:h i=some (.box l)) (hc:Dx h (ev f y)=some cs) (hz:sizeB P t m=true) (hm:cs.length=m) (hoff:off+m≤l.length) (hl:sets l off cs=l') (hh:HSub (h.set i (.box l')) hC):
  ∀f',(∀x∈o.op.operands,ev f' x=ev f x)→Step P n o f' h (.d (.v undef)) f' hC:=fun f' he E H β a w hs hf hop=>by
 have e1:=he x (by rw [ho];simp [Op.operands])
 have e2:=he y (by rw [ho];simp [Op.operands])
 refine Dy (Af (n:=n) (f:=f') ho (by rw [e1];exact hx) hi (by rw [e2];exact hc) hz hm hoff hl E H β a w hs hf hop) ?_
 rintro a' w' ⟨H',β',u,e,k1,k2,k3⟩
 exact ⟨H',β',u,e,k1.drop hh,k2,k3⟩
theorem Z9 {P:Program} {n:Nat} {o:Oper} {f:Fr} {h hC:Xh} {t m:Nat} {x y:Operand} {i k off:Nat} {ty:TypeId} {sz:Nat} {ls:List Nat} (ls':List Nat) {l l':List (List T)} {z:List T} {cs:List S} (ho:o.op= .store t x y) (hx:ev f x= .ptr i k off) (hi:h i=some (.tree ty sz ls l)) (hk:l[k]? =some z) (hc:Dx h (ev f y)=some cs)
  (hz:sizeB P t m=true) (hm:cs.length=m) (hoff:off+m≤z.length) (hsub:ls.all (fun j=>B2 j ls')=true) (hcs:cs.all (fun d=>d.toT.inn ls')=true) (hl':l.set k (sets z off (cs.map S.toT))=l') (hh:HSub (h.set i (.tree ty sz ls' l')) hC):
  ∀f',(∀x∈o.op.operands,ev f' x=ev f x)→Step P n o f' h (.d (.v undef)) f' hC:=fun f' he E H β a w hs hf hop=>by
 have e1:=he x (by rw [ho];simp [Op.operands])
 have e2:=he y (by rw [ho];simp [Op.operands])
 refine Dy (Js (n:=n) (f:=f') ls' ho (by rw [e1];exact hx) hi hk (by rw [e2];exact hc) hz hm hoff hsub hcs hl' E H β a w hs hf hop) ?_
 rintro a' w' ⟨H',β',u,e,k1,k2,k3⟩
 exact ⟨H',β',u,e,k1.drop hh,k2,k3⟩
theorem Va {P:Program} {n id:Nat} {l:List Oper} {K:Cx} {f:Fr} {h:Xh} (p p2 q:Nat) (κ:S→S) (hB hC:Xh) (hm:P.follows .mixedOrders=true) (hin:l.all (inN n)=true) (hreg:J0 l.toArray (l.take q)=true) (hS:(Nat.blt q l.length && Pe l.toArray q)=true)
  (hc:ChFK P n l.toArray κ h hB hC (l.take q) f (fun t=>κ (f t)) [] (fun C f'=>(C[p]? =some .mu∧C[p2]? =some .st∧Ahq l.toArray p p2 C=true)∧XL P n l.toArray (l.drop q) K f' hC)):XW P n (.region id l.toArray true) K f h:=by
 obtain ⟨C,LA,LB,f',k1,⟨k2,k3,k4⟩,k5⟩:=hc
 rw [Bool.and_eq_true] at hS
 have hp:=E4 hS.1
 rw [←List.take_append_drop q l,List.all_append,Bool.and_eq_true] at hin
 exact Aou p p2 (by rw [List.take_append_drop]) (by rw [List.length_drop];omega) hm hin.1 hin.2 hreg (by rw [List.length_take,Nat.min_eq_left (by omega)];exact hS.2) k1 k2 k3 k4 k5
end Go.Proofs.YtaafemnkamfgnaaGreat
namespace Go.Proofs.YtaafemnkamfgnaaGreat
open Go.RowKit
theorem Lu {P:Program} {o:Oper} {e:Operand→S} {h:Xh} {t sz n:Nat} {x y:Operand} {α:Type} {l:List α} {g:α→List D} (ho:o.op= .slice t x none (some y) none) (hx:e x= .d (.sl sz (l.map g))) (hy:e y= .d (.v (.int .i64 (min (l.length:Int) (n:Int))))) (hf:elB P t sz=true):Be P o e h (.d (.sl sz ((l.take n).map g))):=by
 have q:=Jp (h:=h) (a:=0) (b:=min l.length n) ho hx hf .no (Bd.ati hy (by omega)) (Nat.zero_le _) (Nat.min_le_left _ _)
 refine Ae q ?_
 rw [List.drop_zero,Nat.min_comm, ←List.take_take,List.take_length]
theorem Vl {P:Program} {o:Oper} {e:Operand→S} {h:Xh} {t n:Nat} {x y:Operand} {l:List UInt8} (ho:o.op= .slice t x none (some y) none) (hx:e x= .d (.v (.string ⟨l.toArray⟩))) (hy:e y= .d (.v (.int .i64 (min (l.length:Int) (n:Int))))) (hu:P.underlying t=some .string):Be P o e h (.d (.v (.string ⟨(l.take n).toArray⟩))):=fun E H β ρ w _ hop=>by
 have g:=hop x (by rw [ho];simp [Op.operands])
 have g2:=hop y (by rw [ho];simp [Op.operands])
 rw [hx] at g
 rw [hy] at g2
 refine ⟨_, ?_, .d (.v (.string ⟨(l.take n).toArray⟩))⟩
 have hm:(min (l.length:Int) (n:Int))=((min l.length n:Nat):Int):=by omega
 have hsz:(ByteArray.mk l.toArray).size=l.length:=by simp [ByteArray.size]
 have hlt:(0:Int)≤((min l.length n:Nat):Int)∧((min l.length n:Nat):Int)≤(l.length:Int):=⟨by omega,by omega⟩
 have hex:(ByteArray.mk l.toArray).extract 0 (min l.length n)=⟨(l.take n).toArray⟩:=by
  apply ByteArray.ext
  rw [ByteArray.data_extract]
  simp [List.take_take]
  omega
 unfold execOp
 simp only [ho,Dn g,Dn g2,hm,Instr.sliceAt,Option.map_none,Option.map_some,Sem.run_bind,run_underlying hu,Result.andThen_ok,Instr.slice,Instr.sliceBounds,Instr.sliceBound,hsz,Sem.run_pure,Option.isSome_none,Bool.false_eq_true,if_false,asInt,asIntOf,hlt,and_self,if_true,Int.toNat_natCast,hex]
theorem Sim.subcut {E:Env} {H:Hp} {β:Bt} {h:Xh} {w:World} (s:Sim E H β h w) {i b k m:Nat} {ty:TypeId} {sz:Nat} {r:List (List D)} {l:List S} (hb:h b=some (.box l)) (hk:l[k]? =some (.sub i 0 m)) (hi:h i=some (.row ty sz r)) (hib:i≠b):
  ∃β',Sim E H β' (((h.kill i).set i (.row ty sz (r.take m))).set b (.box ((S.killL i l).set k (.own i)))) w∧∀{n:Nat} {a:Act} {f:Fr},FV n H β a f→FV n H β' a (D8 f i):=by
 have keep:∀Lo,((h.kill i).set i (.row ty sz (r.take m))) b=some (.box (S.killL i l))∧(β.set i Lo) b=β b:=fun Lo=>⟨by rw [Xh.set_ne _ _ hib,Xh.kill_ne _ hib,hb];rfl,Bt.set_ne _ _ hib⟩
 cases hL:β b with
 |none=>
  have s2:Sim E H (β.set i none) ((h.kill i).set i (.row ty sz (r.take m))) w:=(s.kill i none).blind (Bt.set_same _ _ _) rfl
  exact ⟨β.set i none,s2.blind (by rw [(keep none).2,hL]) rfl,fun hf=>hf.kill i none⟩
 |some Lb=>
  obtain ⟨h1,h0,us,t,h2,h3,h4⟩:=s.obj b _ Lb hb hL
  have hku:k<us.size:=by have:=(List.getElem?_eq_some_iff.1 hk).1;omega
  obtain ⟨L,A,n,c,hLi,hv,_,hmn,hu⟩:=Yc (h4 k us[k] _ (Array.getElem?_eq_getElem hku) hk)
  have hu':us[k]= .slice A m c:=by
   rw [hu,Nat.zero_mul,Nat.sub_zero,Nat.sub_zero]
   split
   ·rfl
   ·rename_i hc
    obtain ⟨_,_,_,_,hown,_,_⟩:=s.obj i _ L hi hLi
    rcases hown.2 with ⟨e1,_⟩|⟨g,cap,cur,e1,_⟩
    ·rw [hv] at e1;injection e1 with q1 q2 q3;subst q1;rfl
    ·rw [hv] at e1;injection e1 with q1 q2 q3;subst q1;simp [Go.WideShapes.add_plain]
  have hrn:n=r.length:=by
   obtain ⟨_,_,_,_,hown,_,_⟩:=s.obj i _ L hi hLi
   rcases hown.2 with ⟨e1,e2⟩|⟨g,cap,cur,e1,_⟩
   ·rw [hv] at e1;injection e1 with q1 q2 q3;omega
   ·rw [hv] at e1;injection e1 with q1 q2 q3
  subst hrn
  have s2:=s.cutR hi hLi hv hmn
  refine ⟨_,s2.turn (o:= .box (S.killL i l)) (keep (some ⟨.slice A m c,L.b,sz,noB⟩)).1 (by rw [(keep (some ⟨.slice A m c,L.b,sz,noB⟩)).2,hL]) rfl s2.below (fun _ _=>rfl) ⟨h1,by rw [List.length_set,S.killL_length];exact h0,us,t,h2,by rw [List.length_set,S.killL_length];exact h3,fun j u q hj hq=> ?_⟩,fun hf=>hf.kill i _⟩
  by_cases e:k=j
  ·subst e
   rw [List.getElem?_set_self (by rw [S.killL_length];omega)] at hq
   cases hq
   rw [Array.getElem?_eq_getElem hku] at hj
   cases hj
   rw [hu']
   exact VS.own (L:=⟨.slice A m c,L.b,sz,noB⟩) (Bt.set_same _ _ _)
  ·rw [List.getElem?_set_ne e,S.killL_get] at hq
   cases hl:l[j]? with
   |none=>rw [hl] at hq;cases hq
   |some q'=>rw [hl] at hq;cases hq;exact (h4 j u q' hj hl).kill i _
theorem Ah1 {P:Program} {n:Nat} {c:Code} {K:Cx} {f:Fr} {h:Xh} (i b k m:Nat) {ty:TypeId} {sz:Nat} {r r':List (List D)} {l l':List S} (hb:h b=some (.box l)) (hk:l[k]? =some (.sub i 0 m)) (hi:h i=some (.row ty sz r)) (hib:i≠b) (hr:r.take m=r') (hl:(S.killL i l).set k (.own i)=l')
  (hc:XW P n c K (D8 f i) (((h.kill i).set i (.row ty sz r')).set b (.box l'))):XW P n c K f h:=fun E H β a w hs hf=>by
 subst hr hl
 obtain ⟨β',s2,f2⟩:=hs.subcut hb hk hi hib
 exact hc E H β' a w s2 (f2 hf)
theorem Yt {P:Program} {n:Nat} {o:Oper} {f:Fr} {h:Xh} {t:Nat} {x y:Operand} {i j p q off:Nat} {l l':List S} (ho:o.op= .store t x y) (hx:ev f x= .ptr i 0 off) (hi:h i=some (.box l)) (hy:ev f y= .sub j p q) (hz:sizeB P t 1=true) (hoff:off+1≤l.length) (hl:sets l off [.sub j p q]=l'):
  Step P n o f h (.d (.v undef)) f (h.set i (.box l')):=by
 subst hl
 intro E H β a w hs hf hop
 have g1:=hop x (by rw [ho];simp [Op.operands])
 have g2:=hop y (by rw [ho];simp [Op.operands])
 rw [hx] at g1
 rw [hy] at g2
 obtain ⟨L,hL,hp⟩:=Gh g1
 rw [Nat.zero_mul,Nat.zero_add] at hp
 have h1:(a.eval y).oneCell'=true:=by obtain ⟨_,_,_,_,_,_,_,_,hu⟩:=Yc g2;rw [hu];rfl
 have hcs:=Xs h1
 obtain ⟨w', r1, r2⟩ := Ki (P := P) (off := off) hL (a.eval y).cells.toList [.sub j p q] 0 l h w hs hi (by rw [hcs]; rfl) (fun k v s hj hs' => by
  rw [hcs] at hj
  match k with
  |0=>cases hj;cases hs';exact ⟨g2,h1⟩
  | k + 1 => simp at hs') (by rw [hcs]; simpa using hoff)
 have hr:(execOp a.eval o).run P w= .ok .skip w':=by
  have hsz:(a.eval y).cells.size=1:=by rw [hcs];rfl
  unfold execOp
  simp only [ho,Instr.storeAt,hp,Instr.sureAddr,Sem.run_bind,Sem.run_pure,Result.andThen_ok,storeVar,sizeB.run hz,hsz,ne_eq,not_true_eq_false,if_false,r1]
 unfold Oper.wp
 rw [hr]
 exact ⟨H,β,_,rfl,r2,hf, .d (.v _)⟩
structure Ev.room (e:Ev):Prop where
 heads:e.heads.length*40≤140737488355328
 graces:e.graces.length*40≤140737488355328
 lyr:e.lyr.length*24≤140737488355328
def Kg (s:Sy):Sy:=⟨s.text.take 30,s.link⟩
def K6 (e:Ev):Ev:={e with heads:=e.heads.take 5,graces:=e.graces.take 4,lyr:=(e.lyr.take 5).map Kg}
def shSys (l:List Sy) (k:Nat):List Sy:=(l.take k).map Kg++l.drop k
theorem Adi (l:List Hd) (h:l.length*40≤140737488355328):XS Tryz.prog 140 [.sl 5 (l.map Hd.c)] (.own 5) [(5, .row 200 5 ((l).map Hd.c))]:=by
 refine D6 Ri Tryz.func140 R R lb (by kernel_rfl) (by kernel_rfl)<|zr<|za R R<|zn<|zs<|zr<|zm R R<|?_
 refine XL.eqnil R R R Tryz.underlying55 (fun hn4=> ?_) ?_
 refine zn<|Ay (by kernel_rfl) R<|zr<|za R R<|zn<|Di 5 2 200 5 R<|zt<|?_
 exact ⟨Ct R (RVS.tmp R R),HSub.cons (by rw [hn4];rfl) (HSub.nil)⟩
 refine zn<|A9 (by kernel_rfl) R<|zi<|zr<|XL.step R (Bj 5 R Tryz.underlying55 Yo Sq R R (by omega) (by omega))<|zm R R<|XL.step R (A3 R Akp (.own R) (Src.sl (by omega)) (by unfold maxLen;simp;omega) (by simp;omega))<|zp (Av R (by conv=>lhs;whnf))<|?_
 refine zn<|zt<|?_
 exact ⟨Ct R (RVS.tmp R R),HSub.cons (R) (HSub.nil)⟩
theorem Adl (l:List Gr) (h:l.length*40≤140737488355328):XS Tryz.prog 141 [.sl 5 (l.map Gr.c)] (.own 5) [(5, .row 203 5 ((l).map Gr.c))]:=by
 refine D6 Rh Tryz.func141 R R lb (by kernel_rfl) (by kernel_rfl)<|zr<|za R R<|zn<|zs<|zr<|zm R R<|?_
 refine XL.eqnil R R R Tryz.underlying56 (fun hn4=> ?_) ?_
 refine zn<|Ay (by kernel_rfl) R<|zr<|za R R<|zn<|Di 5 2 203 5 R<|zt<|?_
 exact ⟨Ct R (RVS.tmp R R),HSub.cons (by rw [hn4];rfl) (HSub.nil)⟩
 refine zn<|A9 (by kernel_rfl) R<|zi<|zr<|XL.step R (Bj 5 R Tryz.underlying56 Yn Sp R R (by omega) (by omega))<|zm R R<|XL.step R (A3 R Ako (.own R) (Src.sl (by omega)) (by unfold maxLen;simp;omega) (by simp;omega))<|zp (Av R (by conv=>lhs;whnf))<|?_
 refine zn<|zt<|?_
 exact ⟨Ct R (RVS.tmp R R),HSub.cons (R) (HSub.nil)⟩
theorem Adh (l:List Sy) (h:l.length*24≤140737488355328):XS Tryz.prog 142 [.sl 2 (l.map Sy.c)] (.own 5) [(5, .row 171 2 ((l).map Sy.c))]:=by
 refine D6 Rg Tryz.func142 R R lb (by kernel_rfl) (by kernel_rfl)<|zr<|za R R<|zn<|zs<|zr<|zm R R<|?_
 refine XL.eqnil R R R Tryz.underlying57 (fun hn4=> ?_) ?_
 refine zn<|Ay (by kernel_rfl) R<|zr<|za R R<|zn<|Di 5 2 171 2 R<|zt<|?_
 exact ⟨Ct R (RVS.tmp R R),HSub.cons (by rw [hn4];rfl) (HSub.nil)⟩
 refine zn<|A9 (by kernel_rfl) R<|zi<|zr<|XL.step R (Bj 5 R Tryz.underlying57 Yp Pa R R (by omega) (by omega))<|zm R R<|XL.step R (A3 R Akn (.own R) (Src.sl (by omega)) (by unfold maxLen;simp;omega) (by simp;omega))<|zp (Av R (by conv=>lhs;whnf))<|?_
 refine zn<|zt<|?_
 exact ⟨Ct R (RVS.tmp R R),HSub.cons (R) (HSub.nil)⟩
theorem Akt (e:Ev) (h:e.room):XS Tryz.prog 111 [.agg (Ev.c e)] (.agg [.d (dI e.site), .d (dI e.num), .d (dI e.kind), .d (dI e.v.log), .d (dI e.v.dots), .own 7501, .own 7502, .d (dI e.art), .d (dI e.orn), .d (dI e.dyn), .own 7503, .d (dI e.stem), .d (dI e.beam)]) [(7501, .row 200 5 ((e.heads).map Hd.c)),(7502, .row 203 5 ((e.graces).map Gr.c)),(7503, .row 171 2 ((e.lyr).map Sy.c))]:=by
 have h1:=h.heads
 have h2:=h.graces
 have h3:=h.lyr
 refine D6 Rk Tryz.func111 R R lb (by kernel_rfl) (by kernel_rfl)<|zr<|XL.step R (An 1 (l:= [.d (dI e.site), .d (dI e.num), .d (dI e.kind), .d (dI e.v.log), .d (dI e.v.dots), .d (.sl 5 (e.heads.map Hd.c)), .d (.sl 5 (e.graces.map Gr.c)), .d (dI e.art), .d (dI e.orn), .d (dI e.dyn), .d (.sl 2 (e.lyr.map Sy.c)), .d (dI e.stem), .d (dI e.beam)]) R R (by kernel_rfl))<|?_
 refine XL.step R (Ao 2 (l:= [.d (dI 0), .d (dI 0), .d (dI 0), .d (dI 0), .d (dI 0), .d (.v (.slice none 0 0)), .d (.v (.slice none 0 0)), .d (dI 0), .d (dI 0), .d (dI 0), .d (.v (.slice none 0 0)), .d (dI 0), .d (dI 0)]) R Ca (by kernel_rfl))<|zn<|zs<|Cj 10 [7501,7502,7503] (by kernel_rfl) (by kernel_rfl) (by kernel_rfl) (by kernel_rfl) (by decide)<|yp (Aa R R C6)<|?_
 refine yp (Ab R R Hy R R)<|ChK.cons R (CStep.callS R ((Adi _ (by assumption)).lab 7501) R (Nn (by kernel_rfl)))<|yp (Aa R R Gk)<|yp (Ab R R N7 R R)<|ChK.cons R (CStep.callS R ((Adl _ (by assumption)).lab 7502) R (Nn (by kernel_rfl)))<|yp (Aa R R El)<|yp (Ab R R Jt R R)<|?_
 refine ChK.cons R (CStep.callS R ((Adh _ (by assumption)).lab 7503) R (Nn (by kernel_rfl)))<|yp (Aa R R C6)<|?_
 refine ChK.nil ⟨by kernel_rfl, ?_⟩
 refine XL.step R (Af (l':= [.d (dI e.site), .d (dI e.num), .d (dI e.kind), .d (dI e.v.log), .d (dI e.v.dots), .own 7501, .d (.sl 5 (e.graces.map Gr.c)), .d (dI e.art), .d (dI e.orn), .d (dI e.dyn), .d (.sl 2 (e.lyr.map Sy.c)), .d (dI e.stem), .d (dI e.beam)]) R R R R N3 R lb (by kernel_rfl))<|zp (Aa R R Gk)<|?_
 refine XL.step R (Af (l':= [.d (dI e.site), .d (dI e.num), .d (dI e.kind), .d (dI e.v.log), .d (dI e.v.dots), .own 7501, .own 7502, .d (dI e.art), .d (dI e.orn), .d (dI e.dyn), .d (.sl 2 (e.lyr.map Sy.c)), .d (dI e.stem), .d (dI e.beam)]) R R R R Agi R lb (by kernel_rfl))<|zp (Aa R R El)<|?_
 refine XL.step R (Af (l':= [.d (dI e.site), .d (dI e.num), .d (dI e.kind), .d (dI e.v.log), .d (dI e.v.dots), .own 7501, .own 7502, .d (dI e.art), .d (dI e.orn), .d (dI e.dyn), .own 7503, .d (dI e.stem), .d (dI e.beam)]) R R R R Agh R lb (by kernel_rfl))<|znr<|zp (Ac (Ad R R Bq R lb))<|?_
 refine XL.step R (Af (l':= [.d (dI e.site), .d (dI e.num), .d (dI e.kind), .d (dI e.v.log), .d (dI e.v.dots), .own 7501, .own 7502, .d (dI e.art), .d (dI e.orn), .d (dI e.dyn), .own 7503, .d (dI e.stem), .d (dI e.beam)]) R R R R Cy R lb (by kernel_rfl))<|zn<|zt<|?_
 exact ⟨Ct R (RVS.eq (RVS.cells (i:=2) R R R Bq lb) R),HSub.cons (R) (HSub.cons (R) (HSub.cons (R) (HSub.nil)))⟩
theorem Xy (e:Ev) (h:e.room):XC Tryz.prog 83 [.agg (Ev.c e)] (fun r=>r= .agg (Ev.c (K6 e))):=by
 refine Am Adt Tryz.func83 R R lb<|zr<|XL.step R (An 1 (l:= [.d (dI e.site), .d (dI e.num), .d (dI e.kind), .d (dI e.v.log), .d (dI e.v.dots), .d (.sl 5 (e.heads.map Hd.c)), .d (.sl 5 (e.graces.map Gr.c)), .d (dI e.art), .d (dI e.orn), .d (dI e.dyn), .d (.sl 2 (e.lyr.map Sy.c)), .d (dI e.stem), .d (dI e.beam)]) R R (by kernel_rfl))<|?_
 refine XL.step R (Ao 2 (l:= [.d (dI 0), .d (dI 0), .d (dI 0), .d (dI 0), .d (dI 0), .d (.v (.slice none 0 0)), .d (.v (.slice none 0 0)), .d (dI 0), .d (dI 0), .d (dI 0), .d (.v (.slice none 0 0)), .d (dI 0), .d (dI 0)]) R Ca (by kernel_rfl))<|znr<|zp (Ae (s':= .d (.agg (Ev.c e))) (Ac (Ad R R Bq R lb)) (by kernel_rfl))<|XL.callS R R (Akt _ (by assumption)) R<|?_
 refine XL.freeze (i:=7501) R<|XL.freeze (i:=7502) R<|XL.step R (Af (l':= [.d (dI e.site), .d (dI e.num), .d (dI e.kind), .d (dI e.v.log), .d (dI e.v.dots), .d (.sl 5 (e.heads.map Hd.c)), .d (.sl 5 (e.graces.map Gr.c)), .d (dI e.art), .d (dI e.orn), .d (dI e.dyn), .own 7503, .d (dI e.stem), .d (dI e.beam)]) R R R R Cy R lb (by kernel_rfl))<|zn<|zs<|?_
 refine Va 22 24 25 (fun s=>s) (mkH [(1, .box [.d (dI e.site), .d (dI e.num), .d (dI e.kind), .d (dI e.v.log), .d (dI e.v.dots), .d (.sl 5 ((e.heads.take 5).map Hd.c)), .d (.sl 5 (e.graces.map Gr.c)), .d (dI e.art), .d (dI e.orn), .d (dI e.dyn), .own 7503, .d (dI e.stem), .d (dI e.beam)]),(2, .box [.d (dI 0), .d (dI 0), .d (dI 0), .d (dI 0), .d (dI 0), .d (.v (.slice none 0 0)), .d (.v (.slice none 0 0)), .d (dI 0), .d (dI 0), .d (dI 0), .d (.v (.slice none 0 0)), .d (dI 0), .d (dI 0)]),(7503, .row 171 2 ((e.lyr).map Sy.c))]) (mkH [(1, .box [.d (dI e.site), .d (dI e.num), .d (dI e.kind), .d (dI e.v.log), .d (dI e.v.dots), .d (.sl 5 ((e.heads.take 5).map Hd.c)), .d (.sl 5 ((e.graces.take 4).map Gr.c)), .d (dI e.art), .d (dI e.orn), .d (dI e.dyn), .own 7503, .d (dI e.stem), .d (dI e.beam)]),(2, .box [.d (dI 0), .d (dI 0), .d (dI 0), .d (dI 0), .d (dI 0), .d (.v (.slice none 0 0)), .d (.v (.slice none 0 0)), .d (dI 0), .d (dI 0), .d (dI 0), .d (.v (.slice none 0 0)), .d (dI 0), .d (dI 0)]),(7503, .row 171 2 ((e.lyr).map Sy.c))]) (by kernel_rfl) (by kernel_rfl) (by kernel_rfl) (by kernel_rfl)<|?_
 refine ChFK.bf R (CStep.pure (Aa R R C6)) (by conv=>lhs;whnf)<|?_
 refine ChFK.bf R (CStep.pure (Ab R R Hy R R)) (by conv=>lhs;whnf)<|?_
 refine ChFK.bf R (CStep.pure (Aa R R C6)) (by conv=>lhs;whnf)<|?_
 refine ChFK.bf R (CStep.pure (Ab R R Hy R R)) (by conv=>lhs;whnf)<|?_
 refine ChFK.bf R (CStep.pure (Nf R R Tryz.underlying55)) (by conv=>lhs;whnf)<|?_
 refine ChFK.bf R (CStep.pure (Gc R R R)) (by conv=>lhs;whnf)<|?_
 refine ChFK.bf R (CStep.pure (Lu R R R R5)) (by conv=>lhs;whnf)<|?_
 refine ChFK.bf R (CStep.pure (Aa R R Gk)) (by conv=>lhs;whnf)<|?_
 refine ChFK.bf R (CStep.pure (Ab R R N7 R R)) (by conv=>lhs;whnf)<|?_
 refine ChFK.bf R (CStep.pure (Aa R R Gk)) (by conv=>lhs;whnf)<|?_
 refine ChFK.bf R (CStep.pure (Ab R R N7 R R)) (by conv=>lhs;whnf)<|?_
 refine ChFK.fr R R (CStep.pure (Nf R R Tryz.underlying56)) (CStep.pure (Nf R R Tryz.underlying56)) (by exact rfl)<|ChFK.fr R R (CStep.pure (Gc R R R)) (CStep.pure (Gc R R R)) (by exact rfl)<|ChFK.fr R R (CStep.pure (Lu R R R U1)) (CStep.pure (Lu R R R U1)) (by exact rfl)<|ChFK.bf R (CStep.pure (Aa R R El)) (by conv=>lhs;whnf)<|?_
 refine ChFK.bf R (CStep.pure (Ab R R Jt R R)) (by conv=>lhs;whnf)<|?_
 refine ChFK.bf R (CStep.pure (Aa R R El)) (by conv=>lhs;whnf)<|?_
 refine ChFK.bf R (CStep.pure (Ab R R Jt R R)) (by conv=>lhs;whnf)<|?_
 refine ChFK.ff R R (CStep.pure (B4 R R R Tryz.underlying57)) (CStep.pure (B4 R R R Tryz.underlying57)) (CStep.pure (B4 R R R Tryz.underlying57)) (by exact rfl)<|ChFK.ff R R (CStep.pure (Gc R R R)) (CStep.pure (Gc R R R)) (CStep.pure (Gc R R R)) (by exact rfl)<|?_
 refine ChFK.ff R R (CStep.pure (Lw R R R Lp Bd.no (Bd.ati R (show _=((min e.lyr.length 5:Nat):Int) by omega)) (Nat.zero_le _) (by rw [List.length_map];omega))) (CStep.pure (Lw rfl rfl rfl Lp Bd.no (Bd.ati rfl (show _=((min e.lyr.length 5:Nat):Int) by omega)) (Nat.zero_le _) (by rw [List.length_map];omega))) (CStep.pure (Lw rfl rfl rfl Lp Bd.no (Bd.ati rfl (show _=((min e.lyr.length 5:Nat):Int) by omega)) (Nat.zero_le _) (by rw [List.length_map];omega))) (by exact rfl)<|?_
 refine ChFK.bf R (CStep.pure (Aa R R C6)) (by conv=>lhs;whnf)<|?_
 refine ChFK.mus R R (Py (l':= [.d (dI e.site), .d (dI e.num), .d (dI e.kind), .d (dI e.v.log), .d (dI e.v.dots), .d (.sl 5 ((e.heads.take 5).map Hd.c)), .d (.sl 5 (e.graces.map Gr.c)), .d (dI e.art), .d (dI e.orn), .d (dI e.dyn), .own 7503, .d (dI e.stem), .d (dI e.beam)]) R R R R N3 R lb (by kernel_rfl) (gz ⟨R,R,R,trivial⟩))<|ChFK.af R (CStep.pure (Aa R R Gk))<|?_
 refine ChFK.st R (Py (l':= [.d (dI e.site), .d (dI e.num), .d (dI e.kind), .d (dI e.v.log), .d (dI e.v.dots), .d (.sl 5 ((e.heads.take 5).map Hd.c)), .d (.sl 5 ((e.graces.take 4).map Gr.c)), .d (dI e.art), .d (dI e.orn), .d (dI e.dyn), .own 7503, .d (dI e.stem), .d (dI e.beam)]) R R R R Agi R lb (by kernel_rfl) (gz ⟨R,R,R,trivial⟩))<|?_
 refine ChFK.nil ⟨⟨by kernel_rfl,by kernel_rfl,by kernel_rfl⟩, ?_⟩
 refine zp (Aa R R El)<|XL.step R (Yt (l':= [.d (dI e.site), .d (dI e.num), .d (dI e.kind), .d (dI e.v.log), .d (dI e.v.dots), .d (.sl 5 ((e.heads.take 5).map Hd.c)), .d (.sl 5 ((e.graces.take 4).map Gr.c)), .d (dI e.art), .d (dI e.orn), .d (dI e.dyn), .sub 7503 0 (min e.lyr.length 5), .d (dI e.stem), .d (dI e.beam)]) R R R R Agh lb (by kernel_rfl))<|zn<|zs<|zs<|?_
 refine Ah1 7503 1 10 (min e.lyr.length 5) R R R (by decide) (r':=(e.lyr.take 5).map Sy.c) (by rw [←List.map_take,Nat.min_comm, ←List.take_take,List.take_length]) R<|?_
 have hsl:(e.lyr.take 5).length≤5:=by rw [List.length_take];omega
 refine Ag (by kernel_rfl)<|za R R<|zn<|Ah<|?_
 refine A0 (α:=Nat) (fun k=>k≤(e.lyr.take 5).length) (fun k=>mkF [(1, .ptr 1 0 0),(2, .ptr 2 0 0),(3, .d (dI k))]) (fun k=>mkH [(1, .box [.d (dI e.site), .d (dI e.num), .d (dI e.kind), .d (dI e.v.log), .d (dI e.v.dots), .d (.sl 5 ((e.heads.take 5).map Hd.c)), .d (.sl 5 ((e.graces.take 4).map Gr.c)), .d (dI e.art), .d (dI e.orn), .d (dI e.dyn), .own 7503, .d (dI e.stem), .d (dI e.beam)]),(2, .box [.d (dI 0), .d (dI 0), .d (dI 0), .d (dI 0), .d (dI 0), .d (.v (.slice none 0 0)), .d (.v (.slice none 0 0)), .d (dI 0), .d (dI 0), .d (dI 0), .d (.v (.slice none 0 0)), .d (dI 0), .d (dI 0)]),(7503, .row 171 2 ((G3 Kg (e.lyr.take 5) k).map Sy.c))]) (fun k=>(e.lyr.take 5).length - k) (0) (Nat.zero_le _) ?_ ?_ ?_
 exact fz ⟨sr,sr,sr,trivial⟩
 exact gz ⟨R,R,Kh (Mj _ _),trivial⟩
 intro k hk0
 refine zs<|zr<|zm R R<|zp (Aa R R El)<|zp (Ab R R Jt R R)<|zp (B4 R R R Tryz.underlying57)<|zp (As R R R)<|zn<|?_
 refine zd R (fun c34=> ?_) (fun c34=> ?_)
 have hml:=Ly Kg (e.lyr.take 5) k
 have hkl:k<(e.lyr.take 5).length:=by omega
 obtain ⟨x,hx⟩:=Aw hkl
 have hg:=Od (f:=Kg) hx
 refine zi<|zs<|Ah<|Cj 18 [] (by kernel_rfl) (by kernel_rfl) (by kernel_rfl) (by kernel_rfl) (by decide)<|yp (Aa R R El)<|yp (Ab R R Jt R R)<|ym R R<|yp (Aa R R El)<|yp (Ab R R Jt R R)<|ym R R<|yp (Cd R R R (R) R Lp (by omega))<|yp (Aa R R Hs)<|yp (I9 R R Jj R (Cv hg) R)<|yp (Aa R R El)<|?_
 refine yp (Ab R R Jt R R)<|ym R R<|yp (Cd R R R (R) R Lp (by omega))<|yp (Aa R R Hs)<|yp (I9 R R Jj R (Cv hg) R)<|yp (Lx R R Tryz.underlying9)<|yp (Gc R R R)<|yp (Vl R R R Tryz.underlying9)<|?_
 refine ChK.nil ⟨by kernel_rfl, ?_⟩
 refine zp (Cd R R R (R) R Lp (by omega))<|zp (Aa R R Hs)<|XL.step R (Dw R R R (Cv hg) R R Ali R lb)<|zn<|Ag (by kernel_rfl)<|zm R R<|zp (Ak R R R (by omega) (by omega))<|za R R<|zn<|?_
 exact Al (k+1) (by omega) (by omega) (fz ⟨sr,sr,sr,trivial⟩) (gz ⟨R,R,L8 (a:=Kg x) R (Gf hx),trivial⟩)
 have hml:=Ly Kg (e.lyr.take 5) k
 have he:=Oe (f:=Kg) (l:=(e.lyr.take 5)) (k:=k) (by omega)
 refine Au<|zr<|zp (Ac (Ad R R Bq R lb))<|XL.step R (Af (l':= [.d (dI e.site), .d (dI e.num), .d (dI e.kind), .d (dI e.v.log), .d (dI e.v.dots), .d (.sl 5 ((e.heads.take 5).map Hd.c)), .d (.sl 5 ((e.graces.take 4).map Gr.c)), .d (dI e.art), .d (dI e.orn), .d (dI e.dyn), .own 7503, .d (dI e.stem), .d (dI e.beam)]) R R R R Cy R lb (by kernel_rfl))<|zn<|zt<|?_
 refine Cg (i:=7503) R<|?_
 exact Jz R (RV.cells R R R Bq lb R) (by rw [he];rfl)
end Go.Proofs.YtaafemnkamfgnaaGreat
namespace Go.Proofs.YtaafemnkamfgnaaGreat
open Go.RowKit
def Vo.room (v:Vo):Prop:=∀e∈v.evs,e.room
def Ji (v:Vo):Vo:=⟨(v.evs.take 12).map K6,v.tups.take 6⟩
theorem Agn {l:List Ev} {k:Nat} {x:Ev} (h:l[k]? =some x):(l.take (k+1)).map K6=(l.take k).map K6++ [K6 x]:=by rw [Bz h,List.map_append];rfl
theorem K4 {α:Type} {l:List α} {k m:Nat} (h:k≤m) (h2:¬k<m∨¬k<l.length):l.take k=l.take m:=by
 rcases h2 with h2|h2
 ·rw [show k=m by omega]
 ·rw [List.take_of_length_le (by omega),List.take_of_length_le (by omega)]
theorem Alu (e:Ev):(K6 e).fit:=⟨by show (e.heads.take 5).length≤1000;rw [List.length_take];omega,by show (e.graces.take 4).length≤1000;rw [List.length_take];omega,by show ((e.lyr.take 5).map Kg).length≤1000;rw [List.length_map,List.length_take];omega⟩
theorem Alq (v:Vo):(Ji v).fit:=⟨by show ((v.evs.take 12).map K6).length≤1000;rw [List.length_map,List.length_take];omega,by show (v.tups.take 6).length≤1000;rw [List.length_take];omega,fun e he=>by obtain ⟨x,_,rfl⟩:=List.mem_map.1 he;exact Alu x⟩
theorem Alr {v:Vo} (h:Evs v.evs):Evs (Ji v).evs:=fun e he=>by obtain ⟨x,hx,rfl⟩:=List.mem_map.1 he;exact h x (List.mem_of_mem_take hx)
theorem Xx (v:Vo) (h:v.room):XS Tryz.prog 39 [.agg (Vo.c v)] (.agg [.own 7201, .own 7202]) [(7201, .row 59 13 (((Ji v).evs).map Ev.c)),(7202, .row 157 4 (((Ji v).tups).map Tp.c))]:=by
 refine D6 Aek Tryz.func39 R R lb (by kernel_rfl) (by kernel_rfl)<|zr<|XL.step R (An 1 (l:= [.d (.sl 13 (v.evs.map Ev.c)), .d (.sl 4 (v.tups.map Tp.c))]) R R (by kernel_rfl))<|XL.step R (Ao 2 (l:= [.d (.v (.slice none 0 0)), .d (.v (.slice none 0 0))]) R Bf (by kernel_rfl))<|znr<|?_
 refine XL.step R (Ao 3 (l:= [.d (.v (.slice none 0 0)), .d (.v (.slice none 0 0))]) R Bf (by kernel_rfl))<|zn<|zs<|zr<|za R R<|zn<|Ah<|E6 7201 3 0 59 13 (l':= [.own 7201, .d (.v (.slice none 0 0))]) R R (by decide) (by kernel_rfl)<|?_
 refine A0 (α:=Nat) (fun k=>k≤v.evs.length∧k≤12) (fun k=>mkF [(1, .ptr 1 0 0),(2, .ptr 2 0 0),(3, .ptr 3 0 0),(4, .d (dI k))]) (fun k=>mkH [(1, .box ((Vo.c v).map S.d)),(2, .box [.d (.v (.slice none 0 0)), .d (.v (.slice none 0 0))]),(3, .box [.own 7201, .d (.v (.slice none 0 0))]),(7201, .row 59 13 (((v.evs.take k).map K6).map Ev.c))]) (fun k=>v.evs.length - k) (0) (⟨Nat.zero_le _,Nat.zero_le _⟩) ?_ ?_ ?_
 exact fz ⟨sr,sr,sr,sr,trivial⟩
 exact gz ⟨R,R,R,R,trivial⟩
 intro k hk0
 obtain ⟨hk,hk12⟩:=hk0
 refine zs<|zr<|zm R R<|zp (Aa R R Bk)<|zp (Ab R R Cz R R)<|XL.len R R R Tryz.underlying79 fun hl8=>zp (As R R R)<|zm R R<|?_
 refine XL.dec 10 R (fun g10=> ?_) (fun g10=> ?_)
 refine zm R R<|zp (As R R R)<|zq R R R<|zn<|?_
 refine zd R (fun c13=> ?_) (fun c13=> ?_)
 have hkl:k<v.evs.length:=by omega
 obtain ⟨x,hx⟩:=Aw hkl
 have hr:=h x (List.mem_of_getElem? hx)
 have htl:((v.evs.take k).map K6).length=k:=by rw [List.length_map,List.length_take];omega
 refine zi<|zs<|Ah<|Cj 9 [] (by kernel_rfl) (by kernel_rfl) (by kernel_rfl) (by kernel_rfl) (by decide)<|yp (Aa R R Bk)<|yp (Ab R R Cz R R)<|yp (Aa R R Bk)<|yp (Ab R R Cz R R)<|ym R R<|yp (Ap R R R G7 (hx))<|yp (Ae (s':= .d (.agg (Ev.c x))) (A4 R R Bq lb) (by kernel_rfl))<|?_
 refine ChK.cons R (CStep.call R (Xy _ (by assumption)) R)<|ChK.cons R (CStep.slice R Tryz.underlying79 Cy Ca R R (by omega) (by omega))<|?_
 refine ChK.nil ⟨by kernel_rfl, ?_⟩
 refine XL.step R (A3 R Fb (.own R) (Src.sl (by omega)) (by unfold maxLen;simp;omega) (by simp;omega))<|zp (Aa R R Bk)<|XL.step R (Af (l':= [.own 7201, .d (.v (.slice none 0 0))]) R R R R N2 R lb (by kernel_rfl))<|zn<|Ag (by kernel_rfl)<|zm R R<|zp (Ak R R R (by omega) (by omega))<|za R R<|zn<|?_
 exact Al (k+1) (⟨by omega,by omega⟩) (by omega) (fz ⟨sr,sr,sr,sr,trivial⟩) (gz ⟨rfl,rfl,rfl,Io rfl (Agn hx),trivial⟩)
 refine Au<|zs<|Cj 9 [] (by kernel_rfl) (by kernel_rfl) (by kernel_rfl) (by kernel_rfl) (by decide)<|yp (Aa R R B3)<|yp (Ab R R B5 R R)<|yp (Aa R R B3)<|yp (Ab R R B5 R R)<|yp (Aa R R B3)<|yp (Ab R R B5 R R)<|yp (Nf R R Tryz.underlying80)<|yp (Gc R R R)<|yp (Lu R R R E1)<|?_
 refine ChK.nil ⟨by kernel_rfl, ?_⟩
 refine XL.step R (A3 R F9 (.nil 7202 _ _) (Src.sl (by omega)) (by unfold maxLen;simp;omega) (by simp;omega))<|zp (Aa R R B3)<|XL.step R (Af (l':= [.own 7201, .own 7202]) R R R R Gn R lb (by kernel_rfl))<|znr<|zp (Ac (Ad R R Aq R lb))<|XL.step R (Af (l':= [.own 7201, .own 7202]) R R R R Bm R lb (by kernel_rfl))<|zn<|zt<|?_
 exact ⟨Ct R (RVS.eq (RVS.cells (i:=2) R R R Aq lb) R),HSub.cons (by rw [K4 (l:=v.evs) hk12 (by omega)];rfl) (HSub.cons (R) (HSub.nil))⟩
 refine zk 2 R<|zq R R R<|zn<|A9 (by kernel_rfl) R<|Au<|zs<|Cj 9 [] (by kernel_rfl) (by kernel_rfl) (by kernel_rfl) (by kernel_rfl) (by decide)<|yp (Aa R R B3)<|yp (Ab R R B5 R R)<|yp (Aa R R B3)<|yp (Ab R R B5 R R)<|yp (Aa R R B3)<|yp (Ab R R B5 R R)<|yp (Nf R R Tryz.underlying80)<|?_
 refine yp (Gc R R R)<|yp (Lu R R R E1)<|?_
 refine ChK.nil ⟨by kernel_rfl, ?_⟩
 refine XL.step R (A3 R F9 (.nil 7202 _ _) (Src.sl (by omega)) (by unfold maxLen;simp;omega) (by simp;omega))<|zp (Aa R R B3)<|XL.step R (Af (l':= [.own 7201, .own 7202]) R R R R Gn R lb (by kernel_rfl))<|znr<|zp (Ac (Ad R R Aq R lb))<|XL.step R (Af (l':= [.own 7201, .own 7202]) R R R R Bm R lb (by kernel_rfl))<|zn<|zt<|?_
 exact ⟨Ct R (RVS.eq (RVS.cells (i:=2) R R R Aq lb) R),HSub.cons (by rw [K4 (l:=v.evs) hk12 (by omega)];rfl) (HSub.cons (R) (HSub.nil))⟩
def Ms.room (m:Ms):Prop:=∀c∈m.cells,∀v∈c.voices,v.room
def M8 (v:Vo):List T:=(Ji v).t
def M9 (c:Ce):Ce:=⟨c.clefs.take 8,(c.voices.take 3).map Ji⟩
def L7 (c:Ce):List T:=(M9 c).t
def shH (h:Mh):Mh:={h with reh:=h.reh.take 30}
def Bu (m:Ms):Ms:=⟨shH m.h,m.tempi.take 8,(m.cells.take 4).map M9⟩
theorem Mu (ls:List Nat) (l:List Vo):T.inLL ls (l.map M8)=true:=T.inLL_map (fun v=>Vo.t_in ls (Ji v)) l
theorem J9 (ls:List Nat) (l:List Ce):T.inLL ls (l.map L7)=true:=T.inLL_map (fun v=>Ce.t_in ls (M9 v)) l
theorem Yz (l:List Vo):l.map M8=(l.map Ji).map Vo.t:=by rw [List.map_map];rfl
theorem Y0 (l:List Ce):l.map L7=(l.map M9).map Ce.t:=by rw [List.map_map];rfl
theorem Als (m : Ms) : (Bu m).fit := ⟨by show (m.tempi.take 8).length ≤ 1000; rw [List.length_take]; omega, by show ((m.cells.take 4).map M9).length ≤ 1000; rw [List.length_map, List.length_take]; omega, fun c hc => by
 obtain ⟨x,_,rfl⟩:=List.mem_map.1 hc
 exact ⟨by show (x.clefs.take 8).length ≤ 1000; rw [List.length_take]; omega, by show ((x.voices.take 3).map Ji).length ≤ 1000; rw [List.length_map, List.length_take]; omega, fun v hv => by obtain ⟨y, _, rfl⟩ := List.mem_map.1 hv; exact Alq y⟩⟩
theorem Alt {m:Ms} (h:m.evs):(Bu m).evs:=fun c hc v hv=>by
 obtain ⟨x,hx,rfl⟩:=List.mem_map.1 hc
 obtain ⟨y,hy,rfl⟩:=List.mem_map.1 hv
 exact Alr (h x (List.mem_of_mem_take hx) y (List.mem_of_mem_take hy))
theorem Yx (m:Ms) (h:m.room):XS Tryz.prog 14 [.agg (Ms.c m)] (.agg [.d (dI (shH m.h).site), .d (dI (shH m.h).num), .d (dI (shH m.h).m.count), .d (dI (shH m.h).m.unit), .d (dI (shH m.h).m.g0), .d (dI (shH m.h).m.g1), .d (dI (shH m.h).m.g2), .d (dI (shH m.h).m.g3), .d (dI (shH m.h).m.g4), .d (dI (shH m.h).m.g5), .d (dI (shH m.h).len), .d (dI (shH m.h).fifths), .d (dB (shH m.h).start), .d (dI (shH m.h).fin), .d (dI (shH m.h).ends), .d (dI (shH m.h).jump), .d (dI (shH m.h).labels), .d (dI (shH m.h).swing), .d (dI (shH m.h).brk), .d (.v (.string ⟨(shH m.h).reh.toArray⟩)), .own 7401, .own 7402]) [(7401, .row 119 3 (((Bu m).tempi).map Tm.c)),(7402, .tree 78 2 [] ((Bu m).cells.map Ce.t))]:=by
 refine D6 Aev Tryz.func14 R R lb (by kernel_rfl) (by kernel_rfl)<|zr<|?_
 refine XL.step R (An 1 (l:= [.d (dI m.h.site), .d (dI m.h.num), .d (dI m.h.m.count), .d (dI m.h.m.unit), .d (dI m.h.m.g0), .d (dI m.h.m.g1), .d (dI m.h.m.g2), .d (dI m.h.m.g3), .d (dI m.h.m.g4), .d (dI m.h.m.g5), .d (dI m.h.len), .d (dI m.h.fifths), .d (dB m.h.start), .d (dI m.h.fin), .d (dI m.h.ends), .d (dI m.h.jump), .d (dI m.h.labels), .d (dI m.h.swing), .d (dI m.h.brk), .d (.v (.string ⟨m.h.reh.toArray⟩)), .d (.sl 3 (m.tempi.map Tm.c)), .d (.sl 2 (m.cells.map Ce.c))]) R R (by kernel_rfl))<|?_
 refine XL.step R (Ao 2 (l:= [.d (dI 0), .d (dI 0), .d (dI 0), .d (dI 0), .d (dI 0), .d (dI 0), .d (dI 0), .d (dI 0), .d (dI 0), .d (dI 0), .d (dI 0), .d (dI 0), .d (dB false), .d (dI 0), .d (dI 0), .d (dI 0), .d (dI 0), .d (dI 0), .d (dI 0), .d (.v (.string ⟨#[]⟩)), .d (.v (.slice none 0 0)), .d (.v (.slice none 0 0))]) R C2 (by kernel_rfl))<|znr<|zp (Aa R R B9)<|?_
 refine zp (Ab R R Ep R R)<|za R R<|znr<|zp (Aa R R B9)<|?_
 refine XL.step R (Af (l':= [.d (dI m.h.site), .d (dI m.h.num), .d (dI m.h.m.count), .d (dI m.h.m.unit), .d (dI m.h.m.g0), .d (dI m.h.m.g1), .d (dI m.h.m.g2), .d (dI m.h.m.g3), .d (dI m.h.m.g4), .d (dI m.h.m.g5), .d (dI m.h.len), .d (dI m.h.fifths), .d (dB m.h.start), .d (dI m.h.fin), .d (dI m.h.ends), .d (dI m.h.jump), .d (dI m.h.labels), .d (dI m.h.swing), .d (dI m.h.brk), .d (.v (.string ⟨m.h.reh.toArray⟩)), .d (.sl 3 (m.tempi.map Tm.c)),_]) R R R R Tt R lb R)<|?_
 refine zn<|zs<|zr<|za R R<|zn<|Ah<|?_
 refine E6 7402 1 21 78 2 (l':= [.d (dI m.h.site), .d (dI m.h.num), .d (dI m.h.m.count), .d (dI m.h.m.unit), .d (dI m.h.m.g0), .d (dI m.h.m.g1), .d (dI m.h.m.g2), .d (dI m.h.m.g3), .d (dI m.h.m.g4), .d (dI m.h.m.g5), .d (dI m.h.len), .d (dI m.h.fifths), .d (dB m.h.start), .d (dI m.h.fin), .d (dI m.h.ends), .d (dI m.h.jump), .d (dI m.h.labels), .d (dI m.h.swing), .d (dI m.h.brk), .d (.v (.string ⟨m.h.reh.toArray⟩)), .d (.sl 3 (m.tempi.map Tm.c)), .own 7402]) R R (by decide) (by kernel_rfl)<|?_
 refine Ti (i:=7402) (l':= []) R R<|?_
 refine A0 (α:=Nat) (fun k=>k≤m.cells.length∧k≤4) (fun k=>mkF [(1, .ptr 1 0 0),(2, .ptr 2 0 0),(3, .d (.sl 2 (m.cells.map Ce.c))),(4, .d (dI k))]) (fun k=>mkH [(1, .box [.d (dI m.h.site), .d (dI m.h.num), .d (dI m.h.m.count), .d (dI m.h.m.unit), .d (dI m.h.m.g0), .d (dI m.h.m.g1), .d (dI m.h.m.g2), .d (dI m.h.m.g3), .d (dI m.h.m.g4), .d (dI m.h.m.g5), .d (dI m.h.len), .d (dI m.h.fifths), .d (dB m.h.start), .d (dI m.h.fin), .d (dI m.h.ends), .d (dI m.h.jump), .d (dI m.h.labels), .d (dI m.h.swing), .d (dI m.h.brk), .d (.v (.string ⟨m.h.reh.toArray⟩)), .d (.sl 3 (m.tempi.map Tm.c)), .own 7402]),(2, .box [.d (dI 0), .d (dI 0), .d (dI 0), .d (dI 0), .d (dI 0), .d (dI 0), .d (dI 0), .d (dI 0), .d (dI 0), .d (dI 0), .d (dI 0), .d (dI 0), .d (dB false), .d (dI 0), .d (dI 0), .d (dI 0), .d (dI 0), .d (dI 0), .d (dI 0), .d (.v (.string ⟨#[]⟩)), .d (.v (.slice none 0 0)), .d (.v (.slice none 0 0))]),(7402, .tree 78 2 [] ((m.cells.take k).map L7))]) (fun k=>m.cells.length - k) (0) (⟨Nat.zero_le _,Nat.zero_le _⟩) ?_ ?_ ?_
 exact fz ⟨sr,sr,sr,sr,trivial⟩
 exact gz ⟨R,R,R,trivial⟩
 intro k hk0
 obtain ⟨hk,hk4⟩:=hk0
 refine zs<|zr<|zm R R<|zm R R<|XL.len R R R Tryz.underlying28 fun hl12=>zp (As R R R)<|zm R R<|?_
 refine XL.dec 14 R (fun g14=> ?_) (fun g14=> ?_)
 refine zm R R<|zp (As R R R)<|zq R R R<|zn<|?_
 refine zd R (fun c17=> ?_) (fun c17=> ?_)
 have hkl:k<m.cells.length:=by omega
 obtain ⟨x,hx⟩:=Aw hkl
 have hr:=h x (List.mem_of_getElem? hx)
 have htl:(m.cells.take k).length=k:=by rw [List.length_take];omega
 refine zi<|zs<|Ah<|zr<|XL.step R (Ao 5 (l:= [.d (.v (.slice none 0 0)), .d (.v (.slice none 0 0))]) R Gg (by kernel_rfl))<|zn<|zs<|Cj 15 [] (by kernel_rfl) (by kernel_rfl) (by kernel_rfl) (by kernel_rfl) (by decide)<|yp (Aa R R Ez)<|yp (Ab R R Lh R R)<|ym R R<|ym R R<|yp (Ap R R R Fm (hx))<|yp (Ff R R Ez)<|?_
 refine yp (Ba R R Lh)<|ym R R<|ym R R<|yp (Ap R R R Fm (hx))<|yp (Ff R R Ez)<|yp (Ba R R Lh)<|yp (Nf R R Tryz.underlying75)<|yp (Gc R R R)<|yp (Lu R R R Ln)<|?_
 refine ChK.nil ⟨by kernel_rfl, ?_⟩
 refine XL.step R (A3 R Aae (.nil 7301 _ _) (Src.sl (by omega)) (by unfold maxLen;simp;omega) (by simp;omega))<|XL.rowq (i:=7301) (l':=(x.clefs.take 8).map Cf.c) R (R)<|zp (Aa R R Ez)<|XL.step R (Af (l':= [.own 7301, .d (.v (.slice none 0 0))]) R R R R X2 R lb (by kernel_rfl))<|zn<|zs<|zr<|za R R<|zn<|Ah<|?_
 refine E6 7302 5 1 82 2 (l':= [.own 7301, .own 7302]) R R (by decide) (by kernel_rfl)<|Ti (i:=7302) (l':= []) R R<|?_
 refine A0 (α:=Nat) (fun j=>j≤x.voices.length∧j≤3) (fun j=>mkF [(1, .ptr 1 0 0),(2, .ptr 2 0 0),(3, .d (.sl 2 (m.cells.map Ce.c))),(4, .d (dI k)),(5, .ptr 5 0 0),(6, .d (dI j))]) (fun j=>mkH [(1, .box [.d (dI m.h.site), .d (dI m.h.num), .d (dI m.h.m.count), .d (dI m.h.m.unit), .d (dI m.h.m.g0), .d (dI m.h.m.g1), .d (dI m.h.m.g2), .d (dI m.h.m.g3), .d (dI m.h.m.g4), .d (dI m.h.m.g5), .d (dI m.h.len), .d (dI m.h.fifths), .d (dB m.h.start), .d (dI m.h.fin), .d (dI m.h.ends), .d (dI m.h.jump), .d (dI m.h.labels), .d (dI m.h.swing), .d (dI m.h.brk), .d (.v (.string ⟨m.h.reh.toArray⟩)), .d (.sl 3 (m.tempi.map Tm.c)), .own 7402]),(2, .box [.d (dI 0), .d (dI 0), .d (dI 0), .d (dI 0), .d (dI 0), .d (dI 0), .d (dI 0), .d (dI 0), .d (dI 0), .d (dI 0), .d (dI 0), .d (dI 0), .d (dB false), .d (dI 0), .d (dI 0), .d (dI 0), .d (dI 0), .d (dI 0), .d (dI 0), .d (.v (.string ⟨#[]⟩)), .d (.v (.slice none 0 0)), .d (.v (.slice none 0 0))]),(5, .box [.own 7301, .own 7302]),(7301, .row 84 2 ((x.clefs.take 8).map Cf.c)),(7302, .tree 82 2 [] ((x.voices.take j).map M8)),(7402, .tree 78 2 [] ((m.cells.take k).map L7))]) (fun j=>x.voices.length - j) (0) (⟨Nat.zero_le _,Nat.zero_le _⟩) ?_ ?_ ?_
 exact fz ⟨sr,sr,sr,sr,sr,sr,trivial⟩
 exact gz ⟨R,R,R,R,R,R,trivial⟩
 intro j hk2
 obtain ⟨hj,hj3⟩:=hk2
 refine zs<|zr<|zm R R<|zm R R<|zm R R<|zp (Ap R R R Fm (hx))<|zp (Ff R R C8)<|zp (Ba R R Fy)<|XL.len R R R Tryz.underlying76 fun hl43=>zp (As R R R)<|zm R R<|?_
 refine XL.dec 45 R (fun g45=> ?_) (fun g45=> ?_)
 refine zm R R<|zp (As R R R)<|zq R R R<|zn<|?_
 refine zd R (fun c48=> ?_) (fun c48=> ?_)
 have hjl:j<x.voices.length:=by omega
 obtain ⟨y,hy⟩:=Aw hjl
 have hq:=hr y (List.mem_of_getElem? hy)
 have hul:(x.voices.take j).length=j:=by rw [List.length_take];omega
 refine zi<|zs<|Ah<|Cj 12 [7201,7202,62] (by kernel_rfl) (by kernel_rfl) (by kernel_rfl) (by kernel_rfl) (by decide)<|yp (Aa R R C8)<|yp (Ab R R Fy R R)<|ym R R<|ym R R<|yp (Ap R R R Fm (hx))<|yp (Ff R R C8)<|yp (Ba R R Fy)<|ym R R<|yp (Ap R R R Je (hy))<|?_
 refine yp (Ae (s':= .d (.agg (Vo.c y))) (A4 R R Aq lb) (by kernel_rfl))<|ChK.cons R (CStep.callS R (Xx _ (by assumption)) R (Nn (by kernel_rfl)))<|ChK.cons R (CStep.slice1 62 (cs:= [.own 7201, .own 7202]) R Tryz.underlying76 Bm Bf R R (by decide) (by decide) R)<|?_
 refine ChK.nil ⟨by kernel_rfl, ?_⟩
 refine XL.step R (Hi [7201,7202] (lr:=((x.voices.take (j+1)).map M8).set j [.own 7201, .own 7202]) R Akm (.own R) (SrcT.ownS R) (by unfold maxLen;simp;omega) (by simp;omega) (O9 hy _) (D5 (Mu [] _) (Gd (R) (R)) _) R)<|?_
 refine XL.closeR (i:=7302) (j:=7201) (k:=j) (m:=0) (l':=((x.voices.take (j+1)).map M8).set j [.row 59 13 ((((Ji y).evs).map Ev.c).map (·.map T.d)), .own 7202]) [7202] R R R (Ck (Ea hy)) R (List.set_set ..) (D5 (Mu [] _) (Gd (Fh (T.inLL_d _ _)) (R)) _) R<|?_
 refine XL.closeR (i:=7302) (j:=7202) (k:=j) (m:=1) (l':=((x.voices.take (j+1)).map M8).set j [.row 59 13 ((((Ji y).evs).map Ev.c).map (·.map T.d)), .row 157 4 ((((Ji y).tups).map Tp.c).map (·.map T.d))]) [] R R R (Ck (Ea hy)) R (List.set_set ..) (D5 (Mu [] _) (Gd (Fh (T.inLL_d _ _)) (Fh (T.inLL_d _ _))) _) R<|?_
 refine XL.rowqT (i:=7302) (l':=(x.voices.take (j+1)).map M8) [] R (set_same (Ea hy)) (Mu [] _)<|zp (Aa R R C8)<|XL.step R (Af (l':= [.own 7301, .own 7302]) R R R R An4 R lb (by kernel_rfl))<|zn<|Ag (by kernel_rfl)<|zm R R<|zp (Ak R R R (by omega) (by omega))<|za R R<|zn<|?_
 exact Al (j+1) (⟨by omega,by omega⟩) (by omega) (fz ⟨sr,sr,sr,sr,sr,sr,trivial⟩) (gz ⟨rfl,rfl,rfl,rfl,rfl,rfl,trivial⟩)
 refine Au<|Ag (by kernel_rfl)<|zp (Aa R R B9)<|zp (Ab R R Ep R R)<|zp (Ac (Ad R R I5 R lb))<|XL.step R (Wl 68 (cs:= [.own 7301, .own 7302]) R Tryz.underlying28 Lg Gg R R (by decide) (by decide))<|?_
 refine XL.step R (Hi [7301,7302] (lr:=((m.cells.take (k+1)).map L7).set k [.own 7301, .own 7302]) R Aaf (.own R) (SrcT.ownS R) (by unfold maxLen;simp;omega) (by simp;omega) (O9 hx _) (D5 (J9 [] _) (Gd (R) (R)) _) R)<|?_
 have hvt:(x.voices.take j).map M8=(M9 x).voices.map Vo.t:=by rw [K4 (l:=x.voices) hj3 (by omega),Yz];rfl
 refine XL.closeR (i:=7402) (j:=7301) (k:=k) (m:=0) (l':=((m.cells.take (k+1)).map L7).set k [.row 84 2 (((x.clefs.take 8).map Cf.c).map (·.map T.d)), .own 7302]) [7302] R R R (Ck (Ea hx)) R (List.set_set ..) (D5 (J9 [] _) (Gd (Fh (T.inLL_d _ _)) (R)) _) R<|?_
 refine XL.closeT (i:=7402) (j:=7302) (k:=k) (m:=1) (l':=((m.cells.take (k+1)).map L7).set k [.row 84 2 (((x.clefs.take 8).map Cf.c).map (·.map T.d)), .row 82 2 ((x.voices.take j).map M8)]) [] R R R (Ck (Ea hx)) R (List.set_set ..) (D5 (J9 [] _) (Gd (Fh (T.inLL_d _ _)) (Fh (T.nil_in (Mu [] _) _))) _) R<|?_
 refine XL.rowqT (i:=7402) (l':=(m.cells.take (k+1)).map L7) [] R (by rw [hvt];exact set_same (Ea hx)) (J9 [] _)<|zp (Aa R R B9)<|?_
 refine XL.step R (Af (l':= [.d (dI m.h.site), .d (dI m.h.num), .d (dI m.h.m.count), .d (dI m.h.m.unit), .d (dI m.h.m.g0), .d (dI m.h.m.g1), .d (dI m.h.m.g2), .d (dI m.h.m.g3), .d (dI m.h.m.g4), .d (dI m.h.m.g5), .d (dI m.h.len), .d (dI m.h.fifths), .d (dB m.h.start), .d (dI m.h.fin), .d (dI m.h.ends), .d (dI m.h.jump), .d (dI m.h.labels), .d (dI m.h.swing), .d (dI m.h.brk), .d (.v (.string ⟨m.h.reh.toArray⟩)), .d (.sl 3 (m.tempi.map Tm.c)), .own 7402]) R R R R Tt R lb (by kernel_rfl))<|?_
 refine zn<|Ag (by kernel_rfl)<|zm R R<|zp (Ak R R R (by omega) (by omega))<|za R R<|zn<|?_
 exact Al (k+1) (⟨by omega,by omega⟩) (by omega) (fz ⟨sr,sr,sr,sr,trivial⟩) (gz ⟨rfl,rfl,rfl,trivial⟩)
 refine zk 2 R<|zq R R R<|zn<|A9 (by kernel_rfl) R<|Au<|Ag (by kernel_rfl)<|zp (Aa R R B9)<|zp (Ab R R Ep R R)<|zp (Ac (Ad R R I5 R lb))<|XL.step R (Wl 68 (cs:= [.own 7301, .own 7302]) R Tryz.underlying28 Lg Gg R R (by decide) (by decide))<|?_
 refine XL.step R (Hi [7301,7302] (lr:=((m.cells.take (k+1)).map L7).set k [.own 7301, .own 7302]) R Aaf (.own R) (SrcT.ownS R) (by unfold maxLen;simp;omega) (by simp;omega) (O9 hx _) (D5 (J9 [] _) (Gd (R) (R)) _) R)<|?_
 have hvt:(x.voices.take j).map M8=(M9 x).voices.map Vo.t:=by rw [K4 (l:=x.voices) hj3 (by omega),Yz];rfl
 refine XL.closeR (i:=7402) (j:=7301) (k:=k) (m:=0) (l':=((m.cells.take (k+1)).map L7).set k [.row 84 2 (((x.clefs.take 8).map Cf.c).map (·.map T.d)), .own 7302]) [7302] R R R (Ck (Ea hx)) R (List.set_set ..) (D5 (J9 [] _) (Gd (Fh (T.inLL_d _ _)) (R)) _) R<|?_
 refine XL.closeT (i:=7402) (j:=7302) (k:=k) (m:=1) (l':=((m.cells.take (k+1)).map L7).set k [.row 84 2 (((x.clefs.take 8).map Cf.c).map (·.map T.d)), .row 82 2 ((x.voices.take j).map M8)]) [] R R R (Ck (Ea hx)) R (List.set_set ..) (D5 (J9 [] _) (Gd (Fh (T.inLL_d _ _)) (Fh (T.nil_in (Mu [] _) _))) _) R<|?_
 refine XL.rowqT (i:=7402) (l':=(m.cells.take (k+1)).map L7) [] R (by rw [hvt];exact set_same (Ea hx)) (J9 [] _)<|zp (Aa R R B9)<|?_
 refine XL.step R (Af (l':= [.d (dI m.h.site), .d (dI m.h.num), .d (dI m.h.m.count), .d (dI m.h.m.unit), .d (dI m.h.m.g0), .d (dI m.h.m.g1), .d (dI m.h.m.g2), .d (dI m.h.m.g3), .d (dI m.h.m.g4), .d (dI m.h.m.g5), .d (dI m.h.len), .d (dI m.h.fifths), .d (dB m.h.start), .d (dI m.h.fin), .d (dI m.h.ends), .d (dI m.h.jump), .d (dI m.h.labels), .d (dI m.h.swing), .d (dI m.h.brk), .d (.v (.string ⟨m.h.reh.toArray⟩)), .d (.sl 3 (m.tempi.map Tm.c)), .own 7402]) R R R R Tt R lb (by kernel_rfl))<|?_
 refine zn<|Ag (by kernel_rfl)<|zm R R<|zp (Ak R R R (by omega) (by omega))<|za R R<|zn<|?_
 exact Al (k+1) (⟨by omega,by omega⟩) (by omega) (fz ⟨sr,sr,sr,sr,trivial⟩) (gz ⟨rfl,rfl,rfl,trivial⟩)
 refine Au<|zr<|XL.step R (Bj 7401 R Tryz.underlying27 O1 K2 R R (by omega) (by omega))<|zp (Aa R R Dd)<|zp (Ab R R I7 R R)<|zp (Aa R R Dd)<|zp (Ab R R I7 R R)<|XL.len R R R Tryz.underlying27 fun hl76=>zp (Gc R R R)<|zp (Lu R R R Ky)<|?_
 refine XL.step R (A3 R U0 (.own R) (Src.sl (by omega)) (by unfold maxLen;simp;omega) (by simp;omega))<|zp (Aa R R Dd)<|?_
 refine XL.step R (Af (l':= [.d (dI m.h.site), .d (dI m.h.num), .d (dI m.h.m.count), .d (dI m.h.m.unit), .d (dI m.h.m.g0), .d (dI m.h.m.g1), .d (dI m.h.m.g2), .d (dI m.h.m.g3), .d (dI m.h.m.g4), .d (dI m.h.m.g5), .d (dI m.h.len), .d (dI m.h.fifths), .d (dB m.h.start), .d (dI m.h.fin), .d (dI m.h.ends), .d (dI m.h.jump), .d (dI m.h.labels), .d (dI m.h.swing), .d (dI m.h.brk), .d (.v (.string ⟨m.h.reh.toArray⟩)), .own 7401, .own 7402]) R R R R Rr R lb (by kernel_rfl))<|?_
 refine znr<|zp (Aa R R I0)<|zp (Ab R R Jj R R)<|zp (Aa R R I0)<|zp (Ab R R Jj R R)<|zp (Lx R R Tryz.underlying9)<|zp (Gc R R R)<|zp (Vl R R R Tryz.underlying9)<|zp (Aa R R I0)<|?_
 refine XL.step R (Af (l':= [.d (dI m.h.site), .d (dI m.h.num), .d (dI m.h.m.count), .d (dI m.h.m.unit), .d (dI m.h.m.g0), .d (dI m.h.m.g1), .d (dI m.h.m.g2), .d (dI m.h.m.g3), .d (dI m.h.m.g4), .d (dI m.h.m.g5), .d (dI m.h.len), .d (dI m.h.fifths), .d (dB m.h.start), .d (dI m.h.fin), .d (dI m.h.ends), .d (dI m.h.jump), .d (dI m.h.labels), .d (dI m.h.swing), .d (dI m.h.brk), .d (.v (.string ⟨(m.h.reh.take 30).toArray⟩)), .own 7401, .own 7402]) R R R R Ali R lb (by kernel_rfl))<|?_
 refine znr<|zp (Ac (Ad R R Bn R lb))<|?_
 refine XL.step R (Af (l':= [.d (dI m.h.site), .d (dI m.h.num), .d (dI m.h.m.count), .d (dI m.h.m.unit), .d (dI m.h.m.g0), .d (dI m.h.m.g1), .d (dI m.h.m.g2), .d (dI m.h.m.g3), .d (dI m.h.m.g4), .d (dI m.h.m.g5), .d (dI m.h.len), .d (dI m.h.fifths), .d (dB m.h.start), .d (dI m.h.fin), .d (dI m.h.ends), .d (dI m.h.jump), .d (dI m.h.labels), .d (dI m.h.swing), .d (dI m.h.brk), .d (.v (.string ⟨(m.h.reh.take 30).toArray⟩)), .own 7401, .own 7402]) R R R R Do R lb (by kernel_rfl))<|?_
 refine zn<|zt<|?_
 exact ⟨Ct R (RVS.eq (RVS.cells (i:=2) R R R Bn lb) R),HSub.cons (R) (HSub.cons (by rw [K4 (l:=m.cells) hk4 (by omega),Y0];rfl) (HSub.nil))⟩
 refine zk 2 R<|zq R R R<|zn<|A9 (by kernel_rfl) R<|Au<|zr<|XL.step R (Bj 7401 R Tryz.underlying27 O1 K2 R R (by omega) (by omega))<|zp (Aa R R Dd)<|zp (Ab R R I7 R R)<|zp (Aa R R Dd)<|zp (Ab R R I7 R R)<|XL.len R R R Tryz.underlying27 fun hl76=>zp (Gc R R R)<|zp (Lu R R R Ky)<|?_
 refine XL.step R (A3 R U0 (.own R) (Src.sl (by omega)) (by unfold maxLen;simp;omega) (by simp;omega))<|zp (Aa R R Dd)<|?_
 refine XL.step R (Af (l':= [.d (dI m.h.site), .d (dI m.h.num), .d (dI m.h.m.count), .d (dI m.h.m.unit), .d (dI m.h.m.g0), .d (dI m.h.m.g1), .d (dI m.h.m.g2), .d (dI m.h.m.g3), .d (dI m.h.m.g4), .d (dI m.h.m.g5), .d (dI m.h.len), .d (dI m.h.fifths), .d (dB m.h.start), .d (dI m.h.fin), .d (dI m.h.ends), .d (dI m.h.jump), .d (dI m.h.labels), .d (dI m.h.swing), .d (dI m.h.brk), .d (.v (.string ⟨m.h.reh.toArray⟩)), .own 7401, .own 7402]) R R R R Rr R lb (by kernel_rfl))<|?_
 refine znr<|zp (Aa R R I0)<|zp (Ab R R Jj R R)<|zp (Aa R R I0)<|zp (Ab R R Jj R R)<|zp (Lx R R Tryz.underlying9)<|zp (Gc R R R)<|zp (Vl R R R Tryz.underlying9)<|zp (Aa R R I0)<|?_
 refine XL.step R (Af (l':= [.d (dI m.h.site), .d (dI m.h.num), .d (dI m.h.m.count), .d (dI m.h.m.unit), .d (dI m.h.m.g0), .d (dI m.h.m.g1), .d (dI m.h.m.g2), .d (dI m.h.m.g3), .d (dI m.h.m.g4), .d (dI m.h.m.g5), .d (dI m.h.len), .d (dI m.h.fifths), .d (dB m.h.start), .d (dI m.h.fin), .d (dI m.h.ends), .d (dI m.h.jump), .d (dI m.h.labels), .d (dI m.h.swing), .d (dI m.h.brk), .d (.v (.string ⟨(m.h.reh.take 30).toArray⟩)), .own 7401, .own 7402]) R R R R Ali R lb (by kernel_rfl))<|?_
 refine znr<|zp (Ac (Ad R R Bn R lb))<|?_
 refine XL.step R (Af (l':= [.d (dI m.h.site), .d (dI m.h.num), .d (dI m.h.m.count), .d (dI m.h.m.unit), .d (dI m.h.m.g0), .d (dI m.h.m.g1), .d (dI m.h.m.g2), .d (dI m.h.m.g3), .d (dI m.h.m.g4), .d (dI m.h.m.g5), .d (dI m.h.len), .d (dI m.h.fifths), .d (dB m.h.start), .d (dI m.h.fin), .d (dI m.h.ends), .d (dI m.h.jump), .d (dI m.h.labels), .d (dI m.h.swing), .d (dI m.h.brk), .d (.v (.string ⟨(m.h.reh.take 30).toArray⟩)), .own 7401, .own 7402]) R R R R Do R lb (by kernel_rfl))<|?_
 refine zn<|zt<|?_
 exact ⟨Ct R (RVS.eq (RVS.cells (i:=2) R R R Bn lb) R),HSub.cons (R) (HSub.cons (by rw [K4 (l:=m.cells) hk4 (by omega),Y0];rfl) (HSub.nil))⟩
theorem XS.xc2 {P:Program} {F:FuncId} {ds:List D} {s:S} {i j:Nat} {e e2:TypeId} {sz sz2:Nat} {l l2:List (List D)} {t:List (List T)} {d:D} (hx:XS P F ds s [(i, .row e sz l),(j, .tree e2 sz2 [] t)]) (hj:((mkH [(i, .row e sz l),(j, .tree e2 sz2 [] t)]).frz i (.sl sz l)) j=some (.tree e2 sz2 [] t)) (hf:T.fzLL t=true) (ht:T.toDLL t=l2)
  (hd:norm ((s.frz i (.sl sz l)).frz j (.sl sz2 l2))= .d d):XC P F ds (fun r=>r=d):=
 ⟨hx.callable, fun H w vs h1 h2 h3 => (hx.calls H w vs h1 h2 h3).mono fun e w' ⟨H', β, u, he, k1, k2, k3⟩ => by
  obtain ⟨H2,q1,q2,q3⟩:=k1.freeze (i:=i) (by simp only [mkH];exact Xh.set_same _ _ _)
  obtain ⟨H3,p1,p2,p3⟩:=q3.freezeT (i:=j) hj hf
  rw [ht] at p2
  have hv:=VS.norm (((k2.mono (q1.trans p1) fun _ _ h=>h).frz i _ (fun L hL=>(q2 L hL).mono p1)).frz j _ p2)
  rw [hd] at hv
  exact ⟨H3, u, d, he, rfl, p3.ext, fun b o u e => p3.new b o u e, p3.imm, p3.below, Ed hv⟩⟩
theorem Alo (m:Ms) (h:m.room):XC Tryz.prog 14 [.agg (Ms.c m)] (fun r=>r= .agg (Ms.c (Bu m))):=(Yx m h).xc2 rfl (Ces.t_fz _) (Ces.t_D _) rfl
end Go.Proofs.YtaafemnkamfgnaaGreat
namespace Go.Proofs.YtaafemnkamfgnaaGreat
open Go.RowKit
structure DelG {α:Type} (p:α→Bool) (xs:List α) (j i:Nat) (W:List α):Prop where
 lt:i<j
 le:j≤xs.length
 len:W.length=xs.length
 take:W.take i=(xs.take j).filter p
 drop:W.drop j=xs.drop j
section
variable {α:Type} {p:α→Bool} {xs W:List α} {j i:Nat}
theorem R3 {l:List α} {k:Nat} {g:α} (h:l[k]? =some g) (hg:p g=false):(l.take (k+1)).filter p=(l.take k).filter p:=by rw [Bz h,List.filter_append,List.filter_cons_of_neg (by rw [hg];exact Bool.false_ne_true),List.filter_nil,List.append_nil]
theorem Nu {l:List α} {k:Nat} {g:α} (h:l[k]? =some g) (hg:p g=true):(l.take (k+1)).filter p=(l.take k).filter p++ [g]:=by rw [Bz h,List.filter_append,List.filter_cons_of_pos hg,List.filter_nil]
theorem DelG.get (h:DelG p xs j i W) {g:α} (hg:xs[j]? =some g):W[j]? =some g:=by
 have:=congrArg (fun l=>l[0]?) h.drop
 simpa [List.getElem?_drop,hg] using this
theorem DelG.keep (h:DelG p xs j i W) {g:α} (hg:xs[j]? =some g) (h0:p g=false):DelG p xs (j+1) i W:=by
 have:=(List.getElem?_eq_some_iff.1 hg).1
 have:=h.lt
 refine ⟨by omega,by omega,h.len,by rw [R3 hg h0];exact h.take, ?_⟩
 rw [←List.drop_drop,h.drop,List.drop_drop]
theorem DelG.put (h:DelG p xs j i W) {g:α} (hg:xs[j]? =some g) (h0:p g=true):DelG p xs (j+1) (i+1) (W.set i g):=by
 have h1:=(List.getElem?_eq_some_iff.1 hg).1
 have h2:=h.lt
 have h3:=h.len
 refine ⟨by omega,by omega,by rw [List.length_set];exact h3, ?_, ?_⟩
 ·rw [Nu hg h0, ←h.take,List.take_succ_eq_append_getElem (by rw [List.length_set];omega),List.getElem_set_self,List.take_set_of_le (Nat.le_refl _)]
 ·rw [List.drop_set_of_lt (by omega), ←List.drop_drop,h.drop,List.drop_drop]
theorem DelG.start {k:Nat} {g:α} (hg:xs[k]? =some g) (h0:p g=false) (hk:(xs.take k).filter p=xs.take k):DelG p xs (k+1) k xs:=
 ⟨by omega,by have:=(List.getElem?_eq_some_iff.1 hg).1;omega,rfl,by rw [R3 hg h0,hk],rfl⟩
theorem DelG.fin (h:DelG p xs j i W) (hj:j=xs.length):W.take i=xs.filter p:=by rw [h.take,hj,List.take_length]
theorem DelG.clr (h:DelG p xs j i W) {g:α→List D} {z:α} {zs:List D} (hz:zs=g z):sets (W.map g) i (List.replicate ((W.map g).length - i) zs)=(W.take i++List.replicate (W.length - i) z).map g:=by
 have:=h.lt;have:=h.le;have:=h.len
 subst hz
 rw [Ka _ _ _ (by rw [List.length_replicate,List.length_map];omega),List.drop_eq_nil_of_le (by rw [List.length_replicate,List.length_map];omega),List.append_nil,List.map_append,List.map_take,List.map_replicate,List.length_map]
theorem DelG.cut (h:DelG p xs j i W) {g:α→List D} {z:α}:(((W.take i++List.replicate (W.length - i) z).map g).take i)=(W.take i).map g:=by
 have:=h.lt;have:=h.le;have:=h.len
 rw [←List.map_take,List.take_append_of_le_length (by rw [List.length_take];omega),List.take_take,Nat.min_self]
end
def cfK (n:Int) (x:Cf):Bool:=decide (¬n≤x.tk)
def tmK (n:Int) (x:Tm):Bool:=decide (¬n≤x.tk)
theorem Aak {n:Int} {x:Cf} (h:n≤x.tk):cfK n x=false:=by rw [cfK,decide_eq_false];exact fun k=>k h
theorem V8 {n:Int} {x:Cf} (h:¬n≤x.tk):cfK n x=true:=by rw [cfK,decide_eq_true h]
theorem Yh {n:Int} {x:Tm} (h:n≤x.tk):tmK n x=false:=by rw [tmK,decide_eq_false];exact fun k=>k h
theorem Ve {n:Int} {x:Tm} (h:¬n≤x.tk):tmK n x=true:=by rw [tmK,decide_eq_true h]
def Bo (old p:Pl) (c:Ce):Ce:=⟨c.clefs.filter (cfK p.len),c.voices.map fun v=>(De v old p).1⟩
def Gt (old p:Pl):List Vo→Int
 | []=>0
 |v::l=>if (De v old p).2≠0 then (De v old p).2 else Gt old p l
def G5 (old p:Pl):List Ce→Int
 | []=>0
 |c::l=>if Gt old p c.voices≠0 then Gt old p c.voices else G5 old p l
theorem I2 {old p:Pl} {l:List Vo} {k:Nat} {v:Vo} (hv:l[k]? =some v) (h:(De v old p).2=0):Gt old p (l.drop k)=Gt old p (l.drop (k+1)):=by rw [B1 hv,Gt,if_neg (by omega)]
theorem Ta {old p:Pl} {l:List Vo} {k:Nat} {v:Vo} (hv:l[k]? =some v) (h:(De v old p).2≠0):Gt old p (l.drop k)=(De v old p).2:=by rw [B1 hv,Gt,if_pos h]
theorem Tb {old p:Pl} {l:List Ce} {k:Nat} {c:Ce} (hc:l[k]? =some c) (h:Gt old p c.voices=0):G5 old p (l.drop k)=G5 old p (l.drop (k+1)):=by rw [B1 hc,G5,if_neg (by omega)]
theorem Z8 {old p:Pl} {l:List Ce} {k:Nat} {c:Ce} (hc:l[k]? =some c) (h:Gt old p c.voices≠0):G5 old p (l.drop k)=Gt old p c.voices:=by rw [B1 hc,G5,if_pos h]
def Mh.z:Mh:=⟨0,0,Me.z,0,0,false,0,0,0,0,0,0, []⟩
def Ms.z:Ms:=⟨Mh.z, [], []⟩
def Ahg (m:Ms) (t:Me) (n:Int) (old p:Pl):Ms:=⟨m.h.sh t n,m.tempi.filter (tmK p.len),m.cells.map (Bo old p)⟩
def Ih (m:Ms) (t:Me) (n:Int):Int:=if mlE m.h.m m.h.len≠0 then mlE m.h.m m.h.len else if mlE t n≠0 then mlE t n else G5 (plS m.h.m m.h.len) (plS t n) m.cells
def Co (m:Ms) (t:Me) (n:Int):Ms:=if Ih m t n≠0 then Ms.z else Ahg m t n (plS m.h.m m.h.len) (plS t n)
theorem F3 {m:Ms} {t:Me} {n:Int} (h:mlE m.h.m m.h.len≠0):Ih m t n=mlE m.h.m m.h.len∧Co m t n=Ms.z:=by
 have e:Ih m t n=mlE m.h.m m.h.len:=by rw [Ih,if_pos h]
 exact ⟨e,by rw [Co,e,if_pos h]⟩
theorem Fs {m:Ms} {t:Me} {n:Int} (h:¬mlE m.h.m m.h.len≠0) (h2:mlE t n≠0):Ih m t n=mlE t n∧Co m t n=Ms.z:=by
 have e:Ih m t n=mlE t n:=by rw [Ih,if_neg h,if_pos h2]
 exact ⟨e,by rw [Co,e,if_pos h2]⟩
theorem Ast {m:Ms} {t:Me} {n e:Int} (h:¬mlE m.h.m m.h.len≠0) (h2:¬mlE t n≠0) (h3:G5 (plS m.h.m m.h.len) (plS t n) m.cells=e) (h4:e≠0):Ih m t n=e∧Co m t n=Ms.z:=by
 have e:Ih m t n=e:=by rw [Ih,if_neg h,if_neg h2,h3]
 exact ⟨e,by rw [Co,e,if_pos h4]⟩
theorem Am0 {m:Ms} {t:Me} {n:Int} (h:¬mlE m.h.m m.h.len≠0) (h2:¬mlE t n≠0) (h3:G5 (plS m.h.m m.h.len) (plS t n) m.cells=0):Ih m t n=0∧Co m t n=Ahg m t n (plS m.h.m m.h.len) (plS t n):=by
 have e:Ih m t n=0:=by rw [Ih,if_neg h,if_neg h2,h3]
 exact ⟨e,by rw [Co,e,if_neg (by decide)]⟩
theorem V3 {m m':Ms} {e e':Int} (h:e=e'∧m=m'):D.tup [.agg (Ms.c m'),dI e']= .tup [.agg (Ms.c m),dI e]:=by rw [h.1,h.2]
theorem Am1 (h:Mh) (t:Me) (n:Int) (A B:Option Addr) (n0 c0 n1 c1:Nat):XC Tryz.prog 16 [.agg [dI (h.sh t n).site,dI (h.sh t n).num,dI (h.sh t n).m.count,dI (h.sh t n).m.unit,dI (h.sh t n).m.g0,dI (h.sh t n).m.g1,dI (h.sh t n).m.g2,dI (h.sh t n).m.g3,dI (h.sh t n).m.g4,dI (h.sh t n).m.g5,dI (h.sh t n).len,dI (h.sh t n).fifths,dB (h.sh t n).start,dI (h.sh t n).fin,dI (h.sh t n).ends,dI (h.sh t n).jump,dI (h.sh t n).labels,dI (h.sh t n).swing,dI (h.sh t n).brk, .v (.string ⟨(h.sh t n).reh.toArray⟩), .v (.slice A n0 c0), .v (.slice B n1 c1)]] (fun r=>r= .tup [.agg (Pl.c (plS t n)),dI (mlE t n)]):=by
 have k:=Amj (h.sh t n) A B n0 c0 n1 c1
 have e1:plS (h.sh t n).m (h.sh t n).len=plS t n:=Arz
 have e2:mlE (h.sh t n).m (h.sh t n).len=mlE t n:=T7
 rw [e1,e2] at k
 exact k
theorem T3 {t:Me} {n:Int} (h:¬mlE t n≠0):1≤(plS t n).len∧(plS t n).len≤15482880∧0≤(plS t n).off∧(plS t n).off≤123863040:=by
 have k:=Zm h
 have hl:=k.me.len
 rw [Vk h]
 exact ⟨k.lo,k.hi,by simp only;omega,by simp only;have:=k.lo;omega⟩
end Go.Proofs.YtaafemnkamfgnaaGreat
namespace Go.Proofs.YtaafemnkamfgnaaGreat
open Go.RowKit
theorem Afl (m:Ms) (t:Me) (n:Int) (hF:m.fit) (hE:m.evs):XC Tryz.prog 28 [.agg (Ms.c m), .agg (Me.c t), .v (.int .i64 n)] (fun r=>r= .tup [.agg (Ms.c (Co m t n)),dI (Ih m t n)]):=by
 refine Am Aeq Tryz.func28 R R lb<|zr<|?_
 refine XL.step R (An 3 (l:= [.d (dI m.h.site), .d (dI m.h.num), .d (dI m.h.m.count), .d (dI m.h.m.unit), .d (dI m.h.m.g0), .d (dI m.h.m.g1), .d (dI m.h.m.g2), .d (dI m.h.m.g3), .d (dI m.h.m.g4), .d (dI m.h.m.g5), .d (dI m.h.len), .d (dI m.h.fifths), .d (dB m.h.start), .d (dI m.h.fin), .d (dI m.h.ends), .d (dI m.h.jump), .d (dI m.h.labels), .d (dI m.h.swing), .d (dI m.h.brk), .d (.v (.string ⟨m.h.reh.toArray⟩)), .d (.sl 3 (m.tempi.map Tm.c)), .d (.sl 2 (m.cells.map Ce.c))]) R R (by kernel_rfl))<|?_
 refine XL.step R (An 4 (l:= [.d (dI t.count), .d (dI t.unit), .d (dI t.g0), .d (dI t.g1), .d (dI t.g2), .d (dI t.g3), .d (dI t.g4), .d (dI t.g5)]) R R (by kernel_rfl))<|?_
 refine XL.step R (Ao 6 (l:= [.d (dI 0), .d (dI 0), .d (dI 0), .d (dI 0), .d (dI 0), .d (dI 0), .d (dI 0), .d (dI 0), .d (dI 0), .d (dI 0), .d (dI 0), .d (dI 0), .d (dB false), .d (dI 0), .d (dI 0), .d (dI 0), .d (dI 0), .d (dI 0), .d (dI 0), .d (.v (.string ⟨#[]⟩)), .d (.v (.slice none 0 0)), .d (.v (.slice none 0 0))]) R C2 (by kernel_rfl))<|za R R<|znr<|?_
 refine zp (Ae (s':= .d (.agg (Ms.c m))) (Ac (Ad R R Bn R lb)) (by kernel_rfl))<|XL.call1 R R (Amk m.h m.tempi m.cells) R<|zm R R<|zp (Ar R R R)<|zp (Ar R R R)<|XL.step R (Ao 8 (l:= [.d (dI 0), .d (dI 0), .d (dI 0), .d (dI 0), .d (dI 0), .d (dI 0), .d (dI 0), .d (dI 0), .d (dI 0), .d (dI 0)]) R Fx (by kernel_rfl))<|?_
 refine XL.step R (Af (l':= [.d (dI (plS m.h.m m.h.len).m.count), .d (dI (plS m.h.m m.h.len).m.unit), .d (dI (plS m.h.m m.h.len).m.g0), .d (dI (plS m.h.m m.h.len).m.g1), .d (dI (plS m.h.m m.h.len).m.g2), .d (dI (plS m.h.m m.h.len).m.g3), .d (dI (plS m.h.m m.h.len).m.g4), .d (dI (plS m.h.m m.h.len).m.g5), .d (dI (plS m.h.m m.h.len).off), .d (dI (plS m.h.m m.h.len).len)]) R R R R Kf R lb (by kernel_rfl))<|?_
 refine za R R<|zn<|zs<|zr<|zm R R<|zp (Az R R R)<|zn<|?_
 refine zd R (fun c21=> ?_) (fun c21=> ?_)
 refine zr<|?_
 refine zp (Ae (s':= .d (.agg [dI 0,dI 0,dI 0,dI 0,dI 0,dI 0,dI 0,dI 0,dI 0,dI 0,dI 0,dI 0,dB false,dI 0,dI 0,dI 0,dI 0,dI 0,dI 0, .v (.string ⟨#[]⟩), .v (.slice none 0 0), .v (.slice none 0 0)])) (Ac (A1 (r:= [.d (dI 0), .d (dI 0), .d (dI 0), .d (dI 0), .d (dI 0), .d (dI 0), .d (dI 0), .d (dI 0), .d (dI 0), .d (dI 0), .d (dI 0), .d (dI 0), .d (dB false), .d (dI 0), .d (dI 0), .d (dI 0), .d (dI 0), .d (dI 0), .d (dI 0), .d (.v (.string ⟨#[]⟩)), .d (.v (.slice none 0 0)), .d (.v (.slice none 0 0))]) R F8 C2 (by kernel_rfl))) (by kernel_rfl))<|?_
 refine zm R R<|XL.step R (Af (l':= [.d (dI 0), .d (dI 0), .d (dI 0), .d (dI 0), .d (dI 0), .d (dI 0), .d (dI 0), .d (dI 0), .d (dI 0), .d (dI 0), .d (dI 0), .d (dI 0), .d (dB false), .d (dI 0), .d (dI 0), .d (dI 0), .d (dI 0), .d (dI 0), .d (dI 0), .d (.v (.string ⟨#[]⟩)), .d (.v (.slice none 0 0)), .d (.v (.slice none 0 0))]) R R R R Do R lb (by kernel_rfl))<|za R R<|zn<|zt<|?_
 exact Ax R (RV.sub (RV.cells R R R Bn lb R) (.agg (.cons (.same R) (.cons (.same R) (.cons (.same R) (.cons (.same R) (.cons (.same R) (.cons (.same R) (.cons (.same R) (.cons (.same R) (.cons (.same R) (.cons (.same R) (.cons (.same R) (.cons (.same R) (.cons (.same R) (.cons (.same R) (.cons (.same R) (.cons (.same R) (.cons (.same R) (.cons (.same R) (.cons (.same R) (.cons (.same R) (.cons (.nil 3) (.cons (.nil 2) (.nil))))))))))))))))))))))))) (RV.tmp R R) (V3 (F3 c21))
 refine zi<|zs<|?_
 refine M0 9 10 [7401,7402,10] id 10 (S4 10 (.box [.d (dI (m.h.sh t n).site), .d (dI (m.h.sh t n).num), .d (dI (m.h.sh t n).m.count), .d (dI (m.h.sh t n).m.unit), .d (dI (m.h.sh t n).m.g0), .d (dI (m.h.sh t n).m.g1), .d (dI (m.h.sh t n).m.g2), .d (dI (m.h.sh t n).m.g3), .d (dI (m.h.sh t n).m.g4), .d (dI (m.h.sh t n).m.g5), .d (dI (m.h.sh t n).len), .d (dI (m.h.sh t n).fifths), .d (dB (m.h.sh t n).start), .d (dI (m.h.sh t n).fin), .d (dI (m.h.sh t n).ends), .d (dI (m.h.sh t n).jump), .d (dI (m.h.sh t n).labels), .d (dI (m.h.sh t n).swing), .d (dI (m.h.sh t n).brk), .d (.v (.string ⟨(m.h.sh t n).reh.toArray⟩)), .own 7401, .own 7402])) (by kernel_rfl) (by kernel_rfl) (by kernel_rfl) (by kernel_rfl) R (by decide)<|?_
 refine ChMK.bf R (CStep.pure (Ae (s':= .d (.agg (Ms.c m))) (Ac (Ad R R Bn R lb)) (by kernel_rfl))) (by conv=>lhs;whnf)<|?_
 refine ChMK.bfS R (CStep.callS R (Ajk _ (by assumption)) R (Nn (by kernel_rfl))) (by conv=>lhs;whnf) (by simp only [List.forall_mem_cons];exact ⟨rfl,⟨rfl,fun p hp=>(by cases hp)⟩⟩) (by simp only [List.forall_mem_cons];exact ⟨rfl,⟨rfl,fun p hp=>(by cases hp)⟩⟩)<|?_
 refine ChMK.bf R (CStep.pure (Ae (s':= .d (.agg (Me.c t))) (Ac (Ad R R A8 R lb)) (by kernel_rfl))) (by conv=>lhs;whnf)<|?_
 refine ChMK.bf R (CStep.pure (At R (by conv=>lhs;whnf))) (by conv=>lhs;whnf)<|?_
 refine ChMK.bf R (CStep.callP [7401,7402] R [.agg [.d (dI m.h.site), .d (dI m.h.num), .d (dI m.h.m.count), .d (dI m.h.m.unit), .d (dI m.h.m.g0), .d (dI m.h.m.g1), .d (dI m.h.m.g2), .d (dI m.h.m.g3), .d (dI m.h.m.g4), .d (dI m.h.m.g5), .d (dI m.h.len), .d (dI m.h.fifths), .d (dB m.h.start), .d (dI m.h.fin), .d (dI m.h.ends), .d (dI m.h.jump), .d (dI m.h.labels), .d (dI m.h.swing), .d (dI m.h.brk), .d (.v (.string ⟨m.h.reh.toArray⟩)), .own 7401, .own 7402], .d (.agg (Me.c t)), .d (dI n)] R (s:= .tup [.agg [.d (dI (m.h.sh t n).site), .d (dI (m.h.sh t n).num), .d (dI (m.h.sh t n).m.count), .d (dI (m.h.sh t n).m.unit), .d (dI (m.h.sh t n).m.g0), .d (dI (m.h.sh t n).m.g1), .d (dI (m.h.sh t n).m.g2), .d (dI (m.h.sh t n).m.g3), .d (dI (m.h.sh t n).m.g4), .d (dI (m.h.sh t n).m.g5), .d (dI (m.h.sh t n).len), .d (dI (m.h.sh t n).fifths), .d (dB (m.h.sh t n).start), .d (dI (m.h.sh t n).fin), .d (dI (m.h.sh t n).ends), .d (dI (m.h.sh t n).jump), .d (dI (m.h.sh t n).labels), .d (dI (m.h.sh t n).swing), .d (dI (m.h.sh t n).brk), .d (.v (.string ⟨(m.h.sh t n).reh.toArray⟩)), .own 7401, .own 7402], .d (dI (mlE t n))]) (fun ρ=>Alp m.h _ _ _ _ _ _ t n) R R R R) (by conv=>lhs;whnf)<|?_
 refine ChMK.bf R (CStep.pure (At R (by conv=>lhs;whnf))) (by conv=>lhs;whnf)<|?_
 refine ChMK.bf R (CStep.pure (Ze R R R)) (by conv=>lhs;whnf)<|?_
 refine ChMK.fr R R (CStep.pure (Ze R R R)) (CStep.pure (Ze R R R)) (by exact rfl)<|?_
 refine ChMK.bfO R (CStep.allocN 10 (l:= [.d (dI 0), .d (dI 0), .d (dI 0), .d (dI 0), .d (dI 0), .d (dI 0), .d (dI 0), .d (dI 0), .d (dI 0), .d (dI 0), .d (dI 0), .d (dI 0), .d (dB false), .d (dI 0), .d (dI 0), .d (dI 0), .d (dI 0), .d (dI 0), .d (dI 0), .d (.v (.string ⟨#[]⟩)), .d (.v (.slice none 0 0)), .d (.v (.slice none 0 0))]) R C2 R R) (by conv=>lhs;whnf) (fun _ _=>Ami _ _)<|?_
 refine ChMK.mu R (Ap4 (l2:= [.d (dI (m.h.sh t n).site), .d (dI (m.h.sh t n).num), .d (dI (m.h.sh t n).m.count), .d (dI (m.h.sh t n).m.unit), .d (dI (m.h.sh t n).m.g0), .d (dI (m.h.sh t n).m.g1), .d (dI (m.h.sh t n).m.g2), .d (dI (m.h.sh t n).m.g3), .d (dI (m.h.sh t n).m.g4), .d (dI (m.h.sh t n).m.g5), .d (dI (m.h.sh t n).len), .d (dI (m.h.sh t n).fifths), .d (dB (m.h.sh t n).start), .d (dI (m.h.sh t n).fin), .d (dI (m.h.sh t n).ends), .d (dI (m.h.sh t n).jump), .d (dI (m.h.sh t n).labels), .d (dI (m.h.sh t n).swing), .d (dI (m.h.sh t n).brk), .d (.v (.string ⟨(m.h.sh t n).reh.toArray⟩)), .own 7401, .own 7402]) R R R R Do R lb (by kernel_rfl))<|?_
 refine ChMK.nil ⟨⟨by kernel_rfl,by kernel_rfl,by kernel_rfl⟩, ?_⟩
 refine za R R<|zn<|zs<|zr<|zm R R<|zp (Az R R R)<|zn<|?_
 refine zd R (fun c33=> ?_) (fun c33=> ?_)
 refine zr<|?_
 refine zp (Ae (s':= .d (.agg [dI 0,dI 0,dI 0,dI 0,dI 0,dI 0,dI 0,dI 0,dI 0,dI 0,dI 0,dI 0,dB false,dI 0,dI 0,dI 0,dI 0,dI 0,dI 0, .v (.string ⟨#[]⟩), .v (.slice none 0 0), .v (.slice none 0 0)])) (Ac (A1 (r:= [.d (dI 0), .d (dI 0), .d (dI 0), .d (dI 0), .d (dI 0), .d (dI 0), .d (dI 0), .d (dI 0), .d (dI 0), .d (dI 0), .d (dI 0), .d (dI 0), .d (dB false), .d (dI 0), .d (dI 0), .d (dI 0), .d (dI 0), .d (dI 0), .d (dI 0), .d (.v (.string ⟨#[]⟩)), .d (.v (.slice none 0 0)), .d (.v (.slice none 0 0))]) R F8 C2 (by kernel_rfl))) (by kernel_rfl))<|?_
 refine zm R R<|XL.step R (Af (l':= [.d (dI 0), .d (dI 0), .d (dI 0), .d (dI 0), .d (dI 0), .d (dI 0), .d (dI 0), .d (dI 0), .d (dI 0), .d (dI 0), .d (dI 0), .d (dI 0), .d (dB false), .d (dI 0), .d (dI 0), .d (dI 0), .d (dI 0), .d (dI 0), .d (dI 0), .d (.v (.string ⟨#[]⟩)), .d (.v (.slice none 0 0)), .d (.v (.slice none 0 0))]) R R R R Do R lb (by kernel_rfl))<|za R R<|zn<|zt<|?_
 exact Ax R (RV.sub (RV.cells R R R Bn lb R) (.agg (.cons (.same R) (.cons (.same R) (.cons (.same R) (.cons (.same R) (.cons (.same R) (.cons (.same R) (.cons (.same R) (.cons (.same R) (.cons (.same R) (.cons (.same R) (.cons (.same R) (.cons (.same R) (.cons (.same R) (.cons (.same R) (.cons (.same R) (.cons (.same R) (.cons (.same R) (.cons (.same R) (.cons (.same R) (.cons (.same R) (.cons (.nil 3) (.cons (.nil 2) (.nil))))))))))))))))))))))))) (RV.tmp R R) (V3 (Fs c21 c33))
 refine zi<|zr<|zp (Ac (Ad R R Bn R lb))<|?_
 refine XL.callP [7401,7402] R R [.agg [.d (dI (m.h.sh t n).site), .d (dI (m.h.sh t n).num), .d (dI (m.h.sh t n).m.count), .d (dI (m.h.sh t n).m.unit), .d (dI (m.h.sh t n).m.g0), .d (dI (m.h.sh t n).m.g1), .d (dI (m.h.sh t n).m.g2), .d (dI (m.h.sh t n).m.g3), .d (dI (m.h.sh t n).m.g4), .d (dI (m.h.sh t n).m.g5), .d (dI (m.h.sh t n).len), .d (dI (m.h.sh t n).fifths), .d (dB (m.h.sh t n).start), .d (dI (m.h.sh t n).fin), .d (dI (m.h.sh t n).ends), .d (dI (m.h.sh t n).jump), .d (dI (m.h.sh t n).labels), .d (dI (m.h.sh t n).swing), .d (dI (m.h.sh t n).brk), .d (.v (.string ⟨(m.h.sh t n).reh.toArray⟩)), .own 7401, .own 7402]] R (s:= .d (.tup [.agg (Pl.c (plS t n)),dI (mlE t n)])) (fun ρ=>Am1 m.h t n _ _ _ _ _ _) R R R R<|?_
 refine zm R R<|zp (Ar R R R)<|zp (Ar R R R)<|XL.step R (Ao 11 (l:= [.d (dI 0), .d (dI 0), .d (dI 0), .d (dI 0), .d (dI 0), .d (dI 0), .d (dI 0), .d (dI 0), .d (dI 0), .d (dI 0)]) R Fx (by kernel_rfl))<|?_
 refine XL.step R (Af (l':= [.d (dI (plS t n).m.count), .d (dI (plS t n).m.unit), .d (dI (plS t n).m.g0), .d (dI (plS t n).m.g1), .d (dI (plS t n).m.g2), .d (dI (plS t n).m.g3), .d (dI (plS t n).m.g4), .d (dI (plS t n).m.g5), .d (dI (plS t n).off), .d (dI (plS t n).len)]) R R R R Kf R lb (by kernel_rfl))<|za R R<|zn<|zs<|zr<|zm R R<|zp (Az R R R)<|zn<|?_
 refine zd R (fun c42=> ?_) (fun c42=> ?_)
 refine zr<|?_
 refine zp (Ae (s':= .d (.agg [dI 0,dI 0,dI 0,dI 0,dI 0,dI 0,dI 0,dI 0,dI 0,dI 0,dI 0,dI 0,dB false,dI 0,dI 0,dI 0,dI 0,dI 0,dI 0, .v (.string ⟨#[]⟩), .v (.slice none 0 0), .v (.slice none 0 0)])) (Ac (A1 (r:= [.d (dI 0), .d (dI 0), .d (dI 0), .d (dI 0), .d (dI 0), .d (dI 0), .d (dI 0), .d (dI 0), .d (dI 0), .d (dI 0), .d (dI 0), .d (dI 0), .d (dB false), .d (dI 0), .d (dI 0), .d (dI 0), .d (dI 0), .d (dI 0), .d (dI 0), .d (.v (.string ⟨#[]⟩)), .d (.v (.slice none 0 0)), .d (.v (.slice none 0 0))]) R F8 C2 (by kernel_rfl))) (by kernel_rfl))<|?_
 refine zm R R<|XL.step R (Af (l':= [.d (dI 0), .d (dI 0), .d (dI 0), .d (dI 0), .d (dI 0), .d (dI 0), .d (dI 0), .d (dI 0), .d (dI 0), .d (dI 0), .d (dI 0), .d (dI 0), .d (dB false), .d (dI 0), .d (dI 0), .d (dI 0), .d (dI 0), .d (dI 0), .d (dI 0), .d (.v (.string ⟨#[]⟩)), .d (.v (.slice none 0 0)), .d (.v (.slice none 0 0))]) R R R R Do R lb (by kernel_rfl))<|za R R<|zn<|zt<|?_
 exact Ax R (RV.sub (RV.cells R R R Bn lb R) (.agg (.cons (.same R) (.cons (.same R) (.cons (.same R) (.cons (.same R) (.cons (.same R) (.cons (.same R) (.cons (.same R) (.cons (.same R) (.cons (.same R) (.cons (.same R) (.cons (.same R) (.cons (.same R) (.cons (.same R) (.cons (.same R) (.cons (.same R) (.cons (.same R) (.cons (.same R) (.cons (.same R) (.cons (.same R) (.cons (.same R) (.cons (.nil 3) (.cons (.nil 2) (.nil))))))))))))))))))))))))) (RV.tmp R R) (V3 (Fs c21 c42))
 refine zi<|zs<|zs<|?_
 have h1:=hF.tempi
 have h2:=hF.cells
 have hO:=T3 c21
 have hP:=T3 (t:=t) (n:=n) c33
 refine Ag (by kernel_rfl)<|XL.freezeP 8 (ds:=Pl.c (plS m.h.m m.h.len)) R (by kernel_rfl) (by kernel_rfl)<|XL.freezeP 11 (ds:=Pl.c (plS t n)) R (by kernel_rfl) (by kernel_rfl)<|zp (Aa R R B9)<|zp (Ab R R Ep R R)<|zp (Ae (s':= .d (dI m.cells.length)) (Pn R R R Tryz.underlying28) (sI (by rw [List.length_map])))<|zm R R<|zn<|Ah<|?_
 refine A0 (α:=Nat) (fun k=>k≤m.cells.length∧G5 (plS m.h.m m.h.len) (plS t n) (m.cells.drop k)=G5 (plS m.h.m m.h.len) (plS t n) m.cells) (fun k=>mkF [(6, .ptr 6 0 0),(8, .d (.pt (Pl.c (plS m.h.m m.h.len)))),(10, .ptr 10 0 0),(11, .d (.pt (Pl.c (plS t n)))),(47, .d (dI m.cells.length)),(48, .d (dI k))]) (fun k=>mkH [(6, .box [.d (dI 0), .d (dI 0), .d (dI 0), .d (dI 0), .d (dI 0), .d (dI 0), .d (dI 0), .d (dI 0), .d (dI 0), .d (dI 0), .d (dI 0), .d (dI 0), .d (dB false), .d (dI 0), .d (dI 0), .d (dI 0), .d (dI 0), .d (dI 0), .d (dI 0), .d (.v (.string ⟨#[]⟩)), .d (.v (.slice none 0 0)), .d (.v (.slice none 0 0))]),(10, .box [.d (dI (m.h.sh t n).site), .d (dI (m.h.sh t n).num), .d (dI (m.h.sh t n).m.count), .d (dI (m.h.sh t n).m.unit), .d (dI (m.h.sh t n).m.g0), .d (dI (m.h.sh t n).m.g1), .d (dI (m.h.sh t n).m.g2), .d (dI (m.h.sh t n).m.g3), .d (dI (m.h.sh t n).m.g4), .d (dI (m.h.sh t n).m.g5), .d (dI (m.h.sh t n).len), .d (dI (m.h.sh t n).fifths), .d (dB (m.h.sh t n).start), .d (dI (m.h.sh t n).fin), .d (dI (m.h.sh t n).ends), .d (dI (m.h.sh t n).jump), .d (dI (m.h.sh t n).labels), .d (dI (m.h.sh t n).swing), .d (dI (m.h.sh t n).brk), .d (.v (.string ⟨(m.h.sh t n).reh.toArray⟩)), .own 7401, .own 7402]),(7401, .row 119 3 ((m.tempi).map Tm.c)),(7402, .tree 78 2 [] (mix Ce.u Ce.t ((m.cells.take k).map (Bo (plS m.h.m m.h.len) (plS t n))) (m.cells.drop k)))]) (fun k=>m.cells.length - k) (0) (⟨Nat.zero_le _,R⟩) ?_ ?_ ?_
 exact fz ⟨sr,sr,sr,sr,sr,sr,trivial⟩
 exact gz ⟨R,R,R,R,trivial⟩
 intro k hk0
 obtain ⟨hk,hgo⟩:=hk0
 refine zr<|zp (As R R R)<|zn<|zs<|?_
 refine zd R (fun c49=> ?_) (fun c49=> ?_)
 have hk0a:k<m.cells.length:=by omega
 obtain ⟨x0,hx0⟩:=Aw hk0a
 refine zi<|zs<|Ah<|zr<|zm R R<|za R R<|znr<|zp (Aa R R B9)<|zp (Ab R R Ep R R)<|zm R R<|zp (Ee R R R (R) R Fm (Hj hk0a))<|zp (Av R (by conv=>lhs;whnf))<|?_
 refine zn<|zs<|zs<|?_
 have hcl:=(hF.c x0 (List.mem_of_getElem? hx0)).clefs
 have hvl:=(hF.c x0 (List.mem_of_getElem? hx0)).voices
 refine Yb (i:=7402) (j:=7502) (k:=k) (m:=1) (l':=(mix Ce.u Ce.t ((m.cells.take k).map (Bo (plS m.h.m m.h.len) (plS t n))) (m.cells.drop k)).set k [.row 84 2 (((x0.clefs).map Cf.c).map (·.map T.d)), .own 7502]) [] (x0.voices.map Vo.t) R R R (Dj hx0) R (Vos.t_in [] _) (R)<|?_
 refine Pb (i:=7402) (j:=7501) (k:=k) (m:=0) (l':=(mix Ce.u Ce.t ((m.cells.take k).map (Bo (plS m.h.m m.h.len) (plS t n))) (m.cells.drop k)).set k [.own 7501, .own 7502]) ((x0.clefs).map Cf.c) R R R (Ck (Dj hx0)) R (List.set_set ..)<|Ag (by kernel_rfl)<|zp (At R (by conv=>lhs;whnf))<|?_
 refine zp (Iq R R)<|zp (Aa R R C8)<|zp (Ae (s':= .own 7502) (Dk R R Fy R (Ck (Dj hx0)) R) R)<|zp (Ae (s':= .d (dI x0.voices.length)) (Pn R R R Tryz.underlying76) (sI (by rw [List.length_map])))<|zm R R<|zn<|Ah<|?_
 refine A0 (α:=Nat) (fun j=>j≤x0.voices.length∧Gt (plS m.h.m m.h.len) (plS t n) (x0.voices.drop j)=Gt (plS m.h.m m.h.len) (plS t n) x0.voices) (fun j=>mkF [(6, .ptr 6 0 0),(8, .d (.pt (Pl.c (plS m.h.m m.h.len)))),(10, .ptr 10 0 0),(11, .d (.pt (Pl.c (plS t n)))),(13, .ptr 7402 k 0),(47, .d (dI m.cells.length)),(48, .d (dI k)),(59, .d (dI x0.voices.length)),(60, .d (dI j))]) (fun j=>mkH [(6, .box [.d (dI 0), .d (dI 0), .d (dI 0), .d (dI 0), .d (dI 0), .d (dI 0), .d (dI 0), .d (dI 0), .d (dI 0), .d (dI 0), .d (dI 0), .d (dI 0), .d (dB false), .d (dI 0), .d (dI 0), .d (dI 0), .d (dI 0), .d (dI 0), .d (dI 0), .d (.v (.string ⟨#[]⟩)), .d (.v (.slice none 0 0)), .d (.v (.slice none 0 0))]),(10, .box [.d (dI (m.h.sh t n).site), .d (dI (m.h.sh t n).num), .d (dI (m.h.sh t n).m.count), .d (dI (m.h.sh t n).m.unit), .d (dI (m.h.sh t n).m.g0), .d (dI (m.h.sh t n).m.g1), .d (dI (m.h.sh t n).m.g2), .d (dI (m.h.sh t n).m.g3), .d (dI (m.h.sh t n).m.g4), .d (dI (m.h.sh t n).m.g5), .d (dI (m.h.sh t n).len), .d (dI (m.h.sh t n).fifths), .d (dB (m.h.sh t n).start), .d (dI (m.h.sh t n).fin), .d (dI (m.h.sh t n).ends), .d (dI (m.h.sh t n).jump), .d (dI (m.h.sh t n).labels), .d (dI (m.h.sh t n).swing), .d (dI (m.h.sh t n).brk), .d (.v (.string ⟨(m.h.sh t n).reh.toArray⟩)), .own 7401, .own 7402]),(7401, .row 119 3 ((m.tempi).map Tm.c)),(7402, .tree 78 2 [7501,7502] ((mix Ce.u Ce.t ((m.cells.take k).map (Bo (plS m.h.m m.h.len) (plS t n))) (m.cells.drop k)).set k [.own 7501, .own 7502])),(7501, .row 84 2 ((x0.clefs).map Cf.c)),(7502, .tree 82 2 [] (mix Vo.u Vo.t ((x0.voices.take j).map (fun v=>(De v (plS m.h.m m.h.len) (plS t n)).1)) (x0.voices.drop j)))]) (fun j=>x0.voices.length - j) (0) (⟨Nat.zero_le _,R⟩) ?_ ?_ ?_
 exact fz ⟨sr,sr,sr,sr,sr,sr,sr,sr,sr,trivial⟩
 exact gz ⟨R,R,R,R,R,R,trivial⟩
 intro j hk2
 obtain ⟨hj,hgv⟩:=hk2
 refine zr<|zp (As R R R)<|zn<|zs<|?_
 refine zd R (fun c61=> ?_) (fun c61=> ?_)
 have hk2a:j<x0.voices.length:=by omega
 obtain ⟨x2,hx2⟩:=Aw hk2a
 refine zi<|zs<|Ah<|zr<|zm R R<|za R R<|zn<|zs<|?_
 have hfv:=(hF.c x0 (List.mem_of_getElem? hx0)).v x2 (List.mem_of_getElem? hx2)
 have hEv:=hE x0 (List.mem_of_getElem? hx0) x2 (List.mem_of_getElem? hx2)
 have hfl:=hfv.evs
 refine Pb (i:=7502) (j:=7601) (k:=j) (m:=0) (l':=(mix Vo.u Vo.t ((x0.voices.take j).map (fun v=>(De v (plS m.h.m m.h.len) (plS t n)).1)) (x0.voices.drop j)).set j [.own 7601, .row 157 4 (((x2.tups).map Tp.c).map (·.map T.d))]) ((x2.evs).map Ev.c) R R R (Dj hx2) R (R)<|?_
 refine Pb (i:=7502) (j:=7602) (k:=j) (m:=1) (l':=(mix Vo.u Vo.t ((x0.voices.take j).map (fun v=>(De v (plS m.h.m m.h.len) (plS t n)).1)) (x0.voices.drop j)).set j [.own 7601, .own 7602]) ((x2.tups).map Tp.c) R R R (Ck (Dj hx2)) R (List.set_set ..)<|Hm (i:=7602) R<|?_
 refine Sr (i:=7502) (l':=(mix Vo.u Vo.t ((x0.voices.take j).map (fun v=>(De v (plS m.h.m m.h.len) (plS t n)).1)) (x0.voices.drop j)).set j [.own 7601, .d (.sl 4 (x2.tups.map Tp.c))]) [7601] R (Nj (Rx [] _ _) R) (D5 (Rx [] _ _) (Gd (R) (R)) _)<|?_
 refine Va 14 19 20 (S.kills [900001,7601,5003,5004,5005,5006,5029,900002,7001]) (mkH [(6, .box [.d (dI 0), .d (dI 0), .d (dI 0), .d (dI 0), .d (dI 0), .d (dI 0), .d (dI 0), .d (dI 0), .d (dI 0), .d (dI 0), .d (dI 0), .d (dI 0), .d (dB false), .d (dI 0), .d (dI 0), .d (dI 0), .d (dI 0), .d (dI 0), .d (dI 0), .d (.v (.string ⟨#[]⟩)), .d (.v (.slice none 0 0)), .d (.v (.slice none 0 0))]),(10, .box [.d (dI (m.h.sh t n).site), .d (dI (m.h.sh t n).num), .d (dI (m.h.sh t n).m.count), .d (dI (m.h.sh t n).m.unit), .d (dI (m.h.sh t n).m.g0), .d (dI (m.h.sh t n).m.g1), .d (dI (m.h.sh t n).m.g2), .d (dI (m.h.sh t n).m.g3), .d (dI (m.h.sh t n).m.g4), .d (dI (m.h.sh t n).m.g5), .d (dI (m.h.sh t n).len), .d (dI (m.h.sh t n).fifths), .d (dB (m.h.sh t n).start), .d (dI (m.h.sh t n).fin), .d (dI (m.h.sh t n).ends), .d (dI (m.h.sh t n).jump), .d (dI (m.h.sh t n).labels), .d (dI (m.h.sh t n).swing), .d (dI (m.h.sh t n).brk), .d (.v (.string ⟨(m.h.sh t n).reh.toArray⟩)), .own 7401, .own 7402]),(7401, .row 119 3 ((m.tempi).map Tm.c)),(7402, .tree 78 2 [7501,7502] ((mix Ce.u Ce.t ((m.cells.take k).map (Bo (plS m.h.m m.h.len) (plS t n))) (m.cells.drop k)).set k [.own 7501, .own 7502])),(7501, .row 84 2 ((x0.clefs).map Cf.c)),(7502, .tree 82 2 [] ((mix Vo.u Vo.t ((x0.voices.take j).map (fun v=>(De v (plS m.h.m m.h.len) (plS t n)).1)) (x0.voices.drop j)).set j [.any, .d (.sl 4 (x2.tups.map Tp.c))]))]) (mkH [(6, .box [.d (dI 0), .d (dI 0), .d (dI 0), .d (dI 0), .d (dI 0), .d (dI 0), .d (dI 0), .d (dI 0), .d (dI 0), .d (dI 0), .d (dI 0), .d (dI 0), .d (dB false), .d (dI 0), .d (dI 0), .d (dI 0), .d (dI 0), .d (dI 0), .d (dI 0), .d (.v (.string ⟨#[]⟩)), .d (.v (.slice none 0 0)), .d (.v (.slice none 0 0))]),(10, .box [.d (dI (m.h.sh t n).site), .d (dI (m.h.sh t n).num), .d (dI (m.h.sh t n).m.count), .d (dI (m.h.sh t n).m.unit), .d (dI (m.h.sh t n).m.g0), .d (dI (m.h.sh t n).m.g1), .d (dI (m.h.sh t n).m.g2), .d (dI (m.h.sh t n).m.g3), .d (dI (m.h.sh t n).m.g4), .d (dI (m.h.sh t n).m.g5), .d (dI (m.h.sh t n).len), .d (dI (m.h.sh t n).fifths), .d (dB (m.h.sh t n).start), .d (dI (m.h.sh t n).fin), .d (dI (m.h.sh t n).ends), .d (dI (m.h.sh t n).jump), .d (dI (m.h.sh t n).labels), .d (dI (m.h.sh t n).swing), .d (dI (m.h.sh t n).brk), .d (.v (.string ⟨(m.h.sh t n).reh.toArray⟩)), .own 7401, .own 7402]),(7401, .row 119 3 ((m.tempi).map Tm.c)),(7402, .tree 78 2 [7501,7502] ((mix Ce.u Ce.t ((m.cells.take k).map (Bo (plS m.h.m m.h.len) (plS t n))) (m.cells.drop k)).set k [.own 7501, .own 7502])),(7501, .row 84 2 ((x0.clefs).map Cf.c)),(7502, .tree 82 2 [] ((mix Vo.u Vo.t ((x0.voices.take j).map (fun v=>(De v (plS m.h.m m.h.len) (plS t n)).1)) (x0.voices.drop j)).set j [.d (.sl 13 (((De x2 (plS m.h.m m.h.len) (plS t n)).1).evs.map Ev.c)), .d (.sl 4 (((De x2 (plS m.h.m m.h.len) (plS t n)).1).tups.map Tp.c))]))]) (by kernel_rfl) (by kernel_rfl) (by kernel_rfl) (by kernel_rfl)<|?_
 refine ChFK.fr R R (CStep.pure (At R (by conv=>lhs;whnf))) (CStep.pure (At R (by conv=>lhs;whnf))) (by exact rfl)<|?_
 refine ChFK.fr R R (CStep.pure (Iq R R)) (CStep.pure (Iq R R)) (by exact rfl)<|ChFK.fr R R (CStep.pure (Aa R R C8)) (CStep.pure (Aa R R C8)) (by exact rfl)<|?_
 refine ChFK.fr R R (CStep.pure (Ae (s':= .own 7502) (Dk R R Fy R (Ck (Dj hx0)) R) R)) (CStep.pure (Ae (s':= .own 7502) (Dk R R Fy R (Ck (Dj hx0)) R) R)) (by exact rfl)<|ChFK.fr R R (CStep.pure (At R (by conv=>lhs;whnf))) (CStep.pure (At R (by conv=>lhs;whnf))) (by exact rfl)<|?_
 refine ChFK.bf R (CStep.pure (At R (by conv=>lhs;whnf))) (by conv=>lhs;whnf)<|?_
 refine ChFK.bf R (CStep.pure (Iq R R)) (by conv=>lhs;whnf)<|?_
 refine ChFK.bf R (CStep.pure (Aa R R C8)) (by conv=>lhs;whnf)<|?_
 refine ChFK.bf R (CStep.pure (Ae (s':= .own 7502) (Dk R R Fy R (Ck (Dj hx0)) R) R)) (by conv=>lhs;whnf)<|?_
 refine ChFK.bf R (CStep.pure (At R (by conv=>lhs;whnf))) (by conv=>lhs;whnf)<|?_
 refine ChFK.bf R (CStep.pure (Ee R R R (R) R Je (H8 (Hj hk2a)))) (by conv=>lhs;whnf)<|?_
 refine ChFK.bf R (CStep.pure (Ae (s':=(.agg [.own 7601, .d (.sl 4 (x2.tups.map Tp.c))])) (Zd R R Aq R (Ck (Dj hx2)) lb) (by kernel_rfl))) (by conv=>lhs;whnf)<|?_
 refine ChFK.bf R (CStep.pure (Ae (s':= .d (.agg (Pl.c (plS m.h.m m.h.len)))) (A4 R R Fv lb) (by kernel_rfl))) (by conv=>lhs;whnf)<|?_
 refine ChFK.bf R (CStep.pure (Ae (s':= .d (.agg (Pl.c (plS t n)))) (A4 R R Fv lb) (by kernel_rfl))) (by conv=>lhs;whnf)<|?_
 refine ChFK.mu R (Atn 900001 [7601,5003,5004,5005,5006,5029,900002,7001] (.d (.tup [.agg (Vo.c (De x2 (plS m.h.m m.h.len) (plS t n)).1),dI (De x2 (plS m.h.m m.h.len) (plS t n)).2])) (mkH [(6, .box [.d (dI 0), .d (dI 0), .d (dI 0), .d (dI 0), .d (dI 0), .d (dI 0), .d (dI 0), .d (dI 0), .d (dI 0), .d (dI 0), .d (dI 0), .d (dI 0), .d (dB false), .d (dI 0), .d (dI 0), .d (dI 0), .d (dI 0), .d (dI 0), .d (dI 0), .d (.v (.string ⟨#[]⟩)), .d (.v (.slice none 0 0)), .d (.v (.slice none 0 0))]),(10, .box [.d (dI (m.h.sh t n).site), .d (dI (m.h.sh t n).num), .d (dI (m.h.sh t n).m.count), .d (dI (m.h.sh t n).m.unit), .d (dI (m.h.sh t n).m.g0), .d (dI (m.h.sh t n).m.g1), .d (dI (m.h.sh t n).m.g2), .d (dI (m.h.sh t n).m.g3), .d (dI (m.h.sh t n).m.g4), .d (dI (m.h.sh t n).m.g5), .d (dI (m.h.sh t n).len), .d (dI (m.h.sh t n).fifths), .d (dB (m.h.sh t n).start), .d (dI (m.h.sh t n).fin), .d (dI (m.h.sh t n).ends), .d (dI (m.h.sh t n).jump), .d (dI (m.h.sh t n).labels), .d (dI (m.h.sh t n).swing), .d (dI (m.h.sh t n).brk), .d (.v (.string ⟨(m.h.sh t n).reh.toArray⟩)), .own 7401, .own 7402]),(7401, .row 119 3 ((m.tempi).map Tm.c)),(7402, .tree 78 2 [7501,7502] ((mix Ce.u Ce.t ((m.cells.take k).map (Bo (plS m.h.m m.h.len) (plS t n))) (m.cells.drop k)).set k [.own 7501, .own 7502])),(7501, .row 84 2 ((x0.clefs).map Cf.c)),(7502, .tree 82 2 [] ((mix Vo.u Vo.t ((x0.voices.take j).map (fun v=>(De v (plS m.h.m m.h.len) (plS t n)).1)) (x0.voices.drop j)).set j [.any, .d (.sl 4 (x2.tups.map Tp.c))]))]) R .d Aea Tryz.func63 R R lb (fun u1 fp1=> ?_)) ?_
 refine Ak9 (i:=7502) (k:=j) (m:=0) (l':=(mix Vo.u Vo.t ((x0.voices.take j).map (fun v=>(De v (plS m.h.m m.h.len) (plS t n)).1)) (x0.voices.drop j)).set j [.any, .d (.sl 4 (x2.tups.map Tp.c))]) [] R (Ck (Dj hx2)) R (List.set_set ..) (D5 (Rx [] _ _) (Gd (R) (R)) _)<|zr<|XL.step R (An 5003 (l:= [.own 7601, .d (.sl 4 (x2.tups.map Tp.c))]) R R (by kernel_rfl))<|?_
 refine XL.step R (An 5004 (l:= [.d (dI (plS m.h.m m.h.len).m.count), .d (dI (plS m.h.m m.h.len).m.unit), .d (dI (plS m.h.m m.h.len).m.g0), .d (dI (plS m.h.m m.h.len).m.g1), .d (dI (plS m.h.m m.h.len).m.g2), .d (dI (plS m.h.m m.h.len).m.g3), .d (dI (plS m.h.m m.h.len).m.g4), .d (dI (plS m.h.m m.h.len).m.g5), .d (dI (plS m.h.m m.h.len).off), .d (dI (plS m.h.m m.h.len).len)]) R R (by kernel_rfl))<|?_
 refine XL.step R (An 5005 (l:= [.d (dI (plS t n).m.count), .d (dI (plS t n).m.unit), .d (dI (plS t n).m.g0), .d (dI (plS t n).m.g1), .d (dI (plS t n).m.g2), .d (dI (plS t n).m.g3), .d (dI (plS t n).m.g4), .d (dI (plS t n).m.g5), .d (dI (plS t n).off), .d (dI (plS t n).len)]) R R (by kernel_rfl))<|?_
 refine XL.step R (Ao 5006 (l:= [.d (.v (.slice none 0 0)), .d (.v (.slice none 0 0))]) R Bf (by kernel_rfl))<|za R R<|znr<|za R R<|zn<|zs<|Ah<|zr<|zp (Ac (Ad R R Aq R lb))<|?_
 refine XL.inl 900002 [(3, .ptr 5003 0 0),(4, .ptr 5004 0 0),(5, .ptr 5005 0 0),(6, .ptr 5006 0 0),(7, .d (dI 0)),(8, .d (dI 0))] R R .d Sj Tryz.func56 R R lb (by simp only [List.forall_mem_cons];exact ⟨⟨Nat.le_of_ble_eq_true rfl,rfl⟩,⟨⟨Nat.le_of_ble_eq_true rfl,rfl⟩,⟨⟨Nat.le_of_ble_eq_true rfl,rfl⟩,⟨⟨Nat.le_of_ble_eq_true rfl,rfl⟩,⟨⟨Nat.le_of_ble_eq_true rfl,rfl⟩,⟨⟨Nat.le_of_ble_eq_true rfl,rfl⟩,fun p hp=>(by cases hp)⟩⟩⟩⟩⟩⟩) fun u2=>?_
 refine zr<|XL.step R (An 7001 (l:= [.own 7601, .d (.sl 4 (x2.tups.map Tp.c))]) R R (by kernel_rfl))<|za R R<|znr<|zp (Aa R R Bk)<|zp (Ab R R Cz R R)<|zp (B4 R R R Tryz.underlying79)<|zp (Bb R R R)<|za R R<|zn<|zt<|?_
 refine (D4 (l:= [(3, .ptr 5003 0 0),(4, .ptr 5004 0 0),(5, .ptr 5005 0 0),(6, .ptr 5006 0 0),(7, .d (dI 0)),(8, .d (dI 0))]) (by kernel_rfl) (rs1 R (RV.tmp R R)) ?_).2
 refine zp (Eu R R)<|zm R R<|?_
 refine XL.dec 35 R (fun g35i=> ?_) (fun g35i=> ?_)
 refine zk 5 R<|zq R R R<|zm R R<|zk 12 R<|zq R R R<|za R R<|zn<|Ay (by kernel_rfl) R<|zr<|XL.freeze (i:=7601) R<|zp (Ae (s':= .d (.agg [.sl 13 (x2.evs.map Ev.c), .sl 4 (x2.tups.map Tp.c)])) (Ac (Ad R R Aq R lb)) (by kernel_rfl))<|XL.step R (Af (l':= [.d (.sl 13 (x2.evs.map Ev.c)), .d (.sl 4 (x2.tups.map Tp.c))]) R R R R Bm R lb (by kernel_rfl))<|za R R<|zn<|?_
 refine zt<|?_
 exact Kr R (by repeat (first|exact GL.z|refine GL.k ?_ rfl|refine GL.f ?_ rfl|refine GL.p ?_ rfl)) (Kj (rs2 R (RV.cells R R R Aq lb R) (RV.tmp R R)) (congrArg S.d (Np (Pv (by unfold Vo.same;omega))))) (gz ⟨R,R,R,R,R,R,trivial⟩)
 refine zp (Aa R R Cw)<|zp (Ab R R Ai R R)<|zp (Aa R R Cw)<|zp (Ab R R Ai R R)<|zp (A7 R R R)<|zq R R R<|zm R R<|?_
 refine XL.dec 42 R (fun g42i=> ?_) (fun g42i=> ?_)
 refine zk 12 R<|zq R R R<|za R R<|zn<|Ay (by kernel_rfl) R<|zr<|XL.freeze (i:=7601) R<|zp (Ae (s':= .d (.agg [.sl 13 (x2.evs.map Ev.c), .sl 4 (x2.tups.map Tp.c)])) (Ac (Ad R R Aq R lb)) (by kernel_rfl))<|XL.step R (Af (l':= [.d (.sl 13 (x2.evs.map Ev.c)), .d (.sl 4 (x2.tups.map Tp.c))]) R R R R Bm R lb (by kernel_rfl))<|za R R<|zn<|zt<|?_
 exact Kr R (by repeat (first|exact GL.z|refine GL.k ?_ rfl|refine GL.f ?_ rfl|refine GL.p ?_ rfl)) (Kj (rs2 R (RV.cells R R R Aq lb R) (RV.tmp R R)) (congrArg S.d (Np (Pv (by unfold Vo.same;omega))))) (gz ⟨R,R,R,R,R,R,trivial⟩)
 refine zp (Aa R R Bk)<|zp (Ab R R Cz R R)<|zp (B4 R R R Tryz.underlying79)<|zp (A7 R R R)<|zm R R<|?_
 refine XL.dec 47 R (fun g47i=> ?_) (fun g47i=> ?_)
 obtain ⟨e0,he0⟩:∃e,x2.evs[0]? =some e:=Aw (by omega)
 have hwh:=Jy he0
 refine zp (Aa R R Bk)<|zp (Ab R R Cz R R)<|zp (Cd R R R ((R:(0:Int)=((0:Nat):Int))) R G7 (by first|omega|(simp only [List.length_map];omega)))<|zp (Aa R R Df)<|zp (I9 R R Ai R (Cv he0) R)<|zp (A7 R R R)<|zq R R R<|zq R R R<|za R R<|zn<|?_
 refine zd R (fun c31i=> ?_) (fun c31i=> ?_)
 refine zr<|XL.freeze (i:=7601) R<|zp (Ae (s':= .d (.agg [.sl 13 (x2.evs.map Ev.c), .sl 4 (x2.tups.map Tp.c)])) (Ac (Ad R R Aq R lb)) (by kernel_rfl))<|XL.step R (Af (l':= [.d (.sl 13 (x2.evs.map Ev.c)), .d (.sl 4 (x2.tups.map Tp.c))]) R R R R Bm R lb (by kernel_rfl))<|za R R<|zn<|zt<|?_
 exact Kr R (by repeat (first|exact GL.z|refine GL.k ?_ rfl|refine GL.f ?_ rfl|refine GL.p ?_ rfl)) (Kj (rs2 R (RV.cells R R R Aq lb R) (RV.tmp R R)) (congrArg S.d (Np (Pv (.inr (.inr ⟨by omega,hwh.2 (by omega)⟩)))))) (gz ⟨rfl,rfl,rfl,rfl,rfl,rfl,trivial⟩)
 refine zr<|zp (Aa R R Cw)<|zp (Ab R R Ai R R)<|zp (Aa R R Cw)<|zp (Ab R R Ai R R)<|zp (As R R R)<|za R R<|zn<|?_
 refine zd R (fun c57i=> ?_) (fun c57i=> ?_)
 refine Ag (by kernel_rfl)<|XL.freeze (i:=7601) R<|zp (Ae (s':= .d (.agg (Vo.c x2))) (Ac (Ad R R Aq R lb)) (by kernel_rfl))<|zp (Ae (s':= .d (.agg (Pl.c (plS m.h.m m.h.len)))) (Ac (Ad R R Fv R lb)) (by kernel_rfl))<|zp (Aa R R Cw)<|zp (Ab R R Ai R R)<|XL.call1 R R (U3 _ _ _ _ (by assumption) (by assumption)) R<|?_
 refine zm R R<|zp (Ar R R R)<|zp (Ar R R R)<|XL.step R (Af (l':= [.d (.sl 13 (((Dv x2 (plS m.h.m m.h.len) 0 ((plS t n).len)).1).evs.map Ev.c)), .d (.sl 4 (((Dv x2 (plS m.h.m m.h.len) 0 ((plS t n).len)).1).tups.map Tp.c))]) R R R R Bm R lb (by kernel_rfl))<|za R R<|zn<|zs<|zr<|zm R R<|zp (Az R R R)<|zn<|?_
 refine zd R (fun c72i=> ?_) (fun c72i=> ?_)
 refine zr<|zp (Ae (s':= .d (.agg [.v (.slice none 0 0), .v (.slice none 0 0)])) (Ac (A1 R C5 Bf R)) (by kernel_rfl))<|zm R R<|XL.step R (Af (l':= [.d (.v (.slice none 0 0)), .d (.v (.slice none 0 0))]) R R R R Bm R lb (by kernel_rfl))<|za R R<|zn<|zt<|?_
 exact Kr R (by repeat (first|exact GL.z|refine GL.k ?_ rfl|refine GL.f ?_ rfl|refine GL.p ?_ rfl)) (Kj (rs2 R (RV.sub (RV.cells R R R Aq lb R) (.agg (.cons (.nil 13) (.cons (.nil 4) (.nil))))) (RV.tmp R R)) (congrArg S.d (Np (Kv (by unfold Vo.same;rw [hwh];omega) c57i c72i)))) (gz ⟨R,R,R,R,R,R,trivial⟩)
 refine zi<|zs<|?_
 have hEc:=(P5 (v:=x2) (p:=(plS m.h.m m.h.len)) (a:=0) (b:=(plS t n).len) (by omega) hfv).1
 refine Cj 5 [] (by kernel_rfl) (by kernel_rfl) (by kernel_rfl) (by kernel_rfl) (by decide)<|yp (Ae (s':= .d (.agg (Vo.c (Dv x2 (plS m.h.m m.h.len) 0 ((plS t n).len)).1))) (Ac (Ad R R Aq R lb)) (by kernel_rfl))<|yp (Ae (s':= .d (.agg (Vo.c (Dv x2 (plS m.h.m m.h.len) 0 ((plS t n).len)).1))) (Ac (Ad R R Aq R lb)) (by kernel_rfl))<|?_
 refine yp (Aa R R Cw)<|yp (Ab R R Ai R R)<|ChK.cons R (CStep.call R (H6 _ _ (by assumption)) R)<|?_
 refine ChK.nil ⟨by kernel_rfl, ?_⟩
 refine XL.step R (Af (l':= [.d (.sl 13 (((Dv x2 (plS m.h.m m.h.len) 0 ((plS t n).len)).1).evs.map Ev.c)), .d (.sl 4 (((Dv x2 (plS m.h.m m.h.len) 0 ((plS t n).len)).1).tups.map Tp.c))]) R R R R Bm R lb (by kernel_rfl))<|za R R<|zn<|zt<|?_
 exact Kr R (by repeat (first|exact GL.z|refine GL.k ?_ rfl|refine GL.f ?_ rfl|refine GL.p ?_ rfl)) (Kj (rs2 R (RV.cells R R R Aq lb R) (RV.tmp R R)) (congrArg S.d (Np (Fq (by unfold Vo.same;rw [hwh];omega) c57i c72i)))) (gz ⟨R,R,R,R,R,R,trivial⟩)
 refine zr<|za R R<|zn<|zs<|?_
 have hrl:=N8 (plS t n).m ((plS t n).off+(plS m.h.m m.h.len).len) ((plS t n).off+(plS t n).len)
 refine Ag (by kernel_rfl)<|zp (Aa R R Ns)<|zp (Ae (s':= .d (.agg (Me.c (plS t n).m))) (Ac (Ad R R A8 R lb)) (by kernel_rfl))<|zp (Aa R R E0)<|zp (Ab R R Ai R R)<|zp (Aa R R Cw)<|zp (Ab R R Ai R R)<|zp (Ak R R R (by omega) (by omega))<|zp (Aa R R E0)<|zp (Ab R R Ai R R)<|?_
 refine zp (Aa R R Cw)<|zp (Ab R R Ai R R)<|zp (Ak R R R (by omega) (by omega))<|XL.call1 R R (Sx _ _ _) R<|zm R R<|zp (Ar R R R)<|zp (Ar R R R)<|za R R<|za R R<|zng<|zp (Aa R R Bk)<|zp (Ab R R Cz R R)<|zm R R<|XL.step R (A3 R Fb (.own R) (Src.sl (by omega)) (by unfold maxLen;simp;omega) (by simp;omega))<|?_
 refine XL.rowq (i:=7601) (l':=(x2.evs++G2 (plS t n).m ((plS t n).off+(plS m.h.m m.h.len).len) ((plS t n).off+(plS t n).len)).map Ev.c) R (Mw)<|zp (Aa R R Bk)<|XL.step R (Af (l':= [.own 7601, .d (.sl 4 (x2.tups.map Tp.c))]) R R R R N2 R lb (by kernel_rfl))<|zn<|zs<|zr<|zm R R<|zp (Az R R R)<|zn<|?_
 refine zd R (fun c72i=> ?_) (fun c72i=> ?_)
 refine zr<|zp (Ae (s':= .d (.agg [.v (.slice none 0 0), .v (.slice none 0 0)])) (Ac (A1 R C5 Bf R)) (by kernel_rfl))<|zm R R<|XL.step R (Af (l':= [.d (.v (.slice none 0 0)), .d (.v (.slice none 0 0))]) R R R R Bm R lb (by kernel_rfl))<|za R R<|zn<|zt<|?_
 exact Kr R (by repeat (first|exact GL.z|refine GL.k ?_ rfl|refine GL.f ?_ rfl|refine GL.p ?_ rfl)) (Kj (rs2 R (RV.sub (RV.cells R R R Aq lb R) (.agg (.cons (.nil 13) (.cons (.nil 4) (.nil))))) (RV.tmp R R)) (congrArg S.d (Np (Ku (by unfold Vo.same;rw [hwh];omega) c57i c72i)))) (gz ⟨R,R,R,R,R,R,trivial⟩)
 refine zi<|zs<|?_
 have hEc:=R4 hEv (N9 (plS t n).m ((plS t n).off+(plS m.h.m m.h.len).len) ((plS t n).off+(plS t n).len))
 refine Hm (i:=7601) R<|Cj 5 [] (by kernel_rfl) (by kernel_rfl) (by kernel_rfl) (by kernel_rfl) (by decide)<|yp (Ae (s':= .d (.agg (Vo.c (Jo x2 (plS m.h.m m.h.len) (plS t n))))) (Ac (Ad R R Aq R lb)) (by kernel_rfl))<|yp (Ae (s':= .d (.agg (Vo.c (Jo x2 (plS m.h.m m.h.len) (plS t n))))) (Ac (Ad R R Aq R lb)) (by kernel_rfl))<|?_
 refine yp (Aa R R Cw)<|yp (Ab R R Ai R R)<|ChK.cons R (CStep.call R (H6 _ _ (by assumption)) R)<|?_
 refine ChK.nil ⟨by kernel_rfl, ?_⟩
 refine XL.step R (Af (l':= [.d (.sl 13 ((Jo x2 (plS m.h.m m.h.len) (plS t n)).evs.map Ev.c)), .d (.sl 4 ((Jo x2 (plS m.h.m m.h.len) (plS t n)).tups.map Tp.c))]) R R R R Bm R lb (by kernel_rfl))<|za R R<|zn<|zt<|?_
 exact Kr R (by repeat (first|exact GL.z|refine GL.k ?_ rfl|refine GL.f ?_ rfl|refine GL.p ?_ rfl)) (Kj (rs2 R (RV.cells R R R Aq lb R) (RV.tmp R R)) (congrArg S.d (Np (Fp (by unfold Vo.same;rw [hwh];omega) c57i c72i)))) (gz ⟨R,R,R,R,R,R,trivial⟩)
 refine zk 6 R<|zq R R R<|zq R R R<|za R R<|zn<|A9 (by kernel_rfl) R<|zr<|zp (Aa R R Cw)<|zp (Ab R R Ai R R)<|zp (Aa R R Cw)<|zp (Ab R R Ai R R)<|zp (As R R R)<|za R R<|zn<|?_
 refine zd R (fun c57i=> ?_) (fun c57i=> ?_)
 refine Ag (by kernel_rfl)<|XL.freeze (i:=7601) R<|zp (Ae (s':= .d (.agg (Vo.c x2))) (Ac (Ad R R Aq R lb)) (by kernel_rfl))<|zp (Ae (s':= .d (.agg (Pl.c (plS m.h.m m.h.len)))) (Ac (Ad R R Fv R lb)) (by kernel_rfl))<|zp (Aa R R Cw)<|zp (Ab R R Ai R R)<|XL.call1 R R (U3 _ _ _ _ (by assumption) (by assumption)) R<|?_
 refine zm R R<|zp (Ar R R R)<|zp (Ar R R R)<|XL.step R (Af (l':= [.d (.sl 13 (((Dv x2 (plS m.h.m m.h.len) 0 ((plS t n).len)).1).evs.map Ev.c)), .d (.sl 4 (((Dv x2 (plS m.h.m m.h.len) 0 ((plS t n).len)).1).tups.map Tp.c))]) R R R R Bm R lb (by kernel_rfl))<|za R R<|zn<|zs<|zr<|zm R R<|zp (Az R R R)<|zn<|?_
 refine zd R (fun c72i=> ?_) (fun c72i=> ?_)
 refine zr<|zp (Ae (s':= .d (.agg [.v (.slice none 0 0), .v (.slice none 0 0)])) (Ac (A1 R C5 Bf R)) (by kernel_rfl))<|zm R R<|XL.step R (Af (l':= [.d (.v (.slice none 0 0)), .d (.v (.slice none 0 0))]) R R R R Bm R lb (by kernel_rfl))<|za R R<|zn<|zt<|?_
 exact Kr R (by repeat (first|exact GL.z|refine GL.k ?_ rfl|refine GL.f ?_ rfl|refine GL.p ?_ rfl)) (Kj (rs2 R (RV.sub (RV.cells R R R Aq lb R) (.agg (.cons (.nil 13) (.cons (.nil 4) (.nil))))) (RV.tmp R R)) (congrArg S.d (Np (Kv (by unfold Vo.same;omega) c57i c72i)))) (gz ⟨R,R,R,R,R,R,trivial⟩)
 refine zi<|zs<|?_
 have hEc:=(P5 (v:=x2) (p:=(plS m.h.m m.h.len)) (a:=0) (b:=(plS t n).len) (by omega) hfv).1
 refine Cj 5 [] (by kernel_rfl) (by kernel_rfl) (by kernel_rfl) (by kernel_rfl) (by decide)<|yp (Ae (s':= .d (.agg (Vo.c (Dv x2 (plS m.h.m m.h.len) 0 ((plS t n).len)).1))) (Ac (Ad R R Aq R lb)) (by kernel_rfl))<|yp (Ae (s':= .d (.agg (Vo.c (Dv x2 (plS m.h.m m.h.len) 0 ((plS t n).len)).1))) (Ac (Ad R R Aq R lb)) (by kernel_rfl))<|?_
 refine yp (Aa R R Cw)<|yp (Ab R R Ai R R)<|ChK.cons R (CStep.call R (H6 _ _ (by assumption)) R)<|?_
 refine ChK.nil ⟨by kernel_rfl, ?_⟩
 refine XL.step R (Af (l':= [.d (.sl 13 (((Dv x2 (plS m.h.m m.h.len) 0 ((plS t n).len)).1).evs.map Ev.c)), .d (.sl 4 (((Dv x2 (plS m.h.m m.h.len) 0 ((plS t n).len)).1).tups.map Tp.c))]) R R R R Bm R lb (by kernel_rfl))<|za R R<|zn<|zt<|?_
 exact Kr R (by repeat (first|exact GL.z|refine GL.k ?_ rfl|refine GL.f ?_ rfl|refine GL.p ?_ rfl)) (Kj (rs2 R (RV.cells R R R Aq lb R) (RV.tmp R R)) (congrArg S.d (Np (Fq (by unfold Vo.same;omega) c57i c72i)))) (gz ⟨R,R,R,R,R,R,trivial⟩)
 refine zr<|za R R<|zn<|zs<|?_
 have hrl:=N8 (plS t n).m ((plS t n).off+(plS m.h.m m.h.len).len) ((plS t n).off+(plS t n).len)
 refine Ag (by kernel_rfl)<|zp (Aa R R Ns)<|zp (Ae (s':= .d (.agg (Me.c (plS t n).m))) (Ac (Ad R R A8 R lb)) (by kernel_rfl))<|zp (Aa R R E0)<|zp (Ab R R Ai R R)<|zp (Aa R R Cw)<|zp (Ab R R Ai R R)<|zp (Ak R R R (by omega) (by omega))<|zp (Aa R R E0)<|zp (Ab R R Ai R R)<|?_
 refine zp (Aa R R Cw)<|zp (Ab R R Ai R R)<|zp (Ak R R R (by omega) (by omega))<|XL.call1 R R (Sx _ _ _) R<|zm R R<|zp (Ar R R R)<|zp (Ar R R R)<|za R R<|za R R<|zng<|zp (Aa R R Bk)<|zp (Ab R R Cz R R)<|zm R R<|XL.step R (A3 R Fb (.own R) (Src.sl (by omega)) (by unfold maxLen;simp;omega) (by simp;omega))<|?_
 refine XL.rowq (i:=7601) (l':=(x2.evs++G2 (plS t n).m ((plS t n).off+(plS m.h.m m.h.len).len) ((plS t n).off+(plS t n).len)).map Ev.c) R (Mw)<|zp (Aa R R Bk)<|XL.step R (Af (l':= [.own 7601, .d (.sl 4 (x2.tups.map Tp.c))]) R R R R N2 R lb (by kernel_rfl))<|zn<|zs<|zr<|zm R R<|zp (Az R R R)<|zn<|?_
 refine zd R (fun c72i=> ?_) (fun c72i=> ?_)
 refine zr<|zp (Ae (s':= .d (.agg [.v (.slice none 0 0), .v (.slice none 0 0)])) (Ac (A1 R C5 Bf R)) (by kernel_rfl))<|zm R R<|XL.step R (Af (l':= [.d (.v (.slice none 0 0)), .d (.v (.slice none 0 0))]) R R R R Bm R lb (by kernel_rfl))<|za R R<|zn<|zt<|?_
 exact Kr R (by repeat (first|exact GL.z|refine GL.k ?_ rfl|refine GL.f ?_ rfl|refine GL.p ?_ rfl)) (Kj (rs2 R (RV.sub (RV.cells R R R Aq lb R) (.agg (.cons (.nil 13) (.cons (.nil 4) (.nil))))) (RV.tmp R R)) (congrArg S.d (Np (Ku (by unfold Vo.same;omega) c57i c72i)))) (gz ⟨R,R,R,R,R,R,trivial⟩)
 refine zi<|zs<|?_
 have hEc:=R4 hEv (N9 (plS t n).m ((plS t n).off+(plS m.h.m m.h.len).len) ((plS t n).off+(plS t n).len))
 refine Hm (i:=7601) R<|Cj 5 [] (by kernel_rfl) (by kernel_rfl) (by kernel_rfl) (by kernel_rfl) (by decide)<|yp (Ae (s':= .d (.agg (Vo.c (Jo x2 (plS m.h.m m.h.len) (plS t n))))) (Ac (Ad R R Aq R lb)) (by kernel_rfl))<|yp (Ae (s':= .d (.agg (Vo.c (Jo x2 (plS m.h.m m.h.len) (plS t n))))) (Ac (Ad R R Aq R lb)) (by kernel_rfl))<|?_
 refine yp (Aa R R Cw)<|yp (Ab R R Ai R R)<|ChK.cons R (CStep.call R (H6 _ _ (by assumption)) R)<|?_
 refine ChK.nil ⟨by kernel_rfl, ?_⟩
 refine XL.step R (Af (l':= [.d (.sl 13 ((Jo x2 (plS m.h.m m.h.len) (plS t n)).evs.map Ev.c)), .d (.sl 4 ((Jo x2 (plS m.h.m m.h.len) (plS t n)).tups.map Tp.c))]) R R R R Bm R lb (by kernel_rfl))<|za R R<|zn<|zt<|?_
 exact Kr R (by repeat (first|exact GL.z|refine GL.k ?_ rfl|refine GL.f ?_ rfl|refine GL.p ?_ rfl)) (Kj (rs2 R (RV.cells R R R Aq lb R) (RV.tmp R R)) (congrArg S.d (Np (Fp (by unfold Vo.same;omega) c57i c72i)))) (gz ⟨R,R,R,R,R,R,trivial⟩)
 refine ChFK.af R (CStep.pure (At R (by conv=>lhs;whnf)))<|?_
 refine ChFK.af R (CStep.pure (Ar R R R))<|ChFK.fl R (CStep.pure (Ar R R R)) (CStep.pure (Ar R R R))<|ChFK.af R (CStep.pure (Ee R R R (R) R Je (H8 (Hj hk2a))))<|?_
 refine ChFK.st R (Z9 [] (l':=(mix Vo.u Vo.t ((x0.voices.take j).map (fun v=>(De v (plS m.h.m m.h.len) (plS t n)).1)) (x0.voices.drop j)).set j [.d (.sl 13 (((De x2 (plS m.h.m m.h.len) (plS t n)).1).evs.map Ev.c)), .d (.sl 4 (((De x2 (plS m.h.m m.h.len) (plS t n)).1).tups.map Tp.c))]) R R R (Ck (Dj hx2)) R Bm R lb R R (List.set_set ..) (gz ⟨R,R,R,R,R,R,trivial⟩))<|?_
 refine ChFK.nil ⟨⟨by kernel_rfl,by kernel_rfl,by kernel_rfl⟩, ?_⟩
 refine XL.rowqT (i:=7502) (l':=mix Vo.u Vo.t ((x0.voices.take (j+1)).map (fun v=>(De v (plS m.h.m m.h.len) (plS t n)).1)) (x0.voices.drop (j+1))) [] R (Pt hx2) (Rx [] _ _)<|za R R<|znr<|zm R R<|zp (Az R R R)<|zn<|?_
 refine zd R (fun c83=> ?_) (fun c83=> ?_)
 refine zr<|?_
 refine zp (Ae (s':= .d (.agg [dI 0,dI 0,dI 0,dI 0,dI 0,dI 0,dI 0,dI 0,dI 0,dI 0,dI 0,dI 0,dB false,dI 0,dI 0,dI 0,dI 0,dI 0,dI 0, .v (.string ⟨#[]⟩), .v (.slice none 0 0), .v (.slice none 0 0)])) (Ac (A1 (r:= [.d (dI 0), .d (dI 0), .d (dI 0), .d (dI 0), .d (dI 0), .d (dI 0), .d (dI 0), .d (dI 0), .d (dI 0), .d (dI 0), .d (dI 0), .d (dI 0), .d (dB false), .d (dI 0), .d (dI 0), .d (dI 0), .d (dI 0), .d (dI 0), .d (dI 0), .d (.v (.string ⟨#[]⟩)), .d (.v (.slice none 0 0)), .d (.v (.slice none 0 0))]) R F8 C2 (by kernel_rfl))) (by kernel_rfl))<|?_
 refine zm R R<|XL.step R (Af (l':= [.d (dI 0), .d (dI 0), .d (dI 0), .d (dI 0), .d (dI 0), .d (dI 0), .d (dI 0), .d (dI 0), .d (dI 0), .d (dI 0), .d (dI 0), .d (dI 0), .d (dB false), .d (dI 0), .d (dI 0), .d (dI 0), .d (dI 0), .d (dI 0), .d (dI 0), .d (.v (.string ⟨#[]⟩)), .d (.v (.slice none 0 0)), .d (.v (.slice none 0 0))]) R R R R Do R lb (by kernel_rfl))<|za R R<|zn<|zt<|?_
 exact Ax R (RV.sub (RV.cells R R R Bn lb R) (.agg (.cons (.same R) (.cons (.same R) (.cons (.same R) (.cons (.same R) (.cons (.same R) (.cons (.same R) (.cons (.same R) (.cons (.same R) (.cons (.same R) (.cons (.same R) (.cons (.same R) (.cons (.same R) (.cons (.same R) (.cons (.same R) (.cons (.same R) (.cons (.same R) (.cons (.same R) (.cons (.same R) (.cons (.same R) (.cons (.same R) (.cons (.nil 3) (.cons (.nil 2) (.nil))))))))))))))))))))))))) (RV.tmp R R) (V3 (Ast c21 c33 (by first|exact hgo.symm.trans ((Z8 hx0 (by rw [←hgv,Ta hx2 (by omega)];omega)).trans (by rw [←hgv,Ta hx2 (by omega)]))) (by omega)))
 refine zi<|Ag (by kernel_rfl)<|zp (Ak R R R (by omega) (by omega))<|zm R R<|zn<|?_
 exact Al (j+1) (⟨by omega,by rw [←I2 hx2 (by omega)];exact hgv⟩) (by omega) (fz ⟨sr,sr,sr,sr,sr,sr,sr,sr,sr,trivial⟩) (gz ⟨rfl,rfl,rfl,rfl,rfl,rfl,trivial⟩)
 have hk2b:j=x0.voices.length:=by omega
 refine Au<|Tj (i:=7502) R (Ap3 _ _) (by rw [Asf,hk2b,List.take_length,List.drop_length,List.append_nil])<|?_
 refine Sr (i:=7402) (l':=(mix Ce.u Ce.t ((m.cells.take k).map (Bo (plS m.h.m m.h.len) (plS t n))) (m.cells.drop k)).set k [.own 7501, .d (.sl 2 (((Bo (plS m.h.m m.h.len) (plS t n)) x0).voices.map Vo.c))]) [7501] R (Nj (E5 [] _ _) R) (D5 (E5 [] _ _) (Gd (R) (R)) _)<|Ag (by kernel_rfl)<|zp (At R (by conv=>lhs;whnf))<|?_
 refine zp (At R (by conv=>lhs;whnf))<|?_
 refine zp (Iq R R)<|zp (Aa R R Ez)<|zp (Ae (s':= .own 7501) (Dk R R Lh R (Ck (Dj hx0)) R) R)<|?_
 refine XL.blurT (i:=7402) (k:=k) (m:=0) (l':=(mix Ce.u Ce.t ((m.cells.take k).map (Bo (plS m.h.m m.h.len) (plS t n))) (m.cells.drop k)).set k [.any, .d (.sl 2 (((Bo (plS m.h.m m.h.len) (plS t n)) x0).voices.map Vo.c))]) [] R (Ck (Dj hx0)) R (List.set_set ..) (D5 (E5 [] _ _) (Gd (R) (R)) _)<|zp (Po (pd:= []) (cd:= [_]) R R R)<|?_
 refine XL.inl 900003 [(6, .ptr 6 0 0),(8, .d (.pt (Pl.c (plS m.h.m m.h.len)))),(10, .ptr 10 0 0),(11, .d (.pt (Pl.c (plS t n)))),(47, .d (dI m.cells.length)),(48, .d (dI k)),(87, .ptr 7402 k 0)] R R .d Ad9 Tryz.func64 R R lb (by simp only [List.forall_mem_cons];exact ⟨⟨Nat.le_of_ble_eq_true rfl,rfl⟩,⟨⟨Nat.le_of_ble_eq_true rfl,rfl⟩,⟨⟨Nat.le_of_ble_eq_true rfl,rfl⟩,⟨⟨Nat.le_of_ble_eq_true rfl,rfl⟩,⟨⟨Nat.le_of_ble_eq_true rfl,rfl⟩,⟨⟨Nat.le_of_ble_eq_true rfl,rfl⟩,⟨⟨Nat.le_of_ble_eq_true rfl,rfl⟩,fun p hp=>(by cases hp)⟩⟩⟩⟩⟩⟩⟩) fun u3=>?_
 refine zr<|za R R<|znr<|zp (At R (by conv=>lhs;whnf))<|?_
 refine zm R R<|XL.inl 900004 [(0, .own 7501),(1, .d (.fn 65 [] [.pt (Pl.c (plS t n))])),(4, .d (.v (.slice none 0 0)))] R R .d Adn Tryz.func99 R R lb (by simp only [List.forall_mem_cons];exact ⟨⟨Nat.le_of_ble_eq_true rfl,rfl⟩,⟨⟨Nat.le_of_ble_eq_true rfl,rfl⟩,⟨⟨Nat.le_of_ble_eq_true rfl,rfl⟩,fun p hp=>(by cases hp)⟩⟩⟩) fun u4=>zr<|za R R<|zn<|zs<|zr<|?_
 refine zp (At R (by conv=>lhs;whnf))<|?_
 refine zp (B4 R R R Tryz.underlying75)<|zm R R<|zn<|Ah<|?_
 refine A0 (α:=Nat) (fun q=>q≤(x0.clefs).length∧((x0.clefs).take q).filter (cfK (plS t n).len)=(x0.clefs).take q) (fun q=>mkF [(0, .own 7501),(1, .d (.fn 65 [] [.pt (Pl.c (plS t n))])),(7, .d (dI x0.clefs.length)),(8, .d (dI q))]) (fun q=>mkH [(6, .box [.d (dI 0), .d (dI 0), .d (dI 0), .d (dI 0), .d (dI 0), .d (dI 0), .d (dI 0), .d (dI 0), .d (dI 0), .d (dI 0), .d (dI 0), .d (dI 0), .d (dB false), .d (dI 0), .d (dI 0), .d (dI 0), .d (dI 0), .d (dI 0), .d (dI 0), .d (.v (.string ⟨#[]⟩)), .d (.v (.slice none 0 0)), .d (.v (.slice none 0 0))]),(10, .box [.d (dI (m.h.sh t n).site), .d (dI (m.h.sh t n).num), .d (dI (m.h.sh t n).m.count), .d (dI (m.h.sh t n).m.unit), .d (dI (m.h.sh t n).m.g0), .d (dI (m.h.sh t n).m.g1), .d (dI (m.h.sh t n).m.g2), .d (dI (m.h.sh t n).m.g3), .d (dI (m.h.sh t n).m.g4), .d (dI (m.h.sh t n).m.g5), .d (dI (m.h.sh t n).len), .d (dI (m.h.sh t n).fifths), .d (dB (m.h.sh t n).start), .d (dI (m.h.sh t n).fin), .d (dI (m.h.sh t n).ends), .d (dI (m.h.sh t n).jump), .d (dI (m.h.sh t n).labels), .d (dI (m.h.sh t n).swing), .d (dI (m.h.sh t n).brk), .d (.v (.string ⟨(m.h.sh t n).reh.toArray⟩)), .own 7401, .own 7402]),(7401, .row 119 3 ((m.tempi).map Tm.c)),(7402, .tree 78 2 [] ((mix Ce.u Ce.t ((m.cells.take k).map (Bo (plS m.h.m m.h.len) (plS t n))) (m.cells.drop k)).set k [.any, .d (.sl 2 (((Bo (plS m.h.m m.h.len) (plS t n)) x0).voices.map Vo.c))])),(7501, .row 84 2 ((x0.clefs).map Cf.c)),(900003, .ghost u3 [(6, .ptr 6 0 0),(8, .d (.pt (Pl.c (plS m.h.m m.h.len)))),(10, .ptr 10 0 0),(11, .d (.pt (Pl.c (plS t n)))),(47, .d (dI m.cells.length)),(48, .d (dI k)),(87, .ptr 7402 k 0)]),(900004, .ghost u4 [(0, .own 7501),(1, .d (.fn 65 [] [.pt (Pl.c (plS t n))])),(4, .d (.v (.slice none 0 0)))])]) (fun q=>(x0.clefs).length - q) (0) (⟨Nat.zero_le _,R⟩) ?_ ?_ ?_
 exact fz ⟨sr,sr,sr,sr,trivial⟩
 exact gz ⟨R,R,R,R,R,R,R,trivial⟩
 intro q hk0x
 obtain ⟨hk,hfk⟩:=hk0x
 refine zr<|zp (As R R R)<|zn<|zs<|?_
 refine zd R (fun c9x=> ?_) (fun c9x=> ?_)
 obtain ⟨y,hy⟩:∃y,(x0.clefs)[q]? =some y:=Aw (by omega)
 refine zi<|zs<|Ah<|zr<|zm R R<|za R R<|znr<|zm R R<|zp (At R (by conv=>lhs;whnf))<|?_
 refine zm R R<|zp (Cd R R R (R) R Ln (by omega))<|zp (Ae (s':= .d (.agg (Cf.c y))) (Ei R R Nw R (Cv (hy)) lb) (by kernel_rfl))<|XL.callv1 (ds:= [_]) R R R (Afs _ _) R<|zn<|?_
 refine zd R (fun c16x=> ?_) (fun c16x=> ?_)
 refine zr<|zm R R<|za R R<|zn<|zt<|?_
 refine (D4 (l:= [(0, .own 7501),(1, .d (.fn 65 [] [.pt (Pl.c (plS t n))])),(4, .d (.v (.slice none 0 0)))]) (by kernel_rfl) (rs1 R (RV.tmp R R)) ?_).2
 refine za R R<|zn<|zs<|zr<|zm R R<|zp (A7 R R R)<|zn<|?_
 refine zd R (fun c12d=> ?_) (fun c12d=> ?_)
 exfalso;omega
 refine zi<|zs<|zr<|zm R R<|zp (Ak R R R (by omega) (by omega))<|za R R<|zn<|Ah<|?_
 refine A0 (α:=Nat × Nat × List Cf) (fun p=>DelG (cfK (plS t n).len) (x0.clefs) p.1 p.2.1 p.2.2) (fun p=>mkF [(0, .own 7501),(1, .d (.fn 65 [] [.pt (Pl.c (plS t n))])),(4, .d (.v (.slice none 0 0))),(5, .d (dI p.2.1)),(6, .d (dI p.1))]) (fun p=>mkH [(6, .box [.d (dI 0), .d (dI 0), .d (dI 0), .d (dI 0), .d (dI 0), .d (dI 0), .d (dI 0), .d (dI 0), .d (dI 0), .d (dI 0), .d (dI 0), .d (dI 0), .d (dB false), .d (dI 0), .d (dI 0), .d (dI 0), .d (dI 0), .d (dI 0), .d (dI 0), .d (.v (.string ⟨#[]⟩)), .d (.v (.slice none 0 0)), .d (.v (.slice none 0 0))]),(10, .box [.d (dI (m.h.sh t n).site), .d (dI (m.h.sh t n).num), .d (dI (m.h.sh t n).m.count), .d (dI (m.h.sh t n).m.unit), .d (dI (m.h.sh t n).m.g0), .d (dI (m.h.sh t n).m.g1), .d (dI (m.h.sh t n).m.g2), .d (dI (m.h.sh t n).m.g3), .d (dI (m.h.sh t n).m.g4), .d (dI (m.h.sh t n).m.g5), .d (dI (m.h.sh t n).len), .d (dI (m.h.sh t n).fifths), .d (dB (m.h.sh t n).start), .d (dI (m.h.sh t n).fin), .d (dI (m.h.sh t n).ends), .d (dI (m.h.sh t n).jump), .d (dI (m.h.sh t n).labels), .d (dI (m.h.sh t n).swing), .d (dI (m.h.sh t n).brk), .d (.v (.string ⟨(m.h.sh t n).reh.toArray⟩)), .own 7401, .own 7402]),(7401, .row 119 3 ((m.tempi).map Tm.c)),(7402, .tree 78 2 [] ((mix Ce.u Ce.t ((m.cells.take k).map (Bo (plS m.h.m m.h.len) (plS t n))) (m.cells.drop k)).set k [.any, .d (.sl 2 (((Bo (plS m.h.m m.h.len) (plS t n)) x0).voices.map Vo.c))])),(7501, .row 84 2 (p.2.2.map Cf.c)),(900003, .ghost u3 [(6, .ptr 6 0 0),(8, .d (.pt (Pl.c (plS m.h.m m.h.len)))),(10, .ptr 10 0 0),(11, .d (.pt (Pl.c (plS t n)))),(47, .d (dI m.cells.length)),(48, .d (dI k)),(87, .ptr 7402 k 0)])]) (fun p=>(x0.clefs).length - p.1) ((q+1,q,x0.clefs)) (DelG.start hy (Aak c16x) hfk) ?_ ?_ ?_
 exact fz ⟨sr,sr,sr,sr,sr,trivial⟩
 exact gz ⟨R,R,R,R,R,R,trivial⟩
 intro p hk0d
 have hD:=hk0d
 have hlt:=hD.lt
 have hle:=hD.le
 have hlen:=hD.len
 refine zs<|zr<|zm R R<|zp (At R (by conv=>lhs;whnf))<|?_
 refine zp (B4 R R R Tryz.underlying75)<|zp (As R R R)<|zn<|?_
 refine zd R (fun c19d=> ?_) (fun c19d=> ?_)
 obtain ⟨z,hz⟩:∃z,(x0.clefs)[p.1]? =some z:=Aw (by omega)
 obtain ⟨w,hw⟩:∃w,p.2.2[p.2.1]? =some w:=Aw (by omega)
 refine zi<|zs<|Ah<|zr<|zp (At R (by conv=>lhs;whnf))<|?_
 refine zm R R<|zp (Cd R R R (R) R Ln (by have:=hD.len;omega))<|zp (Ae (s':= .d (.agg (Cf.c z))) (Ei R R Nw R (Cv (hD.get hz)) lb) (by kernel_rfl))<|XL.step R (Ao 3007 (l:= [.d (dI 0), .d (dI 0)]) R Ro (by kernel_rfl))<|XL.step R (Af (l':= [.d (dI z.tk), .d (dI z.clef)]) R R R R X1 R lb (by kernel_rfl))<|znr<|zm R R<|?_
 refine zp (Ae (s':= .d (.agg (Cf.c z))) (Ac (Ad R R Nw R lb)) (by kernel_rfl))<|XL.callv1 (ds:= [_]) R R R (Afs _ _) R<|zp (Eu R R)<|zn<|?_
 refine zd R (fun c29d=> ?_) (fun c29d=> ?_)
 refine zr<|zp (At R (by conv=>lhs;whnf))<|?_
 refine zm R R<|zp (Ae (s':= .d (.agg (Cf.c z))) (Ac (Ad R R Nw R lb)) (by kernel_rfl))<|zp (Cd R R R (R) R Ln (by have:=hD.lt;have:=hD.len;omega))<|XL.step R (Dw R R R (Cv hw) R R X1 R lb)<|zng<|zm R R<|zp (Ak R R R (by omega) (by omega))<|za R R<|zn<|Ag (by kernel_rfl)<|zm R R<|zp (Ak R R R (by omega) (by omega))<|za R R<|zn<|?_
 exact Al ((p.1+1,p.2.1+1,p.2.2.set p.2.1 z)) (hD.put hz (V8 c29d)) (by show (x0.clefs).length - (p.1+1)<(x0.clefs).length - p.1;omega) (fz ⟨sr,sr,sr,sr,sr,trivial⟩) (gz ⟨R,R,R,R,L8 R R,R,trivial⟩)
 refine zi<|Ag (by kernel_rfl)<|zm R R<|zp (Ak R R R (by omega) (by omega))<|za R R<|zn<|?_
 exact Al ((p.1+1,p.2.1,p.2.2)) (hD.keep hz (Aak (Decidable.not_not.1 c29d))) (by show (x0.clefs).length - (p.1+1)<(x0.clefs).length - p.1;omega) (fz ⟨sr,sr,sr,sr,sr,trivial⟩) (gz ⟨R,R,R,R,R,R,trivial⟩)
 have hfin:=hD.fin (by omega)
 refine Au<|zr<|zp (At R (by conv=>lhs;whnf))<|?_
 refine zm R R<|zp (Lw R R R Ln (Bd.at R) Bd.no (by rw [List.length_map];have:=hD.lt;have:=hD.le;have:=hD.len;omega) (Nat.le_refl _))<|XL.step R (St (l2:=(p.2.2.take p.2.1++List.replicate (p.2.2.length - p.2.1) (⟨0,0⟩:Cf)).map Cf.c) (zs:= [dI 0,dI 0]) R (.sub R) Tryz.underlying75 Ro (by kernel_rfl) (by kernel_rfl) (by decide) (by omega) (hD.clr R))<|znr<|?_
 refine zp (At R (by conv=>lhs;whnf))<|?_
 refine zm R R<|XL.step R (O3 R R R Ln (.at R) (by rw [List.length_map,List.length_append,List.length_take,List.length_replicate];have:=hD.lt;have:=hD.le;have:=hD.len;omega))<|zp (Av R (by conv=>lhs;whnf))<|?_
 refine zn<|zt<|?_
 refine (D4 (l:= [(6, .ptr 6 0 0),(8, .d (.pt (Pl.c (plS m.h.m m.h.len)))),(10, .ptr 10 0 0),(11, .d (.pt (Pl.c (plS t n)))),(47, .d (dI m.cells.length)),(48, .d (dI k)),(87, .ptr 7402 k 0)]) (by kernel_rfl) (Ct R (RVS.tmp R R)) ?_).2
 refine zp (Iq R R)<|zp (Aa R R Ez)<|XL.step R (Js [7501] (l':=(mix Ce.u Ce.t ((m.cells.take k).map (Bo (plS m.h.m m.h.len) (plS t n))) (m.cells.drop k)).set k [.own 7501, .d (.sl 2 (((Bo (plS m.h.m m.h.len) (plS t n)) x0).voices.map Vo.c))]) R R R (Ck (Dj hx0)) R X2 R lb R R (List.set_set ..))<|zn<|Ag (by kernel_rfl)<|?_
 refine XL.rowq (i:=7501) (l':=(((Bo (plS m.h.m m.h.len) (plS t n)) x0).clefs).map Cf.c) R (by first|exact hD.cut.trans (congrArg (List.map Cf.c) hfin)|exact congrArg (List.map Cf.c) hfx.symm)<|XL.freeze (i:=7501) R<|?_
 refine XL.rowqT (i:=7402) (l':=(mix Ce.u Ce.t ((m.cells.take k).map (Bo (plS m.h.m m.h.len) (plS t n))) (m.cells.drop k)).set k [.d (.sl 2 ((((Bo (plS m.h.m m.h.len) (plS t n)) x0).clefs).map Cf.c)), .d (.sl 2 (((Bo (plS m.h.m m.h.len) (plS t n)) x0).voices.map Vo.c))]) [] R (Nj (E5 [] _ _) R) (D5 (E5 [] _ _) (Gd (R) (R)) _)<|?_
 refine XL.rowqT (i:=7402) (l':=mix Ce.u Ce.t ((m.cells.take (k+1)).map (Bo (plS m.h.m m.h.len) (plS t n))) (m.cells.drop (k+1))) [] R (Pt hx0) (E5 [] _ _)<|zp (Ak R R R (by omega) (by omega))<|zm R R<|zn<|?_
 exact Al (k+1) (⟨by omega,by rw [←Tb hx0 (by rw [←hgv,hk2b,List.drop_length];rfl)];exact hgo⟩) (by omega) (fz ⟨sr,sr,sr,sr,sr,sr,trivial⟩) (gz ⟨rfl,rfl,rfl,rfl,trivial⟩)
 refine zi<|Ag (by kernel_rfl)<|zp (Ak R R R (by omega) (by omega))<|zm R R<|zn<|?_
 exact Al (q+1) (⟨by omega,by rw [Nu hy (V8 c16x),hfk, ←Bz hy]⟩) (by omega) (fz ⟨sr,sr,sr,sr,trivial⟩) (gz ⟨rfl,rfl,rfl,rfl,rfl,rfl,rfl,trivial⟩)
 have hfx:(x0.clefs).filter (cfK (plS t n).len)=x0.clefs:=by rw [show q=(x0.clefs).length by omega,List.take_length] at hfk;exact hfk
 refine Au<|zr<|za R R<|zn<|zt<|?_
 refine (D4 (l:= [(0, .own 7501),(1, .d (.fn 65 [] [.pt (Pl.c (plS t n))])),(4, .d (.v (.slice none 0 0)))]) (by kernel_rfl) (rs1 R (RV.tmp R R)) ?_).2
 refine za R R<|zn<|zs<|zr<|zm R R<|zp (D7 (A7 R R R) (by decide))<|zn<|Ay (by kernel_rfl) R<|zr<|zp (At R (by conv=>lhs;whnf))<|?_
 refine zp (Av R (by conv=>lhs;whnf))<|?_
 refine zn<|zt<|?_
 refine (D4 (l:= [(6, .ptr 6 0 0),(8, .d (.pt (Pl.c (plS m.h.m m.h.len)))),(10, .ptr 10 0 0),(11, .d (.pt (Pl.c (plS t n)))),(47, .d (dI m.cells.length)),(48, .d (dI k)),(87, .ptr 7402 k 0)]) (by kernel_rfl) (Ct R (RVS.tmp R R)) ?_).2
 refine zp (Iq R R)<|zp (Aa R R Ez)<|XL.step R (Js [7501] (l':=(mix Ce.u Ce.t ((m.cells.take k).map (Bo (plS m.h.m m.h.len) (plS t n))) (m.cells.drop k)).set k [.own 7501, .d (.sl 2 (((Bo (plS m.h.m m.h.len) (plS t n)) x0).voices.map Vo.c))]) R R R (Ck (Dj hx0)) R X2 R lb R R (List.set_set ..))<|zn<|Ag (by kernel_rfl)<|?_
 refine XL.rowq (i:=7501) (l':=(((Bo (plS m.h.m m.h.len) (plS t n)) x0).clefs).map Cf.c) R (by first|exact hD.cut.trans (congrArg (List.map Cf.c) hfin)|exact congrArg (List.map Cf.c) hfx.symm)<|XL.freeze (i:=7501) R<|?_
 refine XL.rowqT (i:=7402) (l':=(mix Ce.u Ce.t ((m.cells.take k).map (Bo (plS m.h.m m.h.len) (plS t n))) (m.cells.drop k)).set k [.d (.sl 2 ((((Bo (plS m.h.m m.h.len) (plS t n)) x0).clefs).map Cf.c)), .d (.sl 2 (((Bo (plS m.h.m m.h.len) (plS t n)) x0).voices.map Vo.c))]) [] R (Nj (E5 [] _ _) R) (D5 (E5 [] _ _) (Gd (R) (R)) _)<|?_
 refine XL.rowqT (i:=7402) (l':=mix Ce.u Ce.t ((m.cells.take (k+1)).map (Bo (plS m.h.m m.h.len) (plS t n))) (m.cells.drop (k+1))) [] R (Pt hx0) (E5 [] _ _)<|zp (Ak R R R (by omega) (by omega))<|zm R R<|zn<|?_
 exact Al (k+1) (⟨by omega,by rw [←Tb hx0 (by rw [←hgv,hk2b,List.drop_length];rfl)];exact hgo⟩) (by omega) (fz ⟨sr,sr,sr,sr,sr,sr,trivial⟩) (gz ⟨rfl,rfl,rfl,rfl,trivial⟩)
 have hk0b:k=m.cells.length:=by omega
 refine Au<|zr<|zp (Aa R R Dd)<|zp (Ab R R I7 R R)<|zp (Po (pd:= []) (cd:= [_]) R R R)<|XL.inl 900005 [(6, .ptr 6 0 0),(10, .ptr 10 0 0)] R R .d Ad7 Tryz.func66 R R lb (by simp only [List.forall_mem_cons];exact ⟨⟨Nat.le_of_ble_eq_true rfl,rfl⟩,⟨⟨Nat.le_of_ble_eq_true rfl,rfl⟩,fun p hp=>(by cases hp)⟩⟩) fun u5=>zr<|za R R<|znr<|?_
 refine zp (At R (by conv=>lhs;whnf))<|?_
 refine zm R R<|XL.inl 900006 [(0, .own 7401),(1, .d (.fn 67 [] [.pt (Pl.c (plS t n))])),(4, .d (.v (.slice none 0 0)))] R R .d Acu Tryz.func100 R R lb (by simp only [List.forall_mem_cons];exact ⟨⟨Nat.le_of_ble_eq_true rfl,rfl⟩,⟨⟨Nat.le_of_ble_eq_true rfl,rfl⟩,⟨⟨Nat.le_of_ble_eq_true rfl,rfl⟩,fun p hp=>(by cases hp)⟩⟩⟩) fun u6=>zr<|za R R<|zn<|zs<|zr<|?_
 refine zp (At R (by conv=>lhs;whnf))<|?_
 refine zp (B4 R R R Tryz.underlying27)<|zm R R<|zn<|Ah<|?_
 refine A0 (α:=Nat) (fun q=>q≤(m.tempi).length∧((m.tempi).take q).filter (tmK (plS t n).len)=(m.tempi).take q) (fun q=>mkF [(0, .own 7401),(1, .d (.fn 67 [] [.pt (Pl.c (plS t n))])),(7, .d (dI m.tempi.length)),(8, .d (dI q))]) (fun q=>mkH [(6, .box [.d (dI 0), .d (dI 0), .d (dI 0), .d (dI 0), .d (dI 0), .d (dI 0), .d (dI 0), .d (dI 0), .d (dI 0), .d (dI 0), .d (dI 0), .d (dI 0), .d (dB false), .d (dI 0), .d (dI 0), .d (dI 0), .d (dI 0), .d (dI 0), .d (dI 0), .d (.v (.string ⟨#[]⟩)), .d (.v (.slice none 0 0)), .d (.v (.slice none 0 0))]),(10, .box [.d (dI (m.h.sh t n).site), .d (dI (m.h.sh t n).num), .d (dI (m.h.sh t n).m.count), .d (dI (m.h.sh t n).m.unit), .d (dI (m.h.sh t n).m.g0), .d (dI (m.h.sh t n).m.g1), .d (dI (m.h.sh t n).m.g2), .d (dI (m.h.sh t n).m.g3), .d (dI (m.h.sh t n).m.g4), .d (dI (m.h.sh t n).m.g5), .d (dI (m.h.sh t n).len), .d (dI (m.h.sh t n).fifths), .d (dB (m.h.sh t n).start), .d (dI (m.h.sh t n).fin), .d (dI (m.h.sh t n).ends), .d (dI (m.h.sh t n).jump), .d (dI (m.h.sh t n).labels), .d (dI (m.h.sh t n).swing), .d (dI (m.h.sh t n).brk), .d (.v (.string ⟨(m.h.sh t n).reh.toArray⟩)), .own 7401, .own 7402]),(7401, .row 119 3 ((m.tempi).map Tm.c)),(7402, .tree 78 2 [] (mix Ce.u Ce.t ((m.cells.take k).map (Bo (plS m.h.m m.h.len) (plS t n))) (m.cells.drop k))),(900005, .ghost u5 [(6, .ptr 6 0 0),(10, .ptr 10 0 0)]),(900006, .ghost u6 [(0, .own 7401),(1, .d (.fn 67 [] [.pt (Pl.c (plS t n))])),(4, .d (.v (.slice none 0 0)))])]) (fun q=>(m.tempi).length - q) (0) (⟨Nat.zero_le _,R⟩) ?_ ?_ ?_
 exact fz ⟨sr,sr,sr,sr,trivial⟩
 exact gz ⟨R,R,R,R,R,R,trivial⟩
 intro q hk0x
 obtain ⟨hk,hfk⟩:=hk0x
 refine zr<|zp (As R R R)<|zn<|zs<|?_
 refine zd R (fun c9x=> ?_) (fun c9x=> ?_)
 obtain ⟨y,hy⟩:∃y,(m.tempi)[q]? =some y:=Aw (by omega)
 refine zi<|zs<|Ah<|zr<|zm R R<|za R R<|znr<|zm R R<|zp (At R (by conv=>lhs;whnf))<|?_
 refine zm R R<|zp (Cd R R R (R) R Ky (by omega))<|zp (Ae (s':= .d (.agg (Tm.c y))) (Ei R R Lf R (Cv (hy)) lb) (by kernel_rfl))<|XL.callv1 (ds:= [_]) R R R (Afr _ _) R<|zn<|?_
 refine zd R (fun c16x=> ?_) (fun c16x=> ?_)
 refine zr<|zm R R<|za R R<|zn<|zt<|?_
 refine (D4 (l:= [(0, .own 7401),(1, .d (.fn 67 [] [.pt (Pl.c (plS t n))])),(4, .d (.v (.slice none 0 0)))]) (by kernel_rfl) (rs1 R (RV.tmp R R)) ?_).2
 refine za R R<|zn<|zs<|zr<|zm R R<|zp (A7 R R R)<|zn<|?_
 refine zd R (fun c12d=> ?_) (fun c12d=> ?_)
 exfalso;omega
 refine zi<|zs<|zr<|zm R R<|zp (Ak R R R (by omega) (by omega))<|za R R<|zn<|Ah<|?_
 refine A0 (α:=Nat × Nat × List Tm) (fun p=>DelG (tmK (plS t n).len) (m.tempi) p.1 p.2.1 p.2.2) (fun p=>mkF [(0, .own 7401),(1, .d (.fn 67 [] [.pt (Pl.c (plS t n))])),(4, .d (.v (.slice none 0 0))),(5, .d (dI p.2.1)),(6, .d (dI p.1))]) (fun p=>mkH [(6, .box [.d (dI 0), .d (dI 0), .d (dI 0), .d (dI 0), .d (dI 0), .d (dI 0), .d (dI 0), .d (dI 0), .d (dI 0), .d (dI 0), .d (dI 0), .d (dI 0), .d (dB false), .d (dI 0), .d (dI 0), .d (dI 0), .d (dI 0), .d (dI 0), .d (dI 0), .d (.v (.string ⟨#[]⟩)), .d (.v (.slice none 0 0)), .d (.v (.slice none 0 0))]),(10, .box [.d (dI (m.h.sh t n).site), .d (dI (m.h.sh t n).num), .d (dI (m.h.sh t n).m.count), .d (dI (m.h.sh t n).m.unit), .d (dI (m.h.sh t n).m.g0), .d (dI (m.h.sh t n).m.g1), .d (dI (m.h.sh t n).m.g2), .d (dI (m.h.sh t n).m.g3), .d (dI (m.h.sh t n).m.g4), .d (dI (m.h.sh t n).m.g5), .d (dI (m.h.sh t n).len), .d (dI (m.h.sh t n).fifths), .d (dB (m.h.sh t n).start), .d (dI (m.h.sh t n).fin), .d (dI (m.h.sh t n).ends), .d (dI (m.h.sh t n).jump), .d (dI (m.h.sh t n).labels), .d (dI (m.h.sh t n).swing), .d (dI (m.h.sh t n).brk), .d (.v (.string ⟨(m.h.sh t n).reh.toArray⟩)), .own 7401, .own 7402]),(7401, .row 119 3 (p.2.2.map Tm.c)),(7402, .tree 78 2 [] (mix Ce.u Ce.t ((m.cells.take k).map (Bo (plS m.h.m m.h.len) (plS t n))) (m.cells.drop k))),(900005, .ghost u5 [(6, .ptr 6 0 0),(10, .ptr 10 0 0)])]) (fun p=>(m.tempi).length - p.1) ((q+1,q,m.tempi)) (DelG.start hy (Yh c16x) hfk) ?_ ?_ ?_
 exact fz ⟨sr,sr,sr,sr,sr,trivial⟩
 exact gz ⟨R,R,R,R,R,trivial⟩
 intro p hk0d
 have hD:=hk0d
 have hlt:=hD.lt
 have hle:=hD.le
 have hlen:=hD.len
 refine zs<|zr<|zm R R<|zp (At R (by conv=>lhs;whnf))<|?_
 refine zp (B4 R R R Tryz.underlying27)<|zp (As R R R)<|zn<|?_
 refine zd R (fun c19d=> ?_) (fun c19d=> ?_)
 obtain ⟨z,hz⟩:∃z,(m.tempi)[p.1]? =some z:=Aw (by omega)
 obtain ⟨w,hw⟩:∃w,p.2.2[p.2.1]? =some w:=Aw (by omega)
 refine zi<|zs<|Ah<|zr<|zp (At R (by conv=>lhs;whnf))<|?_
 refine zm R R<|zp (Cd R R R (R) R Ky (by have:=hD.len;omega))<|zp (Ae (s':= .d (.agg (Tm.c z))) (Ei R R Lf R (Cv (hD.get hz)) lb) (by kernel_rfl))<|XL.step R (Ao 5007 (l:= [.d (dI 0), .d (dI 0), .d (dB false)]) R K2 (by kernel_rfl))<|XL.step R (Af (l':= [.d (dI z.tk), .d (dI z.micros), .d (dB z.ramp)]) R R R R O1 R lb (by kernel_rfl))<|?_
 refine znr<|zm R R<|zp (Ae (s':= .d (.agg (Tm.c z))) (Ac (Ad R R Lf R lb)) (by kernel_rfl))<|XL.callv1 (ds:= [_]) R R R (Afr _ _) R<|zp (Eu R R)<|zn<|?_
 refine zd R (fun c29d=> ?_) (fun c29d=> ?_)
 refine zr<|zp (At R (by conv=>lhs;whnf))<|?_
 refine zm R R<|zp (Ae (s':= .d (.agg (Tm.c z))) (Ac (Ad R R Lf R lb)) (by kernel_rfl))<|zp (Cd R R R (R) R Ky (by have:=hD.lt;have:=hD.len;omega))<|XL.step R (Dw R R R (Cv hw) R R O1 R lb)<|zng<|zm R R<|zp (Ak R R R (by omega) (by omega))<|za R R<|zn<|Ag (by kernel_rfl)<|zm R R<|zp (Ak R R R (by omega) (by omega))<|za R R<|zn<|?_
 exact Al ((p.1+1,p.2.1+1,p.2.2.set p.2.1 z)) (hD.put hz (Ve c29d)) (by show (m.tempi).length - (p.1+1)<(m.tempi).length - p.1;omega) (fz ⟨sr,sr,sr,sr,sr,trivial⟩) (gz ⟨R,R,L8 R R,R,R,trivial⟩)
 refine zi<|Ag (by kernel_rfl)<|zm R R<|zp (Ak R R R (by omega) (by omega))<|za R R<|zn<|?_
 exact Al ((p.1+1,p.2.1,p.2.2)) (hD.keep hz (Yh (Decidable.not_not.1 c29d))) (by show (m.tempi).length - (p.1+1)<(m.tempi).length - p.1;omega) (fz ⟨sr,sr,sr,sr,sr,trivial⟩) (gz ⟨R,R,R,R,R,trivial⟩)
 have hfin:=hD.fin (by omega)
 refine Au<|zr<|zp (At R (by conv=>lhs;whnf))<|?_
 refine zm R R<|zp (Lw R R R Ky (Bd.at R) Bd.no (by rw [List.length_map];have:=hD.lt;have:=hD.le;have:=hD.len;omega) (Nat.le_refl _))<|XL.step R (St (l2:=(p.2.2.take p.2.1++List.replicate (p.2.2.length - p.2.1) (⟨0,0,false⟩:Tm)).map Tm.c) (zs:= [dI 0,dI 0,dB false]) R (.sub R) Tryz.underlying27 K2 (by kernel_rfl) (by kernel_rfl) (by decide) (by omega) (hD.clr R))<|?_
 refine znr<|zp (At R (by conv=>lhs;whnf))<|?_
 refine zm R R<|XL.step R (O3 R R R Ky (.at R) (by rw [List.length_map,List.length_append,List.length_take,List.length_replicate];have:=hD.lt;have:=hD.le;have:=hD.len;omega))<|zp (Av R (by conv=>lhs;whnf))<|?_
 refine zn<|zt<|?_
 refine (D4 (l:= [(6, .ptr 6 0 0),(10, .ptr 10 0 0)]) (by kernel_rfl) (Ct R (RVS.tmp R R)) ?_).2
 refine zp (Aa R R Dd)<|?_
 refine XL.step R (Af (l':= [.d (dI (m.h.sh t n).site), .d (dI (m.h.sh t n).num), .d (dI (m.h.sh t n).m.count), .d (dI (m.h.sh t n).m.unit), .d (dI (m.h.sh t n).m.g0), .d (dI (m.h.sh t n).m.g1), .d (dI (m.h.sh t n).m.g2), .d (dI (m.h.sh t n).m.g3), .d (dI (m.h.sh t n).m.g4), .d (dI (m.h.sh t n).m.g5), .d (dI (m.h.sh t n).len), .d (dI (m.h.sh t n).fifths), .d (dB (m.h.sh t n).start), .d (dI (m.h.sh t n).fin), .d (dI (m.h.sh t n).ends), .d (dI (m.h.sh t n).jump), .d (dI (m.h.sh t n).labels), .d (dI (m.h.sh t n).swing), .d (dI (m.h.sh t n).brk), .d (.v (.string ⟨(m.h.sh t n).reh.toArray⟩)), .own 7401, .own 7402]) R R R R Rr R lb (by kernel_rfl))<|?_
 refine znr<|XL.rowq (i:=7401) (l':=(m.tempi.filter (tmK (plS t n).len)).map Tm.c) R (by first|exact hD.cut.trans (congrArg (List.map Tm.c) hfin)|exact congrArg (List.map Tm.c) hfx.symm)<|XL.freeze (i:=7401) R<|XL.freezeT (i:=7402) R (Vp _ _) (by rw [Zn,hk0b,List.take_length,List.drop_length,List.append_nil])<|?_
 refine zp (Ae (s':= .d (.agg [dI (m.h.sh t n).site,dI (m.h.sh t n).num,dI (m.h.sh t n).m.count,dI (m.h.sh t n).m.unit,dI (m.h.sh t n).m.g0,dI (m.h.sh t n).m.g1,dI (m.h.sh t n).m.g2,dI (m.h.sh t n).m.g3,dI (m.h.sh t n).m.g4,dI (m.h.sh t n).m.g5,dI (m.h.sh t n).len,dI (m.h.sh t n).fifths,dB (m.h.sh t n).start,dI (m.h.sh t n).fin,dI (m.h.sh t n).ends,dI (m.h.sh t n).jump,dI (m.h.sh t n).labels,dI (m.h.sh t n).swing,dI (m.h.sh t n).brk, .v (.string ⟨(m.h.sh t n).reh.toArray⟩), .sl 3 ((m.tempi.filter (tmK (plS t n).len)).map Tm.c), .sl 2 ((m.cells.map (Bo (plS m.h.m m.h.len) (plS t n))).map Ce.c)])) (Ac (Ad R R Bn R lb)) (by kernel_rfl))<|?_
 refine XL.step R (Af (l':= [.d (dI (m.h.sh t n).site), .d (dI (m.h.sh t n).num), .d (dI (m.h.sh t n).m.count), .d (dI (m.h.sh t n).m.unit), .d (dI (m.h.sh t n).m.g0), .d (dI (m.h.sh t n).m.g1), .d (dI (m.h.sh t n).m.g2), .d (dI (m.h.sh t n).m.g3), .d (dI (m.h.sh t n).m.g4), .d (dI (m.h.sh t n).m.g5), .d (dI (m.h.sh t n).len), .d (dI (m.h.sh t n).fifths), .d (dB (m.h.sh t n).start), .d (dI (m.h.sh t n).fin), .d (dI (m.h.sh t n).ends), .d (dI (m.h.sh t n).jump), .d (dI (m.h.sh t n).labels), .d (dI (m.h.sh t n).swing), .d (dI (m.h.sh t n).brk), .d (.v (.string ⟨(m.h.sh t n).reh.toArray⟩)), .d (.sl 3 ((m.tempi.filter (tmK (plS t n).len)).map Tm.c)), .d (.sl 2 ((m.cells.map (Bo (plS m.h.m m.h.len) (plS t n))).map Ce.c))]) R R R R Do R lb (by kernel_rfl))<|?_
 refine za R R<|zn<|zt<|?_
 exact Ax R (RV.cells R R R Bn lb R) (RV.tmp R R) (V3 (Am0 c21 c33 (by rw [←hgo,hk0b,List.drop_length];rfl)))
 refine zi<|Ag (by kernel_rfl)<|zp (Ak R R R (by omega) (by omega))<|zm R R<|zn<|?_
 exact Al (q+1) (⟨by omega,by rw [Nu hy (Ve c16x),hfk, ←Bz hy]⟩) (by omega) (fz ⟨sr,sr,sr,sr,trivial⟩) (gz ⟨rfl,rfl,rfl,rfl,rfl,rfl,trivial⟩)
 have hfx:(m.tempi).filter (tmK (plS t n).len)=m.tempi:=by rw [show q=(m.tempi).length by omega,List.take_length] at hfk;exact hfk
 refine Au<|zr<|za R R<|zn<|zt<|?_
 refine (D4 (l:= [(0, .own 7401),(1, .d (.fn 67 [] [.pt (Pl.c (plS t n))])),(4, .d (.v (.slice none 0 0)))]) (by kernel_rfl) (rs1 R (RV.tmp R R)) ?_).2
 refine za R R<|zn<|zs<|zr<|zm R R<|zp (D7 (A7 R R R) (by decide))<|zn<|Ay (by kernel_rfl) R<|zr<|zp (At R (by conv=>lhs;whnf))<|?_
 refine zp (Av R (by conv=>lhs;whnf))<|?_
 refine zn<|zt<|?_
 refine (D4 (l:= [(6, .ptr 6 0 0),(10, .ptr 10 0 0)]) (by kernel_rfl) (Ct R (RVS.tmp R R)) ?_).2
 refine zp (Aa R R Dd)<|?_
 refine XL.step R (Af (l':= [.d (dI (m.h.sh t n).site), .d (dI (m.h.sh t n).num), .d (dI (m.h.sh t n).m.count), .d (dI (m.h.sh t n).m.unit), .d (dI (m.h.sh t n).m.g0), .d (dI (m.h.sh t n).m.g1), .d (dI (m.h.sh t n).m.g2), .d (dI (m.h.sh t n).m.g3), .d (dI (m.h.sh t n).m.g4), .d (dI (m.h.sh t n).m.g5), .d (dI (m.h.sh t n).len), .d (dI (m.h.sh t n).fifths), .d (dB (m.h.sh t n).start), .d (dI (m.h.sh t n).fin), .d (dI (m.h.sh t n).ends), .d (dI (m.h.sh t n).jump), .d (dI (m.h.sh t n).labels), .d (dI (m.h.sh t n).swing), .d (dI (m.h.sh t n).brk), .d (.v (.string ⟨(m.h.sh t n).reh.toArray⟩)), .own 7401, .own 7402]) R R R R Rr R lb (by kernel_rfl))<|?_
 refine znr<|XL.rowq (i:=7401) (l':=(m.tempi.filter (tmK (plS t n).len)).map Tm.c) R (by first|exact hD.cut.trans (congrArg (List.map Tm.c) hfin)|exact congrArg (List.map Tm.c) hfx.symm)<|XL.freeze (i:=7401) R<|XL.freezeT (i:=7402) R (Vp _ _) (by rw [Zn,hk0b,List.take_length,List.drop_length,List.append_nil])<|?_
 refine zp (Ae (s':= .d (.agg [dI (m.h.sh t n).site,dI (m.h.sh t n).num,dI (m.h.sh t n).m.count,dI (m.h.sh t n).m.unit,dI (m.h.sh t n).m.g0,dI (m.h.sh t n).m.g1,dI (m.h.sh t n).m.g2,dI (m.h.sh t n).m.g3,dI (m.h.sh t n).m.g4,dI (m.h.sh t n).m.g5,dI (m.h.sh t n).len,dI (m.h.sh t n).fifths,dB (m.h.sh t n).start,dI (m.h.sh t n).fin,dI (m.h.sh t n).ends,dI (m.h.sh t n).jump,dI (m.h.sh t n).labels,dI (m.h.sh t n).swing,dI (m.h.sh t n).brk, .v (.string ⟨(m.h.sh t n).reh.toArray⟩), .sl 3 ((m.tempi.filter (tmK (plS t n).len)).map Tm.c), .sl 2 ((m.cells.map (Bo (plS m.h.m m.h.len) (plS t n))).map Ce.c)])) (Ac (Ad R R Bn R lb)) (by kernel_rfl))<|?_
 refine XL.step R (Af (l':= [.d (dI (m.h.sh t n).site), .d (dI (m.h.sh t n).num), .d (dI (m.h.sh t n).m.count), .d (dI (m.h.sh t n).m.unit), .d (dI (m.h.sh t n).m.g0), .d (dI (m.h.sh t n).m.g1), .d (dI (m.h.sh t n).m.g2), .d (dI (m.h.sh t n).m.g3), .d (dI (m.h.sh t n).m.g4), .d (dI (m.h.sh t n).m.g5), .d (dI (m.h.sh t n).len), .d (dI (m.h.sh t n).fifths), .d (dB (m.h.sh t n).start), .d (dI (m.h.sh t n).fin), .d (dI (m.h.sh t n).ends), .d (dI (m.h.sh t n).jump), .d (dI (m.h.sh t n).labels), .d (dI (m.h.sh t n).swing), .d (dI (m.h.sh t n).brk), .d (.v (.string ⟨(m.h.sh t n).reh.toArray⟩)), .d (.sl 3 ((m.tempi.filter (tmK (plS t n).len)).map Tm.c)), .d (.sl 2 ((m.cells.map (Bo (plS m.h.m m.h.len) (plS t n))).map Ce.c))]) R R R R Do R lb (by kernel_rfl))<|?_
 refine za R R<|zn<|zt<|?_
 exact Ax R (RV.cells R R R Bn lb R) (RV.tmp R R) (V3 (Am0 c21 c33 (by rw [←hgo,hk0b,List.drop_length];rfl)))
end Go.Proofs.YtaafemnkamfgnaaGreat
namespace Go.Proofs.YtaafemnkamfgnaaGreat
open Go.RowKit
def kR (n:Int) (v:Val):Ev:=⟨1,n,2,v, [], [],0,0,0, [],0,0⟩
def V1:Vo:=⟨[kR 1 ⟨1,0⟩,kR 2 ⟨2,0⟩], []⟩
def V0:Vo:=⟨[kR 3 ⟨1,1⟩], []⟩
def kCe:Ce:=⟨[], [V1,V0]⟩
def kMe:Me:=⟨3,4,0,0,0,0,0,0⟩
def Ks:Me:=⟨4,4,0,0,0,0,0,0⟩
def kM:Ms:=⟨⟨0,0,kMe,0,0,false,0,0,0,0,0,0, []⟩, [], [kCe]⟩
def kSl:List Slt:= [⟨0,0,0,0,967680⟩,⟨0,0,1,967680,1451520⟩,⟨0,1,0,0,1451520⟩]
theorem Ajz (n:Int) (v:Val):(kR n v).fit:=⟨Nat.zero_le _,Nat.zero_le _,Nat.zero_le _⟩
theorem Zw : kM.fit := ⟨by decide, by decide, fun c hc => by
 have:=List.mem_singleton.1 hc;subst this
 refine ⟨by decide,by decide,fun v hv=> ?_⟩
 simp only [kCe,List.mem_cons,List.not_mem_nil,or_false] at hv
 rcases hv with rfl|rfl
 ·exact ⟨by decide,by decide,fun e he=>by simp only [V1,List.mem_cons,List.not_mem_nil,or_false] at he;rcases he with rfl|rfl<;>exact Ajz _ _⟩
 ·exact ⟨by decide, by decide, fun e he => by simp only [V0, List.mem_cons, List.not_mem_nil, or_false] at he; rcases he with rfl; exact Ajz _ _⟩⟩
theorem Zx:kM.evs:=fun c hc v hv e he=>by
 have:=List.mem_singleton.1 hc;subst this
 simp only [kCe,List.mem_cons,List.not_mem_nil,or_false] at hv
 rcases hv with rfl|rfl
 ·simp only [V1,List.mem_cons,List.not_mem_nil,or_false] at he;rcases he with rfl|rfl<;>decide
 ·simp only [V0,List.mem_cons,List.not_mem_nil,or_false] at he;rcases he with rfl;decide
theorem Ajx:slE kM=0:=by decide+kernel
theorem Ajw:slL kM=kSl:=by decide+kernel
theorem Asn:mlE kMe 0=0:=by decide+kernel
theorem Asm:mlV kMe 0=1451520:=by decide+kernel
theorem Aso:Aai kM= [0,967680]:=by
 unfold Aai
 rw [Ajw,show kSl.map (·.on)= [0,967680,0] from rfl]
 have h1:srt [0,967680,0]= [0,0,967680]:=by
  have hp:([0,967680,0]:List Int).Perm [0,0,967680]:=by decide
  have e1:srt [0,967680,0]=srt [0,0,967680]:=by
   refine List.Perm.eq_of_pairwise (le:=fun a b=>decide (a≤b)=true) (fun a b _ _ h1 h2=>by simp at h1 h2;omega) (List.pairwise_mergeSort (fun a b c h1 h2=>by simp at h1 h2 ⊢;omega) (fun a b=>by simp;omega) _) (List.pairwise_mergeSort (fun a b c h1 h2=>by simp at h1 h2 ⊢;omega) (fun a b=>by simp;omega) _) ?_
   exact ((List.mergeSort_perm _ _).trans hp).trans (List.mergeSort_perm _ _).symm
  rw [e1]
  exact List.mergeSort_of_pairwise (by decide)
 rw [h1]
 decide+kernel
theorem Aof:Ih kM Ks 0=0:=by decide+kernel
theorem Ats:Co kM Ks 0=Ahg kM Ks 0 (plS kMe 0) (plS Ks 0):=by rw [Co,Aof];rfl
theorem Ajy:(Bo (plS kMe 0) (plS Ks 0) kCe).voices.length=2:=by decide+kernel
theorem Att : ∃ y, (Bo (plS kMe 0) (plS Ks 0) kCe).voices[1]? = some y ∧ y.evs.length = 2 := ⟨(Bo (plS kMe 0) (plS Ks 0) kCe).voices[1]'(by rw [Ajy]; decide), List.getElem?_eq_getElem _, by decide +kernel⟩
theorem Vj (n:Int) (v:Val):XC Tryz.prog 94 [.agg [dI 1,dI n], .agg (Val.c v)] (fun r=>r= .agg (Ev.c (kR n v))):=by
 refine Am Adq Tryz.func94 R R lb<|zr<|XL.step R (An 2 (l:= [.d (dI 1), .d (dI n)]) R R (by kernel_rfl))<|XL.step R (An 3 (l:= [.d (dI v.log), .d (dI v.dots)]) R R (by kernel_rfl))<|?_
 refine XL.step R (Ao 4 (l:= [.d (dI 0), .d (dI 0), .d (dI 0), .d (dI 0), .d (dI 0), .d (.v (.slice none 0 0)), .d (.v (.slice none 0 0)), .d (dI 0), .d (dI 0), .d (dI 0), .d (.v (.slice none 0 0)), .d (dI 0), .d (dI 0)]) R Ca (by kernel_rfl))<|znr<|zp (Ae (s':= .d (.agg [dI 1,dI n])) (Ac (Ad R R Nx R lb)) (by kernel_rfl))<|?_
 refine zp (Ae (s':= .d (.agg (Val.c v))) (Ac (Ad R R Ej R lb)) (by kernel_rfl))<|zp (Ae (s':= .d (.agg [dI 1,dI n,dI 2,dI v.log,dI v.dots, .v (.slice none 0 0), .v (.slice none 0 0),dI 0,dI 0,dI 0, .v (.slice none 0 0),dI 0,dI 0])) (Ac (A1 R Qf Ca R)) (by kernel_rfl))<|?_
 refine XL.step R (Af (l':= [.d (dI 1), .d (dI n), .d (dI 2), .d (dI v.log), .d (dI v.dots), .d (.v (.slice none 0 0)), .d (.v (.slice none 0 0)), .d (dI 0), .d (dI 0), .d (dI 0), .d (.v (.slice none 0 0)), .d (dI 0), .d (dI 0)]) R R R R Cy R lb (by kernel_rfl))<|zn<|zt<|?_
 exact Jz R (RV.sub (RV.cells R R R Bq lb R) (.agg (.cons (.same R) (.cons (.same R) (.cons (.same R) (.cons (.same R) (.cons (.same R) (.cons (.nil 5) (.cons (.nil 5) (.cons (.same R) (.cons (.same R) (.cons (.same R) (.cons (.nil 2) (.cons (.same R) (.cons (.same R) (.nil)))))))))))))))) (R)
theorem Mn  :XC Tryz.prog 55 [] (fun r=>r= .agg (Ms.c kM)):=by
 refine Am Aeg Tryz.func55 R R lb<|zr<|XL.step R (Ao 0 (l:= [.d (dI 0), .d (dI 0), .d (dI 0), .d (dI 0), .d (dI 0), .d (dI 0), .d (dI 0), .d (dI 0), .d (dI 0), .d (dI 0), .d (dI 0), .d (dI 0), .d (dB false), .d (dI 0), .d (dI 0), .d (dI 0), .d (dI 0), .d (dI 0), .d (dI 0), .d (.v (.string ⟨#[]⟩)), .d (.v (.slice none 0 0)), .d (.v (.slice none 0 0))]) R C2 (by kernel_rfl))<|znr<|?_
 refine zp (Ae (s':= .d (.agg [dI 1,dI 1])) (Ac (A1 R Ys U9 R)) (by kernel_rfl))<|zp (Ae (s':= .d (.agg [dI 1,dI 0])) (Ac (A1 R Yq Fw R)) (by kernel_rfl))<|XL.call1 R R (Vj 1 ⟨1,0⟩) R<|zp (Ae (s':= .d (.agg [dI 1,dI 2])) (Ac (A1 R Ys U9 R)) (by kernel_rfl))<|?_
 refine zp (Ae (s':= .d (.agg [dI 2,dI 0])) (Ac (A1 R Yq Fw R)) (by kernel_rfl))<|XL.call1 R R (Vj 2 ⟨2,0⟩) R<|XL.step R (Ao 1 (l:= [.d (dI 0), .d (dI 0), .d (dI 0), .d (dI 0), .d (dI 0), .d (.v (.slice none 0 0)), .d (.v (.slice none 0 0)), .d (dI 0), .d (dI 0), .d (dI 0), .d (.v (.slice none 0 0)), .d (dI 0), .d (dI 0)]) R Ca (by kernel_rfl))<|?_
 refine XL.step R (Ao 2 (l:= [.d (dI 0), .d (dI 0), .d (dI 0), .d (dI 0), .d (dI 0), .d (.v (.slice none 0 0)), .d (.v (.slice none 0 0)), .d (dI 0), .d (dI 0), .d (dI 0), .d (.v (.slice none 0 0)), .d (dI 0), .d (dI 0)]) R Ca (by kernel_rfl))<|?_
 refine XL.step R (Af (l':= [.d (dI (kR 1 ⟨1,0⟩).site), .d (dI (kR 1 ⟨1,0⟩).num), .d (dI (kR 1 ⟨1,0⟩).kind), .d (dI (kR 1 ⟨1,0⟩).v.log), .d (dI (kR 1 ⟨1,0⟩).v.dots), .d (.sl 5 ((kR 1 ⟨1,0⟩).heads.map Hd.c)), .d (.sl 5 ((kR 1 ⟨1,0⟩).graces.map Gr.c)), .d (dI (kR 1 ⟨1,0⟩).art), .d (dI (kR 1 ⟨1,0⟩).orn), .d (dI (kR 1 ⟨1,0⟩).dyn), .d (.sl 2 ((kR 1 ⟨1,0⟩).lyr.map Sy.c)), .d (dI (kR 1 ⟨1,0⟩).stem), .d (dI (kR 1 ⟨1,0⟩).beam)]) R R R R Cy R lb (by kernel_rfl))<|?_
 refine XL.step R (Af (l':= [.d (dI (kR 2 ⟨2,0⟩).site), .d (dI (kR 2 ⟨2,0⟩).num), .d (dI (kR 2 ⟨2,0⟩).kind), .d (dI (kR 2 ⟨2,0⟩).v.log), .d (dI (kR 2 ⟨2,0⟩).v.dots), .d (.sl 5 ((kR 2 ⟨2,0⟩).heads.map Hd.c)), .d (.sl 5 ((kR 2 ⟨2,0⟩).graces.map Gr.c)), .d (dI (kR 2 ⟨2,0⟩).art), .d (dI (kR 2 ⟨2,0⟩).orn), .d (dI (kR 2 ⟨2,0⟩).dyn), .d (.sl 2 ((kR 2 ⟨2,0⟩).lyr.map Sy.c)), .d (dI (kR 2 ⟨2,0⟩).stem), .d (dI (kR 2 ⟨2,0⟩).beam)]) R R R R Cy R lb (by kernel_rfl))<|?_
 refine znr<|zp (Ae (s':= .d (.agg [dI 1,dI 3])) (Ac (A1 R Ys U9 R)) (by kernel_rfl))<|zp (Ae (s':= .d (.agg [dI 1,dI 1])) (Ac (A1 R Yq Fw R)) (by kernel_rfl))<|XL.call1 R R (Vj 3 ⟨1,1⟩) R<|?_
 refine XL.step R (Ao 3 (l:= [.d (dI 0), .d (dI 0), .d (dI 0), .d (dI 0), .d (dI 0), .d (.v (.slice none 0 0)), .d (.v (.slice none 0 0)), .d (dI 0), .d (dI 0), .d (dI 0), .d (.v (.slice none 0 0)), .d (dI 0), .d (dI 0)]) R Ca (by kernel_rfl))<|?_
 refine XL.step R (Af (l':= [.d (dI (kR 3 ⟨1,1⟩).site), .d (dI (kR 3 ⟨1,1⟩).num), .d (dI (kR 3 ⟨1,1⟩).kind), .d (dI (kR 3 ⟨1,1⟩).v.log), .d (dI (kR 3 ⟨1,1⟩).v.dots), .d (.sl 5 ((kR 3 ⟨1,1⟩).heads.map Hd.c)), .d (.sl 5 ((kR 3 ⟨1,1⟩).graces.map Gr.c)), .d (dI (kR 3 ⟨1,1⟩).art), .d (dI (kR 3 ⟨1,1⟩).orn), .d (dI (kR 3 ⟨1,1⟩).dyn), .d (.sl 2 ((kR 3 ⟨1,1⟩).lyr.map Sy.c)), .d (dI (kR 3 ⟨1,1⟩).stem), .d (dI (kR 3 ⟨1,1⟩).beam)]) R R R R Cy R lb (by kernel_rfl))<|?_
 refine znr<|zp (Ae (s':= .d (.agg [dI 3,dI 4,dI 0,dI 0,dI 0,dI 0,dI 0,dI 0])) (Ac (A1 R Aij Aew R)) (by kernel_rfl))<|zp (Ae (s':= .d (.agg (Ev.c (kR 1 ⟨1,0⟩)))) (Ac (Ad R R Bq R lb)) (by kernel_rfl))<|zp (Ae (s':= .d (.agg (Ev.c (kR 2 ⟨2,0⟩)))) (Ac (Ad R R Bq R lb)) (by kernel_rfl))<|?_
 refine XL.step R (Hn (l:= [kR 1 ⟨1,0⟩,kR 2 ⟨2,0⟩].map Ev.c) R Tryz.underlying79 Cy Ca (by kernel_rfl) R (by omega) (by omega))<|zp (Pk (.agg (Vo.c V1)) (Ae (s':= .d (.agg [.sl 13 ([kR 1 ⟨1,0⟩,kR 2 ⟨2,0⟩].map Ev.c), .v (.slice none 0 0)])) (Ac (A1 R C5 Bf R)) (by kernel_rfl)) (.agg (.cons (.same R) (.cons (.nil 4) (.nil)))))<|?_
 refine zp (Ae (s':= .d (.agg (Ev.c (kR 3 ⟨1,1⟩)))) (Ac (Ad R R Bq R lb)) (by kernel_rfl))<|XL.step R (Hn (l:= [kR 3 ⟨1,1⟩].map Ev.c) R Tryz.underlying79 Cy Ca (by kernel_rfl) R (by omega) (by omega))<|?_
 refine zp (Pk (.agg (Vo.c V0)) (Ae (s':= .d (.agg [.sl 13 ([kR 3 ⟨1,1⟩].map Ev.c), .v (.slice none 0 0)])) (Ac (A1 R C5 Bf R)) (by kernel_rfl)) (.agg (.cons (.same R) (.cons (.nil 4) (.nil)))))<|XL.step R (Hn (l:= [V1,V0].map Vo.c) R Tryz.underlying76 Bm Bf (by kernel_rfl) R (by omega) (by omega))<|?_
 refine zp (Pk (.agg (Ce.c kCe)) (Ae (s':= .d (.agg [.v (.slice none 0 0), .sl 2 ([V1,V0].map Vo.c)])) (Ac (A1 R Aii Gg R)) (by kernel_rfl)) (.agg (.cons (.nil 2) (.cons (.same R) (.nil)))))<|XL.step R (Hn (l:= [kCe].map Ce.c) R Tryz.underlying28 Lg Gg (by kernel_rfl) R (by omega) (by omega))<|?_
 refine zp (Pk (.agg (Ms.c kM)) (Ae (s':= .d (.agg [dI 0,dI 0,dI 3,dI 4,dI 0,dI 0,dI 0,dI 0,dI 0,dI 0,dI 0,dI 0,dB false,dI 0,dI 0,dI 0,dI 0,dI 0,dI 0, .v (.string ⟨#[]⟩), .v (.slice none 0 0), .sl 2 ([kCe].map Ce.c)])) (Ac (A1 (r:= [.d (dI 0), .d (dI 0), .d (dI 3), .d (dI 4), .d (dI 0), .d (dI 0), .d (dI 0), .d (dI 0), .d (dI 0), .d (dI 0), .d (dI 0), .d (dI 0), .d (dB false), .d (dI 0), .d (dI 0), .d (dI 0), .d (dI 0), .d (dI 0), .d (dI 0), .d (.v (.string ⟨#[]⟩)), .d (.v (.slice none 0 0)), .d (.sl 2 ([kCe].map Ce.c))]) R F8 C2 (by kernel_rfl))) (by kernel_rfl)) (.agg (.cons (.same R) (.cons (.same R) (.cons (.same R) (.cons (.same R) (.cons (.same R) (.cons (.same R) (.cons (.same R) (.cons (.same R) (.cons (.same R) (.cons (.same R) (.cons (.same R) (.cons (.same R) (.cons (.same R) (.cons (.same R) (.cons (.same R) (.cons (.same R) (.cons (.same R) (.cons (.same R) (.cons (.same R) (.cons (.same R) (.cons (.nil 3) (.cons (.same R) (.nil)))))))))))))))))))))))))<|?_
 refine XL.step R (Af (l':= [.d (dI kM.h.site), .d (dI kM.h.num), .d (dI kM.h.m.count), .d (dI kM.h.m.unit), .d (dI kM.h.m.g0), .d (dI kM.h.m.g1), .d (dI kM.h.m.g2), .d (dI kM.h.m.g3), .d (dI kM.h.m.g4), .d (dI kM.h.m.g5), .d (dI kM.h.len), .d (dI kM.h.fifths), .d (dB kM.h.start), .d (dI kM.h.fin), .d (dI kM.h.ends), .d (dI kM.h.jump), .d (dI kM.h.labels), .d (dI kM.h.swing), .d (dI kM.h.brk), .d (.v (.string ⟨kM.h.reh.toArray⟩)), .d (.sl 3 (kM.tempi.map Tm.c)), .d (.sl 2 (kM.cells.map Ce.c))]) R R R R Do R lb (by kernel_rfl))<|?_
 refine zn<|zt<|?_
 exact Jz R (RV.cells R R R Bn lb R) (R)
theorem Ajv:XC Tryz.prog 20 [.agg (Ms.c kM)] (fun r=>r= .tup [.sl 5 (kSl.map Slt.c),dI 0]):=by
 have:=Yw kM Zw Zx
 rw [Ajw,Ajx] at this;exact this
theorem Aqd:XC Tryz.prog 21 [.agg (Ms.c kM)] (fun r=>r= .tup [.sl 1 (([0,967680]:List Int).map iv),dI 0]):=by
 have:=Ahp kM Zw Zx
 rw [Aso,Ajx] at this;exact this
def kF:Ms:=Ahg kM Ks 0 (plS kMe 0) (plS Ks 0)
theorem Aqc:XC Tryz.prog 28 [.agg (Ms.c kM), .agg (Me.c Ks),dI 0] (fun r=>r= .tup [.agg (Ms.c kF),dI 0]):=by
 have:=Afl kM Ks 0 Zw Zx
 rw [Ats,Aof] at this;exact this
theorem Aqb:XC Tryz.prog 15 [.agg (Ms.c kM)] (fun r=>r= .tup [dI 1451520,dI 0]):=by
 have:=Qz kM.h kM.tempi kM.cells
 rw [show mlV kM.h.m kM.h.len=1451520 from Asm,show mlE kM.h.m kM.h.len=0 from Asn] at this;exact this
theorem Amr  :XC Tryz.prog 19 [] (fun r=>r=dB true):=by
 obtain ⟨y,hy,hyl⟩:=Att
 refine Am Aet Tryz.func19 R R lb<|zr<|za R R<|znr<|XL.call1 R R (Mn) R<|XL.call1 R R (Ajv) R<|zm R R<|zp (Ar R R R)<|zp (Ar R R R)<|za R R<|za R R<|znr<|XL.call1 R R (Mn) R<|XL.call1 R R (Aqd) R<|?_
 refine zm R R<|zp (Ar R R R)<|zp (Ar R R R)<|za R R<|za R R<|znr<|XL.call1 R R (Mn) R<|zp (Ae (s':= .d (.agg (Me.c Ks))) (Ac (A1 R Aij Aew R)) (by kernel_rfl))<|XL.call1 R R (Aqc) R<|zm R R<|zp (Ar R R R)<|zp (Ar R R R)<|?_
 refine XL.step R (Ao 5 (l:= [.d (dI 0), .d (dI 0), .d (dI 0), .d (dI 0), .d (dI 0), .d (dI 0), .d (dI 0), .d (dI 0), .d (dI 0), .d (dI 0), .d (dI 0), .d (dI 0), .d (dB false), .d (dI 0), .d (dI 0), .d (dI 0), .d (dI 0), .d (dI 0), .d (dI 0), .d (.v (.string ⟨#[]⟩)), .d (.v (.slice none 0 0)), .d (.v (.slice none 0 0))]) R C2 (by kernel_rfl))<|?_
 refine XL.step R (Af (l':= [.d (dI kF.h.site), .d (dI kF.h.num), .d (dI kF.h.m.count), .d (dI kF.h.m.unit), .d (dI kF.h.m.g0), .d (dI kF.h.m.g1), .d (dI kF.h.m.g2), .d (dI kF.h.m.g3), .d (dI kF.h.m.g4), .d (dI kF.h.m.g5), .d (dI kF.h.len), .d (dI kF.h.fifths), .d (dB kF.h.start), .d (dI kF.h.fin), .d (dI kF.h.ends), .d (dI kF.h.jump), .d (dI kF.h.labels), .d (dI kF.h.swing), .d (dI kF.h.brk), .d (.v (.string ⟨kF.h.reh.toArray⟩)), .d (.sl 3 (kF.tempi.map Tm.c)), .d (.sl 2 (kF.cells.map Ce.c))]) R R R R Do R lb (by kernel_rfl))<|?_
 refine za R R<|znr<|XL.call1 R R (Mn) R<|XL.call1 R R (Aqb) R<|zm R R<|zp (Ar R R R)<|zp (Ar R R R)<|za R R<|za R R<|znr<|zm R R<|zp (D7 (A7 R R R) (R))<|zm R R<|zm R R<|?_
 refine XL.len R R R Tryz.underlying42 fun hl34=>zp (D7 (A7 R R R) (by decide))<|zq R R R<|zm R R<|zm R R<|zp (Ap (k:=1) R R R Aom ((R:kSl[1]? =some ⟨0,0,1,967680,1451520⟩)))<|zp (Ae (s':= .d (.agg (Slt.c (⟨0,0,1,967680,1451520⟩)))) (A4 R R Ak3 lb) (by kernel_rfl))<|?_
 refine zp (Ae (s':= .d (.agg [dI 0,dI 0,dI 1,dI 967680,dI 1451520])) (Ac (A1 R Yr Mq R)) (by kernel_rfl))<|zp (Ae (s':= .d (dB true)) (Al8 R R R) (by kernel_rfl))<|zq R R R<|zm R R<|zm R R<|zp (D7 (A7 R R R) (R))<|zq R R R<|zm R R<|zm R R<|XL.len R R R Tryz.underlying45 fun hl50=>zp (D7 (A7 R R R) (by decide))<|zq R R R<|zm R R<|zm R R<|?_
 refine zp (Ap (k:=1) R R R Dt ((R:([0,967680]:List Int)[1]? =some 967680)))<|zp (Ba R R Ai)<|zp (D7 (A7 R R R) (R))<|zq R R R<|zm R R<|zm R R<|zp (D7 (A7 R R R) (R))<|zq R R R<|zm R R<|zp (Aa R R B9)<|zp (Ab R R Ep R R)<|XL.len R R R Tryz.underlying28 fun hl66=>zp (D7 (A7 R R R) (by decide))<|zq R R R<|?_
 refine zm R R<|zp (Aa R R B9)<|zp (Ab R R Ep R R)<|zp (Ap (k:=0) R R R Fm ((R:kF.cells[0]? =some (Bo (plS kMe 0) (plS Ks 0) kCe))))<|zp (Ff R R C8)<|zp (Ba R R Fy)<|XL.len R R R Tryz.underlying76 fun hl75=>zp (D7 (A7 R R R) (by rw [Ajy];rfl))<|zq R R R<|zm R R<|zp (Aa R R B9)<|zp (Ab R R Ep R R)<|?_
 refine zp (Ap (k:=0) R R R Fm ((R:kF.cells[0]? =some (Bo (plS kMe 0) (plS Ks 0) kCe))))<|zp (Ff R R C8)<|zp (Ba R R Fy)<|zp (Ap (k:=1) R R R Je (hy))<|zp (Ff R R Bk)<|zp (Ba R R Cz)<|XL.len R R R Tryz.underlying79 fun hl87=>zp (D7 (A7 R R R) (by rw [hyl];rfl))<|zq R R R<|zm R R<|zm R R<|zp (D7 (A7 R R R) (R))<|?_
 exact zq R R R<|zm R R<|zm R R<|zp (D7 (A7 R R R) (R))<|zq R R R<|za R R<|zn<|zt<|z1 R R (R)
end Go.Proofs.YtaafemnkamfgnaaGreat
namespace Go.Proofs.YtaafemnkamfgnaaGreat
open Go.RowKit
def cfE (c:Int):Int:=if c<1∨9<c then 11 else 0
end Go.Proofs.YtaafemnkamfgnaaGreat
namespace Go.Proofs.YtaafemnkamfgnaaGreat
open Go.RowKit
def clF (l:List Cf) (b t:Int):Int:=l.foldl (fun b c=>if c.tk≤t then c.clef else b) b
def Ms.cell (m:Ms) (s:Int):Ce:=(m.cells[s.toNat]?).getD ⟨[], []⟩
def clA (m:Ms) (s b t:Int):Int × Int:=if s<0∨(m.cells.length:Int)≤s then (0,2) else if cfE b≠0 then (0,cfE b) else (clF (m.cell s).clefs b t,0)
end Go.Proofs.YtaafemnkamfgnaaGreat
namespace Go.Proofs.YtaafemnkamfgnaaGreat
open Go.RowKit
def fsE (f:Nat→Int):Nat→Int
 |0=>0
 |n+1=>if fsE f n≠0 then fsE f n else f n
def Au4 (L:Int) (l:List Cf) (i:Nat):Int:=
 match l[i]? with
 |none=>0
 |some x=>if cfE x.clef≠0 then cfE x.clef else if x.tk<0∨L≤x.tk then 2 else
  match l[i - 1]? with
  |none=>0
  |some y=>if 0<i∧x.tk≤y.tk then 25 else 0
def As9 (L:Int) (l:List Cf):Int:=fsE (Au4 L l) l.length
def vAt (L:Int) (l:List Vo) (i:Nat):Int:=match l[i]? with|none=>0|some v=>vE L v
def ceE (L:Int) (c:Ce):Int:=if As9 L c.clefs≠0 then As9 L c.clefs else if 2<(c.voices.length:Int) then 9 else
 match c.voices[0]? with
 |none=>10
 |some v=>if v.evs.length=0 then 10 else fsE (vAt L c.voices) c.voices.length
def Au6 (L:Int) (l:List Ce) (i:Nat):Int:=match l[i]? with|none=>0|some c=>ceE L c
def chE (m:Ms) (n:Int):Int:=if mlE m.h.m m.h.len≠0 then mlE m.h.m m.h.len else if m.h.fifths< -7∨7<m.h.fifths then 2 else if (m.cells.length:Int)≠n then 20 else fsE (Au6 (mlV m.h.m m.h.len) m.cells) m.cells.length
theorem Ata {m:Ms} (h:m.evs) {k:Nat} {c:Ce} (hc:m.cells[k]? =some c):∀v∈c.voices,Evs v.evs:=h c (List.mem_of_getElem? hc)
end Go.Proofs.YtaafemnkamfgnaaGreat
namespace Go.Proofs.YtaafemnkamfgnaaGreat
open Go.RowKit
def Slt.z:Slt:=⟨0,0,0,0,0⟩
def Ce.voice (c:Ce) (v:Int):Vo:=(c.voices[v.toNat]?).getD ⟨[], []⟩
def atM (m:Ms) (s v t:Int):Slt × Int:=if mlE m.h.m m.h.len≠0 then (Slt.z,mlE m.h.m m.h.len)
 else if (s<0∨(m.cells.length:Int)≤s)∨(v<0∨((m.cell s).voices.length:Int)≤v)∨((m.cell s).voice v).evs.length=0 then (Slt.z,2)
 else if atE ((m.cell s).voice v) (mlV m.h.m m.h.len) t≠0 then (Slt.z,atE ((m.cell s).voice v) (mlV m.h.m m.h.len) t)
 else (⟨s,v,(atV ((m.cell s).voice v) (mlV m.h.m m.h.len) t).1,(atV ((m.cell s).voice v) (mlV m.h.m m.h.len) t).2,(atV ((m.cell s).voice v) (mlV m.h.m m.h.len) t).2+((ckL ((m.cell s).voice v) (mlV m.h.m m.h.len))[(atV ((m.cell s).voice v) (mlV m.h.m m.h.len) t).1.toNat]?).getD 0⟩,0)
end Go.Proofs.YtaafemnkamfgnaaGreat
namespace Go.Proofs.YtaafemnkamfgnaaGreat
open Go.RowKit
def Ms.ev (m:Ms) (s:Slt):Ev:=((((m.cell s.staff).voice s.voice).evs)[s.ev.toNat]?).getD restE
def idp (m:Ms) (a b:Int) (s:Slt):Bool:=decide ((m.ev s).site=a∧(m.ev s).num=b)
def fdM (m:Ms) (a b:Int):Slt × Bool:=if slE m≠0∨(a=0∧b=0) then (Slt.z,false) else
 match (slL m).find? (idp m a b) with
 |some s=>(s,true)
 |none=>(Slt.z,false)
def Ms.slot (m:Ms) (s:Slt):Prop:=s∈slL m
end Go.Proofs.YtaafemnkamfgnaaGreat
namespace Go.Proofs.YtaafemnkamfgnaaGreat
open Go.RowKit
set_option maxRecDepth 4000
set_option maxHeartbeats 4000000 in
theorem Aqv (d:Nat) (w:World) (a0:Int) (a1:Int) (a2:Int) (a3:Int) (a4:Int) (a5:Int) (a6:Int) (a7:Int) (b0:Int) (b1:Int) (b2:Int) (b3:Int) (b4:Int) (b5:Int) (b6:Int) (b7:Int):(Op.equalIn (d+3) 26 (.agg #[.int .i64 a0, .int .i64 a1, .int .i64 a2, .int .i64 a3, .int .i64 a4, .int .i64 a5, .int .i64 a6, .int .i64 a7]) (.agg #[.int .i64 b0, .int .i64 b1, .int .i64 b2, .int .i64 b3, .int .i64 b4, .int .i64 b5, .int .i64 b6, .int .i64 b7])).run Tryz.prog w= .ok (decide (a0=b0∧a1=b1∧(a2=b2∧a3=b3∧a4=b4∧a5=b5∧a6=b6∧a7=b7))) w:=by
 rw [show d+3=(d+2)+1 from rfl,run_equalIn_struct w (d+2) 26 _ _ (by kernel_rfl) (by kernel_rfl),Ec Tryz.underlying26]
 exact Cc (by decide) (Bg Ai w rfl) (Bg Ai w rfl) (Cm (d+1) 3 Tryz.underlying3 _ _) (Cc (by decide) (Bg Ai w rfl) (Bg Ai w rfl) (Cm (d+1) 3 Tryz.underlying3 _ _) (Gx (by decide) (Lk Rn w rfl) (Lk Rn w rfl) (V5 (d) w _ _ _ _ _ _ _ _ _ _ _ _)))
set_option maxHeartbeats 4000000 in
theorem Ano (d:Nat) (w:World) (a0:Int) (a1:Int) (a2:Int) (a3:Int) (a4:Int) (a5:Int) (a6:Int) (a7:Int) (a8:Int) (a9:Int) (a10:Int) (a11:Int) (a12:Bool) (a13:Int) (a14:Int) (a15:Int) (a16:Int) (a17:Int) (a18:Int) (a19:ByteArray) (b0:Int) (b1:Int) (b2:Int) (b3:Int) (b4:Int) (b5:Int) (b6:Int) (b7:Int) (b8:Int) (b9:Int) (b10:Int) (b11:Int) (b12:Bool) (b13:Int) (b14:Int) (b15:Int) (b16:Int) (b17:Int) (b18:Int) (b19:ByteArray):(Op.equalIn (d+4) 127 (.agg #[.int .i64 a0, .int .i64 a1, .int .i64 a2, .int .i64 a3, .int .i64 a4, .int .i64 a5, .int .i64 a6, .int .i64 a7, .int .i64 a8, .int .i64 a9, .int .i64 a10, .int .i64 a11, .bool a12, .int .i64 a13, .int .i64 a14, .int .i64 a15, .int .i64 a16, .int .i64 a17, .int .i64 a18, .string a19]) (.agg #[.int .i64 b0, .int .i64 b1, .int .i64 b2, .int .i64 b3, .int .i64 b4, .int .i64 b5, .int .i64 b6, .int .i64 b7, .int .i64 b8, .int .i64 b9, .int .i64 b10, .int .i64 b11, .bool b12, .int .i64 b13, .int .i64 b14, .int .i64 b15, .int .i64 b16, .int .i64 b17, .int .i64 b18, .string b19])).run Tryz.prog w= .ok (decide ((a0=b0∧a1=b1)∧(a2=b2∧a3=b3∧(a4=b4∧a5=b5∧a6=b6∧a7=b7∧a8=b8∧a9=b9))∧a10=b10∧a11=b11∧a12=b12∧a13=b13∧a14=b14∧a15=b15∧a16=b16∧a17=b17∧a18=b18∧a19.toList=b19.toList)) w:=by
 rw [show d+4=(d+3)+1 from rfl,run_equalIn_struct w (d+3) 127 _ _ (by kernel_rfl) (by kernel_rfl),Ec Tryz.underlying127]
 exact Cc (by decide) (Lk Nx w rfl) (Lk Nx w rfl) (Afv (d+1) w _ _ _ _) (Cc (by decide) (Lk A8 w rfl) (Lk A8 w rfl) (Aqv (d) w _ _ _ _ _ _ _ _ _ _ _ _ _ _ _ _) (Cc (by decide) (Bg Ai w rfl) (Bg Ai w rfl) (Cm (d+2) 3 Tryz.underlying3 _ _) (Cc (by decide) (Bg Ai w rfl) (Bg Ai w rfl) (Cm (d+2) 3 Tryz.underlying3 _ _) (Cc (by decide) (Bg Ph w rfl) (Bg Ph w rfl) (Pz (d+2) 4 Tryz.underlying4 _ _) (Cc (by decide) (Bg Ai w rfl) (Bg Ai w rfl) (Cm (d+2) 3 Tryz.underlying3 _ _) (Cc (by decide) (Bg Ai w rfl) (Bg Ai w rfl) (Cm (d+2) 3 Tryz.underlying3 _ _) (Cc (by decide) (Bg Ai w rfl) (Bg Ai w rfl) (Cm (d+2) 3 Tryz.underlying3 _ _) (Cc (by decide) (Bg Ai w rfl) (Bg Ai w rfl) (Cm (d+2) 3 Tryz.underlying3 _ _) (Cc (by decide) (Bg Ai w rfl) (Bg Ai w rfl) (Cm (d+2) 3 Tryz.underlying3 _ _) (Cc (by decide) (Bg Ai w rfl) (Bg Ai w rfl) (Cm (d+2) 3 Tryz.underlying3 _ _) (Gx (by decide) (Bg Jj w rfl) (Bg Jj w rfl) (Afw (d+2) 9 Tryz.underlying9 _ _))))))))))))
set_option maxHeartbeats 4000000 in
theorem Qp {t':TypeId} {o:Oper} {e:Operand→S} {h:Xh} {x y:Operand} {a0:Int} {a1:Int} {a2:Int} {a3:Int} {a4:Int} {a5:Int} {a6:Int} {a7:Int} {a8:Int} {a9:Int} {a10:Int} {a11:Int} {a12:Bool} {a13:Int} {a14:Int} {a15:Int} {a16:Int} {a17:Int} {a18:Int} {a19:ByteArray} {b0:Int} {b1:Int} {b2:Int} {b3:Int} {b4:Int} {b5:Int} {b6:Int} {b7:Int} {b8:Int} {b9:Int} {b10:Int} {b11:Int} {b12:Bool} {b13:Int} {b14:Int} {b15:Int} {b16:Int} {b17:Int} {b18:Int} {b19:ByteArray} (ho:o.op= .binOp .eql 127 x y t') (hx:e x= .d (.agg [.v (.int .i64 a0), .v (.int .i64 a1), .v (.int .i64 a2), .v (.int .i64 a3), .v (.int .i64 a4), .v (.int .i64 a5), .v (.int .i64 a6), .v (.int .i64 a7), .v (.int .i64 a8), .v (.int .i64 a9), .v (.int .i64 a10), .v (.int .i64 a11), .v (.bool a12), .v (.int .i64 a13), .v (.int .i64 a14), .v (.int .i64 a15), .v (.int .i64 a16), .v (.int .i64 a17), .v (.int .i64 a18), .v (.string a19)])) (hy:e y= .d (.agg [.v (.int .i64 b0), .v (.int .i64 b1), .v (.int .i64 b2), .v (.int .i64 b3), .v (.int .i64 b4), .v (.int .i64 b5), .v (.int .i64 b6), .v (.int .i64 b7), .v (.int .i64 b8), .v (.int .i64 b9), .v (.int .i64 b10), .v (.int .i64 b11), .v (.bool b12), .v (.int .i64 b13), .v (.int .i64 b14), .v (.int .i64 b15), .v (.int .i64 b16), .v (.int .i64 b17), .v (.int .i64 b18), .v (.string b19)])):Be Tryz.prog o e h (.d (.v (.bool (decide ((a0=b0∧a1=b1)∧(a2=b2∧a3=b3∧(a4=b4∧a5=b5∧a6=b6∧a7=b7∧a8=b8∧a9=b9))∧a10=b10∧a11=b11∧a12=b12∧a13=b13∧a14=b14∧a15=b15∧a16=b16∧a17=b17∧a18=b18∧a19.toList=b19.toList))))):=by
 refine Fg ho hx hy rfl rfl (by kernel_rfl) fun w=> ?_
 refine (run_eql_struct w 127 #[.int .i64 a0, .int .i64 a1, .int .i64 a2, .int .i64 a3, .int .i64 a4, .int .i64 a5, .int .i64 a6, .int .i64 a7, .int .i64 a8, .int .i64 a9, .int .i64 a10, .int .i64 a11, .bool a12, .int .i64 a13, .int .i64 a14, .int .i64 a15, .int .i64 a16, .int .i64 a17, .int .i64 a18, .string a19] #[.int .i64 b0, .int .i64 b1, .int .i64 b2, .int .i64 b3, .int .i64 b4, .int .i64 b5, .int .i64 b6, .int .i64 b7, .int .i64 b8, .int .i64 b9, .int .i64 b10, .int .i64 b11, .bool b12, .int .i64 b13, .int .i64 b14, .int .i64 b15, .int .i64 b16, .int .i64 b17, .int .i64 b18, .string b19]).trans ?_
 have hq:=Ano 9996 w a0 a1 a2 a3 a4 a5 a6 a7 a8 a9 a10 a11 a12 a13 a14 a15 a16 a17 a18 a19 b0 b1 b2 b3 b4 b5 b6 b7 b8 b9 b10 b11 b12 b13 b14 b15 b16 b17 b18 b19
 simp only [Nat.reduceAdd] at hq
 rw [hq]
 simp only [Result.andThen_ok]
end Go.Proofs.YtaafemnkamfgnaaGreat
namespace Go.Proofs.YtaafemnkamfgnaaGreat
open Go.RowKit
theorem Al1 {t:Me} {n:Int} (h:¬mlE t n≠0):plS t n=T2 t (mlV t n):=by rw [Vk h,T2,(Zj h).2]
end Go.Proofs.YtaafemnkamfgnaaGreat
namespace Go.Proofs.YtaafemnkamfgnaaGreat
open Go.RowKit
theorem dno {p:Prop} [Decidable p] (h:¬p):false=decide p:=(decide_eq_false h).symm
theorem Anq {p:Prop} [Decidable p] (h:p):true=decide p:=(decide_eq_true h).symm
theorem Ev.eqv_iff {a b:Ev}:a.eqv b↔a=b:=by
 constructor
 ·rintro ⟨⟨h1,h2⟩,h3,h4,h5,h6,h7,h8,h9,h10,h11,h12⟩
  obtain ⟨a1,a2,a3,a4,a5,a6,a7,a8,a9,a10,a11,a12⟩:=a
  obtain ⟨b1,b2,b3,b4,b5,b6,b7,b8,b9,b10,b11,b12⟩:=b
  simp only at h1 h2 h3 h4 h5 h6 h7 h8 h9 h10 h11 h12
  subst h1 h2 h3 h4 h5 h6 h7 h8 h9 h10 h11 h12;rfl
 ·rintro rfl
  exact ⟨⟨rfl,rfl⟩,rfl,rfl,rfl,rfl,rfl,rfl,rfl,rfl,rfl,rfl⟩
instance:DecidableEq Ev:=fun a b=>decidable_of_iff _ Ev.eqv_iff
instance:DecidableEq Vo:=fun a b=>decidable_of_iff (a.evs=b.evs∧a.tups=b.tups) ⟨fun h=>by obtain ⟨x,y⟩:=a;obtain ⟨z,t⟩:=b;obtain ⟨rfl,rfl⟩:=h;rfl,fun h=>by rw [h];exact ⟨rfl,rfl⟩⟩
instance:DecidableEq Ce:=fun a b=>decidable_of_iff (a.clefs=b.clefs∧a.voices=b.voices) ⟨fun h=>by obtain ⟨x,y⟩:=a;obtain ⟨z,t⟩:=b;obtain ⟨rfl,rfl⟩:=h;rfl,fun h=>by rw [h];exact ⟨rfl,rfl⟩⟩
instance:DecidableEq Ms:=fun a b=>decidable_of_iff (a.h=b.h∧a.tempi=b.tempi∧a.cells=b.cells) ⟨fun h=>by obtain ⟨x,y,z⟩:=a;obtain ⟨x',y',z'⟩:=b;obtain ⟨rfl,rfl,rfl⟩:=h;rfl,fun h=>by rw [h];exact ⟨rfl,rfl,rfl⟩⟩
theorem Cf.eq_of {x y:Cf} (h:¬ ¬(x.tk=y.tk∧x.clef=y.clef)):x=y:=by
 obtain ⟨a,b⟩:=x;obtain ⟨a',b'⟩:=y;simp only [Decidable.not_not] at h;obtain ⟨rfl,rfl⟩:=h;rfl
theorem Cf.ne_of {x y:Cf} (h:¬(x.tk=y.tk∧x.clef=y.clef)):x≠y:=by rintro rfl;exact h ⟨rfl,rfl⟩
theorem Tm.eq_of {x y:Tm} (h:¬ ¬(x.tk=y.tk∧x.micros=y.micros∧x.ramp=y.ramp)):x=y:=by
 obtain ⟨a,b,c⟩:=x;obtain ⟨a',b',c'⟩:=y;simp only [Decidable.not_not] at h;obtain ⟨rfl,rfl,rfl⟩:=h;rfl
theorem Tm.ne_of {x y:Tm} (h:¬(x.tk=y.tk∧x.micros=y.micros∧x.ramp=y.ramp)):x≠y:=by rintro rfl;exact h ⟨rfl,rfl,rfl⟩
theorem Tp.eq_of {x y:Tp} (h:¬ ¬(x.first=y.first∧x.count=y.count∧x.actual=y.actual∧x.normal=y.normal)):x=y:=by
 obtain ⟨a,b,c,d⟩:=x;obtain ⟨a',b',c',d'⟩:=y;simp only [Decidable.not_not] at h;obtain ⟨rfl,rfl,rfl,rfl⟩:=h;rfl
theorem Tp.ne_of {x y:Tp} (h:¬(x.first=y.first∧x.count=y.count∧x.actual=y.actual∧x.normal=y.normal)):x≠y:=by rintro rfl;exact h ⟨rfl,rfl,rfl,rfl⟩
theorem Ank (a b:List Cf):XC Tryz.prog 79 [.sl 2 (a.map Cf.c), .sl 2 (b.map Cf.c)] (fun r=>r=dB (decide (a=b))):=by
 refine Am Adw Tryz.func79 R R lb<|zr<|za R R<|zn<|zs<|zr<|zm R R<|XL.len R R R Tryz.underlying75 fun hl7=>zm R R<|XL.len R R R Tryz.underlying75 fun hl9=>zp (Az R R R)<|zn<|?_
 refine zd R (fun c10=> ?_) (fun c10=> ?_)
 exact zr<|za R R<|zn<|zt<|z1 R R (rB (Gu (fun h=>c10 (by rw [h]))))
 refine zi<|zs<|zr<|zm R R<|XL.len R R R Tryz.underlying75 fun hl12=>zm R R<|zn<|Ah<|?_
 refine A0 (α:=Nat) (fun k=>k≤a.length∧∀j x y,j<k→a[j]? =some x→b[j]? =some y→x=y) (fun k=>mkF [(0, .d (.sl 2 (a.map Cf.c))),(1, .d (.sl 2 (b.map Cf.c))),(12, .d (dI a.length)),(13, .d (dI k))]) (fun k=>mkH []) (fun k=>a.length - k) (0) (⟨Nat.zero_le _,fun j x y h=>absurd h (Nat.not_lt_zero _)⟩) ?_ ?_ ?_
 exact fz ⟨sr,sr,sr,sr,trivial⟩
 exact HSub.nil
 intro k hk0
 obtain ⟨hk,hf⟩:=hk0
 refine zr<|zp (As R R R)<|zn<|zs<|?_
 refine zd R (fun c14=> ?_) (fun c14=> ?_)
 have hk0a:k<a.length:=by omega
 obtain ⟨x,hx0⟩:=Aw hk0a
 obtain ⟨y,hy⟩:∃y,b[k]? =some y:=Aw (by omega)
 refine zi<|zs<|Ah<|zr<|zm R R<|za R R<|zn<|zs<|B6 [] (by kernel_rfl) (by kernel_rfl) (by kernel_rfl) (by decide)<|ym R R<|ym R R<|yp (Ap R R R Ln hx0)<|yp (Ae (s':= .d (.agg (Cf.c x))) (A4 R R Nw lb) (by kernel_rfl))<|ym R R<|?_
 refine ym R R<|yp (Ap R R R Ln (hy))<|yp (Ae (s':= .d (.agg (Cf.c y))) (A4 R R Nw lb) (by kernel_rfl))<|yp (Al3 R R R)<|?_
 refine ChK.nil ⟨by kernel_rfl, ?_⟩
 refine zd R (fun c24=> ?_) (fun c24=> ?_)
 exact zr<|za R R<|zn<|zt<|z1 R R (rB (Gu (fun h=>Cf.ne_of c24 (by rw [h] at hx0;rw [hx0] at hy;cases hy;rfl))))
 refine zi<|Ag (by kernel_rfl)<|zp (Ak R R R (by omega) (by omega))<|zm R R<|zn<|?_
 exact Al (k+1) (⟨by omega,fun j x' y' hj hx' hy'=>by by_cases e:j=k;(· subst e;rw [hx0] at hx';rw [hy] at hy';cases hx';cases hy';exact Cf.eq_of c24);(· exact hf j x' y' (by omega) hx' hy')⟩) (by omega) (fz ⟨sr,sr,sr,sr,trivial⟩) (HSub.nil)
 have hk0b:k=a.length:=by omega
 exact Au<|zr<|za R R<|zn<|zt<|z1 R R (rB (eq_yes (G6 (by omega) (fun j x y hj=>hf j x y (by omega)))))
theorem Aab (a b:List Tm):XC Tryz.prog 73 [.sl 3 (a.map Tm.c), .sl 3 (b.map Tm.c)] (fun r=>r=dB (decide (a=b))):=by
 refine Am Ad0 Tryz.func73 R R lb<|zr<|za R R<|zn<|zs<|zr<|zm R R<|XL.len R R R Tryz.underlying27 fun hl7=>zm R R<|XL.len R R R Tryz.underlying27 fun hl9=>zp (Az R R R)<|zn<|?_
 refine zd R (fun c10=> ?_) (fun c10=> ?_)
 exact zr<|za R R<|zn<|zt<|z1 R R (rB (Gu (fun h=>c10 (by rw [h]))))
 refine zi<|zs<|zr<|zm R R<|XL.len R R R Tryz.underlying27 fun hl12=>zm R R<|zn<|Ah<|?_
 refine A0 (α:=Nat) (fun k=>k≤a.length∧∀j x y,j<k→a[j]? =some x→b[j]? =some y→x=y) (fun k=>mkF [(0, .d (.sl 3 (a.map Tm.c))),(1, .d (.sl 3 (b.map Tm.c))),(12, .d (dI a.length)),(13, .d (dI k))]) (fun k=>mkH []) (fun k=>a.length - k) (0) (⟨Nat.zero_le _,fun j x y h=>absurd h (Nat.not_lt_zero _)⟩) ?_ ?_ ?_
 exact fz ⟨sr,sr,sr,sr,trivial⟩
 exact HSub.nil
 intro k hk0
 obtain ⟨hk,hf⟩:=hk0
 refine zr<|zp (As R R R)<|zn<|zs<|?_
 refine zd R (fun c14=> ?_) (fun c14=> ?_)
 have hk0a:k<a.length:=by omega
 obtain ⟨x,hx0⟩:=Aw hk0a
 obtain ⟨y,hy⟩:∃y,b[k]? =some y:=Aw (by omega)
 refine zi<|zs<|Ah<|zr<|zm R R<|za R R<|zn<|zs<|B6 [] (by kernel_rfl) (by kernel_rfl) (by kernel_rfl) (by decide)<|ym R R<|ym R R<|yp (Ap R R R Ky hx0)<|yp (Ae (s':= .d (.agg (Tm.c x))) (A4 R R Lf lb) (by kernel_rfl))<|ym R R<|?_
 refine ym R R<|yp (Ap R R R Ky (hy))<|yp (Ae (s':= .d (.agg (Tm.c y))) (A4 R R Lf lb) (by kernel_rfl))<|yp (Ai5 R R R)<|?_
 refine ChK.nil ⟨by kernel_rfl, ?_⟩
 refine zd R (fun c24=> ?_) (fun c24=> ?_)
 exact zr<|za R R<|zn<|zt<|z1 R R (rB (Gu (fun h=>Tm.ne_of c24 (by rw [h] at hx0;rw [hx0] at hy;cases hy;rfl))))
 refine zi<|Ag (by kernel_rfl)<|zp (Ak R R R (by omega) (by omega))<|zm R R<|zn<|?_
 exact Al (k+1) (⟨by omega,fun j x' y' hj hx' hy'=>by by_cases e:j=k;(· subst e;rw [hx0] at hx';rw [hy] at hy';cases hx';cases hy';exact Tm.eq_of c24);(· exact hf j x' y' (by omega) hx' hy')⟩) (by omega) (fz ⟨sr,sr,sr,sr,trivial⟩) (HSub.nil)
 have hk0b:k=a.length:=by omega
 exact Au<|zr<|za R R<|zn<|zt<|z1 R R (rB (eq_yes (G6 (by omega) (fun j x y hj=>hf j x y (by omega)))))
theorem Ang (a b:List Tp):XC Tryz.prog 139 [.sl 4 (a.map Tp.c), .sl 4 (b.map Tp.c)] (fun r=>r=dB (decide (a=b))):=by
 refine Am Ab9 Tryz.func139 R R lb<|zr<|za R R<|zn<|zs<|zr<|zm R R<|XL.len R R R Tryz.underlying80 fun hl7=>zm R R<|XL.len R R R Tryz.underlying80 fun hl9=>zp (Az R R R)<|zn<|?_
 refine zd R (fun c10=> ?_) (fun c10=> ?_)
 exact zr<|za R R<|zn<|zt<|z1 R R (rB (Gu (fun h=>c10 (by rw [h]))))
 refine zi<|zs<|zr<|zm R R<|XL.len R R R Tryz.underlying80 fun hl12=>zm R R<|zn<|Ah<|?_
 refine A0 (α:=Nat) (fun k=>k≤a.length∧∀j x y,j<k→a[j]? =some x→b[j]? =some y→x=y) (fun k=>mkF [(0, .d (.sl 4 (a.map Tp.c))),(1, .d (.sl 4 (b.map Tp.c))),(12, .d (dI a.length)),(13, .d (dI k))]) (fun k=>mkH []) (fun k=>a.length - k) (0) (⟨Nat.zero_le _,fun j x y h=>absurd h (Nat.not_lt_zero _)⟩) ?_ ?_ ?_
 exact fz ⟨sr,sr,sr,sr,trivial⟩
 exact HSub.nil
 intro k hk0
 obtain ⟨hk,hf⟩:=hk0
 refine zr<|zp (As R R R)<|zn<|zs<|?_
 refine zd R (fun c14=> ?_) (fun c14=> ?_)
 have hk0a:k<a.length:=by omega
 obtain ⟨x,hx0⟩:=Aw hk0a
 obtain ⟨y,hy⟩:∃y,b[k]? =some y:=Aw (by omega)
 refine zi<|zs<|Ah<|zr<|zm R R<|za R R<|zn<|zs<|B6 [] (by kernel_rfl) (by kernel_rfl) (by kernel_rfl) (by decide)<|ym R R<|ym R R<|yp (Ap R R R E1 hx0)<|yp (Ae (s':= .d (.agg (Tp.c x))) (A4 R R B8 lb) (by kernel_rfl))<|ym R R<|?_
 refine ym R R<|yp (Ap R R R E1 (hy))<|yp (Ae (s':= .d (.agg (Tp.c y))) (A4 R R B8 lb) (by kernel_rfl))<|yp (Ai4 R R R)<|?_
 refine ChK.nil ⟨by kernel_rfl, ?_⟩
 refine zd R (fun c24=> ?_) (fun c24=> ?_)
 exact zr<|za R R<|zn<|zt<|z1 R R (rB (Gu (fun h=>Tp.ne_of c24 (by rw [h] at hx0;rw [hx0] at hy;cases hy;rfl))))
 refine zi<|Ag (by kernel_rfl)<|zp (Ak R R R (by omega) (by omega))<|zm R R<|zn<|?_
 exact Al (k+1) (⟨by omega,fun j x' y' hj hx' hy'=>by by_cases e:j=k;(· subst e;rw [hx0] at hx';rw [hy] at hy';cases hx';cases hy';exact Tp.eq_of c24);(· exact hf j x' y' (by omega) hx' hy')⟩) (by omega) (fz ⟨sr,sr,sr,sr,trivial⟩) (HSub.nil)
 have hk0b:k=a.length:=by omega
 exact Au<|zr<|za R R<|zn<|zt<|z1 R R (rB (eq_yes (G6 (by omega) (fun j x y hj=>hf j x y (by omega)))))
theorem Akk (a b:List Ev) (F:Nat) (hF:∀x∈a,∀y∈b,XC Tryz.prog F [.agg (Ev.c x), .agg (Ev.c y)] (fun r=>r=dB (decide (x=y)))):XC Tryz.prog 108 [.sl 13 (a.map Ev.c), .sl 13 (b.map Ev.c), .fn F [] []] (fun r=>r=dB (decide (a=b))):=by
 refine Am Acn Tryz.func108 R R lb<|zr<|za R R<|zn<|zs<|zr<|zm R R<|XL.len R R R Tryz.underlying79 fun hl11=>zm R R<|XL.len R R R Tryz.underlying79 fun hl13=>zp (Az R R R)<|zn<|?_
 refine zd R (fun c14=> ?_) (fun c14=> ?_)
 exact zr<|za R R<|zn<|zt<|z1 R R (rB (Gu (fun h=>c14 (by rw [h]))))
 refine zi<|zs<|zr<|zm R R<|XL.len R R R Tryz.underlying79 fun hl16=>zm R R<|zn<|Ah<|?_
 refine A0 (α:=Nat) (fun k=>k≤a.length∧∀j x y,j<k→a[j]? =some x→b[j]? =some y→x=y) (fun k=>mkF [(1, .d (.sl 13 (b.map Ev.c))),(2, .d (.fn F [] [])),(15, .d (.sl 13 (a.map Ev.c))),(16, .d (dI a.length)),(17, .d (dI k))]) (fun k=>mkH []) (fun k=>a.length - k) (0) (⟨Nat.zero_le _,fun j x y h=>absurd h (Nat.not_lt_zero _)⟩) ?_ ?_ ?_
 exact fz ⟨sr,sr,sr,sr,sr,trivial⟩
 exact HSub.nil
 intro k hk0
 obtain ⟨hk,hf⟩:=hk0
 refine zr<|zp (As R R R)<|zn<|zs<|?_
 refine zd R (fun c18=> ?_) (fun c18=> ?_)
 have hk0a:k<a.length:=by omega
 obtain ⟨x,hx0⟩:=Aw hk0a
 obtain ⟨y,hy⟩:∃y,b[k]? =some y:=Aw (by omega)
 refine zi<|zs<|Ah<|zr<|zm R R<|zp (Ap R R R G7 hx0)<|zp (Ae (s':= .d (.agg (Ev.c x))) (A4 R R Bq lb) (by kernel_rfl))<|XL.step R (Ao 8 (l:= [.d (dI 0), .d (dI 0), .d (dI 0), .d (dI 0), .d (dI 0), .d (.v (.slice none 0 0)), .d (.v (.slice none 0 0)), .d (dI 0), .d (dI 0), .d (dI 0), .d (.v (.slice none 0 0)), .d (dI 0), .d (dI 0)]) R Ca (by kernel_rfl))<|?_
 refine za R R<|XL.step R (Af (l':= [.d (dI x.site), .d (dI x.num), .d (dI x.kind), .d (dI x.v.log), .d (dI x.v.dots), .d (.sl 5 (x.heads.map Hd.c)), .d (.sl 5 (x.graces.map Gr.c)), .d (dI x.art), .d (dI x.orn), .d (dI x.dyn), .d (.sl 2 (x.lyr.map Sy.c)), .d (dI x.stem), .d (dI x.beam)]) R R R R Cy R lb (by kernel_rfl))<|znr<|zm R R<|zm R R<|zp (Ap R R R G7 (hy))<|?_
 refine zp (Ae (s':= .d (.agg (Ev.c y))) (A4 R R Bq lb) (by kernel_rfl))<|XL.step R (Ao 9 (l:= [.d (dI 0), .d (dI 0), .d (dI 0), .d (dI 0), .d (dI 0), .d (.v (.slice none 0 0)), .d (.v (.slice none 0 0)), .d (dI 0), .d (dI 0), .d (dI 0), .d (.v (.slice none 0 0)), .d (dI 0), .d (dI 0)]) R Ca (by kernel_rfl))<|?_
 refine XL.step R (Af (l':= [.d (dI y.site), .d (dI y.num), .d (dI y.kind), .d (dI y.v.log), .d (dI y.v.dots), .d (.sl 5 (y.heads.map Hd.c)), .d (.sl 5 (y.graces.map Gr.c)), .d (dI y.art), .d (dI y.orn), .d (dI y.dyn), .d (.sl 2 (y.lyr.map Sy.c)), .d (dI y.stem), .d (dI y.beam)]) R R R R Cy R lb (by kernel_rfl))<|znr<|zm R R<|?_
 refine zp (Ae (s':= .d (.agg (Ev.c x))) (Ac (Ad R R Bq R lb)) (by kernel_rfl))<|zp (Ae (s':= .d (.agg (Ev.c y))) (Ac (Ad R R Bq R lb)) (by kernel_rfl))<|XL.callv1 (ds:= [_,_]) R R R (hF x (List.mem_of_getElem? hx0) y (List.mem_of_getElem? hy)) R<|zp (Eu R R)<|zn<|?_
 refine zd R (fun c30=> ?_) (fun c30=> ?_)
 exact zr<|za R R<|zn<|zt<|z1 R R (rB (Gu (fun h=>c30 (by rw [h] at hx0;rw [hx0] at hy;cases hy;rfl))))
 refine zi<|Ag (by kernel_rfl)<|zp (Ak R R R (by omega) (by omega))<|zm R R<|zn<|?_
 exact Al (k+1) (⟨by omega,fun j x' y' hj hx' hy'=>by by_cases e:j=k;(· subst e;rw [hx0] at hx';rw [hy] at hy';cases hx';cases hy';exact Decidable.not_not.1 c30);(· exact hf j x' y' (by omega) hx' hy')⟩) (by omega) (fz ⟨sr,sr,sr,sr,sr,trivial⟩) (HSub.nil)
 have hk0b:k=a.length:=by omega
 exact Au<|zr<|za R R<|zn<|zt<|z1 R R (rB (eq_yes (G6 (by omega) (fun j x y hj=>hf j x y (by omega)))))
theorem Akj (a b:List Vo) (F:Nat) (hF:∀x∈a,∀y∈b,XC Tryz.prog F [.agg (Vo.c x), .agg (Vo.c y)] (fun r=>r=dB (decide (x=y)))):XC Tryz.prog 80 [.sl 2 (a.map Vo.c), .sl 2 (b.map Vo.c), .fn F [] []] (fun r=>r=dB (decide (a=b))):=by
 refine Am Adv Tryz.func80 R R lb<|zr<|za R R<|zn<|zs<|zr<|zm R R<|XL.len R R R Tryz.underlying76 fun hl11=>zm R R<|XL.len R R R Tryz.underlying76 fun hl13=>zp (Az R R R)<|zn<|?_
 refine zd R (fun c14=> ?_) (fun c14=> ?_)
 exact zr<|za R R<|zn<|zt<|z1 R R (rB (Gu (fun h=>c14 (by rw [h]))))
 refine zi<|zs<|zr<|zm R R<|XL.len R R R Tryz.underlying76 fun hl16=>zm R R<|zn<|Ah<|?_
 refine A0 (α:=Nat) (fun k=>k≤a.length∧∀j x y,j<k→a[j]? =some x→b[j]? =some y→x=y) (fun k=>mkF [(1, .d (.sl 2 (b.map Vo.c))),(2, .d (.fn F [] [])),(15, .d (.sl 2 (a.map Vo.c))),(16, .d (dI a.length)),(17, .d (dI k))]) (fun k=>mkH []) (fun k=>a.length - k) (0) (⟨Nat.zero_le _,fun j x y h=>absurd h (Nat.not_lt_zero _)⟩) ?_ ?_ ?_
 exact fz ⟨sr,sr,sr,sr,sr,trivial⟩
 exact HSub.nil
 intro k hk0
 obtain ⟨hk,hf⟩:=hk0
 refine zr<|zp (As R R R)<|zn<|zs<|?_
 refine zd R (fun c18=> ?_) (fun c18=> ?_)
 have hk0a:k<a.length:=by omega
 obtain ⟨x,hx0⟩:=Aw hk0a
 obtain ⟨y,hy⟩:∃y,b[k]? =some y:=Aw (by omega)
 refine zi<|zs<|Ah<|zr<|zm R R<|zp (Ap R R R Je hx0)<|zp (Ae (s':= .d (.agg (Vo.c x))) (A4 R R Aq lb) (by kernel_rfl))<|XL.step R (Ao 8 (l:= [.d (.v (.slice none 0 0)), .d (.v (.slice none 0 0))]) R Bf (by kernel_rfl))<|za R R<|XL.step R (Af (l':= [.d (.sl 13 (x.evs.map Ev.c)), .d (.sl 4 (x.tups.map Tp.c))]) R R R R Bm R lb (by kernel_rfl))<|znr<|?_
 refine zm R R<|zm R R<|zp (Ap R R R Je (hy))<|zp (Ae (s':= .d (.agg (Vo.c y))) (A4 R R Aq lb) (by kernel_rfl))<|XL.step R (Ao 9 (l:= [.d (.v (.slice none 0 0)), .d (.v (.slice none 0 0))]) R Bf (by kernel_rfl))<|XL.step R (Af (l':= [.d (.sl 13 (y.evs.map Ev.c)), .d (.sl 4 (y.tups.map Tp.c))]) R R R R Bm R lb (by kernel_rfl))<|znr<|zm R R<|?_
 refine zp (Ae (s':= .d (.agg (Vo.c x))) (Ac (Ad R R Aq R lb)) (by kernel_rfl))<|zp (Ae (s':= .d (.agg (Vo.c y))) (Ac (Ad R R Aq R lb)) (by kernel_rfl))<|XL.callv1 (ds:= [_,_]) R R R (hF x (List.mem_of_getElem? hx0) y (List.mem_of_getElem? hy)) R<|zp (Eu R R)<|zn<|?_
 refine zd R (fun c30=> ?_) (fun c30=> ?_)
 exact zr<|za R R<|zn<|zt<|z1 R R (rB (Gu (fun h=>c30 (by rw [h] at hx0;rw [hx0] at hy;cases hy;rfl))))
 refine zi<|Ag (by kernel_rfl)<|zp (Ak R R R (by omega) (by omega))<|zm R R<|zn<|?_
 exact Al (k+1) (⟨by omega,fun j x' y' hj hx' hy'=>by by_cases e:j=k;(· subst e;rw [hx0] at hx';rw [hy] at hy';cases hx';cases hy';exact Decidable.not_not.1 c30);(· exact hf j x' y' (by omega) hx' hy')⟩) (by omega) (fz ⟨sr,sr,sr,sr,sr,trivial⟩) (HSub.nil)
 have hk0b:k=a.length:=by omega
 exact Au<|zr<|za R R<|zn<|zt<|z1 R R (rB (eq_yes (G6 (by omega) (fun j x y hj=>hf j x y (by omega)))))
theorem Akl (a b:List Ce) (F:Nat) (hF:∀x∈a,∀y∈b,XC Tryz.prog F [.agg (Ce.c x), .agg (Ce.c y)] (fun r=>r=dB (decide (x=y)))):XC Tryz.prog 74 [.sl 2 (a.map Ce.c), .sl 2 (b.map Ce.c), .fn F [] []] (fun r=>r=dB (decide (a=b))):=by
 refine Am Adz Tryz.func74 R R lb<|zr<|za R R<|zn<|zs<|zr<|zm R R<|XL.len R R R Tryz.underlying28 fun hl11=>zm R R<|XL.len R R R Tryz.underlying28 fun hl13=>zp (Az R R R)<|zn<|?_
 refine zd R (fun c14=> ?_) (fun c14=> ?_)
 exact zr<|za R R<|zn<|zt<|z1 R R (rB (Gu (fun h=>c14 (by rw [h]))))
 refine zi<|zs<|zr<|zm R R<|XL.len R R R Tryz.underlying28 fun hl16=>zm R R<|zn<|Ah<|?_
 refine A0 (α:=Nat) (fun k=>k≤a.length∧∀j x y,j<k→a[j]? =some x→b[j]? =some y→x=y) (fun k=>mkF [(1, .d (.sl 2 (b.map Ce.c))),(2, .d (.fn F [] [])),(15, .d (.sl 2 (a.map Ce.c))),(16, .d (dI a.length)),(17, .d (dI k))]) (fun k=>mkH []) (fun k=>a.length - k) (0) (⟨Nat.zero_le _,fun j x y h=>absurd h (Nat.not_lt_zero _)⟩) ?_ ?_ ?_
 exact fz ⟨sr,sr,sr,sr,sr,trivial⟩
 exact HSub.nil
 intro k hk0
 obtain ⟨hk,hf⟩:=hk0
 refine zr<|zp (As R R R)<|zn<|zs<|?_
 refine zd R (fun c18=> ?_) (fun c18=> ?_)
 have hk0a:k<a.length:=by omega
 obtain ⟨x,hx0⟩:=Aw hk0a
 obtain ⟨y,hy⟩:∃y,b[k]? =some y:=Aw (by omega)
 refine zi<|zs<|Ah<|zr<|zm R R<|zp (Ap R R R Fm hx0)<|zp (Ae (s':= .d (.agg (Ce.c x))) (A4 R R I5 lb) (by kernel_rfl))<|XL.step R (Ao 8 (l:= [.d (.v (.slice none 0 0)), .d (.v (.slice none 0 0))]) R Gg (by kernel_rfl))<|za R R<|XL.step R (Af (l':= [.d (.sl 2 (x.clefs.map Cf.c)), .d (.sl 2 (x.voices.map Vo.c))]) R R R R Lg R lb (by kernel_rfl))<|?_
 refine znr<|zm R R<|zm R R<|zp (Ap R R R Fm (hy))<|zp (Ae (s':= .d (.agg (Ce.c y))) (A4 R R I5 lb) (by kernel_rfl))<|XL.step R (Ao 9 (l:= [.d (.v (.slice none 0 0)), .d (.v (.slice none 0 0))]) R Gg (by kernel_rfl))<|XL.step R (Af (l':= [.d (.sl 2 (y.clefs.map Cf.c)), .d (.sl 2 (y.voices.map Vo.c))]) R R R R Lg R lb (by kernel_rfl))<|znr<|zm R R<|?_
 refine zp (Ae (s':= .d (.agg (Ce.c x))) (Ac (Ad R R I5 R lb)) (by kernel_rfl))<|zp (Ae (s':= .d (.agg (Ce.c y))) (Ac (Ad R R I5 R lb)) (by kernel_rfl))<|XL.callv1 (ds:= [_,_]) R R R (hF x (List.mem_of_getElem? hx0) y (List.mem_of_getElem? hy)) R<|zp (Eu R R)<|zn<|?_
 refine zd R (fun c30=> ?_) (fun c30=> ?_)
 exact zr<|za R R<|zn<|zt<|z1 R R (rB (Gu (fun h=>c30 (by rw [h] at hx0;rw [hx0] at hy;cases hy;rfl))))
 refine zi<|Ag (by kernel_rfl)<|zp (Ak R R R (by omega) (by omega))<|zm R R<|zn<|?_
 exact Al (k+1) (⟨by omega,fun j x' y' hj hx' hy'=>by by_cases e:j=k;(· subst e;rw [hx0] at hx';rw [hy] at hy';cases hx';cases hy';exact Decidable.not_not.1 c30);(· exact hf j x' y' (by omega) hx' hy')⟩) (by omega) (fz ⟨sr,sr,sr,sr,sr,trivial⟩) (HSub.nil)
 have hk0b:k=a.length:=by omega
 exact Au<|zr<|za R R<|zn<|zt<|z1 R R (rB (eq_yes (G6 (by omega) (fun j x y hj=>hf j x y (by omega)))))
theorem Ao6 (a b:List Tp):XC Tryz.prog 110 [.sl 4 (a.map Tp.c), .sl 4 (b.map Tp.c)] (fun r=>r=dB (decide (a=b))):=by
 exact Am Acl Tryz.func110 R R lb<|zr<|za R R<|znr<|zm R R<|zm R R<|XL.call1 R R (Ang _ _) R<|za R R<|zn<|zt<|z1 R R (R)
theorem Aqr (a b:Ev):XC Tryz.prog 109 [.agg (Ev.c a), .agg (Ev.c b)] (fun r=>r=dB (decide (a=b))):=by
 have h:=Aks a b
 rw [show decide (a.eqv b)=decide (a=b) by rw [decide_eq_decide];exact Ev.eqv_iff] at h
 exact h
theorem Vo.eq_yes {a b:Vo} (h:a.evs=b.evs) (h2:a.tups=b.tups):a=b:=by obtain ⟨x,y⟩:=a;obtain ⟨z,t⟩:=b;simp only at h h2;subst h h2;rfl
theorem Ce.eq_yes {a b:Ce} (h:a.clefs=b.clefs) (h2:a.voices=b.voices):a=b:=by obtain ⟨x,y⟩:=a;obtain ⟨z,t⟩:=b;simp only at h h2;subst h h2;rfl
theorem Ms.eq_yes {a b:Ms} (h0:a.h=b.h) (h:a.tempi=b.tempi) (h2:a.cells=b.cells):a=b:=by obtain ⟨w,x,y⟩:=a;obtain ⟨w',z,t⟩:=b;simp only at h0 h h2;subst h0 h h2;rfl
theorem Aoz (a b:Vo):XC Tryz.prog 78 [.agg (Vo.c a), .agg (Vo.c b)] (fun r=>r=dB (decide (a=b))):=by
 refine Am Adx Tryz.func78 R R lb<|zr<|XL.step R (An 2 (l:= [.d (.sl 13 (a.evs.map Ev.c)), .d (.sl 4 (a.tups.map Tp.c))]) R R (by kernel_rfl))<|XL.step R (An 3 (l:= [.d (.sl 13 (b.evs.map Ev.c)), .d (.sl 4 (b.tups.map Tp.c))]) R R (by kernel_rfl))<|za R R<|znr<|zp (Aa R R Bk)<|zp (Ab R R Cz R R)<|zp (Aa R R Bk)<|zp (Ab R R Cz R R)<|?_
 refine XL.call1 R R (Akk _ _ _ (fun x _ y _=>Aqr x y)) R<|zm R R<|?_
 refine XL.dec 10 R (fun g10=> ?_) (fun g10=> ?_)
 exact zp (Aa R R B3)<|zp (Ab R R B5 R R)<|zp (Aa R R B3)<|zp (Ab R R B5 R R)<|XL.call1 R R (Ao6 _ _) R<|zq R R R<|za R R<|zn<|zt<|z1 R R (rB (by by_cases h:a.tups=b.tups;(· rw [decide_eq_true h];exact Anq (Vo.eq_yes g10 h));(· rw [decide_eq_false h];exact dno (fun e=>h (by rw [e])))))
 exact zk 5 R<|zq R R R<|za R R<|zn<|zt<|z1 R R (rB (dno (fun e=>g10 (by rw [e]))))
theorem Aqz (a b:Ce):XC Tryz.prog 37 [.agg (Ce.c a), .agg (Ce.c b)] (fun r=>r=dB (decide (a=b))):=by
 refine Am Aem Tryz.func37 R R lb<|zr<|XL.step R (An 2 (l:= [.d (.sl 2 (a.clefs.map Cf.c)), .d (.sl 2 (a.voices.map Vo.c))]) R R (by kernel_rfl))<|XL.step R (An 3 (l:= [.d (.sl 2 (b.clefs.map Cf.c)), .d (.sl 2 (b.voices.map Vo.c))]) R R (by kernel_rfl))<|za R R<|znr<|zp (Aa R R Ez)<|zp (Ab R R Lh R R)<|zp (Aa R R Ez)<|?_
 refine zp (Ab R R Lh R R)<|XL.call1 R R (Ank _ _) R<|zm R R<|?_
 refine XL.dec 10 R (fun g10=> ?_) (fun g10=> ?_)
 exact zp (Aa R R C8)<|zp (Ab R R Fy R R)<|zp (Aa R R C8)<|zp (Ab R R Fy R R)<|XL.call1 R R (Akj _ _ _ (fun x _ y _=>Aoz x y)) R<|zq R R R<|za R R<|zn<|zt<|z1 R R (rB (by by_cases h:a.voices=b.voices;(· rw [decide_eq_true h];exact Anq (Ce.eq_yes g10 h));(· rw [decide_eq_false h];exact dno (fun e=>h (by rw [e])))))
 exact zk 5 R<|zq R R R<|za R R<|zn<|zt<|z1 R R (rB (dno (fun e=>g10 (by rw [e]))))
def Mh.f (h:Mh):List D:= [dI h.site,dI h.num,dI h.m.count,dI h.m.unit,dI h.m.g0,dI h.m.g1,dI h.m.g2,dI h.m.g3,dI h.m.g4,dI h.m.g5,dI h.len,dI h.fifths,dB h.start,dI h.fin,dI h.ends,dI h.jump,dI h.labels,dI h.swing,dI h.brk, .v (.string ⟨h.reh.toArray⟩)]
theorem Mh.eqv_iff {a b:Mh}:((a.site=b.site∧a.num=b.num)∧(a.m.count=b.m.count∧a.m.unit=b.m.unit∧(a.m.g0=b.m.g0∧a.m.g1=b.m.g1∧a.m.g2=b.m.g2∧a.m.g3=b.m.g3∧a.m.g4=b.m.g4∧a.m.g5=b.m.g5))∧a.len=b.len∧a.fifths=b.fifths∧a.start=b.start∧a.fin=b.fin∧a.ends=b.ends∧a.jump=b.jump∧a.labels=b.labels∧a.swing=b.swing∧a.brk=b.brk∧(ByteArray.mk a.reh.toArray).toList=(ByteArray.mk b.reh.toArray).toList)↔a=b:=by
 constructor
 ·rintro ⟨⟨h1,h2⟩,⟨h3,h4,h5,h6,h7,h8,h9,h10⟩,h11,h12,h13,h14,h15,h16,h17,h18,h19,h20⟩
  obtain ⟨a1,a2,⟨a3,a4,a5,a6,a7,a8,a9,a10⟩,a11,a12,a13,a14,a15,a16,a17,a18,a19,a20⟩:=a
  obtain ⟨b1,b2,⟨b3,b4,b5,b6,b7,b8,b9,b10⟩,b11,b12,b13,b14,b15,b16,b17,b18,b19,b20⟩:=b
  simp only [J8] at h1 h2 h3 h4 h5 h6 h7 h8 h9 h10 h11 h12 h13 h14 h15 h16 h17 h18 h19 h20
  subst h1 h2 h3 h4 h5 h6 h7 h8 h9 h10 h11 h12 h13 h14 h15 h16 h17 h18 h19 h20;rfl
 ·rintro rfl
  simp
theorem Kd (m:Ms):XC Tryz.prog 72 [.agg (Ms.c m)] (fun r=>r= .agg (Mh.f m.h)):=by
 refine Am Ad1 Tryz.func72 R R lb<|zr<|?_
 refine XL.step R (An 1 (l:= [.d (dI m.h.site), .d (dI m.h.num), .d (dI m.h.m.count), .d (dI m.h.m.unit), .d (dI m.h.m.g0), .d (dI m.h.m.g1), .d (dI m.h.m.g2), .d (dI m.h.m.g3), .d (dI m.h.m.g4), .d (dI m.h.m.g5), .d (dI m.h.len), .d (dI m.h.fifths), .d (dB m.h.start), .d (dI m.h.fin), .d (dI m.h.ends), .d (dI m.h.jump), .d (dI m.h.labels), .d (dI m.h.swing), .d (dI m.h.brk), .d (.v (.string ⟨m.h.reh.toArray⟩)), .d (.sl 3 (m.tempi.map Tm.c)), .d (.sl 2 (m.cells.map Ce.c))]) R R (by kernel_rfl))<|?_
 refine XL.step R (Ao 2 (l:= [.d (dI 0), .d (dI 0), .d (dI 0), .d (dI 0), .d (dI 0), .d (dI 0), .d (dI 0), .d (dI 0), .d (dI 0), .d (dI 0), .d (dI 0), .d (dI 0), .d (dB false), .d (dI 0), .d (dI 0), .d (dI 0), .d (dI 0), .d (dI 0), .d (dI 0), .d (.v (.string ⟨#[]⟩))]) R Ya (by kernel_rfl))<|znr<|zp (Aa R R Anc)<|?_
 refine zp (Ae (s':= .d (.agg [dI m.h.site,dI m.h.num])) (Ac (Ad R R Nx R lb)) (by kernel_rfl))<|zp (Aa R R F4)<|zp (Ae (s':= .d (.agg (Me.c m.h.m))) (Ac (Ad R R A8 R lb)) (by kernel_rfl))<|zp (Aa R R Em)<|zp (Ab R R Ai R R)<|zp (Aa R R Anb)<|zp (Ab R R Ai R R)<|zp (Aa R R Ana)<|?_
 refine zp (Ab R R Ph R R)<|zp (Aa R R Am9)<|zp (Ab R R Ai R R)<|zp (Aa R R Am8)<|zp (Ab R R Ai R R)<|zp (Aa R R Am7)<|zp (Ab R R Ai R R)<|zp (Aa R R Am6)<|zp (Ab R R Ai R R)<|zp (Aa R R Am5)<|zp (Ab R R Ai R R)<|zp (Aa R R Aka)<|zp (Ab R R Ai R R)<|?_
 refine zp (Aa R R I0)<|zp (Ab R R Jj R R)<|?_
 refine zp (Ae (s':= .d (.agg [dI m.h.site,dI m.h.num,dI m.h.m.count,dI m.h.m.unit,dI m.h.m.g0,dI m.h.m.g1,dI m.h.m.g2,dI m.h.m.g3,dI m.h.m.g4,dI m.h.m.g5,dI m.h.len,dI m.h.fifths,dB m.h.start,dI m.h.fin,dI m.h.ends,dI m.h.jump,dI m.h.labels,dI m.h.swing,dI m.h.brk, .v (.string ⟨m.h.reh.toArray⟩)])) (Ac (A1 (r:= [.d (dI m.h.site), .d (dI m.h.num), .d (dI m.h.m.count), .d (dI m.h.m.unit), .d (dI m.h.m.g0), .d (dI m.h.m.g1), .d (dI m.h.m.g2), .d (dI m.h.m.g3), .d (dI m.h.m.g4), .d (dI m.h.m.g5), .d (dI m.h.len), .d (dI m.h.fifths), .d (dB m.h.start), .d (dI m.h.fin), .d (dI m.h.ends), .d (dI m.h.jump), .d (dI m.h.labels), .d (dI m.h.swing), .d (dI m.h.brk), .d (.v (.string ⟨m.h.reh.toArray⟩))]) R Apf Ya (by kernel_rfl))) (by kernel_rfl))<|?_
 refine XL.step R (Af (l':= [.d (dI m.h.site), .d (dI m.h.num), .d (dI m.h.m.count), .d (dI m.h.m.unit), .d (dI m.h.m.g0), .d (dI m.h.m.g1), .d (dI m.h.m.g2), .d (dI m.h.m.g3), .d (dI m.h.m.g4), .d (dI m.h.m.g5), .d (dI m.h.len), .d (dI m.h.fifths), .d (dB m.h.start), .d (dI m.h.fin), .d (dI m.h.ends), .d (dI m.h.jump), .d (dI m.h.labels), .d (dI m.h.swing), .d (dI m.h.brk), .d (.v (.string ⟨m.h.reh.toArray⟩))]) R R R R Arh R lb (by kernel_rfl))<|?_
 refine zn<|zt<|?_
 exact Jz R (RV.cells R R R Aq6 lb R) (R)
theorem Apz (a b:Ms):XC Tryz.prog 30 [.agg (Ms.c a), .agg (Ms.c b)] (fun r=>r=dB (decide (a=b))):=by
 refine Am Aeo Tryz.func30 R R lb<|zr<|?_
 refine XL.step R (An 2 (l:= [.d (dI a.h.site), .d (dI a.h.num), .d (dI a.h.m.count), .d (dI a.h.m.unit), .d (dI a.h.m.g0), .d (dI a.h.m.g1), .d (dI a.h.m.g2), .d (dI a.h.m.g3), .d (dI a.h.m.g4), .d (dI a.h.m.g5), .d (dI a.h.len), .d (dI a.h.fifths), .d (dB a.h.start), .d (dI a.h.fin), .d (dI a.h.ends), .d (dI a.h.jump), .d (dI a.h.labels), .d (dI a.h.swing), .d (dI a.h.brk), .d (.v (.string ⟨a.h.reh.toArray⟩)), .d (.sl 3 (a.tempi.map Tm.c)), .d (.sl 2 (a.cells.map Ce.c))]) R R (by kernel_rfl))<|?_
 refine XL.step R (An 3 (l:= [.d (dI b.h.site), .d (dI b.h.num), .d (dI b.h.m.count), .d (dI b.h.m.unit), .d (dI b.h.m.g0), .d (dI b.h.m.g1), .d (dI b.h.m.g2), .d (dI b.h.m.g3), .d (dI b.h.m.g4), .d (dI b.h.m.g5), .d (dI b.h.len), .d (dI b.h.fifths), .d (dB b.h.start), .d (dI b.h.fin), .d (dI b.h.ends), .d (dI b.h.jump), .d (dI b.h.labels), .d (dI b.h.swing), .d (dI b.h.brk), .d (.v (.string ⟨b.h.reh.toArray⟩)), .d (.sl 3 (b.tempi.map Tm.c)), .d (.sl 2 (b.cells.map Ce.c))]) R R (by kernel_rfl))<|?_
 refine za R R<|zn<|zs<|?_
 by_cases q9:((a.h.site=b.h.site∧a.h.num=b.h.num)∧(a.h.m.count=b.h.m.count∧a.h.m.unit=b.h.m.unit∧(a.h.m.g0=b.h.m.g0∧a.h.m.g1=b.h.m.g1∧a.h.m.g2=b.h.m.g2∧a.h.m.g3=b.h.m.g3∧a.h.m.g4=b.h.m.g4∧a.h.m.g5=b.h.m.g5))∧a.h.len=b.h.len∧a.h.fifths=b.h.fifths∧a.h.start=b.h.start∧a.h.fin=b.h.fin∧a.h.ends=b.h.ends∧a.h.jump=b.h.jump∧a.h.labels=b.h.labels∧a.h.swing=b.h.swing∧a.h.brk=b.h.brk∧(ByteArray.mk a.h.reh.toArray).toList=(ByteArray.mk b.h.reh.toArray).toList)
 by_cases q15:(a.tempi=b.tempi)
 refine B6 [] (by kernel_rfl) (by kernel_rfl) (by kernel_rfl) (by decide)<|yp (Ae (s':= .d (.agg (Ms.c a))) (Ac (Ad R R Bn R lb)) (by kernel_rfl))<|ChK.cons R (CStep.call R (Kd _) R)<|yp (Ae (s':= .d (.agg (Ms.c b))) (Ac (Ad R R Bn R lb)) (by kernel_rfl))<|ChK.cons R (CStep.call R (Kd _) R)<|yp (D7 (Qp R R R) (q9))<|ym R R<|?_
 refine yp (Aa R R Dd)<|yp (Ab R R I7 R R)<|yp (Aa R R Dd)<|yp (Ab R R I7 R R)<|ChK.cons R (CStep.call R (Ah3 (Aab _ _) q15) R)<|yp (Br R R (by conv=>lhs;whnf))<|?_
 refine ym R R<|yp (Aa R R B9)<|yp (Ab R R Ep R R)<|yp (Aa R R B9)<|yp (Ab R R Ep R R)<|ChK.cons R (CStep.call R (Akl _ _ _ (fun x _ y _=>Aqz x y)) R)<|yp (Br R R (by conv=>lhs;whnf))<|?_
 refine ya R R<|?_
 refine ChK.nil ⟨by kernel_rfl, ?_⟩
 exact zt<|z1 R R (rB (by by_cases h:a.cells=b.cells;(· rw [decide_eq_true h];exact Anq (Ms.eq_yes (Mh.eqv_iff.1 q9) q15 h));(· rw [decide_eq_false h];exact dno (fun e=>h (by rw [e])))))
 refine B6 [] (by kernel_rfl) (by kernel_rfl) (by kernel_rfl) (by decide)<|yp (Ae (s':= .d (.agg (Ms.c a))) (Ac (Ad R R Bn R lb)) (by kernel_rfl))<|ChK.cons R (CStep.call R (Kd _) R)<|yp (Ae (s':= .d (.agg (Ms.c b))) (Ac (Ad R R Bn R lb)) (by kernel_rfl))<|ChK.cons R (CStep.call R (Kd _) R)<|yp (D7 (Qp R R R) (q9))<|ym R R<|?_
 refine yp (Aa R R Dd)<|yp (Ab R R I7 R R)<|yp (Aa R R Dd)<|yp (Ab R R I7 R R)<|ChK.cons R (CStep.call R (Atc (Aab _ _) q15) R)<|yp (Br R R (by conv=>lhs;whnf))<|?_
 refine ym R R<|ChK.skip R<|ChK.skip R<|ChK.skip R<|ChK.skip R<|ChK.skip R<|yp (Br R R (by conv=>lhs;whnf))<|?_
 refine ya R R<|?_
 refine ChK.nil ⟨by kernel_rfl, ?_⟩
 exact zt<|z1 R R (rB (dno (fun e=>q15 (by rw [e]))))
 refine B6 [] (by kernel_rfl) (by kernel_rfl) (by kernel_rfl) (by decide)<|yp (Ae (s':= .d (.agg (Ms.c a))) (Ac (Ad R R Bn R lb)) (by kernel_rfl))<|ChK.cons R (CStep.call R (Kd _) R)<|yp (Ae (s':= .d (.agg (Ms.c b))) (Ac (Ad R R Bn R lb)) (by kernel_rfl))<|ChK.cons R (CStep.call R (Kd _) R)<|yp (Ig (Qp R R R) (q9))<|ym R R<|?_
 refine ChK.skip R<|ChK.skip R<|ChK.skip R<|ChK.skip R<|ChK.skip R<|yp (Br R R (by conv=>lhs;whnf))<|?_
 refine ym R R<|ChK.skip R<|ChK.skip R<|ChK.skip R<|ChK.skip R<|ChK.skip R<|yp (Br R R (by conv=>lhs;whnf))<|?_
 refine ya R R<|?_
 refine ChK.nil ⟨by kernel_rfl, ?_⟩
 exact zt<|z1 R R (rB (dno (fun e=>q9 (Mh.eqv_iff.2 (by rw [e])))))
end Go.Proofs.YtaafemnkamfgnaaGreat
namespace Go.Proofs.YtaafemnkamfgnaaGreat
open Go.RowKit
def bEv:Ev:=⟨0,0,3,⟨0,0⟩, [], [],0,0,0, [],0,0⟩
def bVo:Vo:=⟨[bEv], []⟩
def bCe:Ce:=⟨[], [bVo]⟩
def blH (t:Me) (n f:Int):Mh:=Mh.sh (⟨0,0,Me.z,0,f,false,0,0,0,0,0,0, []⟩:Mh) t n
def blM (t:Me) (n f s:Int):Ms:=⟨blH t n f, [],List.replicate s.toNat bCe⟩
def blE (t:Me) (n f s:Int):Int:=if mlE t n≠0 then mlE t n else if f< -7∨7<f∨s<1∨128<s then 2 else 0
def blS (t:Me) (n f s:Int):Ms:=if blE t n f s≠0 then Ms.z else blM t n f s
theorem Aod {t:Me} {n:Int} (h:¬mlE t n≠0):t.err=0:=Classical.byContradiction fun e=>h (by rw [←(Vn (n:=n) e).2];exact e)
theorem Asi (t:Me) (n:Int):XC Tryz.prog 17 [.agg [dI 0,dI 0,dI t.count,dI t.unit,dI t.g0,dI t.g1,dI t.g2,dI t.g3,dI t.g4,dI t.g5,dI n,dI 0,dB false,dI 0,dI 0,dI 0,dI 0,dI 0,dI 0, .v (.string ⟨#[]⟩), .v (.slice none 0 0), .v (.slice none 0 0)]] (fun r=>r= .tup [dI (mlV t n),dI (mlE t n)]):=Ajq (⟨0,0,t,n,0,false,0,0,0,0,0,0, []⟩:Mh) none none 0 0 0 0
end Go.Proofs.YtaafemnkamfgnaaGreat
namespace Go.Proofs.YtaafemnkamfgnaaGreat
open Go.RowKit
def idxA {α:Type} (p:α→Bool) (l:List α):Int:=match l.findIdx? p with|some k=>(k:Int)|none=> -1
def Ev.snd (e:Ev):Bool:=decide (e.kind=1∧0<e.heads.length)
def Vo.snd (v:Vo):Bool:=v.evs.any Ev.snd
def Ms.sil (m:Ms) (s:Int):Bool:=if s<0∨(m.cells.length:Int)≤s then true else !((m.cell s).voices.any Vo.snd)
end Go.Proofs.YtaafemnkamfgnaaGreat
namespace Go.Proofs.YtaafemnkamfgnaaGreat
open Go.RowKit
def evI (e:Ev):Id:=⟨e.site,e.num⟩
def voI (v:Vo):List Id:=v.evs.map evI
def Aug (l:List Vo):List Id:=(l.map voI).flatten
def Au5 (l:List Ce):List Id:=(l.map fun c=>Aug c.voices).flatten
def idsM (m:Ms):List Id:=⟨m.h.site,m.h.num⟩::Au5 m.cells
end Go.Proofs.YtaafemnkamfgnaaGreat
namespace Go.Proofs.YtaafemnkamfgnaaGreat
open Go.RowKit
theorem Aro (s:Sy):Kg (Kg s)=Kg s:=by simp [Kg,List.take_take]
theorem Arq (e:Ev):K6 (K6 e)=K6 e:=by
 simp only [K6,List.take_take,Nat.min_self]
 rw [←List.map_take,List.take_take,Nat.min_self,List.map_map]
 congr 1
 exact List.map_congr_left fun s _=>Aro s
theorem Arn (v:Vo):Ji (Ji v)=Ji v:=by
 simp only [Ji,List.take_take,Nat.min_self]
 rw [←List.map_take,List.take_take,Nat.min_self,List.map_map]
 congr 1
 exact List.map_congr_left fun s _=>Arq s
theorem Arr (c:Ce):M9 (M9 c)=M9 c:=by
 simp only [M9,List.take_take,Nat.min_self]
 rw [←List.map_take,List.take_take,Nat.min_self,List.map_map]
 congr 1
 exact List.map_congr_left fun s _=>Arn s
theorem Arp (m:Ms):Bu (Bu m)=Bu m:=by
 simp only [Bu,shH,List.take_take,Nat.min_self]
 rw [←List.map_take,List.take_take,Nat.min_self,List.map_map]
 congr 1
 exact List.map_congr_left fun s _=>Arr s
end Go.Proofs.YtaafemnkamfgnaaGreat
namespace Go.Proofs.YtaafemnkamfgnaaGreat
open Go.RowKit
def Zp {α:Type} (f:Int→α→α) (g:Int→α→Int):Int→List α→List α
 |_, []=> []
 |b,x::l=>f b x::Zp f g (g b x) l
def Am2 {α:Type} (g:Int→α→Int) (b:Int) (l:List α):Int:=l.foldl g b
def Auv (s b:Int) (e:Ev):Ev:=if e.site=0∧e.num=0 then {e with site:=s,num:=b} else e
def Ar8 (b:Int) (e:Ev):Int:=if e.site=0∧e.num=0 then b+1 else b
def Auu (s b:Int) (v:Vo):Vo:=⟨Zp (Auv s) Ar8 b v.evs,v.tups⟩
def Ar7 (b:Int) (v:Vo):Int:=Am2 Ar8 b v.evs
def Auw (s b:Int) (c:Ce):Ce:=⟨c.clefs,Zp (Auu s) Ar7 b c.voices⟩
def Ar9 (b:Int) (c:Ce):Int:=Am2 Ar7 b c.voices
def numM (m:Ms) (s b:Int):Ms:=⟨m.h,m.tempi,Zp (Auw s) Ar9 b m.cells⟩
def nxtM (m:Ms) (b:Int):Int:=Am2 Ar9 b m.cells
def Au8 (e:Ev):Ev:={e with site:=0,num:=0}
def Au7 (v:Vo):Vo:=⟨v.evs.map Au8,v.tups⟩
def Au9 (c:Ce):Ce:=⟨c.clefs,c.voices.map Au7⟩
def anoM (m:Ms):Ms:=⟨{m.h with site:=0,num:=0},m.tempi,m.cells.map Au9⟩
end Go.Proofs.YtaafemnkamfgnaaGreat
namespace Go.Proofs.YtaafemnkamfgnaaGreat
open Go.RowKit
def mapD {α:Type} (f:Int→α→α) (g:Int→α→Int) (b:Int) (l:List α) (k:Nat):List α:=Zp f g b (l.take k)++l.drop k
end Go.Proofs.YtaafemnkamfgnaaGreat
namespace Go.Proofs.YtaafemnkamfgnaaGreat
open Go.RowKit
theorem Ain (m:Ms):(Bu m).room:=fun c hc v hv e he=>by
 obtain ⟨x,_,rfl⟩:=List.mem_map.1 hc
 obtain ⟨y,_,rfl⟩:=List.mem_map.1 hv
 obtain ⟨z,_,rfl⟩:=List.mem_map.1 he
 refine ⟨?_, ?_, ?_⟩
 ·show (z.heads.take 5).length*40≤_;rw [List.length_take];omega
 ·show (z.graces.take 4).length*40≤_;rw [List.length_take];omega
 ·show ((z.lyr.take 5).map Kg).length*24≤_;rw [List.length_map,List.length_take];omega
end Go.Proofs.YtaafemnkamfgnaaGreat
namespace Go.Proofs.YtaafemnkamfgnaaGreat
open Go.RowKit
def OpG (P:Program) (n:Nat) (ops:Array Oper) (o:Oper) (f:Fr) (h1:Xh) (ids:List Nat) (s:S):Prop:=
 (Bl ops f n o.guard=some true∧Ac0 P o (ev f) h1 ids s)∨(Bl ops f n o.guard=some false∧ids= []∧s= .d (.v undef))
structure GOK (P:Program) (n:Nat) (ops:Array Oper) (κ κ2:S→S) (hA hB hC:Xh) (o:Oper) (fA fB fC:Fr) (c:C3) (ids:List Nat) (sA sB sC:S):Prop where
 a:(c= .bf∨c= .fr∨c= .ff)→OpG P n ops o fA hA ids sA∧sB=κ sA
 b:(c= .af∨c= .fr∨c= .fl∨c= .ff)→OpF P n ops o fB hB sB
 l:(c= .fl∨c= .ff)→OpF P n ops o fC hC sC
 k:c≠ .st→sC=κ2 sB
 m:c= .mu→Bl ops fA n o.guard=some true∧Jw P n o fA hA 987654 sB κ hB
 s:c= .st→Bl ops fB n o.guard=some true∧Jw P n o fB hB 987654 sC κ2 hC
 i:c= .bf∨ids= []
inductive ChG (P:Program) (n:Nat) (ops:Array Oper) (κ κ2:S→S) (hA hB hC:Xh):List Oper→Fr→Fr→Fr→List C3→List (List Nat × S)→List S→List S→Fr→Prop where
 |nil (fA fB fC:Fr):ChG P n ops κ κ2 hA hB hC [] fA fB fC [] [] [] [] fC
 |step {o:Oper} {rest:List Oper} {fA fB fC f':Fr} {c:C3} {ids:List Nat} {sA sB sC:S} {C:List C3} {LA:List (List Nat × S)} {LB LC:List S} (hok:GOK P n ops κ κ2 hA hB hC o fA fB fC c ids sA sB sC) (hr:ChG P n ops κ κ2 hA hB hC rest (A6 fA o.dst sA) (A6 fB o.dst sB) (A6 fC o.dst sC) C LA LB LC f'):
   ChG P n ops κ κ2 hA hB hC (o::rest) fA fB fC (c::C) ((ids,sA)::LA) (sB::LB) (sC::LC) f'
section
variable (P:Program) (n:Nat) (ops:Array Oper) (pre:List Oper) (p p2:Nat) (fA fB fC:Fr) (hA hB hC:Xh) (LA:List (List Nat × S)) (LB LC:List S) (E:Env)
def InvG (listed:Array Bool) (a:Act) (w:World):Prop:=
 (listed.size=ops.size∧(∀j o e,ops[j]? =some o→listed.getD j false=true→e∈o.after→Region.binds .any e=true→listed.getD e.on false=true)∧∀k,pre.length≤k→listed.getD k false=false)∧
  ((listed.getD p false = false ∧ listed.getD p2 false = false ∧ ∃ H β, Sim E H β hA w ∧ FV n H β a (A5 fA pre LA (fun j => listed.getD j false) pre.length) ∧ ∀ (k : Nat) (q : List Nat × S), LA[k]? = some q → listed.getD k false = false → ∀ i ∈ q.1, β i = none) ∨
   (listed.getD p false=true∧listed.getD p2 false=false∧∃H β,Sim E H β hB w∧FV n H β a (A5 fB pre (noI LB) (fun j=>listed.getD j false) pre.length))∨
   (listed.getD p2 false = true ∧ ∃ H β, Sim E H β hC w ∧ FV n H β a (A5 fC pre (noI LC) (fun j => listed.getD j false) pre.length)))
end
def ChGK (P:Program) (n:Nat) (ops:Array Oper) (κ κ2:S→S) (hA hB hC:Xh) (rest:List Oper) (fA fB fC:Fr) (acc:List C3) (ia:List Nat) (G:List C3→List Nat→Fr→Prop):Prop:=∃C LA LB LC f',ChG P n ops κ κ2 hA hB hC rest fA fB fC C LA LB LC f'∧G (acc++C) (ia++LA.flatMap (·.1)) f'
section
variable {P:Program} {n:Nat} {ops:Array Oper} {κ κ2:S→S} {hA hB hC:Xh} {rest:List Oper} {fA fB fC:Fr} {o:Oper} {s s' s2:S} {acc:List C3} {ia ids:List Nat} {G:List C3→List Nat→Fr→Prop}
end
end Go.Proofs.YtaafemnkamfgnaaGreat
namespace Go.Proofs.YtaafemnkamfgnaaGreat
open Go.RowKit
def Asp (x:Int):List Int→List Int
 | []=> [x]
 |y::l=>if y<x then y::Asp x l else if y=x then y::l else x::y::l
def colU (l:List Slt):List Int:=l.foldl (fun out s=>Asp s.on out) []
end Go.Proofs.YtaafemnkamfgnaaGreat
namespace Go.Proofs.YtaafemnkamfgnaaGreat
open Go.RowKit
def Adj {α:Type} (R:α→α→Prop) (l:List α):Prop:=∀k y x,l[k]? =some y→l[k+1]? =some x→R y x
def NextS (y x:Slt):Prop:=x.staff=y.staff→x.voice=y.voice→x.on=y.off
end Go.Proofs.YtaafemnkamfgnaaGreat
namespace Go.Proofs.YtaafemnkamfgnaaGreat
open Go.RowKit
def Vo.z:Vo:=⟨[], []⟩
def Aur (l:List Vo) (w:Nat):List Vo:=l++List.replicate (w+1 - l.length) Vo.z
def Asw (v:Vo):Bool:=Nat.beq v.evs.length 0
def Arj (l:List Vo):List Vo:=(l.reverse.dropWhile Asw).reverse
def svL (l:List Vo) (w:Nat) (v:Vo):List Vo:=(Aur l w).set w v
def svC (x:Ce) (w:Nat) (v:Vo):Ce:=⟨x.clefs,Arj (svL x.voices w v)⟩
def svM (m:Ms) (s n:Int) (v:Vo):Ms:=match m.cells[s.toNat]? with
 |some x=>⟨m.h,m.tempi,m.cells.set s.toNat (svC x n.toNat v)⟩
 |none=>m
def svE (m:Ms) (s n:Int) (v:Vo):Int:=if mlE m.h.m m.h.len≠0 then mlE m.h.m m.h.len else if s<0∨(m.cells.length:Int)≤s∨n<0∨1<n then 2 else if v.evs.length=0∧n=0 then 10 else if v.evs.length≠0∧ckE v (mlV m.h.m m.h.len)≠0 then ckE v (mlV m.h.m m.h.len) else 0
theorem prE {a b:Ms} {e e':Int} (h:a=b) (h2:e=e'):D.tup [.agg (Ms.c a),dI e]= .tup [.agg (Ms.c b),dI e']:=by rw [h,h2]
end Go.Proofs.YtaafemnkamfgnaaGreat
namespace Go.Proofs.YtaafemnkamfgnaaGreat
open Go.RowKit
theorem Apk (m:Ms) (h:m.room) (hs:Bu m=m):XS Tryz.prog 14 [.agg (Ms.c m)] (.agg [.d (dI m.h.site), .d (dI m.h.num), .d (dI m.h.m.count), .d (dI m.h.m.unit), .d (dI m.h.m.g0), .d (dI m.h.m.g1), .d (dI m.h.m.g2), .d (dI m.h.m.g3), .d (dI m.h.m.g4), .d (dI m.h.m.g5), .d (dI m.h.len), .d (dI m.h.fifths), .d (dB m.h.start), .d (dI m.h.fin), .d (dI m.h.ends), .d (dI m.h.jump), .d (dI m.h.labels), .d (dI m.h.swing), .d (dI m.h.brk), .d (.v (.string ⟨m.h.reh.toArray⟩)), .own 7401, .own 7402]) [(7401, .row 119 3 (m.tempi.map Tm.c)),(7402, .tree 78 2 [] (m.cells.map Ce.t))]:=by
 have k:=Yx m h
 have e1:shH m.h=m.h:=congrArg Ms.h hs
 rw [hs,e1] at k
 exact k
end Go.Proofs.YtaafemnkamfgnaaGreat
