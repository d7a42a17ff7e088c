/- Part 10 of what the statements need: lemmas and walks. -/
import Derived.Lib.OwnBridge
import Derived.Test.YtaafemnkamfgnaaGreatQu9
set_option linter.unusedVariables false
set_option linter.unusedSimpArgs false
set_option linter.unusedSectionVars false
set_option maxRecDepth 20000
set_option maxHeartbeats 8000000
namespace Go.Proofs.YtaafemnkamfgnaaGreat
open Go.RowKit
open Go.Sort in
theorem Alc {zs:List Int} {c:Array Value} (h:zs.length≤c.size):(putCells (Value.int .i64) 0 zs.toArray c).toList.take zs.length=zs.map (Value.int .i64):=by
 apply List.ext_getElem?
 intro k
 rw [List.getElem?_take,List.getElem?_map]
 by_cases hk:k<zs.length
 ·rw [if_pos hk,Array.getElem?_toList,putCells,Array.getElem?_mapIdx,Array.getElem?_eq_getElem (by omega),Option.map_some,if_pos ⟨by omega,by simpa using hk⟩,List.getElem?_eq_getElem hk,Option.map_some]
  congr 2
  rw [Nat.sub_zero,getElem!_pos _ k (by simpa using hk)]
  simp
 ·rw [if_neg hk,List.getElem?_eq_none (by omega)];rfl
abbrev ixs (zs:List Int):List (List D):=zs.map iv
theorem Afx {E:Env} {H:Hp} {β:Bt} {h:Xh} {w:World} {i:Nat} {zs:List Int} {L:Loc} (hs:Sim E H β h w) (hi:h i=some (.row 3 1 (ixs zs))) (hL:β i=some L):
  (L.v= .slice none 0 0∧zs= [])∨∃cap cur,L.v= .slice (some ⟨L.b,0,none⟩) zs.length cap∧L.sz=1∧E.w.heap.size≤L.b∧w.heap[L.b]? =some (.cells cur 3 (0,0))∧zs.length≤cap∧cap≤maxLen∧cur.size=cap∧cur.toList.take zs.length=zs.map (Value.int .i64):=by
 obtain ⟨hsz,hz,hvb,us,hown,hone,hcells⟩:=hs.obj i _ L hi hL
 have hn:(ixs zs).length=zs.length:=by simp [ixs]
 rw [hn] at hown
 rcases hown.2 with ⟨e1,e2⟩|⟨g,cap,cur,e1,e2,e3,e4,e5,e6,e7⟩
 ·exact .inl ⟨e1,List.length_eq_zero_iff.1 e2⟩
 ·have hg:=hvb g (by rw [e1];rfl)
  subst hg
  rw [Nat.mul_one] at e6 e7
  refine .inr ⟨cap,cur,e1,hsz,e2,e3,e4,e5,e6, ?_⟩
  rw [e7]
  have hl:us.length=zs.length:=by rw [hown.1,Nat.mul_one]
  apply List.ext_getElem?
  intro k
  by_cases hk:k<zs.length
  ·obtain ⟨u,h1,h2⟩:=hcells k 0 [dI zs[k]] (dI zs[k]) (by simp [ixs,hk];rfl) rfl
   rw [Nat.mul_one,Nat.add_zero] at h1
   rw [h1,O8 h2]
   simp [hk]
  ·rw [List.getElem?_eq_none (by omega),List.getElem?_eq_none (by simp;omega)]
open Go.Sort in
theorem Sim.putI {E:Env} {H:Hp} {β:Bt} {h:Xh} {w:World} {i q:Nat} {zs ys:List Int} {L:Loc} {cap:Nat} {cur:Array Value} (hs:Sim E H β h w) (hi:h i=some (.row 3 1 (ixs zs))) (hL:β i=some L)
  (hv:L.v= .slice (some ⟨L.b,0,none⟩) zs.length cap) (hb:E.w.heap.size≤L.b) (hc:w.heap[L.b]? =some (.cells cur 3 (0,0))) (hn:zs.length≤cap) (hm:cap≤maxLen) (hz:cur.size=cap) (hl:ys.length=zs.length):
  Sim E H β (h.set i (.row 3 1 (ixs ys))) (putRow (Value.int .i64) (Sort.ahead w q) L.b 0 ys.toArray):=by
 obtain ⟨hsz,_,hvb,_⟩:=hs.obj i _ L hi hL
 have s2:Sim E H β h (Sort.ahead w q):=hs.call ⟨rfl,rfl,rfl,Nat.le_refl _,fun _ _=>rfl⟩ (Hp.le.refl _) (fun b o u e=> .inl e) hs.imm
 have hcell:(putRow (Value.int .i64) (Sort.ahead w q) L.b 0 ys.toArray).heap[L.b]? =some (.cells (putCells (Value.int .i64) 0 ys.toArray cur) 3 (0,0)):=by
  show (w.heap.modify L.b _)[L.b]? =_
  rw [Array.getElem?_modify,if_pos rfl,hc];rfl
 have hcs:(putCells (Value.int .i64) 0 ys.toArray cur).size=cap:=by simp [putCells,hz]
 refine s2.turn hi hL rfl (Go.Lib.below_putRow hs.below hb) (fun b hb'=> ?_) ?_
 ·show (w.heap.modify L.b _)[b]? =w.heap[b]?
  rw [Array.getElem?_modify,if_neg]
  intro e
  exact hb' (by simp [XO.blk,hv,Value.ownBlock,e])
 ·have hlen:(ixs ys).length=zs.length:=by simp [ixs,hl]
  refine ⟨hsz,fun x hx=> ?_,hvb,ys.map (Value.int .i64),⟨by simp [ixs], .inr ⟨L.b,cap,_,by rw [hlen];exact hv,hb,hcell,by rw [hlen];exact hn,hm,by rw [Nat.mul_one];exact hcs, ?_⟩⟩,fun u hu=> ?_,fun k j x d hk hj=> ?_⟩
  ·obtain ⟨z,_,rfl⟩:=List.mem_map.1 hx;rfl
  ·rw [show (ixs ys).length*1=ys.length by simp [ixs]]
   exact Alc (by omega)
  ·obtain ⟨z,_,rfl⟩:=List.mem_map.1 hu;rfl
  ·rw [ixs,List.getElem?_map] at hk
   cases hy:ys[k]? with
   |none=>rw [hy] at hk;cases hk
   |some z=>
    rw [hy] at hk;cases hk
    match j with
    |0=>cases hj;exact ⟨.int .i64 z,by rw [Nat.mul_one,Nat.add_zero,List.getElem?_map,hy];rfl, .v _⟩
    |j+1=>simp [iv] at hj
open Go.Sort in
theorem Sim.grow {E:Env} {H:Hp} {β:Bt} {h:Xh} {w:World} (hs:Sim E H β h w) (os:Array Obj):Sim E H β h (Go.Sort.grow w os):=by
 have hb:Below w.heap.size w (Go.Sort.grow w os):=⟨rfl,rfl,rfl,by simp,fun k hk=>by simp only [Go.Sort.grow];rw [Array.getElem?_append_left hk]⟩
 exact hs.call hb (Hp.le.refl _) (fun b o u e=> .inl e) (hs.imm.below hb)
theorem W8 {w:World} {b:Nat} {cur:Array Value} {zs:List Int} (hc:w.heap[b]? =some (.cells cur 3 (0,0))) (ht:cur.toList.take zs.length=zs.map (Value.int .i64)):Go.Sort.Holds (Value.int .i64) w b 0 zs.toArray:=fun j hj=>by
 have hj':j<zs.length:=by simpa using hj
 have:cur[j]? =some (.int .i64 zs[j]):=by
  have h1:(cur.toList.take zs.length)[j]? =some (.int .i64 zs[j]):=by rw [ht];simp [hj']
  rw [List.getElem?_take,if_pos hj'] at h1
  simpa using h1
 refine ⟨?_,by simp [World.frozen?,hc]⟩
 simp [World.cell?,hc,this,hj']
def srt (zs:List Int):List Int:=zs.mergeSort fun x y=>decide (x≤y)
theorem Afi (zs:List Int):(srt zs).length=zs.length:=List.length_mergeSort _
theorem Afh:srt []= []:=by simp [srt]
section
variable {n:Nat} {f:Fr} {h:Xh} {o:Oper} {ops rest:List Oper} {K:Cu} {tys:Array TypeId}
theorem Api {i:Nat} {x:Operand} {zs:List Int} (ho:o.op= .call {callee:= .value (.func 58),args:= #[x],argTypes:=tys}) (hx:ev f x= .own i) (hi:h i=some (.row 3 1 (ixs zs))) (hlen:zs.length<4611686018427387904):
  Step Tryz.prog n o f h .any f (h.set i (.row 3 1 (ixs (srt zs)))):=by
 intro E H β a w hs hfv hop
 have g:=hop x (by rw [ho];simp [Op.operands,Call.operands])
 rw [hx] at g
 obtain ⟨L,hL,hv⟩:=Fa g
 have fin:∀w',Sim E H β (h.set i (.row 3 1 (ixs (srt zs)))) w'→∃H' β' u,a.put o.dst (.tuple #[])=a.put o.dst u∧Sim E H' β' (h.set i (.row 3 1 (ixs (srt zs)))) w'∧FV n H' β' a f∧VS H' β' u .any:=fun w' k=>⟨H,β,_,rfl,k,hfv, .any _⟩
 unfold Oper.wp
 rw [Nn ho Aem,show (#[x]:Array Operand).map a.eval= #[a.eval x] by simp]
 rw [hv]
 rcases Afx hs hi hL with ⟨e1,rfl⟩|⟨cap,cur,e1,_,e2,e3,e4,e5,e6,e7⟩
 ·rw [e1]
  refine (Tryz.slices_Sort_int_none none 0 w).mono ?_
  rintro e w' ⟨rfl,rfl⟩
  exact fin _ (by rw [Afh,Xh.set_self hi];exact hs)
 ·rw [e1]
  refine (Tryz.slices_Sort_int L.b 0 cap zs w (W8 e3 e7) (Array.getElem?_eq_some_iff.1 e3).1 hlen).mono ?_
  rintro e w' ⟨rfl,q,os,rfl⟩
  exact fin _ ((hs.putI hi hL e1 e2 e3 e4 e5 e6 (Afi zs)).grow os)
theorem Xu {h:Xh} {i:Nat} {o o2:XO}:((h.set i o).kill i).set i o2=(h.kill i).set i o2:=by
 funext j
 by_cases e:i=j
 ·subst e;rw [Xh.set_same,Xh.set_same]
 ·rw [Xh.set_ne _ _ e,Xh.set_ne _ _ e,Xh.kill_ne _ e,Xh.kill_ne _ e,Xh.set_ne _ _ e]
def cpt (zs:List Int):List Int:=Go.Lib.compact zs
theorem Agc (zs:List Int):(cpt zs).length≤zs.length:=Go.Lib.compact_length_le zs
theorem Agb:cpt []= []:=by have:=Agc [];exact List.length_eq_zero_iff.1 (by simpa using this)
theorem Sim.cutR {E:Env} {H:Hp} {β:Bt} {h:Xh} {w:World} {i m c:Nat} {ty:TypeId} {sz:Nat} {r:List (List D)} {L:Loc} {A:Option Addr} (hs:Sim E H β h w) (hi:h i=some (.row ty sz r)) (hL:β i=some L) (hv:L.v= .slice A r.length c) (hm:m≤r.length):
  Sim E H (β.set i (some ⟨.slice A m c,L.b,sz,noB⟩)) ((h.kill i).set i (.row ty sz (r.take m))) w:=by
 obtain ⟨h1,hz,hvb,us,hown,hone,hc⟩:=hs.obj i _ L hi hL
 have hn2:(r.take m).length=m:=by rw [List.length_take];omega
 have hblk:(Value.slice A m c).ownBlock=L.v.ownBlock:=by rw [hv];cases A<;>rfl
 have hmul:m*sz≤r.length*sz:=Nat.mul_le_mul_right _ hm
 refine hs.lay i _ _ (fun b hb=>⟨_,L,hi,hL, ?_⟩) ⟨rfl,fun x hx=>hz x (List.mem_of_mem_take hx),fun b hb=>hvb b (by rw [←hblk];exact hb),us.take (m*sz),⟨?_, ?_⟩,fun u hu=>hone u (List.mem_of_mem_take hu),fun k j x d hk hj=> ?_⟩
 ·simp only [XO.blk] at hb ⊢
  rw [←hblk];exact hb
 ·rw [hn2,List.length_take,hown.1];omega
 ·rw [hn2]
  rcases hown.2 with ⟨e1,e2⟩|⟨g,cap,cur,e1,e2,e3,e4,e5,e6,e7⟩
  ·rw [hv] at e1
   injection e1 with q1 q2 q3
   subst q1 q3
   have:m=0:=by omega
   subst this
   exact .inl ⟨rfl,rfl⟩
  ·rw [hv] at e1
   injection e1 with q1 q2 q3
   subst q1 q3
   refine .inr ⟨g,c,cur,rfl,e2,e3,by omega,e5,e6, ?_⟩
   rw [←e7,List.take_take,Nat.min_eq_left hmul]
 ·have hkm:k<m:=by have:=(List.getElem?_eq_some_iff.1 hk).1;rw [List.length_take] at this;omega
  rw [List.getElem?_take,if_pos hkm] at hk
  obtain ⟨u,h5,h6⟩:=hc k j x d hk hj
  have hjs:j<sz:=by have:=(List.getElem?_eq_some_iff.1 hj).1;rw [hz x (List.mem_of_getElem? hk)] at this;exact this
  have h7:(k+1)*sz≤m*sz:=Nat.mul_le_mul_right _ hkm
  rw [Nat.add_mul] at h7
  exact ⟨u,by rw [List.getElem?_take,if_pos (by omega)];exact h5,h6⟩
theorem Sim.cutI {E:Env} {H:Hp} {β:Bt} {h:Xh} {w:World} {i m c:Nat} {zs:List Int} {L:Loc} {A:Option Addr} (hs:Sim E H β h w) (hi:h i=some (.row 3 1 (ixs zs))) (hL:β i=some L) (hv:L.v= .slice A zs.length c) (hm:m≤zs.length):
  Sim E H (β.set i (some ⟨.slice A m c,L.b,1,noB⟩)) ((h.kill i).set i (.row 3 1 (ixs (zs.take m)))) w:=by
 have:=hs.cutR hi hL (by rw [List.length_map];exact hv) (by rw [List.length_map];exact hm)
 rw [←List.map_take] at this
 exact this
theorem Agx {i:Nat} {x:Operand} {zs:List Int} (ho:o.op= .call {callee:= .value (.func 59),args:= #[x],argTypes:=tys}) (hx:ev f x= .own i) (hi:h i=some (.row 3 1 (ixs zs))) (hlen:zs.length≤9223372036854775807):
  Step Tryz.prog n o f h (.own i) (Dw f i) ((h.kill i).set i (.row 3 1 (ixs (cpt zs)))):=by
 intro E H β a w hs hfv hop
 have g:=hop x (by rw [ho];simp [Op.operands,Call.operands])
 rw [hx] at g
 obtain ⟨L,hL,hv⟩:=Fa g
 unfold Oper.wp
 rw [Nn ho Ael,show (#[x]:Array Operand).map a.eval= #[a.eval x] by simp]
 rw [hv]
 rcases Afx hs hi hL with ⟨e1,rfl⟩|⟨cap,cur,e1,_,e2,e3,e4,e5,e6,e7⟩
 ·rw [e1]
  refine (Tryz.slices_Compact_int_empty none 0 w).mono ?_
  rintro e w' ⟨rfl,rfl⟩
  have:=hs.cutI hi hL e1 (Nat.le_refl _)
  rw [Agb]
  exact ⟨H,_,_,rfl,this,hfv.kill i _,VS.own (Bt.set_same _ _ _)⟩
 ·rw [e1]
  refine (Tryz.slices_Compact_int L.b 0 cap zs w (W8 e3 e7) hlen e4).mono ?_
  rintro e w' ⟨rfl,q,rfl⟩
  have hl:=Agc zs
  have hl2:(Go.Lib.compact zs++List.replicate (zs.length - (Go.Lib.compact zs).length) 0).length=zs.length:=by unfold cpt at hl;simp;omega
  have k:=(hs.putI (q:=q) hi hL e1 e2 e3 e4 e5 e6 hl2).cutI (m:=(cpt zs).length) (Xh.set_same _ _ _) hL (by rw [hl2];exact e1) (by rw [hl2];exact hl)
  rw [Xu,cpt,List.take_left] at k
  exact ⟨H,_,_,rfl,k,hfv.kill i _,VS.own (Bt.set_same _ _ _)⟩
end
def Aao (m:Ms):List Int:=cpt (srt ((slL m).map (·.on)))
theorem As9 {m:Ms} (h:slE m≠0):Aao m= []:=by rw [Aao,slL,if_pos h];simp [Afh,Agb]
theorem r2i {l l':List Int} {a b:Int} (h:l=l') (h2:a=b):D.tup [.sl 1 (l.map iv),dI a]= .tup [.sl 1 (l'.map iv),dI b]:=by rw [h,h2]
theorem Apk {m:Ms} (hF:m.fit):(slL m).length≤3000000000:=by
 unfold slL
 split
 ·exact Nat.zero_le _
 ·have:=Aan (L:=mlV m.h.m m.h.len) (l:=m.cells) (fun c hc=>(hF.c c hc).voices)
  have:=hF.cells
  omega
theorem Ah4 (m:Ms) (hF:m.fit) (hE:m.evs):XC Tryz.prog 21 [.agg (Ms.c m)] (fun r=>r= .tup [.sl 1 ((Aao m).map iv),dI (slE m)]):=by
 have hsl:=Apk hF
 refine An Ae1 Tryz.func21 R R lb<|zr<|?_
 refine XL.step R (Ap 1 (l:= [.d (dI m.h.site), .d (dI m.h.num), .d (dI m.h.m.count), .d (dI m.h.m.unit), .d (dI m.h.m.g0), .d (dI m.h.m.g1), .d (dI m.h.m.g2), .d (dI m.h.m.g3), .d (dI m.h.m.g4), .d (dI m.h.m.g5), .d (dI m.h.len), .d (dI m.h.fifths), .d (dB m.h.start), .d (dI m.h.fin), .d (dI m.h.ends), .d (dI m.h.jump), .d (dI m.h.labels), .d (dI m.h.swing), .d (dI m.h.brk), .d (.v (.string ⟨m.h.reh.toArray⟩)), .d (.sl 3 (m.tempi.map Tm.c)), .d (.sl 2 (m.cells.map Ce.c))]) R R (by kernel_rfl))<|?_
 refine za R R<|za R R<|znr<|zp (Ae (s':= .d (.agg (Ms.c m))) (Ac (Ad R R Bj R lb)) (by kernel_rfl))<|XL.call1 R R (Yt _ (by assumption) (by assumption)) R<|zm R R<|zp (A0 R R R)<|zp (A0 R R R)<|za R R<|za R R<|zn<|zs<|zr<|zm R R<|?_
 refine zp (A1 R R R)<|zn<|?_
 refine zd R (fun c15=> ?_) (fun c15=> ?_)
 refine zr<|zm R R<|za R R<|za R R<|zn<|zt<|?_
 exact A6 R (RV.nil (sz:=1) R R) (RV.tmp R R) (r2i (As9 (by assumption)).symm R)
 refine zi<|zr<|za R R<|zn<|zs<|zr<|zm R R<|XL.len R R R Tryz.underlying42 fun hl18=>zm R R<|zn<|Ah<|Dx 7801 6 3 1 R<|?_
 refine Az (α:=Nat) (fun k=>k≤(slL m).length) (fun k=>mkF [(2, .d (.v (.slice none 0 0))),(3, .d (dI 0)),(6, .own 7801),(17, .d (.sl 5 ((slL m).map Slt.c))),(18, .d (dI (slL m).length)),(19, .d (dI k))]) (fun k=>mkH [(7801, .row 3 1 ((((slL m).take k).map (·.on)).map iv))]) (fun k=>(slL m).length - k) (0) (Nat.zero_le _) ?_ ?_ ?_
 exact fz ⟨sr,sr,sr,sr,sr,sr,trivial⟩
 exact gz ⟨R,trivial⟩
 intro k hk0
 refine zr<|zp (Au R R R)<|zn<|zs<|?_
 refine zd R (fun c20=> ?_) (fun c20=> ?_)
 have hk0a:k<(slL m).length:=by omega
 obtain ⟨x0,hx0⟩:=Ar hk0a
 refine zi<|zs<|Ah<|zr<|zp (Ao R R R Aop hx0)<|zp (Ae (s':= .d (.agg (Slt.c x0))) (Ay R R Alg lb) (by kernel_rfl))<|XL.step R (Aq 8 (l:= [.d (dI 0), .d (dI 0), .d (dI 0), .d (dI 0), .d (dI 0)]) R Mk (by kernel_rfl))<|?_
 refine XL.step R (Af (l':= [.d (dI x0.staff), .d (dI x0.voice), .d (dI x0.ev), .d (dI x0.on), .d (dI x0.off)]) R R R R Agw R lb (by kernel_rfl))<|zng<|zp (As R (by conv=>lhs;whnf))<|?_
 refine zp (Aa R R Ang)<|zp (Ab R R Ai R R)<|XL.step R (Br 26 R Tryz.underlying45 Ey H0 R R (by omega) (by omega))<|XL.step R (A5 R Q4 (.own R) (Src.own R) (by unfold maxLen;simp;omega) (by simp;omega))<|zp (Aw R (by conv=>lhs;whnf))<|?_
 refine zn<|Ag (by kernel_rfl)<|zp (Al R R R (by omega) (by omega))<|zm R R<|zn<|?_
 exact Am (k+1) (by omega) (by omega) (fz ⟨sr,sr,sr,sr,sr,sr,trivial⟩) (gz ⟨Jn (a:=x0.on) R (by rw [B3 hx0,List.map_append];rfl),trivial⟩)
 have hk0b:k=(slL m).length:=by omega
 refine At<|zr<|zp (As R (by conv=>lhs;whnf))<|?_
 refine XL.step R (Api (zs:=((slL m).take k).map (·.on)) R R R (by rw [List.length_map,List.length_take];omega))<|znr<|zp (As R (by conv=>lhs;whnf))<|?_
 refine XL.step R (Agx (zs:=srt (((slL m).take k).map (·.on))) R R R (by rw [Afi,List.length_map,List.length_take];omega))<|zp (Aw R (by conv=>lhs;whnf))<|?_
 refine za R R<|zn<|zt<|Cd (i:=7801) R<|?_
 exact A6 R (RV.tmp R R) (RV.tmp R R) (r2i (by rw [hk0b,List.take_length];rfl) (by omega))
end Go.Proofs.YtaafemnkamfgnaaGreat
namespace Go.Proofs.YtaafemnkamfgnaaGreat
open Go.RowKit
inductive C3 where
 |bf|fr|af|fl|ff|mu|st
 deriving DecidableEq
def OpF (P:Program) (n:Nat) (ops:Array Oper) (o:Oper) (f:Fr) (h1:Xh) (s:S):Prop:=
 (Bl ops f n o.guard=some true∧Ac7 P o (ev f) h1 [] s)∨(Bl ops f n o.guard=some false∧s= .d (.v undef))
structure FOK (P:Program) (n:Nat) (ops:Array Oper) (κ:S→S) (hA hB hC:Xh) (o:Oper) (fA fB:Fr) (c:C3) (sA sB:S):Prop where
 a:(c= .bf∨c= .fr∨c= .ff)→OpF P n ops o fA hA sA∧sB=κ sA
 b:(c= .af∨c= .fr∨c= .fl∨c= .ff)→OpF P n ops o fB hB sB
 l:(c= .fl∨c= .ff)→OpF P n ops o fB hC sB
 m:c= .mu→Bl ops fA n o.guard=some true∧Ie P n o fA hA 987654 sB κ hB
 s:c= .st→Bl ops fB n o.guard=some true∧Ie P n o fB hB 987654 sB id hC
inductive ChF (P:Program) (n:Nat) (ops:Array Oper) (κ:S→S) (hA hB hC:Xh):List Oper→Fr→Fr→List C3→List S→List S→Fr→Prop where
 |nil (fA fB:Fr):ChF P n ops κ hA hB hC [] fA fB [] [] [] fB
 |step {o:Oper} {rest:List Oper} {fA fB f':Fr} {c:C3} {sA sB:S} {C:List C3} {LA LB:List S} (hok:FOK P n ops κ hA hB hC o fA fB c sA sB) (hr:ChF P n ops κ hA hB hC rest (A7 fA o.dst sA) (A7 fB o.dst sB) C LA LB f'):
   ChF P n ops κ hA hB hC (o::rest) fA fB (c::C) (sA::LA) (sB::LB) f'
def noI (L:List S):List (List Nat × S):=L.map fun s=>([],s)
theorem Rr {L:List S} {k:Nat} {s:S} (h:L[k]? =some s):(noI L)[k]? =some ([],s):=by rw [noI,List.getElem?_map,h];rfl
theorem Aju {L:List S} {k:Nat} {q:List Nat × S} (h:(noI L)[k]? =some q):L[k]? =some q.2∧q.1= []:=by
 rw [noI,List.getElem?_map] at h
 cases hl:L[k]? with
 |none=>rw [hl] at h;cases h
 |some s=>rw [hl] at h;cases h;exact ⟨rfl,rfl⟩
theorem ChF.ok {P:Program} {n:Nat} {ops:Array Oper} {κ:S→S} {hA hB hC:Xh} {l:List Oper} {fA fB f':Fr} {C:List C3} {LA LB:List S} (hc:ChF P n ops κ hA hB hC l fA fB C LA LB f'):
  C.length=l.length∧LA.length=l.length∧LB.length=l.length∧
  (∀k o c sA sB,l[k]? =some o→C[k]? =some c→LA[k]? =some sA→LB[k]? =some sB→FOK P n ops κ hA hB hC o (A3 fA l (noI LA) Du k) (A3 fB l (noI LB) Du k) c sA sB)∧A3 fB l (noI LB) Du l.length=f':=by
 induction hc with
 |nil=>exact ⟨rfl,rfl,rfl,fun k o c qa qb e=>by simp at e,rfl⟩
 | @step o rest fA fB f' c sA sB C LA LB hok hr ih=>
  obtain ⟨i1,i2,i3,i4,i5⟩:=ih
  refine ⟨by simp [i1],by simp [i2],by simp [i3],fun k o' c' qa qb h1 h2 h3 h4=> ?_, ?_⟩
  ·cases k with
   |zero=>simp at h1 h2 h3 h4;subst h1 h2 h3 h4;exact hok
   |succ k=>
    have e1:noI (sA::LA)=([],sA)::noI LA:=rfl
    have e2:noI (sB::LB)=([],sB)::noI LB:=rfl
    rw [e1,e2,Fq,Fq];exact i4 k o' c' qa qb (by simpa using h1) (by simpa using h2) (by simpa using h3) (by simpa using h4)
  ·have e2:noI (sB::LB)=([],sB)::noI LB:=rfl
   rw [e2,List.length_cons,Fq];exact i5
def Ah5 (ops:Array Oper) (p p2:Nat) (C:List C3):Bool:=
 (List.range C.length).all fun k=>
  match C[k]? with
  |some .bf=>Da ops 9 p k && Da ops 9 p2 k
  |some .af=>Da ops 9 k p && Da ops 9 p2 k
  |some .fl=>Da ops 9 k p
  |some .mu=>Nat.beq k p && Da ops 9 p2 k
  |some .st=>Nat.beq k p2 && Da ops 9 k p
  |some .fr=>Da ops 9 p2 k
  |some .ff=>true
  |none=>true
section
variable (P:Program) (n:Nat) (ops:Array Oper) (pre:List Oper) (p p2:Nat) (fA fB:Fr) (hA hB hC:Xh) (LA LB:List S) (E:Env)
def An4 (listed:Array Bool) (a:Act) (w:World):Prop:=
 (listed.size=ops.size∧(∀j o e,ops[j]? =some o→listed.getD j false=true→e∈o.after→Region.binds .any e=true→listed.getD e.on false=true)∧∀k,pre.length≤k→listed.getD k false=false)∧
  ((listed.getD p false = false ∧ listed.getD p2 false = false ∧ ∃ H β, Sim E H β hA w ∧ FV n H β a (A3 fA pre (noI LA) (fun j => listed.getD j false) pre.length)) ∨
   (listed.getD p false=true∧listed.getD p2 false=false∧∃H β,Sim E H β hB w∧FV n H β a (A3 fB pre (noI LB) (fun j=>listed.getD j false) pre.length))∨
   (listed.getD p2 false = true ∧ ∃ H β, Sim E H β hC w ∧ FV n H β a (A3 fB pre (noI LB) (fun j => listed.getD j false) pre.length)))
end
theorem Akd {P:Program} {n:Nat} {ops:Array Oper} {pre:List Oper} {p p2:Nat} {fA fB:Fr} {hA hB hC:Xh} {LA LB:List S} {E:Env} {Q:Exit→Act→World→Prop} {κ:S→S} {C:List C3}
  (hops:∀j,j<pre.length→ops[j]? =pre[j]?) (hin:pre.all (inN n)=true) (hreg:Jo ops pre=true) (hf:∀t,fB t=κ (fA t)) (hCl:C.length=pre.length) (hAl:LA.length=pre.length) (hBl:LB.length=pre.length)
  (hok:∀k o c sA sB,pre[k]? =some o→C[k]? =some c→LA[k]? =some sA→LB[k]? =some sB→FOK P n ops κ hA hB hC o (A3 fA pre (noI LA) Du k) (A3 fB pre (noI LB) Du k) c sA sB)
  (hp:C[p]? =some .mu) (hp2:C[p2]? =some .st) (hcls:Ah5 ops p p2 C=true) {listed:Array Bool} {a:Act} {w:World} (hI:An4 n ops pre p p2 fA fB hA hB hC LA LB E listed a w) {i:Nat} (hi:i∈Region.ready .any ops listed) (hip0:i<pre.length):
  wpOp P ops Q i (fun a' w'=>An4 n ops pre p p2 fA fB hA hB hC LA LB E (listed.setIfInBounds i true) a' w') a w:=by
 obtain ⟨⟨hsz,hdown,hunp⟩,hcase⟩:=hI
 have hcl:∀k c,C[k]? =some c→match c with|C3.bf=>Da ops 9 p k=true∧Da ops 9 p2 k=true|C3.af=>Da ops 9 k p=true∧Da ops 9 p2 k=true|C3.fl=>Da ops 9 k p=true|C3.mu=>k=p∧Da ops 9 p2 k=true|C3.st=>k=p2∧Da ops 9 k p=true|C3.ff=>True|C3.fr=>Da ops 9 p2 k=true:=by
  intro k c hck
  unfold Ah5 at hcls
  have:=List.all_eq_true.1 hcls k (List.mem_range.2 (List.getElem?_eq_some_iff.1 hck).1)
  rw [hck] at this
  cases c with
  |mu=>simp only [Bool.and_eq_true] at this;exact ⟨Nat.eq_of_beq_eq_true this.1,this.2⟩
  |st=>simp only [Bool.and_eq_true] at this;exact ⟨Nat.eq_of_beq_eq_true this.1,this.2⟩
  |fr=>exact this
  |ff=>trivial
  |fl=>exact this
  |bf=>simpa [Bool.and_eq_true] using this
  |af=>simpa [Bool.and_eq_true] using this
 obtain ⟨hil,hunl,o,ho,hdeps⟩:=Fj hi
 have hil':i<pre.length:=hip0
 have hol:pre[i]? =some o:=by rw [←hops i hip0];exact ho
 obtain ⟨sA,hLA⟩:∃q,LA[i]? =some q:=⟨_,List.getElem?_eq_getElem (by omega)⟩
 obtain ⟨sB,hLB⟩:∃q,LB[i]? =some q:=⟨_,List.getElem?_eq_getElem (by omega)⟩
 obtain ⟨c,hC'⟩:∃q,C[i]? =some q:=⟨_,List.getElem?_eq_getElem (by omega)⟩
 have hunl':listed.getD i false=false:=by rw [←Hk true (by omega)];exact hunl
 have hdown':∀j o e,ops[j]? =some o→(fun j=>listed.getD j false) j=true→e∈o.after→Region.binds .any e=true→(fun j=>listed.getD j false) e.on=true:=fun j o e h1 h2 h3 h4=>hdown j o e (by simpa using h1) h2 h3 h4
 have hwl:∀d j,Da ops (d+1) i j=true→listed.getD j false=true:=by
  intro d j hw
  unfold Da at hw
  rw [ho] at hw
  simp only [List.any_eq_true,Bool.and_eq_true,Bool.or_eq_true] at hw
  obtain ⟨e,he,hb,h2⟩:=hw
  have hl:=hdeps e (by simpa using he) hb
  rcases h2 with h2|h2
  ·rw [←Nat.eq_of_beq_eq_true h2];exact hl
  ·exact Cy hdown' d e.on j h2 hl
 have hlo:∀t,t∈B8 ops o→∀j o',j<i→pre[j]? =some o'→o'.dst=some t→listed.getD j false=true:=by
  intro t ht j o' hj hj' hd
  exact hwl 2 j (Hi hreg hj hj' hol (by unfold Le;rw [hd];simp [Hx ht]))
 have hhi:∀t,t∈B8 ops o→∀j o',i<j→pre[j]? =some o'→o'.dst=some t→listed.getD j false=false:=by
  intro t ht j o' hj hj' hd
  cases hlj:listed.getD j false with
  |false=>rfl
  |true=>
   have hw:=Hi hreg hj hol hj' (by unfold Le;rw [hd];simp [Hx ht])
   have:=Cy hdown' 3 j i hw hlj
   rw [hunl'] at this;cases this
 have hcur:∀(f0:Fr) (L:List (List Nat × S)) t,t∈B8 ops o→A3 f0 pre L (fun j=>listed.getD j false) pre.length t=A3 f0 pre L Du i t:=by
  intro f0 L t ht
  have h1:∀j o',i≤j→pre[j]? =some o'→o'.dst=some t→(fun j=>listed.getD j false) j=false:=by
   intro j o' hj hj' hd
   by_cases e:j=i
   ·subst e;exact hunl'
   ·exact hhi t ht j o' (by omega) hj' hd
  rw [Gw h1 pre.length (by omega),Lw (hlo t ht) i (Nat.le_refl _)]
 have hin':inN n o=true:=List.all_eq_true.1 hin o (List.mem_of_getElem? hol)
 have hoin:=hin'
 unfold inN at hoin
 rw [Bool.and_eq_true] at hoin
 have hopn:∀t,Operand.tmp t∈o.op.operands→t∈B8 ops o:=by
  intro t hx
  unfold B8 Oper.looksAt
  simp only [List.mem_append,List.mem_filterMap]
  exact .inr (.inl ⟨.tmp t,by simpa using hx,rfl⟩)
 have hev:∀(f0:Fr) (L:List (List Nat × S)),∀x∈o.op.operands,ev (A3 f0 pre L (fun j=>listed.getD j false) pre.length) x=ev (A3 f0 pre L Du i) x:=by
  intro f0 L x hx
  cases x with
  |tmp t=>simp only [ev];exact hcur f0 L t (hopn t hx)
  |_=>rfl
 have hop:∀(f0:Fr) (L:List (List Nat × S)) (H:Hp) (β:Bt),FV n H β a (A3 f0 pre L (fun j=>listed.getD j false) pre.length)→∀x∈o.op.operands,VS H β (a.eval x) (ev (A3 f0 pre L Du i) x):=by
  intro f0 L H β hfv x hx
  rw [←hev f0 L x hx]
  exact hfv.operands hin' x hx
 have hguard:∀(f0:Fr) (L:List (List Nat × S)) (H:Hp) (β:Bt),FV n H β a (A3 f0 pre L (fun j=>listed.getD j false) pre.length)→∀b,Bl ops (A3 f0 pre L Du i) n o.guard=some b→Region.wanted o (yielded ops a.tmps)=b:=by
  intro f0 L H β hfv b hb
  refine Hn hfv ?_
  rw [←hb]
  unfold Bl
  cases hg:o.guard with
  |none=>rfl
  |some g=>
   obtain ⟨j,want⟩:=g
   simp only
   cases ht:(ops[j]?).bind (·.dst) with
   |none=>rfl
   |some t=>
    simp only
    have htn:t∈B8 ops o:=by
     unfold B8 Oper.looksAt
     rw [hg]
     simp only [List.mem_append]
     exact .inr (.inr (by rw [ht];simp))
    rw [hcur f0 L t htn]
 have hlisted':∀j,(listed.setIfInBounds i true).getD j false=if j=i then true else listed.getD j false:=by
  intro j
  by_cases e:j=i
  ·subst e
   simp [Array.getD_eq_getD_getElem?,show j<listed.size by omega]
  ·rw [if_neg e]
   simp [Array.getD_eq_getD_getElem?,Array.getElem?_setIfInBounds_ne (fun h=>e h.symm)]
 have hdown2:∀j o' e,ops[j]? =some o'→(listed.setIfInBounds i true).getD j false=true→e∈o'.after→Region.binds .any e=true→(listed.setIfInBounds i true).getD e.on false=true:=by
  intro j o' e hj hl he hb
  rw [hlisted'] at hl ⊢
  split
  ·rfl
  ·by_cases ej:j=i
   ·subst ej
    rw [ho] at hj;cases hj
    exact hdeps e he hb
   ·rw [if_neg ej] at hl
    exact hdown j o' e hj hl he hb
 have hslot:∀(f0:Fr) (L:List (List Nat × S)) (q:List Nat × S) (H':Hp) (β':Bt) (u:Value),L[i]? =some q→FV n H' β' a (A3 f0 pre L (fun j=>listed.getD j false) pre.length)→VS H' β' u q.2→FV n H' β' (a.put o.dst u) (A3 f0 pre L (fun j=>(listed.setIfInBounds i true).getD j false) pre.length):=by
  intro f0 L q H' β' u hLi hfv' hu
  have hp:=hfv'.put hu o.dst hoin.2
  refine ⟨hp.defers,hp.size,fun t ht=> ?_⟩
  have h1:=hp.slot t ht
  have hsame:∀j,j≠i→(fun j=>(listed.setIfInBounds i true).getD j false) j=(fun j=>listed.getD j false) j:=fun j hj=>by simp only;rw [hlisted',if_neg hj]
  by_cases hd:o.dst=some t
  ·have ht':t∈B8 ops o:=by unfold B8;simp [hd]
   have e1:A3 f0 pre L (fun j=>(listed.setIfInBounds i true).getD j false) pre.length t=A3 f0 pre L (fun j=>(listed.setIfInBounds i true).getD j false) (i+1) t:=by
    refine Gw (fun j o' hj hj' hd'=> ?_) pre.length (by omega)
    show (listed.setIfInBounds i true).getD j false=false
    rw [hlisted',if_neg (by omega)]
    exact hhi t ht' j o' (by omega) hj' hd'
   have e2:A3 f0 pre L (fun j=>(listed.setIfInBounds i true).getD j false) (i+1) t=q.2:=by
    unfold A3
    rw [hol,hLi]
    have hb:(listed.setIfInBounds i true).getD i false=true:=by rw [hlisted',if_pos rfl]
    simp only [hb,cond_true,A7,hd,Ds,Bh]
   have e3:A7 (A3 f0 pre L (fun j=>listed.getD j false) pre.length) o.dst q.2 t=q.2:=by rw [hd];simp only [A7,Ds,Bh,cond_true]
   rw [e1,e2]
   rw [e3] at h1
   exact h1
  ·have e1:=Kr (f:=f0) (L:=L) (lst:=fun j=>listed.getD j false) (t:=t) hsame (fun o' h=>by rw [hol] at h;cases h;exact hd) pre.length
   have e3:A7 (A3 f0 pre L (fun j=>listed.getD j false) pre.length) o.dst q.2 t=A3 f0 pre L (fun j=>listed.getD j false) pre.length t:=by
    cases hdd:o.dst with
    |none=>rfl
    |some t'=>
     have:t'≠t:=fun e=>hd (by rw [hdd,e])
     simp only [A7,Ds,Bp this,cond_false]
   rw [e1]
   rw [e3] at h1
   exact h1
 have hsz':(listed.setIfInBounds i true).size=ops.size:=by simpa using hsz
 have hunp2:∀k,pre.length≤k→(listed.setIfInBounds i true).getD k false=false:=fun k hk=>by rw [hlisted',if_neg (by omega)];exact hunp k hk
 have fok:=hok i o c _ _ hol hC' hLA hLB
 have hcls1:=hcl i c hC'
 have hpp2:p≠p2:=fun e=>by rw [e,hp2] at hp;cases hp
 have hbase:(listed.setIfInBounds i true).size=ops.size∧(∀j o e,ops[j]? =some o→(listed.setIfInBounds i true).getD j false=true→e∈o.after→Region.binds .any e=true→(listed.setIfInBounds i true).getD e.on false=true)∧∀k,pre.length≤k→(listed.setIfInBounds i true).getD k false=false:=⟨hsz',hdown2,hunp2⟩
 have keep:∀j,j≠i→(listed.setIfInBounds i true).getD j false=listed.getD j false:=fun j hj=>by rw [hlisted',if_neg hj]
 have hgB:(noI LB)[i]? =some ([],sB):=Rr hLB
 have hgA:(noI LA)[i]? =some ([],sA):=Rr hLA
 unfold wpOp
 rw [ho]
 simp only
 have cas:∀(f0:Fr) (L:List S) (s:S) (hX:Xh) (H:Hp) (β:Bt),L[i]? =some s→OpF P n ops o (A3 f0 pre (noI L) Du i) hX s→Sim E H β hX w→FV n H β a (A3 f0 pre (noI L) (fun j=>listed.getD j false) pre.length)→
   ∀K:Act→World→Prop,(∀a' w',(∃H' β',Sim E H' β' hX w'∧FV n H' β' a' (A3 f0 pre (noI L) (fun j=>(listed.setIfInBounds i true).getD j false) pre.length))→K a' w')→
   ((Region.wanted o (yielded ops a.tmps)=true∧o.wp P a w K NoQ)∨(Region.wanted o (yielded ops a.tmps)=false∧K (a.put o.dst undef) w)):=by
  intro f0 L s hX H β hL hop' hsim hfv K hK
  rcases hop' with ⟨hw,hcalm⟩|⟨hw,hs0⟩
  ·refine .inl ⟨hguard f0 (noI L) H β hfv _ hw,Dm (hcalm E H β a w hsim (fun _ e=>by cases e) (hop f0 (noI L) H β hfv)) ?_⟩
   rintro a' w' ⟨H',β',u,rfl,k1,k2,k3,_,k5⟩
   exact hK _ _ ⟨H',β',k1,hslot f0 (noI L) ([],s) H' β' u (Rr hL) (hfv.mono k2 k3) k5⟩
  ·exact .inr ⟨hguard f0 (noI L) H β hfv _ hw,hK _ _ ⟨H,β,hsim,hslot f0 (noI L) ([],s) H β undef (Rr hL) hfv (by rw [hs0];exact .d (.v _))⟩⟩
 have fin:∀K:Act→World→Prop,(Region.wanted o (yielded ops a.tmps)=true∧o.wp P a w K NoQ)∨(Region.wanted o (yielded ops a.tmps)=false∧K (a.put o.dst undef) w)→
   if Region.wanted o (yielded ops a.tmps)=true then o.wp P a w K Q∨(o.asks P a w∧LetsOut Q) else K (a.put o.dst undef) w:=by
  intro K h
  rcases h with ⟨h1,h2⟩|⟨h1,h2⟩
  ·rw [if_pos h1];exact .inl (Dm h2 fun _ _ h=>h)
  ·rw [if_neg (by rw [h1];decide)];exact h2
 rcases hcase with ⟨hpn,hpn2,H,β,hsim,hfv⟩|⟨hpy,hpn2,H,β,hsim,hfv⟩|⟨hpy2,H,β,hsim,hfv⟩
 ·by_cases hip:i=p
  ·subst hip
   have:c= .mu:=by rw [hC'] at hp;cases hp;rfl
   subst this
   obtain ⟨k1,k2⟩:=fok.m rfl
   refine fin _ (.inl ⟨hguard fA (noI LA) H β hfv _ k1,Dm (k2 _ (hev fA (noI LA)) E H β a w hsim hfv (hfv.operands hin')) ?_⟩)
   rintro a' w' ⟨H',β',u,rfl,q1,q2,_,q3⟩
   refine ⟨hbase, .inr (.inl ⟨by rw [hlisted',if_pos rfl],by rw [keep p2 (fun e=>hpp2 e.symm)];exact hpn2,H',β',q1,hslot fB (noI LB) ([],sB) H' β' u hgB ⟨q2.defers,q2.size,fun t ht=> ?_⟩ q3⟩)⟩
   have hrel := Ub (κ := κ) (l := pre) (LA := noI LA) (LB := noI LB) (lst := fun j => listed.getD j false) (fA := fA) (fB := fB) hf (by rw [noI, noI, List.length_map, List.length_map]; omega) (fun k qa' qb' ha hb hlk => by
    obtain ⟨ha1,_⟩:=Aju ha
    obtain ⟨hb1,_⟩:=Aju hb
    have hkl:k<pre.length:=by rw [←hAl];exact (List.getElem?_eq_some_iff.1 ha1).1
    obtain ⟨c',hC2⟩:∃q,C[k]? =some q:=⟨_,List.getElem?_eq_getElem (by omega)⟩
    have hokk:=hok k _ c' _ _ (List.getElem?_eq_getElem hkl) hC2 ha1 hb1
    have hck:=hcl k c' hC2
    cases c' with
    |bf=>exact (hokk.a (.inl rfl)).2
    |fr=>exact (hokk.a (.inr (.inl rfl))).2
    |ff=>exact (hokk.a (.inr (.inr rfl))).2
    |mu=>
     have:k=i:=hck.1
     subst this
     rw [hunl'] at hlk;cases hlk
    |af=>
     have:=Cy hdown' 9 k i hck.1 hlk
     rw [hunl'] at this;cases this
    |fl=>
     have:=Cy hdown' 9 k i hck hlk
     rw [hunl'] at this;cases this
    |st=>
     have:=Cy hdown' 9 k i hck.2 hlk
     rw [hunl'] at this; cases this) pre.length t
   rw [hrel]
   exact q2.slot t ht
  ·have hnw:Da ops 9 i p=true→False:=fun h=>by
    have:=hwl 8 p h
    rw [hpn] at this;cases this
   have hcase2:c= .bf∨c= .fr∨c= .ff:=by
    cases c with
    |bf=>exact .inl rfl
    |fr=>exact .inr (.inl rfl)
    |ff=>exact .inr (.inr rfl)
    |mu=>exact absurd hcls1.1 hip
    |af=>exact (hnw hcls1.1).elim
    |fl=>exact (hnw hcls1).elim
    |st=>exact (hnw hcls1.2).elim
   have hip2:i≠p2:=fun e=>by subst e;rw [hC'] at hp2;cases hp2;rcases hcase2 with h|h|h<;>cases h
   exact fin _ (cas fA LA sA hA H β hLA (fok.a hcase2).1 hsim hfv _ fun a' w' ⟨H',β',k1,k2⟩=>⟨hbase, .inl ⟨by rw [keep p (fun e=>hip e.symm)];exact hpn,by rw [keep p2 (fun e=>hip2 e.symm)];exact hpn2,H',β',k1,k2⟩⟩)
 ·have hip:i≠p:=fun e=>by subst e;rw [hunl'] at hpy;cases hpy
  by_cases hip2:i=p2
  ·subst hip2
   have:c= .st:=by rw [hC'] at hp2;cases hp2;rfl
   subst this
   obtain ⟨k1,k2⟩:=fok.s rfl
   refine fin _ (.inl ⟨hguard fB (noI LB) H β hfv _ k1,Dm (k2 _ (hev fB (noI LB)) E H β a w hsim hfv (hfv.operands hin')) ?_⟩)
   rintro a' w' ⟨H',β',u,rfl,q1,q2,_,q3⟩
   exact ⟨hbase, .inr (.inr ⟨by rw [hlisted',if_pos rfl],H',β',q1,hslot fB (noI LB) ([],sB) H' β' u hgB q2 q3⟩)⟩
  ·have hcase2:c= .af∨c= .fr∨c= .fl∨c= .ff:=by
    cases c with
    |af=>exact .inl rfl
    |fr=>exact .inr (.inl rfl)
    |fl=>exact .inr (.inr (.inl rfl))
    |ff=>exact .inr (.inr (.inr rfl))
    |mu=>exact absurd hcls1.1 hip
    |st=>exact absurd hcls1.1 hip2
    |bf=>
     have:=Cy hdown' 9 p i hcls1.1 hpy
     rw [hunl'] at this;cases this
   exact fin _ (cas fB LB sB hB H β hLB (fok.b hcase2) hsim hfv _ fun a' w' ⟨H',β',k1,k2⟩=>⟨hbase, .inr (.inl ⟨by rw [keep p (fun e=>hip e.symm)];exact hpy,by rw [keep p2 (fun e=>hip2 e.symm)];exact hpn2,H',β',k1,k2⟩)⟩)
 ·have hip2:i≠p2:=fun e=>by subst e;rw [hunl'] at hpy2;cases hpy2
  have hnw:Da ops 9 p2 i=true→False:=fun h=>by
   have:=Cy hdown' 9 p2 i h hpy2
   rw [hunl'] at this;cases this
  have hcase2:c= .fl∨c= .ff:=by
   cases c with
   |fl=>exact .inl rfl
   |ff=>exact .inr rfl
   |af=>exact (hnw hcls1.2).elim
   |fr=>exact (hnw hcls1).elim
   |mu=>exact (hnw hcls1.2).elim
   |st=>exact absurd hcls1.1 hip2
   |bf=>exact (hnw hcls1.2).elim
  exact fin _ (cas fB LB sB hC H β hLB (fok.l hcase2) hsim hfv _ fun a' w' ⟨H',β',k1,k2⟩=>⟨hbase, .inr (.inr ⟨by rw [keep p2 (fun e=>hip2 e.symm)];exact hpy2,H',β',k1,k2⟩)⟩)
theorem Ak8 {f0:Fr} {l:List Oper} {L:List (List Nat × S)} {m:Nat}:∀k,A3 f0 l L (fun j=>(Array.replicate m false).getD j false) k=f0:=by
 intro k
 induction k with
 |zero=>rfl
 |succ k ih=>
  unfold A3
  cases l[k]? with
  |none=>exact ih
  |some o=>
   cases L[k]? with
   |none=>exact ih
   |some q=>
    have hz:(Array.replicate m false).getD k false=false:=by rw [Array.getD_eq_getD_getElem?,Array.getElem?_replicate];split<;>rfl
    simp only
    rw [hz,cond_false]
    exact ih
theorem Aox {P:Program} {n id:Nat} {pre suf:List Oper} {ops:Array Oper} {K:Cu} {f f':Fr} {h hB hC:Xh} {κ:S→S} {C:List C3} {LA LB:List S} (p p2:Nat) (hopsE:ops=(pre++suf).toArray) (hne:0<suf.length) (hm:P.follows .mixedOrders=true) (hin:pre.all (inN n)=true) (hin2:suf.all (inN n)=true)
  (hreg:Jo ops pre=true) (hS:Pa ops pre.length=true) (hc:ChF P n ops κ h hB hC pre f (fun t=>κ (f t)) C LA LB f') (hp:C[p]? =some .mu) (hp2:C[p2]? =some .st) (hcls:Ah5 ops p p2 C=true) (hk:XL P n ops suf K f' hC):XW P n (.region id ops true) K f h:=by
 have hops:∀j,j<pre.length→ops[j]? =pre[j]? :=fun j hj=>by rw [hopsE];simp [List.getElem?_append_left hj]
 have hops2:∀j,suf[j]? =ops[pre.length+j]? :=fun j=>by rw [hopsE,List.getElem?_toArray,List.getElem?_append_right (by omega),Nat.add_sub_cancel_left]
 have hsize:ops.size=pre.length+suf.length:=by rw [hopsE];simp
 intro E H β a w hs hf
 obtain ⟨k1,k2,k3,k8,k10⟩:=hc.ok
 have hpl2:p2<pre.length:=by rw [←k1];exact (List.getElem?_eq_some_iff.1 hp2).1
 have hz:∀k,(Array.replicate ops.size false).getD k false=false:=fun k=>by
  rw [Array.getD_eq_getD_getElem?,Array.getElem?_replicate];split<;>rfl
 refine Ly (I:=An4 n ops pre p p2 f (fun t=>κ (f t)) h hB hC LA LB E) pre.length suf hm hops2 hsize hne hS ⟨⟨by simp,fun j o e _ hj=>(by rw [hz] at hj;cases hj),fun k _=>hz k⟩, .inl ⟨hz p,hz p2,H,β,hs.drew,by rw [Ak8];exact hf⟩⟩ (fun _ _ _ hI=>hI.1) ?_ ?_
 ·intro listed a w hI i hi hip
  exact Akd hops hin hreg (fun _=>rfl) k1 k2 k3 k8 hp hp2 hcls hI hi hip
 ·rintro listed a w ⟨_,hcase⟩ hall
  rcases hcase with ⟨_,hpn,_⟩|⟨_,hpn,_⟩|⟨_,H,β,hsim,hfv⟩
  ·rw [hall p2 hpl2] at hpn;cases hpn
  ·rw [hall p2 hpl2] at hpn;cases hpn
  ·refine hk hin2 E H β a w hsim ?_
   rw [Uc hall pre.length (Nat.le_refl _),k10] at hfv
   exact hfv
def ChFK (P:Program) (n:Nat) (ops:Array Oper) (κ:S→S) (hA hB hC:Xh) (rest:List Oper) (fA fB:Fr) (acc:List C3) (G:List C3→Fr→Prop):Prop:=∃C LA LB f',ChF P n ops κ hA hB hC rest fA fB C LA LB f'∧G (acc++C) f'
section
variable {P:Program} {n:Nat} {ops:Array Oper} {κ:S→S} {hA hB hC:Xh} {rest:List Oper} {fA fB:Fr} {o:Oper} {s s':S} {acc:List C3} {G:List C3→Fr→Prop}
theorem ChFK.nil (hg:G acc fB):ChFK P n ops κ hA hB hC [] fA fB acc G:=⟨[], [], [],fB, .nil _ _,by simpa using hg⟩
theorem ChFK.step {c:C3} (hok:FOK P n ops κ hA hB hC o fA fB c s s') (hr:ChFK P n ops κ hA hB hC rest (A7 fA o.dst s) (A7 fB o.dst s') (acc++ [c]) G):ChFK P n ops κ hA hB hC (o::rest) fA fB acc G:=by
 obtain ⟨C,LA,LB,f',k1,k2⟩:=hr
 refine ⟨_,_,_,f', .step hok k1, ?_⟩
 rw [List.append_assoc] at k2
 exact k2
theorem Kf {f:Fr} {h:Xh} (hw:Bl ops f n o.guard=some true) (hc:CStep P o f h [] s h):OpF P n ops o f h s:= .inl ⟨hw,by obtain ⟨_,_,k⟩:=hc;exact k h (HLe.refl _)⟩
theorem ChFK.ff (hw:Bl ops fA n o.guard=some true) (hw':Bl ops fB n o.guard=some true) (hc:CStep P o fA hA [] s hA) (hc':CStep P o fB hB [] s' hB) (hc2:CStep P o fB hC [] s' hC) (hk:κ s=s') (hr:ChFK P n ops κ hA hB hC rest (A7 fA o.dst s) (A7 fB o.dst s') (acc++ [.ff]) G):ChFK P n ops κ hA hB hC (o::rest) fA fB acc G:=
 .step ⟨fun _=>⟨Kf hw hc,hk.symm⟩,fun _=>Kf hw' hc',fun _=>Kf hw' hc2,fun e=>absurd e (by decide),fun e=>absurd e (by decide)⟩ hr
theorem ChFK.mus (hw:Bl ops fA n o.guard=some true) (hκ:κ=fun s=>s) (hc:∀f',(∀x∈o.op.operands,ev f' x=ev fA x)→Step P n o f' hA s' f' hB) (hr:ChFK P n ops κ hA hB hC rest (A7 fA o.dst .any) (A7 fB o.dst s') (acc++ [.mu]) G):ChFK P n ops κ hA hB hC (o::rest) fA fB acc G:=
 .step ⟨fun e => absurd e (by decide), fun e => absurd e (by decide), fun e => absurd e (by decide), fun _ => ⟨hw, fun f' he E H β a w hs hf hop => Dm (hc f' he E H β a w hs hf hop) (by
  rintro a' w' ⟨H',β',u,e,k1,k2,k3⟩
  subst hκ
  exact ⟨H', β', u, e, k1, k2, .inl rfl, k3⟩)⟩, fun e => absurd e (by decide)⟩ hr
theorem ChFK.bf (hw:Bl ops fA n o.guard=some true) (hc:CStep P o fA hA [] s hA) (hk:κ s=s') (hr:ChFK P n ops κ hA hB hC rest (A7 fA o.dst s) (A7 fB o.dst s') (acc++ [.bf]) G):ChFK P n ops κ hA hB hC (o::rest) fA fB acc G:=
 .step ⟨fun _=>⟨Kf hw hc,hk.symm⟩,fun e=>absurd e (by decide),fun e=>absurd e (by decide),fun e=>absurd e (by decide),fun e=>absurd e (by decide)⟩ hr
theorem ChFK.fr (hw:Bl ops fA n o.guard=some true) (hw':Bl ops fB n o.guard=some true) (hc:CStep P o fA hA [] s hA) (hc':CStep P o fB hB [] s' hB) (hk:κ s=s') (hr:ChFK P n ops κ hA hB hC rest (A7 fA o.dst s) (A7 fB o.dst s') (acc++ [.fr]) G):ChFK P n ops κ hA hB hC (o::rest) fA fB acc G:=
 .step ⟨fun _=>⟨Kf hw hc,hk.symm⟩,fun _=>Kf hw' hc',fun e=>absurd e (by decide),fun e=>absurd e (by decide),fun e=>absurd e (by decide)⟩ hr
theorem ChFK.af (hw':Bl ops fB n o.guard=some true) (hc':CStep P o fB hB [] s' hB) (hr:ChFK P n ops κ hA hB hC rest (A7 fA o.dst .any) (A7 fB o.dst s') (acc++ [.af]) G):ChFK P n ops κ hA hB hC (o::rest) fA fB acc G:=
 .step ⟨fun e=>absurd e (by decide),fun _=>Kf hw' hc',fun e=>absurd e (by decide),fun e=>absurd e (by decide),fun e=>absurd e (by decide)⟩ hr
theorem ChFK.fl (hw':Bl ops fB n o.guard=some true) (hc':CStep P o fB hB [] s' hB) (hc2:CStep P o fB hC [] s' hC) (hr:ChFK P n ops κ hA hB hC rest (A7 fA o.dst .any) (A7 fB o.dst s') (acc++ [.fl]) G):ChFK P n ops κ hA hB hC (o::rest) fA fB acc G:=
 .step ⟨fun e=>absurd e (by decide),fun _=>Kf hw' hc',fun _=>Kf hw' hc2,fun e=>absurd e (by decide),fun e=>absurd e (by decide)⟩ hr
theorem ChFK.mu (hw:Bl ops fA n o.guard=some true) (hc:∀hF,HLe hA hF→Ie P n o fA hF 987654 s' κ (hF.by (fun k _=>hB k))) (hr:ChFK P n ops κ hA hB hC rest (A7 fA o.dst .any) (A7 fB o.dst s') (acc++ [.mu]) G):ChFK P n ops κ hA hB hC (o::rest) fA fB acc G:=
 .step ⟨fun e=>absurd e (by decide),fun e=>absurd e (by decide),fun e=>absurd e (by decide),fun _=>⟨hw,hc hA (HLe.refl _)⟩,fun e=>absurd e (by decide)⟩ hr
theorem ChFK.st (hw:Bl ops fB n o.guard=some true) (hc:∀f',(∀x∈o.op.operands,ev f' x=ev fB x)→Step P n o f' hB s' f' hC) (hr:ChFK P n ops κ hA hB hC rest (A7 fA o.dst .any) (A7 fB o.dst s') (acc++ [.st]) G):ChFK P n ops κ hA hB hC (o::rest) fA fB acc G:=
 .step ⟨fun e => absurd e (by decide), fun e => absurd e (by decide), fun e => absurd e (by decide), fun e => absurd e (by decide), fun _ => ⟨hw, fun f' he E H β a w hs hf hop => Dm (hc f' he E H β a w hs hf hop) (by
  rintro a' w' ⟨H',β',u,e,k1,k2,k3⟩
  exact ⟨H', β', u, e, k1, k2, .inl rfl, k3⟩)⟩⟩ hr
end
theorem Aad {P:Program} {n:Nat} {o:Oper} {f:Fr} {h hC:Xh} {t m:Nat} {x y:Operand} {i off:Nat} {l cs l':List S} (ho:o.op= .store t x y) (hx:ev f x= .ptr i 0 off) (hi:h i=some (.box l)) (hc:Dv h (ev f y)=some cs) (hz:sizeB P t m=true) (hm:cs.length=m) (hoff:off+m≤l.length) (hl:sets l off cs=l') (hh:HSub (h.set i (.box l')) hC):
  ∀f',(∀x∈o.op.operands,ev f' x=ev f x)→Step P n o f' h (.d (.v undef)) f' hC:=fun f' he E H β a w hs hf hop=>by
 have e1:=he x (by rw [ho];simp [Op.operands])
 have e2:=he y (by rw [ho];simp [Op.operands])
 refine Dm (Af (n:=n) (f:=f') ho (by rw [e1];exact hx) hi (by rw [e2];exact hc) hz hm hoff hl E H β a w hs hf hop) ?_
 rintro a' w' ⟨H',β',u,e,k1,k2,k3⟩
 exact ⟨H',β',u,e,k1.drop hh,k2,k3⟩
theorem Aac {P:Program} {n:Nat} {o:Oper} {f:Fr} {h hC:Xh} {t m:Nat} {x y:Operand} {i k off:Nat} {ty:TypeId} {sz:Nat} {ls:List Nat} (ls':List Nat) {l l':List (List T)} {z:List T} {cs:List S} (ho:o.op= .store t x y) (hx:ev f x= .ptr i k off) (hi:h i=some (.tree ty sz ls l)) (hk:l[k]? =some z) (hc:Dv h (ev f y)=some cs)
  (hz:sizeB P t m=true) (hm:cs.length=m) (hoff:off+m≤z.length) (hsub:ls.all (fun j=>B2 j ls')=true) (hcs:cs.all (fun d=>d.toT.inn ls')=true) (hl':l.set k (sets z off (cs.map S.toT))=l') (hh:HSub (h.set i (.tree ty sz ls' l')) hC):
  ∀f',(∀x∈o.op.operands,ev f' x=ev f x)→Step P n o f' h (.d (.v undef)) f' hC:=fun f' he E H β a w hs hf hop=>by
 have e1:=he x (by rw [ho];simp [Op.operands])
 have e2:=he y (by rw [ho];simp [Op.operands])
 refine Dm (Jh (n:=n) (f:=f') ls' ho (by rw [e1];exact hx) hi hk (by rw [e2];exact hc) hz hm hoff hsub hcs hl' E H β a w hs hf hop) ?_
 rintro a' w' ⟨H',β',u,e,k1,k2,k3⟩
 exact ⟨H',β',u,e,k1.drop hh,k2,k3⟩
theorem Ae8 {P:Program} {n id:Nat} {l:List Oper} {K:Cu} {f:Fr} {h:Xh} (p p2 q:Nat) (κ:S→S) (hB hC:Xh) (hm:P.follows .mixedOrders=true) (hin:l.all (inN n)=true) (hreg:Jo l.toArray (l.take q)=true) (hS:(Nat.blt q l.length && Pa l.toArray q)=true)
  (hc:ChFK P n l.toArray κ h hB hC (l.take q) f (fun t=>κ (f t)) [] (fun C f'=>(C[p]? =some .mu∧C[p2]? =some .st∧Ah5 l.toArray p p2 C=true)∧XL P n l.toArray (l.drop q) K f' hC)):XW P n (.region id l.toArray true) K f h:=by
 obtain ⟨C,LA,LB,f',k1,⟨k2,k3,k4⟩,k5⟩:=hc
 rw [Bool.and_eq_true] at hS
 have hp:=Eu hS.1
 rw [←List.take_append_drop q l,List.all_append,Bool.and_eq_true] at hin
 exact Aox p p2 (by rw [List.take_append_drop]) (by rw [List.length_drop];omega) hm hin.1 hin.2 hreg (by rw [List.length_take,Nat.min_eq_left (by omega)];exact hS.2) k1 k2 k3 k4 k5
end Go.Proofs.YtaafemnkamfgnaaGreat
namespace Go.Proofs.YtaafemnkamfgnaaGreat
open Go.RowKit
theorem Lk {P:Program} {o:Oper} {e:Operand→S} {h:Xh} {t sz n:Nat} {x y:Operand} {α:Type} {l:List α} {g:α→List D} (ho:o.op= .slice t x none (some y) none) (hx:e x= .d (.sl sz (l.map g))) (hy:e y= .d (.v (.int .i64 (min (l.length:Int) (n:Int))))) (hf:elB P t sz=true):A9 P o e h (.d (.sl sz ((l.take n).map g))):=by
 have q:=Je (h:=h) (a:=0) (b:=min l.length n) ho hx hf .no (Bd.ati hy (by omega)) (Nat.zero_le _) (Nat.min_le_left _ _)
 refine Ae q ?_
 rw [List.drop_zero,Nat.min_comm, ←List.take_take,List.take_length]
theorem Vm {P:Program} {o:Oper} {e:Operand→S} {h:Xh} {t n:Nat} {x y:Operand} {l:List UInt8} (ho:o.op= .slice t x none (some y) none) (hx:e x= .d (.v (.string ⟨l.toArray⟩))) (hy:e y= .d (.v (.int .i64 (min (l.length:Int) (n:Int))))) (hu:P.underlying t=some .string):A9 P o e h (.d (.v (.string ⟨(l.take n).toArray⟩))):=fun E H β ρ w _ hop=>by
 have g:=hop x (by rw [ho];simp [Op.operands])
 have g2:=hop y (by rw [ho];simp [Op.operands])
 rw [hx] at g
 rw [hy] at g2
 refine ⟨_, ?_, .d (.v (.string ⟨(l.take n).toArray⟩))⟩
 have hm:(min (l.length:Int) (n:Int))=((min l.length n:Nat):Int):=by omega
 have hsz:(ByteArray.mk l.toArray).size=l.length:=by simp [ByteArray.size]
 have hlt:(0:Int)≤((min l.length n:Nat):Int)∧((min l.length n:Nat):Int)≤(l.length:Int):=⟨by omega,by omega⟩
 have hex:(ByteArray.mk l.toArray).extract 0 (min l.length n)=⟨(l.take n).toArray⟩:=by
  apply ByteArray.ext
  rw [ByteArray.data_extract]
  simp [List.take_take]
  omega
 unfold execOp
 simp only [ho,Dn g,Dn g2,hm,Instr.sliceAt,Option.map_none,Option.map_some,Sem.run_bind,run_underlying hu,Result.andThen_ok,Instr.slice,Instr.sliceBounds,Instr.sliceBound,hsz,Sem.run_pure,Option.isSome_none,Bool.false_eq_true,if_false,asInt,asIntOf,hlt,and_self,if_true,Int.toNat_natCast,hex]
theorem Sim.subcut {E:Env} {H:Hp} {β:Bt} {h:Xh} {w:World} (s:Sim E H β h w) {i b k m:Nat} {ty:TypeId} {sz:Nat} {r:List (List D)} {l:List S} (hb:h b=some (.box l)) (hk:l[k]? =some (.sub i 0 m)) (hi:h i=some (.row ty sz r)) (hib:i≠b):
  ∃β',Sim E H β' (((h.kill i).set i (.row ty sz (r.take m))).set b (.box ((S.killL i l).set k (.own i)))) w∧∀{n:Nat} {a:Act} {f:Fr},FV n H β a f→FV n H β' a (Dw f i):=by
 have keep:∀Lo,((h.kill i).set i (.row ty sz (r.take m))) b=some (.box (S.killL i l))∧(β.set i Lo) b=β b:=fun Lo=>⟨by rw [Xh.set_ne _ _ hib,Xh.kill_ne _ hib,hb];rfl,Bt.set_ne _ _ hib⟩
 cases hL:β b with
 |none=>
  have s2:Sim E H (β.set i none) ((h.kill i).set i (.row ty sz (r.take m))) w:=(s.kill i none).blind (Bt.set_same _ _ _) rfl
  exact ⟨β.set i none,s2.blind (by rw [(keep none).2,hL]) rfl,fun hf=>hf.kill i none⟩
 |some Lb=>
  obtain ⟨h1,h0,us,t,h2,h3,h4⟩:=s.obj b _ Lb hb hL
  have hku:k<us.size:=by have:=(List.getElem?_eq_some_iff.1 hk).1;omega
  obtain ⟨L,A,n,c,hLi,hv,_,hmn,hu⟩:=Ya (h4 k us[k] _ (Array.getElem?_eq_getElem hku) hk)
  have hu':us[k]= .slice A m c:=by
   rw [hu,Nat.zero_mul,Nat.sub_zero,Nat.sub_zero]
   split
   ·rfl
   ·rename_i hc
    obtain ⟨_,_,_,_,hown,_,_⟩:=s.obj i _ L hi hLi
    rcases hown.2 with ⟨e1,_⟩|⟨g,cap,cur,e1,_⟩
    ·rw [hv] at e1;injection e1 with q1 q2 q3;subst q1;rfl
    ·rw [hv] at e1;injection e1 with q1 q2 q3;subst q1;simp [Go.WideShapes.add_plain]
  have hrn:n=r.length:=by
   obtain ⟨_,_,_,_,hown,_,_⟩:=s.obj i _ L hi hLi
   rcases hown.2 with ⟨e1,e2⟩|⟨g,cap,cur,e1,_⟩
   ·rw [hv] at e1;injection e1 with q1 q2 q3;omega
   ·rw [hv] at e1;injection e1 with q1 q2 q3
  subst hrn
  have s2:=s.cutR hi hLi hv hmn
  refine ⟨_,s2.turn (o:= .box (S.killL i l)) (keep (some ⟨.slice A m c,L.b,sz,noB⟩)).1 (by rw [(keep (some ⟨.slice A m c,L.b,sz,noB⟩)).2,hL]) rfl s2.below (fun _ _=>rfl) ⟨h1,by rw [List.length_set,S.killL_length];exact h0,us,t,h2,by rw [List.length_set,S.killL_length];exact h3,fun j u q hj hq=> ?_⟩,fun hf=>hf.kill i _⟩
  by_cases e:k=j
  ·subst e
   rw [List.getElem?_set_self (by rw [S.killL_length];omega)] at hq
   cases hq
   rw [Array.getElem?_eq_getElem hku] at hj
   cases hj
   rw [hu']
   exact VS.own (L:=⟨.slice A m c,L.b,sz,noB⟩) (Bt.set_same _ _ _)
  ·rw [List.getElem?_set_ne e,S.killL_get] at hq
   cases hl:l[j]? with
   |none=>rw [hl] at hq;cases hq
   |some q'=>rw [hl] at hq;cases hq;exact (h4 j u q' hj hl).kill i _
theorem Aig {P:Program} {n:Nat} {c:Code} {K:Cu} {f:Fr} {h:Xh} (i b k m:Nat) {ty:TypeId} {sz:Nat} {r r':List (List D)} {l l':List S} (hb:h b=some (.box l)) (hk:l[k]? =some (.sub i 0 m)) (hi:h i=some (.row ty sz r)) (hib:i≠b) (hr:r.take m=r') (hl:(S.killL i l).set k (.own i)=l')
  (hc:XW P n c K (Dw f i) (((h.kill i).set i (.row ty sz r')).set b (.box l'))):XW P n c K f h:=fun E H β a w hs hf=>by
 subst hr hl
 obtain ⟨β',s2,f2⟩:=hs.subcut hb hk hi hib
 exact hc E H β' a w s2 (f2 hf)
theorem Yq {P:Program} {n:Nat} {o:Oper} {f:Fr} {h:Xh} {t:Nat} {x y:Operand} {i j p q off:Nat} {l l':List S} (ho:o.op= .store t x y) (hx:ev f x= .ptr i 0 off) (hi:h i=some (.box l)) (hy:ev f y= .sub j p q) (hz:sizeB P t 1=true) (hoff:off+1≤l.length) (hl:sets l off [.sub j p q]=l'):
  Step P n o f h (.d (.v undef)) f (h.set i (.box l')):=by
 subst hl
 intro E H β a w hs hf hop
 have g1:=hop x (by rw [ho];simp [Op.operands])
 have g2:=hop y (by rw [ho];simp [Op.operands])
 rw [hx] at g1
 rw [hy] at g2
 obtain ⟨L,hL,hp⟩:=Fm g1
 rw [Nat.zero_mul,Nat.zero_add] at hp
 have h1:(a.eval y).oneCell'=true:=by obtain ⟨_,_,_,_,_,_,_,_,hu⟩:=Ya g2;rw [hu];rfl
 have hcs:=Xo h1
 obtain ⟨w', r1, r2⟩ := J9 (P := P) (off := off) hL (a.eval y).cells.toList [.sub j p q] 0 l h w hs hi (by rw [hcs]; rfl) (fun k v s hj hs' => by
  rw [hcs] at hj
  match k with
  |0=>cases hj;cases hs';exact ⟨g2,h1⟩
  | k + 1 => simp at hs') (by rw [hcs]; simpa using hoff)
 have hr:(execOp a.eval o).run P w= .ok .skip w':=by
  have hsz:(a.eval y).cells.size=1:=by rw [hcs];rfl
  unfold execOp
  simp only [ho,Instr.storeAt,hp,Instr.sureAddr,Sem.run_bind,Sem.run_pure,Result.andThen_ok,storeVar,sizeB.run hz,hsz,ne_eq,not_true_eq_false,if_false,r1]
 unfold Oper.wp
 rw [hr]
 exact ⟨H,β,_,rfl,r2,hf, .d (.v _)⟩
structure Ev.room (e:Ev):Prop where
 heads:e.heads.length*40≤140737488355328
 graces:e.graces.length*40≤140737488355328
 lyr:e.lyr.length*24≤140737488355328
def J8 (s:Sy):Sy:=⟨s.text.take 30,s.link⟩
def Kz (e:Ev):Ev:={e with heads:=e.heads.take 5,graces:=e.graces.take 4,lyr:=(e.lyr.take 5).map J8}
def shSys (l:List Sy) (k:Nat):List Sy:=(l.take k).map J8++l.drop k
theorem Adq (l:List Hd) (h:l.length*40≤140737488355328):XS Tryz.prog 140 [.sl 5 (l.map Hd.c)] (.own 5) [(5, .row 200 5 ((l).map Hd.c))]:=by
 refine D4 Rd Tryz.func140 R R lb (by kernel_rfl) (by kernel_rfl)<|zr<|za R R<|zn<|zs<|zr<|zm R R<|?_
 refine XL.eqnil R R R Tryz.underlying55 (fun hn4=> ?_) ?_
 refine zn<|Av (by kernel_rfl) R<|zr<|za R R<|zn<|Dx 5 2 200 5 R<|zt<|?_
 exact ⟨Cs R (RVS.tmp R R),HSub.cons (by rw [hn4];rfl) (HSub.nil)⟩
 refine zn<|A8 (by kernel_rfl) R<|zi<|zr<|XL.step R (Br 5 R Tryz.underlying55 Ym S6 R R (by omega) (by omega))<|zm R R<|XL.step R (A5 R Ak0 (.own R) (Src.sl (by omega)) (by unfold maxLen;simp;omega) (by simp;omega))<|zp (Aw R (by conv=>lhs;whnf))<|?_
 refine zn<|zt<|?_
 exact ⟨Cs R (RVS.tmp R R),HSub.cons (R) (HSub.nil)⟩
theorem Ads (l:List Gr) (h:l.length*40≤140737488355328):XS Tryz.prog 141 [.sl 5 (l.map Gr.c)] (.own 5) [(5, .row 203 5 ((l).map Gr.c))]:=by
 refine D4 Rc Tryz.func141 R R lb (by kernel_rfl) (by kernel_rfl)<|zr<|za R R<|zn<|zs<|zr<|zm R R<|?_
 refine XL.eqnil R R R Tryz.underlying56 (fun hn4=> ?_) ?_
 refine zn<|Av (by kernel_rfl) R<|zr<|za R R<|zn<|Dx 5 2 203 5 R<|zt<|?_
 exact ⟨Cs R (RVS.tmp R R),HSub.cons (by rw [hn4];rfl) (HSub.nil)⟩
 refine zn<|A8 (by kernel_rfl) R<|zi<|zr<|XL.step R (Br 5 R Tryz.underlying56 Yl S5 R R (by omega) (by omega))<|zm R R<|XL.step R (A5 R Akz (.own R) (Src.sl (by omega)) (by unfold maxLen;simp;omega) (by simp;omega))<|zp (Aw R (by conv=>lhs;whnf))<|?_
 refine zn<|zt<|?_
 exact ⟨Cs R (RVS.tmp R R),HSub.cons (R) (HSub.nil)⟩
theorem Adp (l:List Sy) (h:l.length*24≤140737488355328):XS Tryz.prog 142 [.sl 2 (l.map Sy.c)] (.own 5) [(5, .row 171 2 ((l).map Sy.c))]:=by
 refine D4 Rb Tryz.func142 R R lb (by kernel_rfl) (by kernel_rfl)<|zr<|za R R<|zn<|zs<|zr<|zm R R<|?_
 refine XL.eqnil R R R Tryz.underlying57 (fun hn4=> ?_) ?_
 refine zn<|Av (by kernel_rfl) R<|zr<|za R R<|zn<|Dx 5 2 171 2 R<|zt<|?_
 exact ⟨Cs R (RVS.tmp R R),HSub.cons (by rw [hn4];rfl) (HSub.nil)⟩
 refine zn<|A8 (by kernel_rfl) R<|zi<|zr<|XL.step R (Br 5 R Tryz.underlying57 Yn O4 R R (by omega) (by omega))<|zm R R<|XL.step R (A5 R Aky (.own R) (Src.sl (by omega)) (by unfold maxLen;simp;omega) (by simp;omega))<|zp (Aw R (by conv=>lhs;whnf))<|?_
 refine zn<|zt<|?_
 exact ⟨Cs R (RVS.tmp R R),HSub.cons (R) (HSub.nil)⟩
theorem Ak4 (e:Ev) (h:e.room):XS Tryz.prog 111 [.agg (Ev.c e)] (.agg [.d (dI e.site), .d (dI e.num), .d (dI e.kind), .d (dI e.v.log), .d (dI e.v.dots), .own 7501, .own 7502, .d (dI e.art), .d (dI e.orn), .d (dI e.dyn), .own 7503, .d (dI e.stem), .d (dI e.beam)]) [(7501, .row 200 5 ((e.heads).map Hd.c)),(7502, .row 203 5 ((e.graces).map Gr.c)),(7503, .row 171 2 ((e.lyr).map Sy.c))]:=by
 have h1:=h.heads
 have h2:=h.graces
 have h3:=h.lyr
 refine D4 Rf Tryz.func111 R R lb (by kernel_rfl) (by kernel_rfl)<|zr<|XL.step R (Ap 1 (l:= [.d (dI e.site), .d (dI e.num), .d (dI e.kind), .d (dI e.v.log), .d (dI e.v.dots), .d (.sl 5 (e.heads.map Hd.c)), .d (.sl 5 (e.graces.map Gr.c)), .d (dI e.art), .d (dI e.orn), .d (dI e.dyn), .d (.sl 2 (e.lyr.map Sy.c)), .d (dI e.stem), .d (dI e.beam)]) R R (by kernel_rfl))<|?_
 refine XL.step R (Aq 2 (l:= [.d (dI 0), .d (dI 0), .d (dI 0), .d (dI 0), .d (dI 0), .d (.v (.slice none 0 0)), .d (.v (.slice none 0 0)), .d (dI 0), .d (dI 0), .d (dI 0), .d (.v (.slice none 0 0)), .d (dI 0), .d (dI 0)]) R Cc (by kernel_rfl))<|zn<|zs<|Cq 10 [7501,7502,7503] (by kernel_rfl) (by kernel_rfl) (by kernel_rfl) (by kernel_rfl) (by decide)<|yp (Aa R R C7)<|?_
 refine yp (Ab R R Hs R R)<|ChK.cons R (CStep.callS R ((Adq _ (by assumption)).lab 7501) R (Nd (by kernel_rfl)))<|yp (Aa R R Ga)<|yp (Ab R R Nz R R)<|ChK.cons R (CStep.callS R ((Ads _ (by assumption)).lab 7502) R (Nd (by kernel_rfl)))<|yp (Aa R R Ep)<|yp (Ab R R Ji R R)<|?_
 refine ChK.cons R (CStep.callS R ((Adp _ (by assumption)).lab 7503) R (Nd (by kernel_rfl)))<|yp (Aa R R C7)<|?_
 refine ChK.nil ⟨by kernel_rfl, ?_⟩
 refine XL.step R (Af (l':= [.d (dI e.site), .d (dI e.num), .d (dI e.kind), .d (dI e.v.log), .d (dI e.v.dots), .own 7501, .d (.sl 5 (e.graces.map Gr.c)), .d (dI e.art), .d (dI e.orn), .d (dI e.dyn), .d (.sl 2 (e.lyr.map Sy.c)), .d (dI e.stem), .d (dI e.beam)]) R R R R Nu R lb (by kernel_rfl))<|zp (Aa R R Ga)<|?_
 refine XL.step R (Af (l':= [.d (dI e.site), .d (dI e.num), .d (dI e.kind), .d (dI e.v.log), .d (dI e.v.dots), .own 7501, .own 7502, .d (dI e.art), .d (dI e.orn), .d (dI e.dyn), .d (.sl 2 (e.lyr.map Sy.c)), .d (dI e.stem), .d (dI e.beam)]) R R R R Agv R lb (by kernel_rfl))<|zp (Aa R R Ep)<|?_
 refine XL.step R (Af (l':= [.d (dI e.site), .d (dI e.num), .d (dI e.kind), .d (dI e.v.log), .d (dI e.v.dots), .own 7501, .own 7502, .d (dI e.art), .d (dI e.orn), .d (dI e.dyn), .own 7503, .d (dI e.stem), .d (dI e.beam)]) R R R R Agu R lb (by kernel_rfl))<|znr<|zp (Ac (Ad R R Bq R lb))<|?_
 refine XL.step R (Af (l':= [.d (dI e.site), .d (dI e.num), .d (dI e.kind), .d (dI e.v.log), .d (dI e.v.dots), .own 7501, .own 7502, .d (dI e.art), .d (dI e.orn), .d (dI e.dyn), .own 7503, .d (dI e.stem), .d (dI e.beam)]) R R R R C4 R lb (by kernel_rfl))<|zn<|zt<|?_
 exact ⟨Cs R (RVS.eq (RVS.cells (i:=2) R R R Bq lb) R),HSub.cons (R) (HSub.cons (R) (HSub.cons (R) (HSub.nil)))⟩
theorem Xt (e:Ev) (h:e.room):XC Tryz.prog 83 [.agg (Ev.c e)] (fun r=>r= .agg (Ev.c (Kz e))):=by
 refine An Ad1 Tryz.func83 R R lb<|zr<|XL.step R (Ap 1 (l:= [.d (dI e.site), .d (dI e.num), .d (dI e.kind), .d (dI e.v.log), .d (dI e.v.dots), .d (.sl 5 (e.heads.map Hd.c)), .d (.sl 5 (e.graces.map Gr.c)), .d (dI e.art), .d (dI e.orn), .d (dI e.dyn), .d (.sl 2 (e.lyr.map Sy.c)), .d (dI e.stem), .d (dI e.beam)]) R R (by kernel_rfl))<|?_
 refine XL.step R (Aq 2 (l:= [.d (dI 0), .d (dI 0), .d (dI 0), .d (dI 0), .d (dI 0), .d (.v (.slice none 0 0)), .d (.v (.slice none 0 0)), .d (dI 0), .d (dI 0), .d (dI 0), .d (.v (.slice none 0 0)), .d (dI 0), .d (dI 0)]) R Cc (by kernel_rfl))<|znr<|zp (Ae (s':= .d (.agg (Ev.c e))) (Ac (Ad R R Bq R lb)) (by kernel_rfl))<|XL.callS R R (Ak4 _ (by assumption)) R<|?_
 refine XL.freeze (i:=7501) R<|XL.freeze (i:=7502) R<|XL.step R (Af (l':= [.d (dI e.site), .d (dI e.num), .d (dI e.kind), .d (dI e.v.log), .d (dI e.v.dots), .d (.sl 5 (e.heads.map Hd.c)), .d (.sl 5 (e.graces.map Gr.c)), .d (dI e.art), .d (dI e.orn), .d (dI e.dyn), .own 7503, .d (dI e.stem), .d (dI e.beam)]) R R R R C4 R lb (by kernel_rfl))<|zn<|zs<|?_
 refine Ae8 22 24 25 (fun s=>s) (mkH [(1, .box [.d (dI e.site), .d (dI e.num), .d (dI e.kind), .d (dI e.v.log), .d (dI e.v.dots), .d (.sl 5 ((e.heads.take 5).map Hd.c)), .d (.sl 5 (e.graces.map Gr.c)), .d (dI e.art), .d (dI e.orn), .d (dI e.dyn), .own 7503, .d (dI e.stem), .d (dI e.beam)]),(2, .box [.d (dI 0), .d (dI 0), .d (dI 0), .d (dI 0), .d (dI 0), .d (.v (.slice none 0 0)), .d (.v (.slice none 0 0)), .d (dI 0), .d (dI 0), .d (dI 0), .d (.v (.slice none 0 0)), .d (dI 0), .d (dI 0)]),(7503, .row 171 2 ((e.lyr).map Sy.c))]) (mkH [(1, .box [.d (dI e.site), .d (dI e.num), .d (dI e.kind), .d (dI e.v.log), .d (dI e.v.dots), .d (.sl 5 ((e.heads.take 5).map Hd.c)), .d (.sl 5 ((e.graces.take 4).map Gr.c)), .d (dI e.art), .d (dI e.orn), .d (dI e.dyn), .own 7503, .d (dI e.stem), .d (dI e.beam)]),(2, .box [.d (dI 0), .d (dI 0), .d (dI 0), .d (dI 0), .d (dI 0), .d (.v (.slice none 0 0)), .d (.v (.slice none 0 0)), .d (dI 0), .d (dI 0), .d (dI 0), .d (.v (.slice none 0 0)), .d (dI 0), .d (dI 0)]),(7503, .row 171 2 ((e.lyr).map Sy.c))]) (by kernel_rfl) (by kernel_rfl) (by kernel_rfl) (by kernel_rfl)<|?_
 refine ChFK.bf R (CStep.pure (Aa R R C7)) (by conv=>lhs;whnf)<|?_
 refine ChFK.bf R (CStep.pure (Ab R R Hs R R)) (by conv=>lhs;whnf)<|?_
 refine ChFK.bf R (CStep.pure (Aa R R C7)) (by conv=>lhs;whnf)<|?_
 refine ChFK.bf R (CStep.pure (Ab R R Hs R R)) (by conv=>lhs;whnf)<|?_
 refine ChFK.bf R (CStep.pure (M7 R R Tryz.underlying55)) (by conv=>lhs;whnf)<|?_
 refine ChFK.bf R (CStep.pure (F4 R R R)) (by conv=>lhs;whnf)<|?_
 refine ChFK.bf R (CStep.pure (Lk R R R R0)) (by conv=>lhs;whnf)<|?_
 refine ChFK.bf R (CStep.pure (Aa R R Ga)) (by conv=>lhs;whnf)<|?_
 refine ChFK.bf R (CStep.pure (Ab R R Nz R R)) (by conv=>lhs;whnf)<|?_
 refine ChFK.bf R (CStep.pure (Aa R R Ga)) (by conv=>lhs;whnf)<|?_
 refine ChFK.bf R (CStep.pure (Ab R R Nz R R)) (by conv=>lhs;whnf)<|?_
 refine ChFK.fr R R (CStep.pure (M7 R R Tryz.underlying56)) (CStep.pure (M7 R R Tryz.underlying56)) (by exact rfl)<|ChFK.fr R R (CStep.pure (F4 R R R)) (CStep.pure (F4 R R R)) (by exact rfl)<|ChFK.fr R R (CStep.pure (Lk R R R U7)) (CStep.pure (Lk R R R U7)) (by exact rfl)<|ChFK.bf R (CStep.pure (Aa R R Ep)) (by conv=>lhs;whnf)<|?_
 refine ChFK.bf R (CStep.pure (Ab R R Ji R R)) (by conv=>lhs;whnf)<|?_
 refine ChFK.bf R (CStep.pure (Aa R R Ep)) (by conv=>lhs;whnf)<|?_
 refine ChFK.bf R (CStep.pure (Ab R R Ji R R)) (by conv=>lhs;whnf)<|?_
 refine ChFK.ff R R (CStep.pure (Bz R R R Tryz.underlying57)) (CStep.pure (Bz R R R Tryz.underlying57)) (CStep.pure (Bz R R R Tryz.underlying57)) (by exact rfl)<|ChFK.ff R R (CStep.pure (F4 R R R)) (CStep.pure (F4 R R R)) (CStep.pure (F4 R R R)) (by exact rfl)<|?_
 refine ChFK.ff R R (CStep.pure (Ll R R R Ld Bd.no (Bd.ati R (show _=((min e.lyr.length 5:Nat):Int) by omega)) (Nat.zero_le _) (by rw [List.length_map];omega))) (CStep.pure (Ll rfl rfl rfl Ld Bd.no (Bd.ati rfl (show _=((min e.lyr.length 5:Nat):Int) by omega)) (Nat.zero_le _) (by rw [List.length_map];omega))) (CStep.pure (Ll rfl rfl rfl Ld Bd.no (Bd.ati rfl (show _=((min e.lyr.length 5:Nat):Int) by omega)) (Nat.zero_le _) (by rw [List.length_map];omega))) (by exact rfl)<|?_
 refine ChFK.bf R (CStep.pure (Aa R R C7)) (by conv=>lhs;whnf)<|?_
 refine ChFK.mus R R (Aad (l':= [.d (dI e.site), .d (dI e.num), .d (dI e.kind), .d (dI e.v.log), .d (dI e.v.dots), .d (.sl 5 ((e.heads.take 5).map Hd.c)), .d (.sl 5 (e.graces.map Gr.c)), .d (dI e.art), .d (dI e.orn), .d (dI e.dyn), .own 7503, .d (dI e.stem), .d (dI e.beam)]) R R R R Nu R lb (by kernel_rfl) (gz ⟨R,R,R,trivial⟩))<|ChFK.af R (CStep.pure (Aa R R Ga))<|?_
 refine ChFK.st R (Aad (l':= [.d (dI e.site), .d (dI e.num), .d (dI e.kind), .d (dI e.v.log), .d (dI e.v.dots), .d (.sl 5 ((e.heads.take 5).map Hd.c)), .d (.sl 5 ((e.graces.take 4).map Gr.c)), .d (dI e.art), .d (dI e.orn), .d (dI e.dyn), .own 7503, .d (dI e.stem), .d (dI e.beam)]) R R R R Agv R lb (by kernel_rfl) (gz ⟨R,R,R,trivial⟩))<|?_
 refine ChFK.nil ⟨⟨by kernel_rfl,by kernel_rfl,by kernel_rfl⟩, ?_⟩
 refine zp (Aa R R Ep)<|XL.step R (Yq (l':= [.d (dI e.site), .d (dI e.num), .d (dI e.kind), .d (dI e.v.log), .d (dI e.v.dots), .d (.sl 5 ((e.heads.take 5).map Hd.c)), .d (.sl 5 ((e.graces.take 4).map Gr.c)), .d (dI e.art), .d (dI e.orn), .d (dI e.dyn), .sub 7503 0 (min e.lyr.length 5), .d (dI e.stem), .d (dI e.beam)]) R R R R Agu lb (by kernel_rfl))<|zn<|zs<|zs<|?_
 refine Aig 7503 1 10 (min e.lyr.length 5) R R R (by decide) (r':=(e.lyr.take 5).map Sy.c) (by rw [←List.map_take,Nat.min_comm, ←List.take_take,List.take_length]) R<|?_
 have hsl:(e.lyr.take 5).length≤5:=by rw [List.length_take];omega
 refine Ag (by kernel_rfl)<|za R R<|zn<|Ah<|?_
 refine Az (α:=Nat) (fun k=>k≤(e.lyr.take 5).length) (fun k=>mkF [(1, .ptr 1 0 0),(2, .ptr 2 0 0),(3, .d (dI k))]) (fun k=>mkH [(1, .box [.d (dI e.site), .d (dI e.num), .d (dI e.kind), .d (dI e.v.log), .d (dI e.v.dots), .d (.sl 5 ((e.heads.take 5).map Hd.c)), .d (.sl 5 ((e.graces.take 4).map Gr.c)), .d (dI e.art), .d (dI e.orn), .d (dI e.dyn), .own 7503, .d (dI e.stem), .d (dI e.beam)]),(2, .box [.d (dI 0), .d (dI 0), .d (dI 0), .d (dI 0), .d (dI 0), .d (.v (.slice none 0 0)), .d (.v (.slice none 0 0)), .d (dI 0), .d (dI 0), .d (dI 0), .d (.v (.slice none 0 0)), .d (dI 0), .d (dI 0)]),(7503, .row 171 2 ((Gs J8 (e.lyr.take 5) k).map Sy.c))]) (fun k=>(e.lyr.take 5).length - k) (0) (Nat.zero_le _) ?_ ?_ ?_
 exact fz ⟨sr,sr,sr,trivial⟩
 exact gz ⟨R,R,Oe (Kj _ _),trivial⟩
 intro k hk0
 refine zs<|zr<|zm R R<|zp (Aa R R Ep)<|zp (Ab R R Ji R R)<|zp (Bz R R R Tryz.underlying57)<|zp (Au R R R)<|zn<|?_
 refine zd R (fun c34=> ?_) (fun c34=> ?_)
 have hml:=Hj J8 (e.lyr.take 5) k
 have hkl:k<(e.lyr.take 5).length:=by omega
 obtain ⟨x,hx⟩:=Ar hkl
 have hg:=Lq (f:=J8) hx
 refine zi<|zs<|Ah<|Cq 18 [] (by kernel_rfl) (by kernel_rfl) (by kernel_rfl) (by kernel_rfl) (by decide)<|yp (Aa R R Ep)<|yp (Ab R R Ji R R)<|ym R R<|yp (Aa R R Ep)<|yp (Ab R R Ji R R)<|ym R R<|yp (Ck R R R (R) R Ld (by omega))<|yp (Aa R R Hl)<|yp (I1 R R H9 R (C2 hg) R)<|yp (Aa R R Ep)<|?_
 refine yp (Ab R R Ji R R)<|ym R R<|yp (Ck R R R (R) R Ld (by omega))<|yp (Aa R R Hl)<|yp (I1 R R H9 R (C2 hg) R)<|yp (Lm R R Tryz.underlying9)<|yp (F4 R R R)<|yp (Vm R R R Tryz.underlying9)<|?_
 refine ChK.nil ⟨by kernel_rfl, ?_⟩
 refine zp (Ck R R R (R) R Ld (by omega))<|zp (Aa R R Hl)<|XL.step R (D8 R R R (C2 hg) R R Alv R lb)<|zn<|Ag (by kernel_rfl)<|zm R R<|zp (Al R R R (by omega) (by omega))<|za R R<|zn<|?_
 exact Am (k+1) (by omega) (by omega) (fz ⟨sr,sr,sr,trivial⟩) (gz ⟨R,R,Od (a:=J8 x) R (Lp hx),trivial⟩)
 have hml:=Hj J8 (e.lyr.take 5) k
 have he:=Lr (f:=J8) (l:=(e.lyr.take 5)) (k:=k) (by omega)
 refine At<|zr<|zp (Ac (Ad R R Bq R lb))<|XL.step R (Af (l':= [.d (dI e.site), .d (dI e.num), .d (dI e.kind), .d (dI e.v.log), .d (dI e.v.dots), .d (.sl 5 ((e.heads.take 5).map Hd.c)), .d (.sl 5 ((e.graces.take 4).map Gr.c)), .d (dI e.art), .d (dI e.orn), .d (dI e.dyn), .own 7503, .d (dI e.stem), .d (dI e.beam)]) R R R R C4 R lb (by kernel_rfl))<|zn<|zt<|?_
 refine Cd (i:=7503) R<|?_
 exact Jb R (RV.cells R R R Bq lb R) (by rw [he];rfl)
end Go.Proofs.YtaafemnkamfgnaaGreat
namespace Go.Proofs.YtaafemnkamfgnaaGreat
open Go.RowKit
def Vo.room (v:Vo):Prop:=∀e∈v.evs,e.room
def Jm (v:Vo):Vo:=⟨(v.evs.take 12).map Kz,v.tups.take 6⟩
theorem Ag0 {l:List Ev} {k:Nat} {x:Ev} (h:l[k]? =some x):(l.take (k+1)).map Kz=(l.take k).map Kz++ [Kz x]:=by rw [B3 h,List.map_append];rfl
theorem Ky {α:Type} {l:List α} {k m:Nat} (h:k≤m) (h2:¬k<m∨¬k<l.length):l.take k=l.take m:=by
 rcases h2 with h2|h2
 ·rw [show k=m by omega]
 ·rw [List.take_of_length_le (by omega),List.take_of_length_le (by omega)]
theorem Al3 (e:Ev):(Kz e).fit:=⟨by show (e.heads.take 5).length≤1000;rw [List.length_take];omega,by show (e.graces.take 4).length≤1000;rw [List.length_take];omega,by show ((e.lyr.take 5).map J8).length≤1000;rw [List.length_map,List.length_take];omega⟩
theorem Al2 (v:Vo):(Jm v).fit:=⟨by show ((v.evs.take 12).map Kz).length≤1000;rw [List.length_map,List.length_take];omega,by show (v.tups.take 6).length≤1000;rw [List.length_take];omega,fun e he=>by obtain ⟨x,_,rfl⟩:=List.mem_map.1 he;exact Al3 x⟩
theorem Xs (v:Vo) (h:v.room):XS Tryz.prog 39 [.agg (Vo.c v)] (.agg [.own 7201, .own 7202]) [(7201, .row 59 13 (((Jm v).evs).map Ev.c)),(7202, .row 157 4 (((Jm v).tups).map Tp.c))]:=by
 refine D4 Aes Tryz.func39 R R lb (by kernel_rfl) (by kernel_rfl)<|zr<|XL.step R (Ap 1 (l:= [.d (.sl 13 (v.evs.map Ev.c)), .d (.sl 4 (v.tups.map Tp.c))]) R R (by kernel_rfl))<|XL.step R (Aq 2 (l:= [.d (.v (.slice none 0 0)), .d (.v (.slice none 0 0))]) R Bf (by kernel_rfl))<|znr<|?_
 refine XL.step R (Aq 3 (l:= [.d (.v (.slice none 0 0)), .d (.v (.slice none 0 0))]) R Bf (by kernel_rfl))<|zn<|zs<|zr<|za R R<|zn<|Ah<|E7 7201 3 0 59 13 (l':= [.own 7201, .d (.v (.slice none 0 0))]) R R (by decide) (by kernel_rfl)<|?_
 refine Az (α:=Nat) (fun k=>k≤v.evs.length∧k≤12) (fun k=>mkF [(1, .ptr 1 0 0),(2, .ptr 2 0 0),(3, .ptr 3 0 0),(4, .d (dI k))]) (fun k=>mkH [(1, .box ((Vo.c v).map S.d)),(2, .box [.d (.v (.slice none 0 0)), .d (.v (.slice none 0 0))]),(3, .box [.own 7201, .d (.v (.slice none 0 0))]),(7201, .row 59 13 (((v.evs.take k).map Kz).map Ev.c))]) (fun k=>v.evs.length - k) (0) (⟨Nat.zero_le _,Nat.zero_le _⟩) ?_ ?_ ?_
 exact fz ⟨sr,sr,sr,sr,trivial⟩
 exact gz ⟨R,R,R,R,trivial⟩
 intro k hk0
 obtain ⟨hk,hk12⟩:=hk0
 refine zs<|zr<|zm R R<|zp (Aa R R Bo)<|zp (Ab R R Cz R R)<|XL.len R R R Tryz.underlying79 fun hl8=>zp (Au R R R)<|zm R R<|?_
 refine XL.dec 10 R (fun g10=> ?_) (fun g10=> ?_)
 refine zm R R<|zp (Au R R R)<|zq R R R<|zn<|?_
 refine zd R (fun c13=> ?_) (fun c13=> ?_)
 have hkl:k<v.evs.length:=by omega
 obtain ⟨x,hx⟩:=Ar hkl
 have hr:=h x (List.mem_of_getElem? hx)
 have htl:((v.evs.take k).map Kz).length=k:=by rw [List.length_map,List.length_take];omega
 refine zi<|zs<|Ah<|Cq 9 [] (by kernel_rfl) (by kernel_rfl) (by kernel_rfl) (by kernel_rfl) (by decide)<|yp (Aa R R Bo)<|yp (Ab R R Cz R R)<|yp (Aa R R Bo)<|yp (Ab R R Cz R R)<|ym R R<|yp (Ao R R R F5 (hx))<|yp (Ae (s':= .d (.agg (Ev.c x))) (Ay R R Bq lb) (by kernel_rfl))<|?_
 refine ChK.cons R (CStep.call R (Xt _ (by assumption)) R)<|ChK.cons R (CStep.slice R Tryz.underlying79 C4 Cc R R (by omega) (by omega))<|?_
 refine ChK.nil ⟨by kernel_rfl, ?_⟩
 refine XL.step R (A5 R Gv (.own R) (Src.sl (by omega)) (by unfold maxLen;simp;omega) (by simp;omega))<|zp (Aa R R Bo)<|XL.step R (Af (l':= [.own 7201, .d (.v (.slice none 0 0))]) R R R R Rm R lb (by kernel_rfl))<|zn<|Ag (by kernel_rfl)<|zm R R<|zp (Al R R R (by omega) (by omega))<|za R R<|zn<|?_
 exact Am (k+1) (⟨by omega,by omega⟩) (by omega) (fz ⟨sr,sr,sr,sr,trivial⟩) (gz ⟨rfl,rfl,rfl,Jn rfl (Ag0 hx),trivial⟩)
 refine At<|zs<|Cq 9 [] (by kernel_rfl) (by kernel_rfl) (by kernel_rfl) (by kernel_rfl) (by decide)<|yp (Aa R R B6)<|yp (Ab R R B7 R R)<|yp (Aa R R B6)<|yp (Ab R R B7 R R)<|yp (Aa R R B6)<|yp (Ab R R B7 R R)<|yp (M7 R R Tryz.underlying80)<|yp (F4 R R R)<|yp (Lk R R R E3)<|?_
 refine ChK.nil ⟨by kernel_rfl, ?_⟩
 refine XL.step R (A5 R F1 (.nil 7202 _ _) (Src.sl (by omega)) (by unfold maxLen;simp;omega) (by simp;omega))<|zp (Aa R R B6)<|XL.step R (Af (l':= [.own 7201, .own 7202]) R R R R Ge R lb (by kernel_rfl))<|znr<|zp (Ac (Ad R R Ax R lb))<|XL.step R (Af (l':= [.own 7201, .own 7202]) R R R R Bu R lb (by kernel_rfl))<|zn<|zt<|?_
 exact ⟨Cs R (RVS.eq (RVS.cells (i:=2) R R R Ax lb) R),HSub.cons (by rw [Ky (l:=v.evs) hk12 (by omega)];rfl) (HSub.cons (R) (HSub.nil))⟩
 refine zk 2 R<|zq R R R<|zn<|A8 (by kernel_rfl) R<|At<|zs<|Cq 9 [] (by kernel_rfl) (by kernel_rfl) (by kernel_rfl) (by kernel_rfl) (by decide)<|yp (Aa R R B6)<|yp (Ab R R B7 R R)<|yp (Aa R R B6)<|yp (Ab R R B7 R R)<|yp (Aa R R B6)<|yp (Ab R R B7 R R)<|yp (M7 R R Tryz.underlying80)<|?_
 refine yp (F4 R R R)<|yp (Lk R R R E3)<|?_
 refine ChK.nil ⟨by kernel_rfl, ?_⟩
 refine XL.step R (A5 R F1 (.nil 7202 _ _) (Src.sl (by omega)) (by unfold maxLen;simp;omega) (by simp;omega))<|zp (Aa R R B6)<|XL.step R (Af (l':= [.own 7201, .own 7202]) R R R R Ge R lb (by kernel_rfl))<|znr<|zp (Ac (Ad R R Ax R lb))<|XL.step R (Af (l':= [.own 7201, .own 7202]) R R R R Bu R lb (by kernel_rfl))<|zn<|zt<|?_
 exact ⟨Cs R (RVS.eq (RVS.cells (i:=2) R R R Ax lb) R),HSub.cons (by rw [Ky (l:=v.evs) hk12 (by omega)];rfl) (HSub.cons (R) (HSub.nil))⟩
def Ms.room (m:Ms):Prop:=∀c∈m.cells,∀v∈c.voices,v.room
def My (v:Vo):List T:=(Jm v).t
def Mz (c:Ce):Ce:=⟨c.clefs.take 8,(c.voices.take 3).map Jm⟩
def Lz (c:Ce):List T:=(Mz c).t
def shH (h:Mh):Mh:={h with reh:=h.reh.take 30}
def Aj (m:Ms):Ms:=⟨shH m.h,m.tempi.take 8,(m.cells.take 4).map Mz⟩
theorem Mn (ls:List Nat) (l:List Vo):T.inLL ls (l.map My)=true:=T.inLL_map (fun v=>Vo.t_in ls (Jm v)) l
theorem J0 (ls:List Nat) (l:List Ce):T.inLL ls (l.map Lz)=true:=T.inLL_map (fun v=>Ce.t_in ls (Mz v)) l
theorem Yx (l:List Vo):l.map My=(l.map Jm).map Vo.t:=by rw [List.map_map];rfl
theorem Yy (l:List Ce):l.map Lz=(l.map Mz).map Ce.t:=by rw [List.map_map];rfl
theorem Tb (m : Ms) : (Aj m).fit := ⟨by show (m.tempi.take 8).length ≤ 1000; rw [List.length_take]; omega, by show ((m.cells.take 4).map Mz).length ≤ 1000; rw [List.length_map, List.length_take]; omega, fun c hc => by
 obtain ⟨x,_,rfl⟩:=List.mem_map.1 hc
 exact ⟨by show (x.clefs.take 8).length ≤ 1000; rw [List.length_take]; omega, by show ((x.voices.take 3).map Jm).length ≤ 1000; rw [List.length_map, List.length_take]; omega, fun v hv => by obtain ⟨y, _, rfl⟩ := List.mem_map.1 hv; exact Al2 y⟩⟩
theorem Yu (m:Ms) (h:m.room):XS Tryz.prog 14 [.agg (Ms.c m)] (.agg [.d (dI (shH m.h).site), .d (dI (shH m.h).num), .d (dI (shH m.h).m.count), .d (dI (shH m.h).m.unit), .d (dI (shH m.h).m.g0), .d (dI (shH m.h).m.g1), .d (dI (shH m.h).m.g2), .d (dI (shH m.h).m.g3), .d (dI (shH m.h).m.g4), .d (dI (shH m.h).m.g5), .d (dI (shH m.h).len), .d (dI (shH m.h).fifths), .d (dB (shH m.h).start), .d (dI (shH m.h).fin), .d (dI (shH m.h).ends), .d (dI (shH m.h).jump), .d (dI (shH m.h).labels), .d (dI (shH m.h).swing), .d (dI (shH m.h).brk), .d (.v (.string ⟨(shH m.h).reh.toArray⟩)), .own 7401, .own 7402]) [(7401, .row 119 3 (((Aj m).tempi).map Tm.c)),(7402, .tree 78 2 [] ((Aj m).cells.map Ce.t))]:=by
 refine D4 Ae5 Tryz.func14 R R lb (by kernel_rfl) (by kernel_rfl)<|zr<|?_
 refine XL.step R (Ap 1 (l:= [.d (dI m.h.site), .d (dI m.h.num), .d (dI m.h.m.count), .d (dI m.h.m.unit), .d (dI m.h.m.g0), .d (dI m.h.m.g1), .d (dI m.h.m.g2), .d (dI m.h.m.g3), .d (dI m.h.m.g4), .d (dI m.h.m.g5), .d (dI m.h.len), .d (dI m.h.fifths), .d (dB m.h.start), .d (dI m.h.fin), .d (dI m.h.ends), .d (dI m.h.jump), .d (dI m.h.labels), .d (dI m.h.swing), .d (dI m.h.brk), .d (.v (.string ⟨m.h.reh.toArray⟩)), .d (.sl 3 (m.tempi.map Tm.c)), .d (.sl 2 (m.cells.map Ce.c))]) R R (by kernel_rfl))<|?_
 refine XL.step R (Aq 2 (l:= [.d (dI 0), .d (dI 0), .d (dI 0), .d (dI 0), .d (dI 0), .d (dI 0), .d (dI 0), .d (dI 0), .d (dI 0), .d (dI 0), .d (dI 0), .d (dI 0), .d (dB false), .d (dI 0), .d (dI 0), .d (dI 0), .d (dI 0), .d (dI 0), .d (dI 0), .d (.v (.string ⟨#[]⟩)), .d (.v (.slice none 0 0)), .d (.v (.slice none 0 0))]) R E6 (by kernel_rfl))<|znr<|zp (Aa R R Bm)<|?_
 refine zp (Ab R R Df R R)<|za R R<|znr<|zp (Aa R R Bm)<|?_
 refine XL.step R (Af (l':= [.d (dI m.h.site), .d (dI m.h.num), .d (dI m.h.m.count), .d (dI m.h.m.unit), .d (dI m.h.m.g0), .d (dI m.h.m.g1), .d (dI m.h.m.g2), .d (dI m.h.m.g3), .d (dI m.h.m.g4), .d (dI m.h.m.g5), .d (dI m.h.len), .d (dI m.h.fifths), .d (dB m.h.start), .d (dI m.h.fin), .d (dI m.h.ends), .d (dI m.h.jump), .d (dI m.h.labels), .d (dI m.h.swing), .d (dI m.h.brk), .d (.v (.string ⟨m.h.reh.toArray⟩)), .d (.sl 3 (m.tempi.map Tm.c)),_]) R R R R Um R lb R)<|?_
 refine zn<|zs<|zr<|za R R<|zn<|Ah<|?_
 refine E7 7402 1 21 78 2 (l':= [.d (dI m.h.site), .d (dI m.h.num), .d (dI m.h.m.count), .d (dI m.h.m.unit), .d (dI m.h.m.g0), .d (dI m.h.m.g1), .d (dI m.h.m.g2), .d (dI m.h.m.g3), .d (dI m.h.m.g4), .d (dI m.h.m.g5), .d (dI m.h.len), .d (dI m.h.fifths), .d (dB m.h.start), .d (dI m.h.fin), .d (dI m.h.ends), .d (dI m.h.jump), .d (dI m.h.labels), .d (dI m.h.swing), .d (dI m.h.brk), .d (.v (.string ⟨m.h.reh.toArray⟩)), .d (.sl 3 (m.tempi.map Tm.c)), .own 7402]) R R (by decide) (by kernel_rfl)<|?_
 refine Uf (i:=7402) (l':= []) R R<|?_
 refine Az (α:=Nat) (fun k=>k≤m.cells.length∧k≤4) (fun k=>mkF [(1, .ptr 1 0 0),(2, .ptr 2 0 0),(3, .d (.sl 2 (m.cells.map Ce.c))),(4, .d (dI k))]) (fun k=>mkH [(1, .box [.d (dI m.h.site), .d (dI m.h.num), .d (dI m.h.m.count), .d (dI m.h.m.unit), .d (dI m.h.m.g0), .d (dI m.h.m.g1), .d (dI m.h.m.g2), .d (dI m.h.m.g3), .d (dI m.h.m.g4), .d (dI m.h.m.g5), .d (dI m.h.len), .d (dI m.h.fifths), .d (dB m.h.start), .d (dI m.h.fin), .d (dI m.h.ends), .d (dI m.h.jump), .d (dI m.h.labels), .d (dI m.h.swing), .d (dI m.h.brk), .d (.v (.string ⟨m.h.reh.toArray⟩)), .d (.sl 3 (m.tempi.map Tm.c)), .own 7402]),(2, .box [.d (dI 0), .d (dI 0), .d (dI 0), .d (dI 0), .d (dI 0), .d (dI 0), .d (dI 0), .d (dI 0), .d (dI 0), .d (dI 0), .d (dI 0), .d (dI 0), .d (dB false), .d (dI 0), .d (dI 0), .d (dI 0), .d (dI 0), .d (dI 0), .d (dI 0), .d (.v (.string ⟨#[]⟩)), .d (.v (.slice none 0 0)), .d (.v (.slice none 0 0))]),(7402, .tree 78 2 [] ((m.cells.take k).map Lz))]) (fun k=>m.cells.length - k) (0) (⟨Nat.zero_le _,Nat.zero_le _⟩) ?_ ?_ ?_
 exact fz ⟨sr,sr,sr,sr,trivial⟩
 exact gz ⟨R,R,R,trivial⟩
 intro k hk0
 obtain ⟨hk,hk4⟩:=hk0
 refine zs<|zr<|zm R R<|zm R R<|XL.len R R R Tryz.underlying28 fun hl12=>zp (Au R R R)<|zm R R<|?_
 refine XL.dec 14 R (fun g14=> ?_) (fun g14=> ?_)
 refine zm R R<|zp (Au R R R)<|zq R R R<|zn<|?_
 refine zd R (fun c17=> ?_) (fun c17=> ?_)
 have hkl:k<m.cells.length:=by omega
 obtain ⟨x,hx⟩:=Ar hkl
 have hr:=h x (List.mem_of_getElem? hx)
 have htl:(m.cells.take k).length=k:=by rw [List.length_take];omega
 refine zi<|zs<|Ah<|zr<|XL.step R (Aq 5 (l:= [.d (.v (.slice none 0 0)), .d (.v (.slice none 0 0))]) R Fe (by kernel_rfl))<|zn<|zs<|Cq 15 [] (by kernel_rfl) (by kernel_rfl) (by kernel_rfl) (by kernel_rfl) (by decide)<|yp (Aa R R Ea)<|yp (Ab R R Iz R R)<|ym R R<|ym R R<|yp (Ao R R R Em (hx))<|yp (Gz R R Ea)<|?_
 refine yp (Bg R R Iz)<|ym R R<|ym R R<|yp (Ao R R R Em (hx))<|yp (Gz R R Ea)<|yp (Bg R R Iz)<|yp (M7 R R Tryz.underlying75)<|yp (F4 R R R)<|yp (Lk R R R Lc)<|?_
 refine ChK.nil ⟨by kernel_rfl, ?_⟩
 refine XL.step R (A5 R Aai (.nil 7301 _ _) (Src.sl (by omega)) (by unfold maxLen;simp;omega) (by simp;omega))<|XL.rowq (i:=7301) (l':=(x.clefs.take 8).map Cf.c) R (R)<|zp (Aa R R Ea)<|XL.step R (Af (l':= [.own 7301, .d (.v (.slice none 0 0))]) R R R R Xz R lb (by kernel_rfl))<|zn<|zs<|zr<|za R R<|zn<|Ah<|?_
 refine E7 7302 5 1 82 2 (l':= [.own 7301, .own 7302]) R R (by decide) (by kernel_rfl)<|Uf (i:=7302) (l':= []) R R<|?_
 refine Az (α:=Nat) (fun j=>j≤x.voices.length∧j≤3) (fun j=>mkF [(1, .ptr 1 0 0),(2, .ptr 2 0 0),(3, .d (.sl 2 (m.cells.map Ce.c))),(4, .d (dI k)),(5, .ptr 5 0 0),(6, .d (dI j))]) (fun j=>mkH [(1, .box [.d (dI m.h.site), .d (dI m.h.num), .d (dI m.h.m.count), .d (dI m.h.m.unit), .d (dI m.h.m.g0), .d (dI m.h.m.g1), .d (dI m.h.m.g2), .d (dI m.h.m.g3), .d (dI m.h.m.g4), .d (dI m.h.m.g5), .d (dI m.h.len), .d (dI m.h.fifths), .d (dB m.h.start), .d (dI m.h.fin), .d (dI m.h.ends), .d (dI m.h.jump), .d (dI m.h.labels), .d (dI m.h.swing), .d (dI m.h.brk), .d (.v (.string ⟨m.h.reh.toArray⟩)), .d (.sl 3 (m.tempi.map Tm.c)), .own 7402]),(2, .box [.d (dI 0), .d (dI 0), .d (dI 0), .d (dI 0), .d (dI 0), .d (dI 0), .d (dI 0), .d (dI 0), .d (dI 0), .d (dI 0), .d (dI 0), .d (dI 0), .d (dB false), .d (dI 0), .d (dI 0), .d (dI 0), .d (dI 0), .d (dI 0), .d (dI 0), .d (.v (.string ⟨#[]⟩)), .d (.v (.slice none 0 0)), .d (.v (.slice none 0 0))]),(5, .box [.own 7301, .own 7302]),(7301, .row 84 2 ((x.clefs.take 8).map Cf.c)),(7302, .tree 82 2 [] ((x.voices.take j).map My)),(7402, .tree 78 2 [] ((m.cells.take k).map Lz))]) (fun j=>x.voices.length - j) (0) (⟨Nat.zero_le _,Nat.zero_le _⟩) ?_ ?_ ?_
 exact fz ⟨sr,sr,sr,sr,sr,sr,trivial⟩
 exact gz ⟨R,R,R,R,R,R,trivial⟩
 intro j hk2
 obtain ⟨hj,hj3⟩:=hk2
 refine zs<|zr<|zm R R<|zm R R<|zm R R<|zp (Ao R R R Em (hx))<|zp (Gz R R Cm)<|zp (Bg R R Eg)<|XL.len R R R Tryz.underlying76 fun hl43=>zp (Au R R R)<|zm R R<|?_
 refine XL.dec 45 R (fun g45=> ?_) (fun g45=> ?_)
 refine zm R R<|zp (Au R R R)<|zq R R R<|zn<|?_
 refine zd R (fun c48=> ?_) (fun c48=> ?_)
 have hjl:j<x.voices.length:=by omega
 obtain ⟨y,hy⟩:=Ar hjl
 have hq:=hr y (List.mem_of_getElem? hy)
 have hul:(x.voices.take j).length=j:=by rw [List.length_take];omega
 refine zi<|zs<|Ah<|Cq 12 [7201,7202,62] (by kernel_rfl) (by kernel_rfl) (by kernel_rfl) (by kernel_rfl) (by decide)<|yp (Aa R R Cm)<|yp (Ab R R Eg R R)<|ym R R<|ym R R<|yp (Ao R R R Em (hx))<|yp (Gz R R Cm)<|yp (Bg R R Eg)<|ym R R<|yp (Ao R R R Ic (hy))<|?_
 refine yp (Ae (s':= .d (.agg (Vo.c y))) (Ay R R Ax lb) (by kernel_rfl))<|ChK.cons R (CStep.callS R (Xs _ (by assumption)) R (Nd (by kernel_rfl)))<|ChK.cons R (CStep.slice1 62 (cs:= [.own 7201, .own 7202]) R Tryz.underlying76 Bu Bf R R (by decide) (by decide) R)<|?_
 refine ChK.nil ⟨by kernel_rfl, ?_⟩
 refine XL.step R (Hb [7201,7202] (lr:=((x.voices.take (j+1)).map My).set j [.own 7201, .own 7202]) R Akx (.own R) (SrcT.ownS R) (by unfold maxLen;simp;omega) (by simp;omega) (O3 hy _) (Cv (Mn [] _) (Ee (R) (R)) _) R)<|?_
 refine XL.closeR (i:=7302) (j:=7201) (k:=j) (m:=0) (l':=((x.voices.take (j+1)).map My).set j [.row 59 13 ((((Jm y).evs).map Ev.c).map (·.map T.d)), .own 7202]) [7202] R R R (B1 (D7 hy)) R (List.set_set ..) (Cv (Mn [] _) (Ee (Fh (T.inLL_d _ _)) (R)) _) R<|?_
 refine XL.closeR (i:=7302) (j:=7202) (k:=j) (m:=1) (l':=((x.voices.take (j+1)).map My).set j [.row 59 13 ((((Jm y).evs).map Ev.c).map (·.map T.d)), .row 157 4 ((((Jm y).tups).map Tp.c).map (·.map T.d))]) [] R R R (B1 (D7 hy)) R (List.set_set ..) (Cv (Mn [] _) (Ee (Fh (T.inLL_d _ _)) (Fh (T.inLL_d _ _))) _) R<|?_
 refine XL.rowqT (i:=7302) (l':=(x.voices.take (j+1)).map My) [] R (set_same (D7 hy)) (Mn [] _)<|zp (Aa R R Cm)<|XL.step R (Af (l':= [.own 7301, .own 7302]) R R R R An8 R lb (by kernel_rfl))<|zn<|Ag (by kernel_rfl)<|zm R R<|zp (Al R R R (by omega) (by omega))<|za R R<|zn<|?_
 exact Am (j+1) (⟨by omega,by omega⟩) (by omega) (fz ⟨sr,sr,sr,sr,sr,sr,trivial⟩) (gz ⟨rfl,rfl,rfl,rfl,rfl,rfl,trivial⟩)
 refine At<|Ag (by kernel_rfl)<|zp (Aa R R Bm)<|zp (Ab R R Df R R)<|zp (Ac (Ad R R F2 R lb))<|XL.step R (Wd 68 (cs:= [.own 7301, .own 7302]) R Tryz.underlying28 Jf Fe R R (by decide) (by decide))<|?_
 refine XL.step R (Hb [7301,7302] (lr:=((m.cells.take (k+1)).map Lz).set k [.own 7301, .own 7302]) R Aaj (.own R) (SrcT.ownS R) (by unfold maxLen;simp;omega) (by simp;omega) (O3 hx _) (Cv (J0 [] _) (Ee (R) (R)) _) R)<|?_
 have hvt:(x.voices.take j).map My=(Mz x).voices.map Vo.t:=by rw [Ky (l:=x.voices) hj3 (by omega),Yx];rfl
 refine XL.closeR (i:=7402) (j:=7301) (k:=k) (m:=0) (l':=((m.cells.take (k+1)).map Lz).set k [.row 84 2 (((x.clefs.take 8).map Cf.c).map (·.map T.d)), .own 7302]) [7302] R R R (B1 (D7 hx)) R (List.set_set ..) (Cv (J0 [] _) (Ee (Fh (T.inLL_d _ _)) (R)) _) R<|?_
 refine XL.closeT (i:=7402) (j:=7302) (k:=k) (m:=1) (l':=((m.cells.take (k+1)).map Lz).set k [.row 84 2 (((x.clefs.take 8).map Cf.c).map (·.map T.d)), .row 82 2 ((x.voices.take j).map My)]) [] R R R (B1 (D7 hx)) R (List.set_set ..) (Cv (J0 [] _) (Ee (Fh (T.inLL_d _ _)) (Fh (T.nil_in (Mn [] _) _))) _) R<|?_
 refine XL.rowqT (i:=7402) (l':=(m.cells.take (k+1)).map Lz) [] R (by rw [hvt];exact set_same (D7 hx)) (J0 [] _)<|zp (Aa R R Bm)<|?_
 refine XL.step R (Af (l':= [.d (dI m.h.site), .d (dI m.h.num), .d (dI m.h.m.count), .d (dI m.h.m.unit), .d (dI m.h.m.g0), .d (dI m.h.m.g1), .d (dI m.h.m.g2), .d (dI m.h.m.g3), .d (dI m.h.m.g4), .d (dI m.h.m.g5), .d (dI m.h.len), .d (dI m.h.fifths), .d (dB m.h.start), .d (dI m.h.fin), .d (dI m.h.ends), .d (dI m.h.jump), .d (dI m.h.labels), .d (dI m.h.swing), .d (dI m.h.brk), .d (.v (.string ⟨m.h.reh.toArray⟩)), .d (.sl 3 (m.tempi.map Tm.c)), .own 7402]) R R R R Um R lb (by kernel_rfl))<|?_
 refine zn<|Ag (by kernel_rfl)<|zm R R<|zp (Al R R R (by omega) (by omega))<|za R R<|zn<|?_
 exact Am (k+1) (⟨by omega,by omega⟩) (by omega) (fz ⟨sr,sr,sr,sr,trivial⟩) (gz ⟨rfl,rfl,rfl,trivial⟩)
 refine zk 2 R<|zq R R R<|zn<|A8 (by kernel_rfl) R<|At<|Ag (by kernel_rfl)<|zp (Aa R R Bm)<|zp (Ab R R Df R R)<|zp (Ac (Ad R R F2 R lb))<|XL.step R (Wd 68 (cs:= [.own 7301, .own 7302]) R Tryz.underlying28 Jf Fe R R (by decide) (by decide))<|?_
 refine XL.step R (Hb [7301,7302] (lr:=((m.cells.take (k+1)).map Lz).set k [.own 7301, .own 7302]) R Aaj (.own R) (SrcT.ownS R) (by unfold maxLen;simp;omega) (by simp;omega) (O3 hx _) (Cv (J0 [] _) (Ee (R) (R)) _) R)<|?_
 have hvt:(x.voices.take j).map My=(Mz x).voices.map Vo.t:=by rw [Ky (l:=x.voices) hj3 (by omega),Yx];rfl
 refine XL.closeR (i:=7402) (j:=7301) (k:=k) (m:=0) (l':=((m.cells.take (k+1)).map Lz).set k [.row 84 2 (((x.clefs.take 8).map Cf.c).map (·.map T.d)), .own 7302]) [7302] R R R (B1 (D7 hx)) R (List.set_set ..) (Cv (J0 [] _) (Ee (Fh (T.inLL_d _ _)) (R)) _) R<|?_
 refine XL.closeT (i:=7402) (j:=7302) (k:=k) (m:=1) (l':=((m.cells.take (k+1)).map Lz).set k [.row 84 2 (((x.clefs.take 8).map Cf.c).map (·.map T.d)), .row 82 2 ((x.voices.take j).map My)]) [] R R R (B1 (D7 hx)) R (List.set_set ..) (Cv (J0 [] _) (Ee (Fh (T.inLL_d _ _)) (Fh (T.nil_in (Mn [] _) _))) _) R<|?_
 refine XL.rowqT (i:=7402) (l':=(m.cells.take (k+1)).map Lz) [] R (by rw [hvt];exact set_same (D7 hx)) (J0 [] _)<|zp (Aa R R Bm)<|?_
 refine XL.step R (Af (l':= [.d (dI m.h.site), .d (dI m.h.num), .d (dI m.h.m.count), .d (dI m.h.m.unit), .d (dI m.h.m.g0), .d (dI m.h.m.g1), .d (dI m.h.m.g2), .d (dI m.h.m.g3), .d (dI m.h.m.g4), .d (dI m.h.m.g5), .d (dI m.h.len), .d (dI m.h.fifths), .d (dB m.h.start), .d (dI m.h.fin), .d (dI m.h.ends), .d (dI m.h.jump), .d (dI m.h.labels), .d (dI m.h.swing), .d (dI m.h.brk), .d (.v (.string ⟨m.h.reh.toArray⟩)), .d (.sl 3 (m.tempi.map Tm.c)), .own 7402]) R R R R Um R lb (by kernel_rfl))<|?_
 refine zn<|Ag (by kernel_rfl)<|zm R R<|zp (Al R R R (by omega) (by omega))<|za R R<|zn<|?_
 exact Am (k+1) (⟨by omega,by omega⟩) (by omega) (fz ⟨sr,sr,sr,sr,trivial⟩) (gz ⟨rfl,rfl,rfl,trivial⟩)
 refine At<|zr<|XL.step R (Br 7401 R Tryz.underlying27 Qa Mr R R (by omega) (by omega))<|zp (Aa R R C8)<|zp (Ab R R Ht R R)<|zp (Aa R R C8)<|zp (Ab R R Ht R R)<|XL.len R R R Tryz.underlying27 fun hl76=>zp (F4 R R R)<|zp (Lk R R R Kq)<|?_
 refine XL.step R (A5 R Aak (.own R) (Src.sl (by omega)) (by unfold maxLen;simp;omega) (by simp;omega))<|zp (Aa R R C8)<|?_
 refine XL.step R (Af (l':= [.d (dI m.h.site), .d (dI m.h.num), .d (dI m.h.m.count), .d (dI m.h.m.unit), .d (dI m.h.m.g0), .d (dI m.h.m.g1), .d (dI m.h.m.g2), .d (dI m.h.m.g3), .d (dI m.h.m.g4), .d (dI m.h.m.g5), .d (dI m.h.len), .d (dI m.h.fifths), .d (dB m.h.start), .d (dI m.h.fin), .d (dI m.h.ends), .d (dI m.h.jump), .d (dI m.h.labels), .d (dI m.h.swing), .d (dI m.h.brk), .d (.v (.string ⟨m.h.reh.toArray⟩)), .own 7401, .own 7402]) R R R R Un R lb (by kernel_rfl))<|?_
 refine znr<|zp (Aa R R Gu)<|zp (Ab R R H9 R R)<|zp (Aa R R Gu)<|zp (Ab R R H9 R R)<|zp (Lm R R Tryz.underlying9)<|zp (F4 R R R)<|zp (Vm R R R Tryz.underlying9)<|zp (Aa R R Gu)<|?_
 refine XL.step R (Af (l':= [.d (dI m.h.site), .d (dI m.h.num), .d (dI m.h.m.count), .d (dI m.h.m.unit), .d (dI m.h.m.g0), .d (dI m.h.m.g1), .d (dI m.h.m.g2), .d (dI m.h.m.g3), .d (dI m.h.m.g4), .d (dI m.h.m.g5), .d (dI m.h.len), .d (dI m.h.fifths), .d (dB m.h.start), .d (dI m.h.fin), .d (dI m.h.ends), .d (dI m.h.jump), .d (dI m.h.labels), .d (dI m.h.swing), .d (dI m.h.brk), .d (.v (.string ⟨(m.h.reh.take 30).toArray⟩)), .own 7401, .own 7402]) R R R R Alv R lb (by kernel_rfl))<|?_
 refine znr<|zp (Ac (Ad R R Bj R lb))<|?_
 refine XL.step R (Af (l':= [.d (dI m.h.site), .d (dI m.h.num), .d (dI m.h.m.count), .d (dI m.h.m.unit), .d (dI m.h.m.g0), .d (dI m.h.m.g1), .d (dI m.h.m.g2), .d (dI m.h.m.g3), .d (dI m.h.m.g4), .d (dI m.h.m.g5), .d (dI m.h.len), .d (dI m.h.fifths), .d (dB m.h.start), .d (dI m.h.fin), .d (dI m.h.ends), .d (dI m.h.jump), .d (dI m.h.labels), .d (dI m.h.swing), .d (dI m.h.brk), .d (.v (.string ⟨(m.h.reh.take 30).toArray⟩)), .own 7401, .own 7402]) R R R R E9 R lb (by kernel_rfl))<|?_
 refine zn<|zt<|?_
 exact ⟨Cs R (RVS.eq (RVS.cells (i:=2) R R R Bj lb) R),HSub.cons (R) (HSub.cons (by rw [Ky (l:=m.cells) hk4 (by omega),Yy];rfl) (HSub.nil))⟩
 refine zk 2 R<|zq R R R<|zn<|A8 (by kernel_rfl) R<|At<|zr<|XL.step R (Br 7401 R Tryz.underlying27 Qa Mr R R (by omega) (by omega))<|zp (Aa R R C8)<|zp (Ab R R Ht R R)<|zp (Aa R R C8)<|zp (Ab R R Ht R R)<|XL.len R R R Tryz.underlying27 fun hl76=>zp (F4 R R R)<|zp (Lk R R R Kq)<|?_
 refine XL.step R (A5 R Aak (.own R) (Src.sl (by omega)) (by unfold maxLen;simp;omega) (by simp;omega))<|zp (Aa R R C8)<|?_
 refine XL.step R (Af (l':= [.d (dI m.h.site), .d (dI m.h.num), .d (dI m.h.m.count), .d (dI m.h.m.unit), .d (dI m.h.m.g0), .d (dI m.h.m.g1), .d (dI m.h.m.g2), .d (dI m.h.m.g3), .d (dI m.h.m.g4), .d (dI m.h.m.g5), .d (dI m.h.len), .d (dI m.h.fifths), .d (dB m.h.start), .d (dI m.h.fin), .d (dI m.h.ends), .d (dI m.h.jump), .d (dI m.h.labels), .d (dI m.h.swing), .d (dI m.h.brk), .d (.v (.string ⟨m.h.reh.toArray⟩)), .own 7401, .own 7402]) R R R R Un R lb (by kernel_rfl))<|?_
 refine znr<|zp (Aa R R Gu)<|zp (Ab R R H9 R R)<|zp (Aa R R Gu)<|zp (Ab R R H9 R R)<|zp (Lm R R Tryz.underlying9)<|zp (F4 R R R)<|zp (Vm R R R Tryz.underlying9)<|zp (Aa R R Gu)<|?_
 refine XL.step R (Af (l':= [.d (dI m.h.site), .d (dI m.h.num), .d (dI m.h.m.count), .d (dI m.h.m.unit), .d (dI m.h.m.g0), .d (dI m.h.m.g1), .d (dI m.h.m.g2), .d (dI m.h.m.g3), .d (dI m.h.m.g4), .d (dI m.h.m.g5), .d (dI m.h.len), .d (dI m.h.fifths), .d (dB m.h.start), .d (dI m.h.fin), .d (dI m.h.ends), .d (dI m.h.jump), .d (dI m.h.labels), .d (dI m.h.swing), .d (dI m.h.brk), .d (.v (.string ⟨(m.h.reh.take 30).toArray⟩)), .own 7401, .own 7402]) R R R R Alv R lb (by kernel_rfl))<|?_
 refine znr<|zp (Ac (Ad R R Bj R lb))<|?_
 refine XL.step R (Af (l':= [.d (dI m.h.site), .d (dI m.h.num), .d (dI m.h.m.count), .d (dI m.h.m.unit), .d (dI m.h.m.g0), .d (dI m.h.m.g1), .d (dI m.h.m.g2), .d (dI m.h.m.g3), .d (dI m.h.m.g4), .d (dI m.h.m.g5), .d (dI m.h.len), .d (dI m.h.fifths), .d (dB m.h.start), .d (dI m.h.fin), .d (dI m.h.ends), .d (dI m.h.jump), .d (dI m.h.labels), .d (dI m.h.swing), .d (dI m.h.brk), .d (.v (.string ⟨(m.h.reh.take 30).toArray⟩)), .own 7401, .own 7402]) R R R R E9 R lb (by kernel_rfl))<|?_
 refine zn<|zt<|?_
 exact ⟨Cs R (RVS.eq (RVS.cells (i:=2) R R R Bj lb) R),HSub.cons (R) (HSub.cons (by rw [Ky (l:=m.cells) hk4 (by omega),Yy];rfl) (HSub.nil))⟩
theorem XS.xc2 {P:Program} {F:FuncId} {ds:List D} {s:S} {i j:Nat} {e e2:TypeId} {sz sz2:Nat} {l l2:List (List D)} {t:List (List T)} {d:D} (hx:XS P F ds s [(i, .row e sz l),(j, .tree e2 sz2 [] t)]) (hj:((mkH [(i, .row e sz l),(j, .tree e2 sz2 [] t)]).frz i (.sl sz l)) j=some (.tree e2 sz2 [] t)) (hf:T.fzLL t=true) (ht:T.toDLL t=l2)
  (hd:norm ((s.frz i (.sl sz l)).frz j (.sl sz2 l2))= .d d):XC P F ds (fun r=>r=d):=
 ⟨hx.callable, fun H w vs h1 h2 h3 => (hx.calls H w vs h1 h2 h3).mono fun e w' ⟨H', β, u, he, k1, k2, k3⟩ => by
  obtain ⟨H2,q1,q2,q3⟩:=k1.freeze (i:=i) (by simp only [mkH];exact Xh.set_same _ _ _)
  obtain ⟨H3,p1,p2,p3⟩:=q3.freezeT (i:=j) hj hf
  rw [ht] at p2
  have hv:=VS.norm (((k2.mono (q1.trans p1) fun _ _ h=>h).frz i _ (fun L hL=>(q2 L hL).mono p1)).frz j _ p2)
  rw [hd] at hv
  exact ⟨H3, u, d, he, rfl, p3.ext, fun b o u e => p3.new b o u e, p3.imm, p3.below, D5 hv⟩⟩
theorem Yv (m:Ms) (h:m.room):XC Tryz.prog 14 [.agg (Ms.c m)] (fun r=>r= .agg (Ms.c (Aj m))):=(Yu m h).xc2 rfl (Ces.t_fz _) (Ces.t_D _) rfl
end Go.Proofs.YtaafemnkamfgnaaGreat
namespace Go.Proofs.YtaafemnkamfgnaaGreat
open Go.RowKit
structure DelG {α:Type} (p:α→Bool) (xs:List α) (j i:Nat) (W:List α):Prop where
 lt:i<j
 le:j≤xs.length
 len:W.length=xs.length
 take:W.take i=(xs.take j).filter p
 drop:W.drop j=xs.drop j
section
variable {α:Type} {p:α→Bool} {xs W:List α} {j i:Nat}
theorem Af3 {l:List α} {k:Nat} {g:α} (h:l[k]? =some g) (hg:p g=false):(l.take (k+1)).filter p=(l.take k).filter p:=by rw [B3 h,List.filter_append,List.filter_cons_of_neg (by rw [hg];exact Bool.false_ne_true),List.filter_nil,List.append_nil]
theorem T9 {l:List α} {k:Nat} {g:α} (h:l[k]? =some g) (hg:p g=true):(l.take (k+1)).filter p=(l.take k).filter p++ [g]:=by rw [B3 h,List.filter_append,List.filter_cons_of_pos hg,List.filter_nil]
theorem DelG.get (h:DelG p xs j i W) {g:α} (hg:xs[j]? =some g):W[j]? =some g:=by
 have:=congrArg (fun l=>l[0]?) h.drop
 simpa [List.getElem?_drop,hg] using this
theorem DelG.keep (h:DelG p xs j i W) {g:α} (hg:xs[j]? =some g) (h0:p g=false):DelG p xs (j+1) i W:=by
 have:=(List.getElem?_eq_some_iff.1 hg).1
 have:=h.lt
 refine ⟨by omega,by omega,h.len,by rw [Af3 hg h0];exact h.take, ?_⟩
 rw [←List.drop_drop,h.drop,List.drop_drop]
theorem DelG.put (h:DelG p xs j i W) {g:α} (hg:xs[j]? =some g) (h0:p g=true):DelG p xs (j+1) (i+1) (W.set i g):=by
 have h1:=(List.getElem?_eq_some_iff.1 hg).1
 have h2:=h.lt
 have h3:=h.len
 refine ⟨by omega,by omega,by rw [List.length_set];exact h3, ?_, ?_⟩
 ·rw [T9 hg h0, ←h.take,List.take_succ_eq_append_getElem (by rw [List.length_set];omega),List.getElem_set_self,List.take_set_of_le (Nat.le_refl _)]
 ·rw [List.drop_set_of_lt (by omega), ←List.drop_drop,h.drop,List.drop_drop]
theorem DelG.start {k:Nat} {g:α} (hg:xs[k]? =some g) (h0:p g=false) (hk:(xs.take k).filter p=xs.take k):DelG p xs (k+1) k xs:=
 ⟨by omega,by have:=(List.getElem?_eq_some_iff.1 hg).1;omega,rfl,by rw [Af3 hg h0,hk],rfl⟩
theorem DelG.fin (h:DelG p xs j i W) (hj:j=xs.length):W.take i=xs.filter p:=by rw [h.take,hj,List.take_length]
theorem DelG.clr (h:DelG p xs j i W) {g:α→List D} {z:α} {zs:List D} (hz:zs=g z):sets (W.map g) i (List.replicate ((W.map g).length - i) zs)=(W.take i++List.replicate (W.length - i) z).map g:=by
 have:=h.lt;have:=h.le;have:=h.len
 subst hz
 rw [J1 _ _ _ (by rw [List.length_replicate,List.length_map];omega),List.drop_eq_nil_of_le (by rw [List.length_replicate,List.length_map];omega),List.append_nil,List.map_append,List.map_take,List.map_replicate,List.length_map]
theorem DelG.cut (h:DelG p xs j i W) {g:α→List D} {z:α}:(((W.take i++List.replicate (W.length - i) z).map g).take i)=(W.take i).map g:=by
 have:=h.lt;have:=h.le;have:=h.len
 rw [←List.map_take,List.take_append_of_le_length (by rw [List.length_take];omega),List.take_take,Nat.min_self]
end
def cfK (n:Int) (x:Cf):Bool:=decide (¬n≤x.tk)
def tmK (n:Int) (x:Tm):Bool:=decide (¬n≤x.tk)
theorem Alb {n:Int} {x:Cf} (h:n≤x.tk):cfK n x=false:=by rw [cfK,decide_eq_false];exact fun k=>k h
theorem Agf {n:Int} {x:Cf} (h:¬n≤x.tk):cfK n x=true:=by rw [cfK,decide_eq_true h]
theorem Ais {n:Int} {x:Tm} (h:n≤x.tk):tmK n x=false:=by rw [tmK,decide_eq_false];exact fun k=>k h
theorem Afd {n:Int} {x:Tm} (h:¬n≤x.tk):tmK n x=true:=by rw [tmK,decide_eq_true h]
def Cw (old p:Pl) (c:Ce):Ce:=⟨c.clefs.filter (cfK p.len),c.voices.map fun v=>(Ek v old p).1⟩
def I4 (old p:Pl):List Vo→Int
 | []=>0
 |v::l=>if (Ek v old p).2≠0 then (Ek v old p).2 else I4 old p l
def Kn (old p:Pl):List Ce→Int
 | []=>0
 |c::l=>if I4 old p c.voices≠0 then I4 old p c.voices else Kn old p l
theorem Ani {old p:Pl} {l:List Vo} {k:Nat} {v:Vo} (hv:l[k]? =some v) (h:(Ek v old p).2=0):I4 old p (l.drop k)=I4 old p (l.drop (k+1)):=by rw [B5 hv,I4,if_neg (by omega)]
theorem Aaa {old p:Pl} {l:List Vo} {k:Nat} {v:Vo} (hv:l[k]? =some v) (h:(Ek v old p).2≠0):I4 old p (l.drop k)=(Ek v old p).2:=by rw [B5 hv,I4,if_pos h]
theorem Aab {old p:Pl} {l:List Ce} {k:Nat} {c:Ce} (hc:l[k]? =some c) (h:I4 old p c.voices=0):Kn old p (l.drop k)=Kn old p (l.drop (k+1)):=by rw [B5 hc,Kn,if_neg (by omega)]
theorem Anj {old p:Pl} {l:List Ce} {k:Nat} {c:Ce} (hc:l[k]? =some c) (h:I4 old p c.voices≠0):Kn old p (l.drop k)=I4 old p c.voices:=by rw [B5 hc,Kn,if_pos h]
def Mh.z:Mh:=⟨0,0,Me.z,0,0,false,0,0,0,0,0,0, []⟩
def Ms.z:Ms:=⟨Mh.z, [], []⟩
def Ahu (m:Ms) (t:Me) (n:Int) (old p:Pl):Ms:=⟨m.h.sh t n,m.tempi.filter (tmK p.len),m.cells.map (Cw old p)⟩
def Jt (m:Ms) (t:Me) (n:Int):Int:=if mlE m.h.m m.h.len≠0 then mlE m.h.m m.h.len else if mlE t n≠0 then mlE t n else Kn (plS m.h.m m.h.len) (plS t n) m.cells
def Nk (m:Ms) (t:Me) (n:Int):Ms:=if Jt m t n≠0 then Ms.z else Ahu m t n (plS m.h.m m.h.len) (plS t n)
theorem Au6 {m:Ms} {t:Me} {n:Int} (h:mlE m.h.m m.h.len≠0):Jt m t n=mlE m.h.m m.h.len∧Nk m t n=Ms.z:=by
 have e:Jt m t n=mlE m.h.m m.h.len:=by rw [Jt,if_pos h]
 exact ⟨e,by rw [Nk,e,if_pos h]⟩
theorem Asw {m:Ms} {t:Me} {n:Int} (h:¬mlE m.h.m m.h.len≠0) (h2:mlE t n≠0):Jt m t n=mlE t n∧Nk m t n=Ms.z:=by
 have e:Jt m t n=mlE t n:=by rw [Jt,if_neg h,if_pos h2]
 exact ⟨e,by rw [Nk,e,if_pos h2]⟩
theorem Au5 {m:Ms} {t:Me} {n e:Int} (h:¬mlE m.h.m m.h.len≠0) (h2:¬mlE t n≠0) (h3:Kn (plS m.h.m m.h.len) (plS t n) m.cells=e) (h4:e≠0):Jt m t n=e∧Nk m t n=Ms.z:=by
 have e:Jt m t n=e:=by rw [Jt,if_neg h,if_neg h2,h3]
 exact ⟨e,by rw [Nk,e,if_pos h4]⟩
theorem Asv {m:Ms} {t:Me} {n:Int} (h:¬mlE m.h.m m.h.len≠0) (h2:¬mlE t n≠0) (h3:Kn (plS m.h.m m.h.len) (plS t n) m.cells=0):Jt m t n=0∧Nk m t n=Ahu m t n (plS m.h.m m.h.len) (plS t n):=by
 have e:Jt m t n=0:=by rw [Jt,if_neg h,if_neg h2,h3]
 exact ⟨e,by rw [Nk,e,if_neg (by decide)]⟩
theorem Vv {m m':Ms} {e e':Int} (h:e=e'∧m=m'):D.tup [.agg (Ms.c m'),dI e']= .tup [.agg (Ms.c m),dI e]:=by rw [h.1,h.2]
theorem Anc (h:Mh) (t:Me) (n:Int) (A B:Option Addr) (n0 c0 n1 c1:Nat):XC Tryz.prog 16 [.agg [dI (h.sh t n).site,dI (h.sh t n).num,dI (h.sh t n).m.count,dI (h.sh t n).m.unit,dI (h.sh t n).m.g0,dI (h.sh t n).m.g1,dI (h.sh t n).m.g2,dI (h.sh t n).m.g3,dI (h.sh t n).m.g4,dI (h.sh t n).m.g5,dI (h.sh t n).len,dI (h.sh t n).fifths,dB (h.sh t n).start,dI (h.sh t n).fin,dI (h.sh t n).ends,dI (h.sh t n).jump,dI (h.sh t n).labels,dI (h.sh t n).swing,dI (h.sh t n).brk, .v (.string ⟨(h.sh t n).reh.toArray⟩), .v (.slice A n0 c0), .v (.slice B n1 c1)]] (fun r=>r= .tup [.agg (Pl.c (plS t n)),dI (mlE t n)]):=by
 have k:=Amu (h.sh t n) A B n0 c0 n1 c1
 have e1:plS (h.sh t n).m (h.sh t n).len=plS t n:=Arz
 have e2:mlE (h.sh t n).m (h.sh t n).len=mlE t n:=Uz
 rw [e1,e2] at k
 exact k
theorem Aje {t:Me} {n:Int} (h:¬mlE t n≠0):1≤(plS t n).len∧(plS t n).len≤15482880∧0≤(plS t n).off∧(plS t n).off≤123863040:=by
 have k:=Amq h
 have hl:=k.me.len
 rw [Ama h]
 exact ⟨k.lo,k.hi,by simp only;omega,by simp only;have:=k.lo;omega⟩
end Go.Proofs.YtaafemnkamfgnaaGreat
namespace Go.Proofs.YtaafemnkamfgnaaGreat
open Go.RowKit
theorem Ap4 (m:Ms) (t:Me) (n:Int) (hF:m.fit) (hE:m.evs):XC Tryz.prog 28 [.agg (Ms.c m), .agg (Me.c t), .v (.int .i64 n)] (fun r=>r= .tup [.agg (Ms.c (Nk m t n)),dI (Jt m t n)]):=by
 refine An Ae0 Tryz.func28 R R lb<|zr<|?_
 refine XL.step R (Ap 3 (l:= [.d (dI m.h.site), .d (dI m.h.num), .d (dI m.h.m.count), .d (dI m.h.m.unit), .d (dI m.h.m.g0), .d (dI m.h.m.g1), .d (dI m.h.m.g2), .d (dI m.h.m.g3), .d (dI m.h.m.g4), .d (dI m.h.m.g5), .d (dI m.h.len), .d (dI m.h.fifths), .d (dB m.h.start), .d (dI m.h.fin), .d (dI m.h.ends), .d (dI m.h.jump), .d (dI m.h.labels), .d (dI m.h.swing), .d (dI m.h.brk), .d (.v (.string ⟨m.h.reh.toArray⟩)), .d (.sl 3 (m.tempi.map Tm.c)), .d (.sl 2 (m.cells.map Ce.c))]) R R (by kernel_rfl))<|?_
 refine XL.step R (Ap 4 (l:= [.d (dI t.count), .d (dI t.unit), .d (dI t.g0), .d (dI t.g1), .d (dI t.g2), .d (dI t.g3), .d (dI t.g4), .d (dI t.g5)]) R R (by kernel_rfl))<|?_
 refine XL.step R (Aq 6 (l:= [.d (dI 0), .d (dI 0), .d (dI 0), .d (dI 0), .d (dI 0), .d (dI 0), .d (dI 0), .d (dI 0), .d (dI 0), .d (dI 0), .d (dI 0), .d (dI 0), .d (dB false), .d (dI 0), .d (dI 0), .d (dI 0), .d (dI 0), .d (dI 0), .d (dI 0), .d (.v (.string ⟨#[]⟩)), .d (.v (.slice none 0 0)), .d (.v (.slice none 0 0))]) R E6 (by kernel_rfl))<|za R R<|znr<|?_
 refine zp (Ae (s':= .d (.agg (Ms.c m))) (Ac (Ad R R Bj R lb)) (by kernel_rfl))<|XL.call1 R R (Amv m.h m.tempi m.cells) R<|zm R R<|zp (A0 R R R)<|zp (A0 R R R)<|XL.step R (Aq 8 (l:= [.d (dI 0), .d (dI 0), .d (dI 0), .d (dI 0), .d (dI 0), .d (dI 0), .d (dI 0), .d (dI 0), .d (dI 0), .d (dI 0)]) R H5 (by kernel_rfl))<|?_
 refine XL.step R (Af (l':= [.d (dI (plS m.h.m m.h.len).m.count), .d (dI (plS m.h.m m.h.len).m.unit), .d (dI (plS m.h.m m.h.len).m.g0), .d (dI (plS m.h.m m.h.len).m.g1), .d (dI (plS m.h.m m.h.len).m.g2), .d (dI (plS m.h.m m.h.len).m.g3), .d (dI (plS m.h.m m.h.len).m.g4), .d (dI (plS m.h.m m.h.len).m.g5), .d (dI (plS m.h.m m.h.len).off), .d (dI (plS m.h.m m.h.len).len)]) R R R R Nv R lb (by kernel_rfl))<|?_
 refine za R R<|zn<|zs<|zr<|zm R R<|zp (A1 R R R)<|zn<|?_
 refine zd R (fun c21=> ?_) (fun c21=> ?_)
 refine zr<|?_
 refine zp (Ae (s':= .d (.agg [dI 0,dI 0,dI 0,dI 0,dI 0,dI 0,dI 0,dI 0,dI 0,dI 0,dI 0,dI 0,dB false,dI 0,dI 0,dI 0,dI 0,dI 0,dI 0, .v (.string ⟨#[]⟩), .v (.slice none 0 0), .v (.slice none 0 0)])) (Ac (A4 (r:= [.d (dI 0), .d (dI 0), .d (dI 0), .d (dI 0), .d (dI 0), .d (dI 0), .d (dI 0), .d (dI 0), .d (dI 0), .d (dI 0), .d (dI 0), .d (dI 0), .d (dB false), .d (dI 0), .d (dI 0), .d (dI 0), .d (dI 0), .d (dI 0), .d (dI 0), .d (.v (.string ⟨#[]⟩)), .d (.v (.slice none 0 0)), .d (.v (.slice none 0 0))]) R Qc E6 (by kernel_rfl))) (by kernel_rfl))<|?_
 refine zm R R<|XL.step R (Af (l':= [.d (dI 0), .d (dI 0), .d (dI 0), .d (dI 0), .d (dI 0), .d (dI 0), .d (dI 0), .d (dI 0), .d (dI 0), .d (dI 0), .d (dI 0), .d (dI 0), .d (dB false), .d (dI 0), .d (dI 0), .d (dI 0), .d (dI 0), .d (dI 0), .d (dI 0), .d (.v (.string ⟨#[]⟩)), .d (.v (.slice none 0 0)), .d (.v (.slice none 0 0))]) R R R R E9 R lb (by kernel_rfl))<|za R R<|zn<|zt<|?_
 exact A6 R (RV.sub (RV.cells R R R Bj lb R) (.agg (.cons (.same R) (.cons (.same R) (.cons (.same R) (.cons (.same R) (.cons (.same R) (.cons (.same R) (.cons (.same R) (.cons (.same R) (.cons (.same R) (.cons (.same R) (.cons (.same R) (.cons (.same R) (.cons (.same R) (.cons (.same R) (.cons (.same R) (.cons (.same R) (.cons (.same R) (.cons (.same R) (.cons (.same R) (.cons (.same R) (.cons (.nil 3) (.cons (.nil 2) (.nil))))))))))))))))))))))))) (RV.tmp R R) (Vv (Au6 c21))
 refine zi<|zs<|?_
 refine Jl 9 10 [7401,7402,10] id 10 (Qq 10 (.box [.d (dI (m.h.sh t n).site), .d (dI (m.h.sh t n).num), .d (dI (m.h.sh t n).m.count), .d (dI (m.h.sh t n).m.unit), .d (dI (m.h.sh t n).m.g0), .d (dI (m.h.sh t n).m.g1), .d (dI (m.h.sh t n).m.g2), .d (dI (m.h.sh t n).m.g3), .d (dI (m.h.sh t n).m.g4), .d (dI (m.h.sh t n).m.g5), .d (dI (m.h.sh t n).len), .d (dI (m.h.sh t n).fifths), .d (dB (m.h.sh t n).start), .d (dI (m.h.sh t n).fin), .d (dI (m.h.sh t n).ends), .d (dI (m.h.sh t n).jump), .d (dI (m.h.sh t n).labels), .d (dI (m.h.sh t n).swing), .d (dI (m.h.sh t n).brk), .d (.v (.string ⟨(m.h.sh t n).reh.toArray⟩)), .own 7401, .own 7402])) (by kernel_rfl) (by kernel_rfl) (by kernel_rfl) (by kernel_rfl) R (by decide)<|?_
 refine ChMK.bf R (CStep.pure (Ae (s':= .d (.agg (Ms.c m))) (Ac (Ad R R Bj R lb)) (by kernel_rfl))) (by conv=>lhs;whnf)<|?_
 refine ChMK.bfS R (CStep.callS R (N3 _ (by assumption)) R (Nd (by kernel_rfl))) (by conv=>lhs;whnf) (by simp only [List.forall_mem_cons];exact ⟨rfl,⟨rfl,fun p hp=>(by cases hp)⟩⟩) (by simp only [List.forall_mem_cons];exact ⟨rfl,⟨rfl,fun p hp=>(by cases hp)⟩⟩)<|?_
 refine ChMK.bf R (CStep.pure (Ae (s':= .d (.agg (Me.c t))) (Ac (Ad R R Bn R lb)) (by kernel_rfl))) (by conv=>lhs;whnf)<|?_
 refine ChMK.bf R (CStep.pure (As R (by conv=>lhs;whnf))) (by conv=>lhs;whnf)<|?_
 refine ChMK.bf R (CStep.callP [7401,7402] R [.agg [.d (dI m.h.site), .d (dI m.h.num), .d (dI m.h.m.count), .d (dI m.h.m.unit), .d (dI m.h.m.g0), .d (dI m.h.m.g1), .d (dI m.h.m.g2), .d (dI m.h.m.g3), .d (dI m.h.m.g4), .d (dI m.h.m.g5), .d (dI m.h.len), .d (dI m.h.fifths), .d (dB m.h.start), .d (dI m.h.fin), .d (dI m.h.ends), .d (dI m.h.jump), .d (dI m.h.labels), .d (dI m.h.swing), .d (dI m.h.brk), .d (.v (.string ⟨m.h.reh.toArray⟩)), .own 7401, .own 7402], .d (.agg (Me.c t)), .d (dI n)] R (s:= .tup [.agg [.d (dI (m.h.sh t n).site), .d (dI (m.h.sh t n).num), .d (dI (m.h.sh t n).m.count), .d (dI (m.h.sh t n).m.unit), .d (dI (m.h.sh t n).m.g0), .d (dI (m.h.sh t n).m.g1), .d (dI (m.h.sh t n).m.g2), .d (dI (m.h.sh t n).m.g3), .d (dI (m.h.sh t n).m.g4), .d (dI (m.h.sh t n).m.g5), .d (dI (m.h.sh t n).len), .d (dI (m.h.sh t n).fifths), .d (dB (m.h.sh t n).start), .d (dI (m.h.sh t n).fin), .d (dI (m.h.sh t n).ends), .d (dI (m.h.sh t n).jump), .d (dI (m.h.sh t n).labels), .d (dI (m.h.sh t n).swing), .d (dI (m.h.sh t n).brk), .d (.v (.string ⟨(m.h.sh t n).reh.toArray⟩)), .own 7401, .own 7402], .d (dI (mlE t n))]) (fun ρ=>Al1 m.h _ _ _ _ _ _ t n) R R R R) (by conv=>lhs;whnf)<|?_
 refine ChMK.bf R (CStep.pure (As R (by conv=>lhs;whnf))) (by conv=>lhs;whnf)<|?_
 refine ChMK.bf R (CStep.pure (Ze R R R)) (by conv=>lhs;whnf)<|?_
 refine ChMK.fr R R (CStep.pure (Ze R R R)) (CStep.pure (Ze R R R)) (by exact rfl)<|?_
 refine ChMK.bfO R (CStep.allocN 10 (l:= [.d (dI 0), .d (dI 0), .d (dI 0), .d (dI 0), .d (dI 0), .d (dI 0), .d (dI 0), .d (dI 0), .d (dI 0), .d (dI 0), .d (dI 0), .d (dI 0), .d (dB false), .d (dI 0), .d (dI 0), .d (dI 0), .d (dI 0), .d (dI 0), .d (dI 0), .d (.v (.string ⟨#[]⟩)), .d (.v (.slice none 0 0)), .d (.v (.slice none 0 0))]) R E6 R R) (by conv=>lhs;whnf) (fun _ _=>Zp _ _)<|?_
 refine ChMK.mu R (Afv (l2:= [.d (dI (m.h.sh t n).site), .d (dI (m.h.sh t n).num), .d (dI (m.h.sh t n).m.count), .d (dI (m.h.sh t n).m.unit), .d (dI (m.h.sh t n).m.g0), .d (dI (m.h.sh t n).m.g1), .d (dI (m.h.sh t n).m.g2), .d (dI (m.h.sh t n).m.g3), .d (dI (m.h.sh t n).m.g4), .d (dI (m.h.sh t n).m.g5), .d (dI (m.h.sh t n).len), .d (dI (m.h.sh t n).fifths), .d (dB (m.h.sh t n).start), .d (dI (m.h.sh t n).fin), .d (dI (m.h.sh t n).ends), .d (dI (m.h.sh t n).jump), .d (dI (m.h.sh t n).labels), .d (dI (m.h.sh t n).swing), .d (dI (m.h.sh t n).brk), .d (.v (.string ⟨(m.h.sh t n).reh.toArray⟩)), .own 7401, .own 7402]) R R R R E9 R lb (by kernel_rfl))<|?_
 refine ChMK.nil ⟨⟨by kernel_rfl,by kernel_rfl,by kernel_rfl⟩, ?_⟩
 refine za R R<|zn<|zs<|zr<|zm R R<|zp (A1 R R R)<|zn<|?_
 refine zd R (fun c33=> ?_) (fun c33=> ?_)
 refine zr<|?_
 refine zp (Ae (s':= .d (.agg [dI 0,dI 0,dI 0,dI 0,dI 0,dI 0,dI 0,dI 0,dI 0,dI 0,dI 0,dI 0,dB false,dI 0,dI 0,dI 0,dI 0,dI 0,dI 0, .v (.string ⟨#[]⟩), .v (.slice none 0 0), .v (.slice none 0 0)])) (Ac (A4 (r:= [.d (dI 0), .d (dI 0), .d (dI 0), .d (dI 0), .d (dI 0), .d (dI 0), .d (dI 0), .d (dI 0), .d (dI 0), .d (dI 0), .d (dI 0), .d (dI 0), .d (dB false), .d (dI 0), .d (dI 0), .d (dI 0), .d (dI 0), .d (dI 0), .d (dI 0), .d (.v (.string ⟨#[]⟩)), .d (.v (.slice none 0 0)), .d (.v (.slice none 0 0))]) R Qc E6 (by kernel_rfl))) (by kernel_rfl))<|?_
 refine zm R R<|XL.step R (Af (l':= [.d (dI 0), .d (dI 0), .d (dI 0), .d (dI 0), .d (dI 0), .d (dI 0), .d (dI 0), .d (dI 0), .d (dI 0), .d (dI 0), .d (dI 0), .d (dI 0), .d (dB false), .d (dI 0), .d (dI 0), .d (dI 0), .d (dI 0), .d (dI 0), .d (dI 0), .d (.v (.string ⟨#[]⟩)), .d (.v (.slice none 0 0)), .d (.v (.slice none 0 0))]) R R R R E9 R lb (by kernel_rfl))<|za R R<|zn<|zt<|?_
 exact A6 R (RV.sub (RV.cells R R R Bj lb R) (.agg (.cons (.same R) (.cons (.same R) (.cons (.same R) (.cons (.same R) (.cons (.same R) (.cons (.same R) (.cons (.same R) (.cons (.same R) (.cons (.same R) (.cons (.same R) (.cons (.same R) (.cons (.same R) (.cons (.same R) (.cons (.same R) (.cons (.same R) (.cons (.same R) (.cons (.same R) (.cons (.same R) (.cons (.same R) (.cons (.same R) (.cons (.nil 3) (.cons (.nil 2) (.nil))))))))))))))))))))))))) (RV.tmp R R) (Vv (Asw c21 c33))
 refine zi<|zr<|zp (Ac (Ad R R Bj R lb))<|?_
 refine XL.callP [7401,7402] R R [.agg [.d (dI (m.h.sh t n).site), .d (dI (m.h.sh t n).num), .d (dI (m.h.sh t n).m.count), .d (dI (m.h.sh t n).m.unit), .d (dI (m.h.sh t n).m.g0), .d (dI (m.h.sh t n).m.g1), .d (dI (m.h.sh t n).m.g2), .d (dI (m.h.sh t n).m.g3), .d (dI (m.h.sh t n).m.g4), .d (dI (m.h.sh t n).m.g5), .d (dI (m.h.sh t n).len), .d (dI (m.h.sh t n).fifths), .d (dB (m.h.sh t n).start), .d (dI (m.h.sh t n).fin), .d (dI (m.h.sh t n).ends), .d (dI (m.h.sh t n).jump), .d (dI (m.h.sh t n).labels), .d (dI (m.h.sh t n).swing), .d (dI (m.h.sh t n).brk), .d (.v (.string ⟨(m.h.sh t n).reh.toArray⟩)), .own 7401, .own 7402]] R (s:= .d (.tup [.agg (Pl.c (plS t n)),dI (mlE t n)])) (fun ρ=>Anc m.h t n _ _ _ _ _ _) R R R R<|?_
 refine zm R R<|zp (A0 R R R)<|zp (A0 R R R)<|XL.step R (Aq 11 (l:= [.d (dI 0), .d (dI 0), .d (dI 0), .d (dI 0), .d (dI 0), .d (dI 0), .d (dI 0), .d (dI 0), .d (dI 0), .d (dI 0)]) R H5 (by kernel_rfl))<|?_
 refine XL.step R (Af (l':= [.d (dI (plS t n).m.count), .d (dI (plS t n).m.unit), .d (dI (plS t n).m.g0), .d (dI (plS t n).m.g1), .d (dI (plS t n).m.g2), .d (dI (plS t n).m.g3), .d (dI (plS t n).m.g4), .d (dI (plS t n).m.g5), .d (dI (plS t n).off), .d (dI (plS t n).len)]) R R R R Nv R lb (by kernel_rfl))<|za R R<|zn<|zs<|zr<|zm R R<|zp (A1 R R R)<|zn<|?_
 refine zd R (fun c42=> ?_) (fun c42=> ?_)
 refine zr<|?_
 refine zp (Ae (s':= .d (.agg [dI 0,dI 0,dI 0,dI 0,dI 0,dI 0,dI 0,dI 0,dI 0,dI 0,dI 0,dI 0,dB false,dI 0,dI 0,dI 0,dI 0,dI 0,dI 0, .v (.string ⟨#[]⟩), .v (.slice none 0 0), .v (.slice none 0 0)])) (Ac (A4 (r:= [.d (dI 0), .d (dI 0), .d (dI 0), .d (dI 0), .d (dI 0), .d (dI 0), .d (dI 0), .d (dI 0), .d (dI 0), .d (dI 0), .d (dI 0), .d (dI 0), .d (dB false), .d (dI 0), .d (dI 0), .d (dI 0), .d (dI 0), .d (dI 0), .d (dI 0), .d (.v (.string ⟨#[]⟩)), .d (.v (.slice none 0 0)), .d (.v (.slice none 0 0))]) R Qc E6 (by kernel_rfl))) (by kernel_rfl))<|?_
 refine zm R R<|XL.step R (Af (l':= [.d (dI 0), .d (dI 0), .d (dI 0), .d (dI 0), .d (dI 0), .d (dI 0), .d (dI 0), .d (dI 0), .d (dI 0), .d (dI 0), .d (dI 0), .d (dI 0), .d (dB false), .d (dI 0), .d (dI 0), .d (dI 0), .d (dI 0), .d (dI 0), .d (dI 0), .d (.v (.string ⟨#[]⟩)), .d (.v (.slice none 0 0)), .d (.v (.slice none 0 0))]) R R R R E9 R lb (by kernel_rfl))<|za R R<|zn<|zt<|?_
 exact A6 R (RV.sub (RV.cells R R R Bj lb R) (.agg (.cons (.same R) (.cons (.same R) (.cons (.same R) (.cons (.same R) (.cons (.same R) (.cons (.same R) (.cons (.same R) (.cons (.same R) (.cons (.same R) (.cons (.same R) (.cons (.same R) (.cons (.same R) (.cons (.same R) (.cons (.same R) (.cons (.same R) (.cons (.same R) (.cons (.same R) (.cons (.same R) (.cons (.same R) (.cons (.same R) (.cons (.nil 3) (.cons (.nil 2) (.nil))))))))))))))))))))))))) (RV.tmp R R) (Vv (Asw c21 c42))
 refine zi<|zs<|zs<|?_
 have h1:=hF.tempi
 have h2:=hF.cells
 have hO:=Aje c21
 have hP:=Aje (t:=t) (n:=n) c33
 refine Ag (by kernel_rfl)<|XL.freezeP 8 (ds:=Pl.c (plS m.h.m m.h.len)) R (by kernel_rfl) (by kernel_rfl)<|XL.freezeP 11 (ds:=Pl.c (plS t n)) R (by kernel_rfl) (by kernel_rfl)<|zp (Aa R R Bm)<|zp (Ab R R Df R R)<|zp (Ae (s':= .d (dI m.cells.length)) (Gq R R R Tryz.underlying28) (sI (by rw [List.length_map])))<|zm R R<|zn<|Ah<|?_
 refine Az (α:=Nat) (fun k=>k≤m.cells.length∧Kn (plS m.h.m m.h.len) (plS t n) (m.cells.drop k)=Kn (plS m.h.m m.h.len) (plS t n) m.cells) (fun k=>mkF [(6, .ptr 6 0 0),(8, .d (.pt (Pl.c (plS m.h.m m.h.len)))),(10, .ptr 10 0 0),(11, .d (.pt (Pl.c (plS t n)))),(47, .d (dI m.cells.length)),(48, .d (dI k))]) (fun k=>mkH [(6, .box [.d (dI 0), .d (dI 0), .d (dI 0), .d (dI 0), .d (dI 0), .d (dI 0), .d (dI 0), .d (dI 0), .d (dI 0), .d (dI 0), .d (dI 0), .d (dI 0), .d (dB false), .d (dI 0), .d (dI 0), .d (dI 0), .d (dI 0), .d (dI 0), .d (dI 0), .d (.v (.string ⟨#[]⟩)), .d (.v (.slice none 0 0)), .d (.v (.slice none 0 0))]),(10, .box [.d (dI (m.h.sh t n).site), .d (dI (m.h.sh t n).num), .d (dI (m.h.sh t n).m.count), .d (dI (m.h.sh t n).m.unit), .d (dI (m.h.sh t n).m.g0), .d (dI (m.h.sh t n).m.g1), .d (dI (m.h.sh t n).m.g2), .d (dI (m.h.sh t n).m.g3), .d (dI (m.h.sh t n).m.g4), .d (dI (m.h.sh t n).m.g5), .d (dI (m.h.sh t n).len), .d (dI (m.h.sh t n).fifths), .d (dB (m.h.sh t n).start), .d (dI (m.h.sh t n).fin), .d (dI (m.h.sh t n).ends), .d (dI (m.h.sh t n).jump), .d (dI (m.h.sh t n).labels), .d (dI (m.h.sh t n).swing), .d (dI (m.h.sh t n).brk), .d (.v (.string ⟨(m.h.sh t n).reh.toArray⟩)), .own 7401, .own 7402]),(7401, .row 119 3 ((m.tempi).map Tm.c)),(7402, .tree 78 2 [] (mix Ce.u Ce.t ((m.cells.take k).map (Cw (plS m.h.m m.h.len) (plS t n))) (m.cells.drop k)))]) (fun k=>m.cells.length - k) (0) (⟨Nat.zero_le _,R⟩) ?_ ?_ ?_
 exact fz ⟨sr,sr,sr,sr,sr,sr,trivial⟩
 exact gz ⟨R,R,R,R,trivial⟩
 intro k hk0
 obtain ⟨hk,hgo⟩:=hk0
 refine zr<|zp (Au R R R)<|zn<|zs<|?_
 refine zd R (fun c49=> ?_) (fun c49=> ?_)
 have hk0a:k<m.cells.length:=by omega
 obtain ⟨x0,hx0⟩:=Ar hk0a
 refine zi<|zs<|Ah<|zr<|zm R R<|za R R<|znr<|zp (Aa R R Bm)<|zp (Ab R R Df R R)<|zm R R<|zp (Di R R R (R) R Em (Ki hk0a))<|zp (Aw R (by conv=>lhs;whnf))<|?_
 refine zn<|zs<|zs<|?_
 have hcl:=(hF.c x0 (List.mem_of_getElem? hx0)).clefs
 have hvl:=(hF.c x0 (List.mem_of_getElem? hx0)).voices
 refine S7 (i:=7402) (j:=7502) (k:=k) (m:=1) (l':=(mix Ce.u Ce.t ((m.cells.take k).map (Cw (plS m.h.m m.h.len) (plS t n))) (m.cells.drop k)).set k [.row 84 2 (((x0.clefs).map Cf.c).map (·.map T.d)), .own 7502]) [] (x0.voices.map Vo.t) R R R (De hx0) R (Vos.t_in [] _) (R)<|?_
 refine Hm (i:=7402) (j:=7501) (k:=k) (m:=0) (l':=(mix Ce.u Ce.t ((m.cells.take k).map (Cw (plS m.h.m m.h.len) (plS t n))) (m.cells.drop k)).set k [.own 7501, .own 7502]) ((x0.clefs).map Cf.c) R R R (B1 (De hx0)) R (List.set_set ..)<|Ag (by kernel_rfl)<|zp (As R (by conv=>lhs;whnf))<|?_
 refine zp (Fn R R)<|zp (Aa R R Cm)<|zp (Ae (s':= .own 7502) (C0 R R Eg R (B1 (De hx0)) R) R)<|zp (Ae (s':= .d (dI x0.voices.length)) (Gq R R R Tryz.underlying76) (sI (by rw [List.length_map])))<|zm R R<|zn<|Ah<|?_
 refine Az (α:=Nat) (fun j=>j≤x0.voices.length∧I4 (plS m.h.m m.h.len) (plS t n) (x0.voices.drop j)=I4 (plS m.h.m m.h.len) (plS t n) x0.voices) (fun j=>mkF [(6, .ptr 6 0 0),(8, .d (.pt (Pl.c (plS m.h.m m.h.len)))),(10, .ptr 10 0 0),(11, .d (.pt (Pl.c (plS t n)))),(13, .ptr 7402 k 0),(47, .d (dI m.cells.length)),(48, .d (dI k)),(59, .d (dI x0.voices.length)),(60, .d (dI j))]) (fun j=>mkH [(6, .box [.d (dI 0), .d (dI 0), .d (dI 0), .d (dI 0), .d (dI 0), .d (dI 0), .d (dI 0), .d (dI 0), .d (dI 0), .d (dI 0), .d (dI 0), .d (dI 0), .d (dB false), .d (dI 0), .d (dI 0), .d (dI 0), .d (dI 0), .d (dI 0), .d (dI 0), .d (.v (.string ⟨#[]⟩)), .d (.v (.slice none 0 0)), .d (.v (.slice none 0 0))]),(10, .box [.d (dI (m.h.sh t n).site), .d (dI (m.h.sh t n).num), .d (dI (m.h.sh t n).m.count), .d (dI (m.h.sh t n).m.unit), .d (dI (m.h.sh t n).m.g0), .d (dI (m.h.sh t n).m.g1), .d (dI (m.h.sh t n).m.g2), .d (dI (m.h.sh t n).m.g3), .d (dI (m.h.sh t n).m.g4), .d (dI (m.h.sh t n).m.g5), .d (dI (m.h.sh t n).len), .d (dI (m.h.sh t n).fifths), .d (dB (m.h.sh t n).start), .d (dI (m.h.sh t n).fin), .d (dI (m.h.sh t n).ends), .d (dI (m.h.sh t n).jump), .d (dI (m.h.sh t n).labels), .d (dI (m.h.sh t n).swing), .d (dI (m.h.sh t n).brk), .d (.v (.string ⟨(m.h.sh t n).reh.toArray⟩)), .own 7401, .own 7402]),(7401, .row 119 3 ((m.tempi).map Tm.c)),(7402, .tree 78 2 [7501,7502] ((mix Ce.u Ce.t ((m.cells.take k).map (Cw (plS m.h.m m.h.len) (plS t n))) (m.cells.drop k)).set k [.own 7501, .own 7502])),(7501, .row 84 2 ((x0.clefs).map Cf.c)),(7502, .tree 82 2 [] (mix Vo.u Vo.t ((x0.voices.take j).map (fun v=>(Ek v (plS m.h.m m.h.len) (plS t n)).1)) (x0.voices.drop j)))]) (fun j=>x0.voices.length - j) (0) (⟨Nat.zero_le _,R⟩) ?_ ?_ ?_
 exact fz ⟨sr,sr,sr,sr,sr,sr,sr,sr,sr,trivial⟩
 exact gz ⟨R,R,R,R,R,R,trivial⟩
 intro j hk2
 obtain ⟨hj,hgv⟩:=hk2
 refine zr<|zp (Au R R R)<|zn<|zs<|?_
 refine zd R (fun c61=> ?_) (fun c61=> ?_)
 have hk2a:j<x0.voices.length:=by omega
 obtain ⟨x2,hx2⟩:=Ar hk2a
 refine zi<|zs<|Ah<|zr<|zm R R<|za R R<|zn<|zs<|?_
 have hfv:=(hF.c x0 (List.mem_of_getElem? hx0)).v x2 (List.mem_of_getElem? hx2)
 have hEv:=hE x0 (List.mem_of_getElem? hx0) x2 (List.mem_of_getElem? hx2)
 have hfl:=hfv.evs
 refine Hm (i:=7502) (j:=7601) (k:=j) (m:=0) (l':=(mix Vo.u Vo.t ((x0.voices.take j).map (fun v=>(Ek v (plS m.h.m m.h.len) (plS t n)).1)) (x0.voices.drop j)).set j [.own 7601, .row 157 4 (((x2.tups).map Tp.c).map (·.map T.d))]) ((x2.evs).map Ev.c) R R R (De hx2) R (R)<|?_
 refine Hm (i:=7502) (j:=7602) (k:=j) (m:=1) (l':=(mix Vo.u Vo.t ((x0.voices.take j).map (fun v=>(Ek v (plS m.h.m m.h.len) (plS t n)).1)) (x0.voices.drop j)).set j [.own 7601, .own 7602]) ((x2.tups).map Tp.c) R R R (B1 (De hx2)) R (List.set_set ..)<|If (i:=7602) R<|?_
 refine Kv (i:=7502) (l':=(mix Vo.u Vo.t ((x0.voices.take j).map (fun v=>(Ek v (plS m.h.m m.h.len) (plS t n)).1)) (x0.voices.drop j)).set j [.own 7601, .d (.sl 4 (x2.tups.map Tp.c))]) [7601] R (F0 (Fv [] _ _) R) (Cv (Fv [] _ _) (Ee (R) (R)) _)<|?_
 refine Ae8 14 19 20 (S.kills [900001,7601,5003,5004,5005,5006,5029,900002,7001]) (mkH [(6, .box [.d (dI 0), .d (dI 0), .d (dI 0), .d (dI 0), .d (dI 0), .d (dI 0), .d (dI 0), .d (dI 0), .d (dI 0), .d (dI 0), .d (dI 0), .d (dI 0), .d (dB false), .d (dI 0), .d (dI 0), .d (dI 0), .d (dI 0), .d (dI 0), .d (dI 0), .d (.v (.string ⟨#[]⟩)), .d (.v (.slice none 0 0)), .d (.v (.slice none 0 0))]),(10, .box [.d (dI (m.h.sh t n).site), .d (dI (m.h.sh t n).num), .d (dI (m.h.sh t n).m.count), .d (dI (m.h.sh t n).m.unit), .d (dI (m.h.sh t n).m.g0), .d (dI (m.h.sh t n).m.g1), .d (dI (m.h.sh t n).m.g2), .d (dI (m.h.sh t n).m.g3), .d (dI (m.h.sh t n).m.g4), .d (dI (m.h.sh t n).m.g5), .d (dI (m.h.sh t n).len), .d (dI (m.h.sh t n).fifths), .d (dB (m.h.sh t n).start), .d (dI (m.h.sh t n).fin), .d (dI (m.h.sh t n).ends), .d (dI (m.h.sh t n).jump), .d (dI (m.h.sh t n).labels), .d (dI (m.h.sh t n).swing), .d (dI (m.h.sh t n).brk), .d (.v (.string ⟨(m.h.sh t n).reh.toArray⟩)), .own 7401, .own 7402]),(7401, .row 119 3 ((m.tempi).map Tm.c)),(7402, .tree 78 2 [7501,7502] ((mix Ce.u Ce.t ((m.cells.take k).map (Cw (plS m.h.m m.h.len) (plS t n))) (m.cells.drop k)).set k [.own 7501, .own 7502])),(7501, .row 84 2 ((x0.clefs).map Cf.c)),(7502, .tree 82 2 [] ((mix Vo.u Vo.t ((x0.voices.take j).map (fun v=>(Ek v (plS m.h.m m.h.len) (plS t n)).1)) (x0.voices.drop j)).set j [.any, .d (.sl 4 (x2.tups.map Tp.c))]))]) (mkH [(6, .box [.d (dI 0), .d (dI 0), .d (dI 0), .d (dI 0), .d (dI 0), .d (dI 0), .d (dI 0), .d (dI 0), .d (dI 0), .d (dI 0), .d (dI 0), .d (dI 0), .d (dB false), .d (dI 0), .d (dI 0), .d (dI 0), .d (dI 0), .d (dI 0), .d (dI 0), .d (.v (.string ⟨#[]⟩)), .d (.v (.slice none 0 0)), .d (.v (.slice none 0 0))]),(10, .box [.d (dI (m.h.sh t n).site), .d (dI (m.h.sh t n).num), .d (dI (m.h.sh t n).m.count), .d (dI (m.h.sh t n).m.unit), .d (dI (m.h.sh t n).m.g0), .d (dI (m.h.sh t n).m.g1), .d (dI (m.h.sh t n).m.g2), .d (dI (m.h.sh t n).m.g3), .d (dI (m.h.sh t n).m.g4), .d (dI (m.h.sh t n).m.g5), .d (dI (m.h.sh t n).len), .d (dI (m.h.sh t n).fifths), .d (dB (m.h.sh t n).start), .d (dI (m.h.sh t n).fin), .d (dI (m.h.sh t n).ends), .d (dI (m.h.sh t n).jump), .d (dI (m.h.sh t n).labels), .d (dI (m.h.sh t n).swing), .d (dI (m.h.sh t n).brk), .d (.v (.string ⟨(m.h.sh t n).reh.toArray⟩)), .own 7401, .own 7402]),(7401, .row 119 3 ((m.tempi).map Tm.c)),(7402, .tree 78 2 [7501,7502] ((mix Ce.u Ce.t ((m.cells.take k).map (Cw (plS m.h.m m.h.len) (plS t n))) (m.cells.drop k)).set k [.own 7501, .own 7502])),(7501, .row 84 2 ((x0.clefs).map Cf.c)),(7502, .tree 82 2 [] ((mix Vo.u Vo.t ((x0.voices.take j).map (fun v=>(Ek v (plS m.h.m m.h.len) (plS t n)).1)) (x0.voices.drop j)).set j [.d (.sl 13 (((Ek x2 (plS m.h.m m.h.len) (plS t n)).1).evs.map Ev.c)), .d (.sl 4 (((Ek x2 (plS m.h.m m.h.len) (plS t n)).1).tups.map Tp.c))]))]) (by kernel_rfl) (by kernel_rfl) (by kernel_rfl) (by kernel_rfl)<|?_
 refine ChFK.fr R R (CStep.pure (As R (by conv=>lhs;whnf))) (CStep.pure (As R (by conv=>lhs;whnf))) (by exact rfl)<|?_
 refine ChFK.fr R R (CStep.pure (Fn R R)) (CStep.pure (Fn R R)) (by exact rfl)<|ChFK.fr R R (CStep.pure (Aa R R Cm)) (CStep.pure (Aa R R Cm)) (by exact rfl)<|?_
 refine ChFK.fr R R (CStep.pure (Ae (s':= .own 7502) (C0 R R Eg R (B1 (De hx0)) R) R)) (CStep.pure (Ae (s':= .own 7502) (C0 R R Eg R (B1 (De hx0)) R) R)) (by exact rfl)<|ChFK.fr R R (CStep.pure (As R (by conv=>lhs;whnf))) (CStep.pure (As R (by conv=>lhs;whnf))) (by exact rfl)<|?_
 refine ChFK.bf R (CStep.pure (As R (by conv=>lhs;whnf))) (by conv=>lhs;whnf)<|?_
 refine ChFK.bf R (CStep.pure (Fn R R)) (by conv=>lhs;whnf)<|?_
 refine ChFK.bf R (CStep.pure (Aa R R Cm)) (by conv=>lhs;whnf)<|?_
 refine ChFK.bf R (CStep.pure (Ae (s':= .own 7502) (C0 R R Eg R (B1 (De hx0)) R) R)) (by conv=>lhs;whnf)<|?_
 refine ChFK.bf R (CStep.pure (As R (by conv=>lhs;whnf))) (by conv=>lhs;whnf)<|?_
 refine ChFK.bf R (CStep.pure (Di R R R (R) R Ic (F8 (Ki hk2a)))) (by conv=>lhs;whnf)<|?_
 refine ChFK.bf R (CStep.pure (Ae (s':=(.agg [.own 7601, .d (.sl 4 (x2.tups.map Tp.c))])) (Zd R R Ax R (B1 (De hx2)) lb) (by kernel_rfl))) (by conv=>lhs;whnf)<|?_
 refine ChFK.bf R (CStep.pure (Ae (s':= .d (.agg (Pl.c (plS m.h.m m.h.len)))) (Ay R R Gx lb) (by kernel_rfl))) (by conv=>lhs;whnf)<|?_
 refine ChFK.bf R (CStep.pure (Ae (s':= .d (.agg (Pl.c (plS t n)))) (Ay R R Gx lb) (by kernel_rfl))) (by conv=>lhs;whnf)<|?_
 refine ChFK.mu R (Atq 900001 [7601,5003,5004,5005,5006,5029,900002,7001] (.d (.tup [.agg (Vo.c (Ek x2 (plS m.h.m m.h.len) (plS t n)).1),dI (Ek x2 (plS m.h.m m.h.len) (plS t n)).2])) (mkH [(6, .box [.d (dI 0), .d (dI 0), .d (dI 0), .d (dI 0), .d (dI 0), .d (dI 0), .d (dI 0), .d (dI 0), .d (dI 0), .d (dI 0), .d (dI 0), .d (dI 0), .d (dB false), .d (dI 0), .d (dI 0), .d (dI 0), .d (dI 0), .d (dI 0), .d (dI 0), .d (.v (.string ⟨#[]⟩)), .d (.v (.slice none 0 0)), .d (.v (.slice none 0 0))]),(10, .box [.d (dI (m.h.sh t n).site), .d (dI (m.h.sh t n).num), .d (dI (m.h.sh t n).m.count), .d (dI (m.h.sh t n).m.unit), .d (dI (m.h.sh t n).m.g0), .d (dI (m.h.sh t n).m.g1), .d (dI (m.h.sh t n).m.g2), .d (dI (m.h.sh t n).m.g3), .d (dI (m.h.sh t n).m.g4), .d (dI (m.h.sh t n).m.g5), .d (dI (m.h.sh t n).len), .d (dI (m.h.sh t n).fifths), .d (dB (m.h.sh t n).start), .d (dI (m.h.sh t n).fin), .d (dI (m.h.sh t n).ends), .d (dI (m.h.sh t n).jump), .d (dI (m.h.sh t n).labels), .d (dI (m.h.sh t n).swing), .d (dI (m.h.sh t n).brk), .d (.v (.string ⟨(m.h.sh t n).reh.toArray⟩)), .own 7401, .own 7402]),(7401, .row 119 3 ((m.tempi).map Tm.c)),(7402, .tree 78 2 [7501,7502] ((mix Ce.u Ce.t ((m.cells.take k).map (Cw (plS m.h.m m.h.len) (plS t n))) (m.cells.drop k)).set k [.own 7501, .own 7502])),(7501, .row 84 2 ((x0.clefs).map Cf.c)),(7502, .tree 82 2 [] ((mix Vo.u Vo.t ((x0.voices.take j).map (fun v=>(Ek v (plS m.h.m m.h.len) (plS t n)).1)) (x0.voices.drop j)).set j [.any, .d (.sl 4 (x2.tups.map Tp.c))]))]) R .d Aei Tryz.func63 R R lb (fun u1 fp1=> ?_)) ?_
 refine Alm (i:=7502) (k:=j) (m:=0) (l':=(mix Vo.u Vo.t ((x0.voices.take j).map (fun v=>(Ek v (plS m.h.m m.h.len) (plS t n)).1)) (x0.voices.drop j)).set j [.any, .d (.sl 4 (x2.tups.map Tp.c))]) [] R (B1 (De hx2)) R (List.set_set ..) (Cv (Fv [] _ _) (Ee (R) (R)) _)<|zr<|XL.step R (Ap 5003 (l:= [.own 7601, .d (.sl 4 (x2.tups.map Tp.c))]) R R (by kernel_rfl))<|?_
 refine XL.step R (Ap 5004 (l:= [.d (dI (plS m.h.m m.h.len).m.count), .d (dI (plS m.h.m m.h.len).m.unit), .d (dI (plS m.h.m m.h.len).m.g0), .d (dI (plS m.h.m m.h.len).m.g1), .d (dI (plS m.h.m m.h.len).m.g2), .d (dI (plS m.h.m m.h.len).m.g3), .d (dI (plS m.h.m m.h.len).m.g4), .d (dI (plS m.h.m m.h.len).m.g5), .d (dI (plS m.h.m m.h.len).off), .d (dI (plS m.h.m m.h.len).len)]) R R (by kernel_rfl))<|?_
 refine XL.step R (Ap 5005 (l:= [.d (dI (plS t n).m.count), .d (dI (plS t n).m.unit), .d (dI (plS t n).m.g0), .d (dI (plS t n).m.g1), .d (dI (plS t n).m.g2), .d (dI (plS t n).m.g3), .d (dI (plS t n).m.g4), .d (dI (plS t n).m.g5), .d (dI (plS t n).off), .d (dI (plS t n).len)]) R R (by kernel_rfl))<|?_
 refine XL.step R (Aq 5006 (l:= [.d (.v (.slice none 0 0)), .d (.v (.slice none 0 0))]) R Bf (by kernel_rfl))<|za R R<|znr<|za R R<|zn<|zs<|Ah<|zr<|zp (Ac (Ad R R Ax R lb))<|?_
 refine XL.inl 900002 [(3, .ptr 5003 0 0),(4, .ptr 5004 0 0),(5, .ptr 5005 0 0),(6, .ptr 5006 0 0),(7, .d (dI 0)),(8, .d (dI 0))] R R .d S1 Tryz.func56 R R lb (by simp only [List.forall_mem_cons];exact ⟨⟨Nat.le_of_ble_eq_true rfl,rfl⟩,⟨⟨Nat.le_of_ble_eq_true rfl,rfl⟩,⟨⟨Nat.le_of_ble_eq_true rfl,rfl⟩,⟨⟨Nat.le_of_ble_eq_true rfl,rfl⟩,⟨⟨Nat.le_of_ble_eq_true rfl,rfl⟩,⟨⟨Nat.le_of_ble_eq_true rfl,rfl⟩,fun p hp=>(by cases hp)⟩⟩⟩⟩⟩⟩) fun u2=>?_
 refine zr<|XL.step R (Ap 7001 (l:= [.own 7601, .d (.sl 4 (x2.tups.map Tp.c))]) R R (by kernel_rfl))<|za R R<|znr<|zp (Aa R R Bo)<|zp (Ab R R Cz R R)<|zp (Bz R R R Tryz.underlying79)<|zp (Bb R R R)<|za R R<|zn<|zt<|?_
 refine (Dr (l:= [(3, .ptr 5003 0 0),(4, .ptr 5004 0 0),(5, .ptr 5005 0 0),(6, .ptr 5006 0 0),(7, .d (dI 0)),(8, .d (dI 0))]) (by kernel_rfl) (rs1 R (RV.tmp R R)) ?_).2
 refine zp (En R R)<|zm R R<|?_
 refine XL.dec 35 R (fun g35i=> ?_) (fun g35i=> ?_)
 refine zk 5 R<|zq R R R<|zm R R<|zk 12 R<|zq R R R<|za R R<|zn<|Av (by kernel_rfl) R<|zr<|XL.freeze (i:=7601) R<|zp (Ae (s':= .d (.agg [.sl 13 (x2.evs.map Ev.c), .sl 4 (x2.tups.map Tp.c)])) (Ac (Ad R R Ax R lb)) (by kernel_rfl))<|XL.step R (Af (l':= [.d (.sl 13 (x2.evs.map Ev.c)), .d (.sl 4 (x2.tups.map Tp.c))]) R R R R Bu R lb (by kernel_rfl))<|za R R<|zn<|?_
 refine zt<|?_
 exact Kk R (by repeat (first|exact GL.z|refine GL.k ?_ rfl|refine GL.f ?_ rfl|refine GL.p ?_ rfl)) (Ka (rs2 R (RV.cells R R R Ax lb R) (RV.tmp R R)) (congrArg S.d (Ng (Anb (by unfold Vo.same;omega))))) (gz ⟨R,R,R,R,R,R,trivial⟩)
 refine zp (Aa R R Cx)<|zp (Ab R R Ai R R)<|zp (Aa R R Cx)<|zp (Ab R R Ai R R)<|zp (Bi R R R)<|zq R R R<|zm R R<|?_
 refine XL.dec 42 R (fun g42i=> ?_) (fun g42i=> ?_)
 refine zk 12 R<|zq R R R<|za R R<|zn<|Av (by kernel_rfl) R<|zr<|XL.freeze (i:=7601) R<|zp (Ae (s':= .d (.agg [.sl 13 (x2.evs.map Ev.c), .sl 4 (x2.tups.map Tp.c)])) (Ac (Ad R R Ax R lb)) (by kernel_rfl))<|XL.step R (Af (l':= [.d (.sl 13 (x2.evs.map Ev.c)), .d (.sl 4 (x2.tups.map Tp.c))]) R R R R Bu R lb (by kernel_rfl))<|za R R<|zn<|zt<|?_
 exact Kk R (by repeat (first|exact GL.z|refine GL.k ?_ rfl|refine GL.f ?_ rfl|refine GL.p ?_ rfl)) (Ka (rs2 R (RV.cells R R R Ax lb R) (RV.tmp R R)) (congrArg S.d (Ng (Anb (by unfold Vo.same;omega))))) (gz ⟨R,R,R,R,R,R,trivial⟩)
 refine zp (Aa R R Bo)<|zp (Ab R R Cz R R)<|zp (Bz R R R Tryz.underlying79)<|zp (Bi R R R)<|zm R R<|?_
 refine XL.dec 47 R (fun g47i=> ?_) (fun g47i=> ?_)
 obtain ⟨e0,he0⟩:∃e,x2.evs[0]? =some e:=Ar (by omega)
 have hwh:=Kw he0
 refine zp (Aa R R Bo)<|zp (Ab R R Cz R R)<|zp (Ck R R R ((R:(0:Int)=((0:Nat):Int))) R F5 (by first|omega|(simp only [List.length_map];omega)))<|zp (Aa R R Dj)<|zp (I1 R R Ai R (C2 he0) R)<|zp (Bi R R R)<|zq R R R<|zq R R R<|za R R<|zn<|?_
 refine zd R (fun c31i=> ?_) (fun c31i=> ?_)
 refine zr<|XL.freeze (i:=7601) R<|zp (Ae (s':= .d (.agg [.sl 13 (x2.evs.map Ev.c), .sl 4 (x2.tups.map Tp.c)])) (Ac (Ad R R Ax R lb)) (by kernel_rfl))<|XL.step R (Af (l':= [.d (.sl 13 (x2.evs.map Ev.c)), .d (.sl 4 (x2.tups.map Tp.c))]) R R R R Bu R lb (by kernel_rfl))<|za R R<|zn<|zt<|?_
 exact Kk R (by repeat (first|exact GL.z|refine GL.k ?_ rfl|refine GL.f ?_ rfl|refine GL.p ?_ rfl)) (Ka (rs2 R (RV.cells R R R Ax lb R) (RV.tmp R R)) (congrArg S.d (Ng (Anb (.inr (.inr ⟨by omega,hwh.2 (by omega)⟩)))))) (gz ⟨rfl,rfl,rfl,rfl,rfl,rfl,trivial⟩)
 refine zr<|zp (Aa R R Cx)<|zp (Ab R R Ai R R)<|zp (Aa R R Cx)<|zp (Ab R R Ai R R)<|zp (Au R R R)<|za R R<|zn<|?_
 refine zd R (fun c57i=> ?_) (fun c57i=> ?_)
 refine Ag (by kernel_rfl)<|XL.freeze (i:=7601) R<|zp (Ae (s':= .d (.agg (Vo.c x2))) (Ac (Ad R R Ax R lb)) (by kernel_rfl))<|zp (Ae (s':= .d (.agg (Pl.c (plS m.h.m m.h.len)))) (Ac (Ad R R Gx R lb)) (by kernel_rfl))<|zp (Aa R R Cx)<|zp (Ab R R Ai R R)<|XL.call1 R R (Ak7 _ _ _ _ (by assumption) (by assumption)) R<|?_
 refine zm R R<|zp (A0 R R R)<|zp (A0 R R R)<|XL.step R (Af (l':= [.d (.sl 13 (((Eq x2 (plS m.h.m m.h.len) 0 ((plS t n).len)).1).evs.map Ev.c)), .d (.sl 4 (((Eq x2 (plS m.h.m m.h.len) 0 ((plS t n).len)).1).tups.map Tp.c))]) R R R R Bu R lb (by kernel_rfl))<|za R R<|zn<|zs<|zr<|zm R R<|zp (A1 R R R)<|zn<|?_
 refine zd R (fun c72i=> ?_) (fun c72i=> ?_)
 refine zr<|zp (Ae (s':= .d (.agg [.v (.slice none 0 0), .v (.slice none 0 0)])) (Ac (A4 R C6 Bf R)) (by kernel_rfl))<|zm R R<|XL.step R (Af (l':= [.d (.v (.slice none 0 0)), .d (.v (.slice none 0 0))]) R R R R Bu R lb (by kernel_rfl))<|za R R<|zn<|zt<|?_
 exact Kk R (by repeat (first|exact GL.z|refine GL.k ?_ rfl|refine GL.f ?_ rfl|refine GL.p ?_ rfl)) (Ka (rs2 R (RV.sub (RV.cells R R R Ax lb R) (.agg (.cons (.nil 13) (.cons (.nil 4) (.nil))))) (RV.tmp R R)) (congrArg S.d (Ng (Asu (by unfold Vo.same;rw [hwh];omega) c57i c72i)))) (gz ⟨R,R,R,R,R,R,trivial⟩)
 refine zi<|zs<|?_
 have hEc:=(Aal (v:=x2) (p:=(plS m.h.m m.h.len)) (a:=0) (b:=(plS t n).len) (by omega) hfv).1
 refine Cq 5 [] (by kernel_rfl) (by kernel_rfl) (by kernel_rfl) (by kernel_rfl) (by decide)<|yp (Ae (s':= .d (.agg (Vo.c (Eq x2 (plS m.h.m m.h.len) 0 ((plS t n).len)).1))) (Ac (Ad R R Ax R lb)) (by kernel_rfl))<|yp (Ae (s':= .d (.agg (Vo.c (Eq x2 (plS m.h.m m.h.len) 0 ((plS t n).len)).1))) (Ac (Ad R R Ax R lb)) (by kernel_rfl))<|?_
 refine yp (Aa R R Cx)<|yp (Ab R R Ai R R)<|ChK.cons R (CStep.call R (Np _ _ (by assumption)) R)<|?_
 refine ChK.nil ⟨by kernel_rfl, ?_⟩
 refine XL.step R (Af (l':= [.d (.sl 13 (((Eq x2 (plS m.h.m m.h.len) 0 ((plS t n).len)).1).evs.map Ev.c)), .d (.sl 4 (((Eq x2 (plS m.h.m m.h.len) 0 ((plS t n).len)).1).tups.map Tp.c))]) R R R R Bu R lb (by kernel_rfl))<|za R R<|zn<|zt<|?_
 exact Kk R (by repeat (first|exact GL.z|refine GL.k ?_ rfl|refine GL.f ?_ rfl|refine GL.p ?_ rfl)) (Ka (rs2 R (RV.cells R R R Ax lb R) (RV.tmp R R)) (congrArg S.d (Ng (Ast (by unfold Vo.same;rw [hwh];omega) c57i c72i)))) (gz ⟨R,R,R,R,R,R,trivial⟩)
 refine zr<|za R R<|zn<|zs<|?_
 have hrl:=Wi (plS t n).m ((plS t n).off+(plS m.h.m m.h.len).len) ((plS t n).off+(plS t n).len)
 refine Ag (by kernel_rfl)<|zp (Aa R R Ni)<|zp (Ae (s':= .d (.agg (Me.c (plS t n).m))) (Ac (Ad R R Bn R lb)) (by kernel_rfl))<|zp (Aa R R G5)<|zp (Ab R R Ai R R)<|zp (Aa R R Cx)<|zp (Ab R R Ai R R)<|zp (Al R R R (by omega) (by omega))<|zp (Aa R R G5)<|zp (Ab R R Ai R R)<|?_
 refine zp (Aa R R Cx)<|zp (Ab R R Ai R R)<|zp (Al R R R (by omega) (by omega))<|XL.call1 R R (Y5 _ _ _) R<|zm R R<|zp (A0 R R R)<|zp (A0 R R R)<|za R R<|za R R<|zng<|zp (Aa R R Bo)<|zp (Ab R R Cz R R)<|zm R R<|XL.step R (A5 R Gv (.own R) (Src.sl (by omega)) (by unfold maxLen;simp;omega) (by simp;omega))<|?_
 refine XL.rowq (i:=7601) (l':=(x2.evs++Ij (plS t n).m ((plS t n).off+(plS m.h.m m.h.len).len) ((plS t n).off+(plS t n).len)).map Ev.c) R (Rv)<|zp (Aa R R Bo)<|XL.step R (Af (l':= [.own 7601, .d (.sl 4 (x2.tups.map Tp.c))]) R R R R Rm R lb (by kernel_rfl))<|zn<|zs<|zr<|zm R R<|zp (A1 R R R)<|zn<|?_
 refine zd R (fun c72i=> ?_) (fun c72i=> ?_)
 refine zr<|zp (Ae (s':= .d (.agg [.v (.slice none 0 0), .v (.slice none 0 0)])) (Ac (A4 R C6 Bf R)) (by kernel_rfl))<|zm R R<|XL.step R (Af (l':= [.d (.v (.slice none 0 0)), .d (.v (.slice none 0 0))]) R R R R Bu R lb (by kernel_rfl))<|za R R<|zn<|zt<|?_
 exact Kk R (by repeat (first|exact GL.z|refine GL.k ?_ rfl|refine GL.f ?_ rfl|refine GL.p ?_ rfl)) (Ka (rs2 R (RV.sub (RV.cells R R R Ax lb R) (.agg (.cons (.nil 13) (.cons (.nil 4) (.nil))))) (RV.tmp R R)) (congrArg S.d (Ng (Ass (by unfold Vo.same;rw [hwh];omega) c57i c72i)))) (gz ⟨R,R,R,R,R,R,trivial⟩)
 refine zi<|zs<|?_
 have hEc:=Af6 hEv (Wj (plS t n).m ((plS t n).off+(plS m.h.m m.h.len).len) ((plS t n).off+(plS t n).len))
 refine If (i:=7601) R<|Cq 5 [] (by kernel_rfl) (by kernel_rfl) (by kernel_rfl) (by kernel_rfl) (by decide)<|yp (Ae (s':= .d (.agg (Vo.c (L7 x2 (plS m.h.m m.h.len) (plS t n))))) (Ac (Ad R R Ax R lb)) (by kernel_rfl))<|yp (Ae (s':= .d (.agg (Vo.c (L7 x2 (plS m.h.m m.h.len) (plS t n))))) (Ac (Ad R R Ax R lb)) (by kernel_rfl))<|?_
 refine yp (Aa R R Cx)<|yp (Ab R R Ai R R)<|ChK.cons R (CStep.call R (Np _ _ (by assumption)) R)<|?_
 refine ChK.nil ⟨by kernel_rfl, ?_⟩
 refine XL.step R (Af (l':= [.d (.sl 13 ((L7 x2 (plS m.h.m m.h.len) (plS t n)).evs.map Ev.c)), .d (.sl 4 ((L7 x2 (plS m.h.m m.h.len) (plS t n)).tups.map Tp.c))]) R R R R Bu R lb (by kernel_rfl))<|za R R<|zn<|zt<|?_
 exact Kk R (by repeat (first|exact GL.z|refine GL.k ?_ rfl|refine GL.f ?_ rfl|refine GL.p ?_ rfl)) (Ka (rs2 R (RV.cells R R R Ax lb R) (RV.tmp R R)) (congrArg S.d (Ng (Asr (by unfold Vo.same;rw [hwh];omega) c57i c72i)))) (gz ⟨R,R,R,R,R,R,trivial⟩)
 refine zk 6 R<|zq R R R<|zq R R R<|za R R<|zn<|A8 (by kernel_rfl) R<|zr<|zp (Aa R R Cx)<|zp (Ab R R Ai R R)<|zp (Aa R R Cx)<|zp (Ab R R Ai R R)<|zp (Au R R R)<|za R R<|zn<|?_
 refine zd R (fun c57i=> ?_) (fun c57i=> ?_)
 refine Ag (by kernel_rfl)<|XL.freeze (i:=7601) R<|zp (Ae (s':= .d (.agg (Vo.c x2))) (Ac (Ad R R Ax R lb)) (by kernel_rfl))<|zp (Ae (s':= .d (.agg (Pl.c (plS m.h.m m.h.len)))) (Ac (Ad R R Gx R lb)) (by kernel_rfl))<|zp (Aa R R Cx)<|zp (Ab R R Ai R R)<|XL.call1 R R (Ak7 _ _ _ _ (by assumption) (by assumption)) R<|?_
 refine zm R R<|zp (A0 R R R)<|zp (A0 R R R)<|XL.step R (Af (l':= [.d (.sl 13 (((Eq x2 (plS m.h.m m.h.len) 0 ((plS t n).len)).1).evs.map Ev.c)), .d (.sl 4 (((Eq x2 (plS m.h.m m.h.len) 0 ((plS t n).len)).1).tups.map Tp.c))]) R R R R Bu R lb (by kernel_rfl))<|za R R<|zn<|zs<|zr<|zm R R<|zp (A1 R R R)<|zn<|?_
 refine zd R (fun c72i=> ?_) (fun c72i=> ?_)
 refine zr<|zp (Ae (s':= .d (.agg [.v (.slice none 0 0), .v (.slice none 0 0)])) (Ac (A4 R C6 Bf R)) (by kernel_rfl))<|zm R R<|XL.step R (Af (l':= [.d (.v (.slice none 0 0)), .d (.v (.slice none 0 0))]) R R R R Bu R lb (by kernel_rfl))<|za R R<|zn<|zt<|?_
 exact Kk R (by repeat (first|exact GL.z|refine GL.k ?_ rfl|refine GL.f ?_ rfl|refine GL.p ?_ rfl)) (Ka (rs2 R (RV.sub (RV.cells R R R Ax lb R) (.agg (.cons (.nil 13) (.cons (.nil 4) (.nil))))) (RV.tmp R R)) (congrArg S.d (Ng (Asu (by unfold Vo.same;omega) c57i c72i)))) (gz ⟨R,R,R,R,R,R,trivial⟩)
 refine zi<|zs<|?_
 have hEc:=(Aal (v:=x2) (p:=(plS m.h.m m.h.len)) (a:=0) (b:=(plS t n).len) (by omega) hfv).1
 refine Cq 5 [] (by kernel_rfl) (by kernel_rfl) (by kernel_rfl) (by kernel_rfl) (by decide)<|yp (Ae (s':= .d (.agg (Vo.c (Eq x2 (plS m.h.m m.h.len) 0 ((plS t n).len)).1))) (Ac (Ad R R Ax R lb)) (by kernel_rfl))<|yp (Ae (s':= .d (.agg (Vo.c (Eq x2 (plS m.h.m m.h.len) 0 ((plS t n).len)).1))) (Ac (Ad R R Ax R lb)) (by kernel_rfl))<|?_
 refine yp (Aa R R Cx)<|yp (Ab R R Ai R R)<|ChK.cons R (CStep.call R (Np _ _ (by assumption)) R)<|?_
 refine ChK.nil ⟨by kernel_rfl, ?_⟩
 refine XL.step R (Af (l':= [.d (.sl 13 (((Eq x2 (plS m.h.m m.h.len) 0 ((plS t n).len)).1).evs.map Ev.c)), .d (.sl 4 (((Eq x2 (plS m.h.m m.h.len) 0 ((plS t n).len)).1).tups.map Tp.c))]) R R R R Bu R lb (by kernel_rfl))<|za R R<|zn<|zt<|?_
 exact Kk R (by repeat (first|exact GL.z|refine GL.k ?_ rfl|refine GL.f ?_ rfl|refine GL.p ?_ rfl)) (Ka (rs2 R (RV.cells R R R Ax lb R) (RV.tmp R R)) (congrArg S.d (Ng (Ast (by unfold Vo.same;omega) c57i c72i)))) (gz ⟨R,R,R,R,R,R,trivial⟩)
 refine zr<|za R R<|zn<|zs<|?_
 have hrl:=Wi (plS t n).m ((plS t n).off+(plS m.h.m m.h.len).len) ((plS t n).off+(plS t n).len)
 refine Ag (by kernel_rfl)<|zp (Aa R R Ni)<|zp (Ae (s':= .d (.agg (Me.c (plS t n).m))) (Ac (Ad R R Bn R lb)) (by kernel_rfl))<|zp (Aa R R G5)<|zp (Ab R R Ai R R)<|zp (Aa R R Cx)<|zp (Ab R R Ai R R)<|zp (Al R R R (by omega) (by omega))<|zp (Aa R R G5)<|zp (Ab R R Ai R R)<|?_
 refine zp (Aa R R Cx)<|zp (Ab R R Ai R R)<|zp (Al R R R (by omega) (by omega))<|XL.call1 R R (Y5 _ _ _) R<|zm R R<|zp (A0 R R R)<|zp (A0 R R R)<|za R R<|za R R<|zng<|zp (Aa R R Bo)<|zp (Ab R R Cz R R)<|zm R R<|XL.step R (A5 R Gv (.own R) (Src.sl (by omega)) (by unfold maxLen;simp;omega) (by simp;omega))<|?_
 refine XL.rowq (i:=7601) (l':=(x2.evs++Ij (plS t n).m ((plS t n).off+(plS m.h.m m.h.len).len) ((plS t n).off+(plS t n).len)).map Ev.c) R (Rv)<|zp (Aa R R Bo)<|XL.step R (Af (l':= [.own 7601, .d (.sl 4 (x2.tups.map Tp.c))]) R R R R Rm R lb (by kernel_rfl))<|zn<|zs<|zr<|zm R R<|zp (A1 R R R)<|zn<|?_
 refine zd R (fun c72i=> ?_) (fun c72i=> ?_)
 refine zr<|zp (Ae (s':= .d (.agg [.v (.slice none 0 0), .v (.slice none 0 0)])) (Ac (A4 R C6 Bf R)) (by kernel_rfl))<|zm R R<|XL.step R (Af (l':= [.d (.v (.slice none 0 0)), .d (.v (.slice none 0 0))]) R R R R Bu R lb (by kernel_rfl))<|za R R<|zn<|zt<|?_
 exact Kk R (by repeat (first|exact GL.z|refine GL.k ?_ rfl|refine GL.f ?_ rfl|refine GL.p ?_ rfl)) (Ka (rs2 R (RV.sub (RV.cells R R R Ax lb R) (.agg (.cons (.nil 13) (.cons (.nil 4) (.nil))))) (RV.tmp R R)) (congrArg S.d (Ng (Ass (by unfold Vo.same;omega) c57i c72i)))) (gz ⟨R,R,R,R,R,R,trivial⟩)
 refine zi<|zs<|?_
 have hEc:=Af6 hEv (Wj (plS t n).m ((plS t n).off+(plS m.h.m m.h.len).len) ((plS t n).off+(plS t n).len))
 refine If (i:=7601) R<|Cq 5 [] (by kernel_rfl) (by kernel_rfl) (by kernel_rfl) (by kernel_rfl) (by decide)<|yp (Ae (s':= .d (.agg (Vo.c (L7 x2 (plS m.h.m m.h.len) (plS t n))))) (Ac (Ad R R Ax R lb)) (by kernel_rfl))<|yp (Ae (s':= .d (.agg (Vo.c (L7 x2 (plS m.h.m m.h.len) (plS t n))))) (Ac (Ad R R Ax R lb)) (by kernel_rfl))<|?_
 refine yp (Aa R R Cx)<|yp (Ab R R Ai R R)<|ChK.cons R (CStep.call R (Np _ _ (by assumption)) R)<|?_
 refine ChK.nil ⟨by kernel_rfl, ?_⟩
 refine XL.step R (Af (l':= [.d (.sl 13 ((L7 x2 (plS m.h.m m.h.len) (plS t n)).evs.map Ev.c)), .d (.sl 4 ((L7 x2 (plS m.h.m m.h.len) (plS t n)).tups.map Tp.c))]) R R R R Bu R lb (by kernel_rfl))<|za R R<|zn<|zt<|?_
 exact Kk R (by repeat (first|exact GL.z|refine GL.k ?_ rfl|refine GL.f ?_ rfl|refine GL.p ?_ rfl)) (Ka (rs2 R (RV.cells R R R Ax lb R) (RV.tmp R R)) (congrArg S.d (Ng (Asr (by unfold Vo.same;omega) c57i c72i)))) (gz ⟨R,R,R,R,R,R,trivial⟩)
 refine ChFK.af R (CStep.pure (As R (by conv=>lhs;whnf)))<|?_
 refine ChFK.af R (CStep.pure (A0 R R R))<|ChFK.fl R (CStep.pure (A0 R R R)) (CStep.pure (A0 R R R))<|ChFK.af R (CStep.pure (Di R R R (R) R Ic (F8 (Ki hk2a))))<|?_
 refine ChFK.st R (Aac [] (l':=(mix Vo.u Vo.t ((x0.voices.take j).map (fun v=>(Ek v (plS m.h.m m.h.len) (plS t n)).1)) (x0.voices.drop j)).set j [.d (.sl 13 (((Ek x2 (plS m.h.m m.h.len) (plS t n)).1).evs.map Ev.c)), .d (.sl 4 (((Ek x2 (plS m.h.m m.h.len) (plS t n)).1).tups.map Tp.c))]) R R R (B1 (De hx2)) R Bu R lb R R (List.set_set ..) (gz ⟨R,R,R,R,R,R,trivial⟩))<|?_
 refine ChFK.nil ⟨⟨by kernel_rfl,by kernel_rfl,by kernel_rfl⟩, ?_⟩
 refine XL.rowqT (i:=7502) (l':=mix Vo.u Vo.t ((x0.voices.take (j+1)).map (fun v=>(Ek v (plS m.h.m m.h.len) (plS t n)).1)) (x0.voices.drop (j+1))) [] R (Jr hx2) (Fv [] _ _)<|za R R<|znr<|zm R R<|zp (A1 R R R)<|zn<|?_
 refine zd R (fun c83=> ?_) (fun c83=> ?_)
 refine zr<|?_
 refine zp (Ae (s':= .d (.agg [dI 0,dI 0,dI 0,dI 0,dI 0,dI 0,dI 0,dI 0,dI 0,dI 0,dI 0,dI 0,dB false,dI 0,dI 0,dI 0,dI 0,dI 0,dI 0, .v (.string ⟨#[]⟩), .v (.slice none 0 0), .v (.slice none 0 0)])) (Ac (A4 (r:= [.d (dI 0), .d (dI 0), .d (dI 0), .d (dI 0), .d (dI 0), .d (dI 0), .d (dI 0), .d (dI 0), .d (dI 0), .d (dI 0), .d (dI 0), .d (dI 0), .d (dB false), .d (dI 0), .d (dI 0), .d (dI 0), .d (dI 0), .d (dI 0), .d (dI 0), .d (.v (.string ⟨#[]⟩)), .d (.v (.slice none 0 0)), .d (.v (.slice none 0 0))]) R Qc E6 (by kernel_rfl))) (by kernel_rfl))<|?_
 refine zm R R<|XL.step R (Af (l':= [.d (dI 0), .d (dI 0), .d (dI 0), .d (dI 0), .d (dI 0), .d (dI 0), .d (dI 0), .d (dI 0), .d (dI 0), .d (dI 0), .d (dI 0), .d (dI 0), .d (dB false), .d (dI 0), .d (dI 0), .d (dI 0), .d (dI 0), .d (dI 0), .d (dI 0), .d (.v (.string ⟨#[]⟩)), .d (.v (.slice none 0 0)), .d (.v (.slice none 0 0))]) R R R R E9 R lb (by kernel_rfl))<|za R R<|zn<|zt<|?_
 exact A6 R (RV.sub (RV.cells R R R Bj lb R) (.agg (.cons (.same R) (.cons (.same R) (.cons (.same R) (.cons (.same R) (.cons (.same R) (.cons (.same R) (.cons (.same R) (.cons (.same R) (.cons (.same R) (.cons (.same R) (.cons (.same R) (.cons (.same R) (.cons (.same R) (.cons (.same R) (.cons (.same R) (.cons (.same R) (.cons (.same R) (.cons (.same R) (.cons (.same R) (.cons (.same R) (.cons (.nil 3) (.cons (.nil 2) (.nil))))))))))))))))))))))))) (RV.tmp R R) (Vv (Au5 c21 c33 (by first|exact hgo.symm.trans ((Anj hx0 (by rw [←hgv,Aaa hx2 (by omega)];omega)).trans (by rw [←hgv,Aaa hx2 (by omega)]))) (by omega)))
 refine zi<|Ag (by kernel_rfl)<|zp (Al R R R (by omega) (by omega))<|zm R R<|zn<|?_
 exact Am (j+1) (⟨by omega,by rw [←Ani hx2 (by omega)];exact hgv⟩) (by omega) (fz ⟨sr,sr,sr,sr,sr,sr,sr,sr,sr,trivial⟩) (gz ⟨rfl,rfl,rfl,rfl,rfl,rfl,trivial⟩)
 have hk2b:j=x0.voices.length:=by omega
 refine At<|O6 (i:=7502) R (Vq _ _) (by rw [Zm,hk2b,List.take_length,List.drop_length,List.append_nil])<|?_
 refine Kv (i:=7402) (l':=(mix Ce.u Ce.t ((m.cells.take k).map (Cw (plS m.h.m m.h.len) (plS t n))) (m.cells.drop k)).set k [.own 7501, .d (.sl 2 (((Cw (plS m.h.m m.h.len) (plS t n)) x0).voices.map Vo.c))]) [7501] R (F0 (Ed [] _ _) R) (Cv (Ed [] _ _) (Ee (R) (R)) _)<|Ag (by kernel_rfl)<|zp (As R (by conv=>lhs;whnf))<|?_
 refine zp (As R (by conv=>lhs;whnf))<|?_
 refine zp (Fn R R)<|zp (Aa R R Ea)<|zp (Ae (s':= .own 7501) (C0 R R Iz R (B1 (De hx0)) R) R)<|?_
 refine XL.blurT (i:=7402) (k:=k) (m:=0) (l':=(mix Ce.u Ce.t ((m.cells.take k).map (Cw (plS m.h.m m.h.len) (plS t n))) (m.cells.drop k)).set k [.any, .d (.sl 2 (((Cw (plS m.h.m m.h.len) (plS t n)) x0).voices.map Vo.c))]) [] R (B1 (De hx0)) R (List.set_set ..) (Cv (Ed [] _ _) (Ee (R) (R)) _)<|zp (Ph (pd:= []) (cd:= [_]) R R R)<|?_
 refine XL.inl 900003 [(6, .ptr 6 0 0),(8, .d (.pt (Pl.c (plS m.h.m m.h.len)))),(10, .ptr 10 0 0),(11, .d (.pt (Pl.c (plS t n)))),(47, .d (dI m.cells.length)),(48, .d (dI k)),(87, .ptr 7402 k 0)] R R .d Aeh Tryz.func64 R R lb (by simp only [List.forall_mem_cons];exact ⟨⟨Nat.le_of_ble_eq_true rfl,rfl⟩,⟨⟨Nat.le_of_ble_eq_true rfl,rfl⟩,⟨⟨Nat.le_of_ble_eq_true rfl,rfl⟩,⟨⟨Nat.le_of_ble_eq_true rfl,rfl⟩,⟨⟨Nat.le_of_ble_eq_true rfl,rfl⟩,⟨⟨Nat.le_of_ble_eq_true rfl,rfl⟩,⟨⟨Nat.le_of_ble_eq_true rfl,rfl⟩,fun p hp=>(by cases hp)⟩⟩⟩⟩⟩⟩⟩) fun u3=>?_
 refine zr<|za R R<|znr<|zp (As R (by conv=>lhs;whnf))<|?_
 refine zm R R<|XL.inl 900004 [(0, .own 7501),(1, .d (.fn 65 [] [.pt (Pl.c (plS t n))])),(4, .d (.v (.slice none 0 0)))] R R .d Adu Tryz.func99 R R lb (by simp only [List.forall_mem_cons];exact ⟨⟨Nat.le_of_ble_eq_true rfl,rfl⟩,⟨⟨Nat.le_of_ble_eq_true rfl,rfl⟩,⟨⟨Nat.le_of_ble_eq_true rfl,rfl⟩,fun p hp=>(by cases hp)⟩⟩⟩) fun u4=>zr<|za R R<|zn<|zs<|zr<|?_
 refine zp (As R (by conv=>lhs;whnf))<|?_
 refine zp (Bz R R R Tryz.underlying75)<|zm R R<|zn<|Ah<|?_
 refine Az (α:=Nat) (fun q=>q≤(x0.clefs).length∧((x0.clefs).take q).filter (cfK (plS t n).len)=(x0.clefs).take q) (fun q=>mkF [(0, .own 7501),(1, .d (.fn 65 [] [.pt (Pl.c (plS t n))])),(7, .d (dI x0.clefs.length)),(8, .d (dI q))]) (fun q=>mkH [(6, .box [.d (dI 0), .d (dI 0), .d (dI 0), .d (dI 0), .d (dI 0), .d (dI 0), .d (dI 0), .d (dI 0), .d (dI 0), .d (dI 0), .d (dI 0), .d (dI 0), .d (dB false), .d (dI 0), .d (dI 0), .d (dI 0), .d (dI 0), .d (dI 0), .d (dI 0), .d (.v (.string ⟨#[]⟩)), .d (.v (.slice none 0 0)), .d (.v (.slice none 0 0))]),(10, .box [.d (dI (m.h.sh t n).site), .d (dI (m.h.sh t n).num), .d (dI (m.h.sh t n).m.count), .d (dI (m.h.sh t n).m.unit), .d (dI (m.h.sh t n).m.g0), .d (dI (m.h.sh t n).m.g1), .d (dI (m.h.sh t n).m.g2), .d (dI (m.h.sh t n).m.g3), .d (dI (m.h.sh t n).m.g4), .d (dI (m.h.sh t n).m.g5), .d (dI (m.h.sh t n).len), .d (dI (m.h.sh t n).fifths), .d (dB (m.h.sh t n).start), .d (dI (m.h.sh t n).fin), .d (dI (m.h.sh t n).ends), .d (dI (m.h.sh t n).jump), .d (dI (m.h.sh t n).labels), .d (dI (m.h.sh t n).swing), .d (dI (m.h.sh t n).brk), .d (.v (.string ⟨(m.h.sh t n).reh.toArray⟩)), .own 7401, .own 7402]),(7401, .row 119 3 ((m.tempi).map Tm.c)),(7402, .tree 78 2 [] ((mix Ce.u Ce.t ((m.cells.take k).map (Cw (plS m.h.m m.h.len) (plS t n))) (m.cells.drop k)).set k [.any, .d (.sl 2 (((Cw (plS m.h.m m.h.len) (plS t n)) x0).voices.map Vo.c))])),(7501, .row 84 2 ((x0.clefs).map Cf.c)),(900003, .ghost u3 [(6, .ptr 6 0 0),(8, .d (.pt (Pl.c (plS m.h.m m.h.len)))),(10, .ptr 10 0 0),(11, .d (.pt (Pl.c (plS t n)))),(47, .d (dI m.cells.length)),(48, .d (dI k)),(87, .ptr 7402 k 0)]),(900004, .ghost u4 [(0, .own 7501),(1, .d (.fn 65 [] [.pt (Pl.c (plS t n))])),(4, .d (.v (.slice none 0 0)))])]) (fun q=>(x0.clefs).length - q) (0) (⟨Nat.zero_le _,R⟩) ?_ ?_ ?_
 exact fz ⟨sr,sr,sr,sr,trivial⟩
 exact gz ⟨R,R,R,R,R,R,R,trivial⟩
 intro q hk0x
 obtain ⟨hk,hfk⟩:=hk0x
 refine zr<|zp (Au R R R)<|zn<|zs<|?_
 refine zd R (fun c9x=> ?_) (fun c9x=> ?_)
 obtain ⟨y,hy⟩:∃y,(x0.clefs)[q]? =some y:=Ar (by omega)
 refine zi<|zs<|Ah<|zr<|zm R R<|za R R<|znr<|zm R R<|zp (As R (by conv=>lhs;whnf))<|?_
 refine zm R R<|zp (Ck R R R (R) R Lc (by omega))<|zp (Ae (s':= .d (.agg (Cf.c y))) (Ew R R Lx R (C2 (hy)) lb) (by kernel_rfl))<|XL.callv1 (ds:= [_]) R R R (Af2 _ _) R<|zn<|?_
 refine zd R (fun c16x=> ?_) (fun c16x=> ?_)
 refine zr<|zm R R<|za R R<|zn<|zt<|?_
 refine (Dr (l:= [(0, .own 7501),(1, .d (.fn 65 [] [.pt (Pl.c (plS t n))])),(4, .d (.v (.slice none 0 0)))]) (by kernel_rfl) (rs1 R (RV.tmp R R)) ?_).2
 refine za R R<|zn<|zs<|zr<|zm R R<|zp (Bi R R R)<|zn<|?_
 refine zd R (fun c12d=> ?_) (fun c12d=> ?_)
 exfalso;omega
 refine zi<|zs<|zr<|zm R R<|zp (Al R R R (by omega) (by omega))<|za R R<|zn<|Ah<|?_
 refine Az (α:=Nat × Nat × List Cf) (fun p=>DelG (cfK (plS t n).len) (x0.clefs) p.1 p.2.1 p.2.2) (fun p=>mkF [(0, .own 7501),(1, .d (.fn 65 [] [.pt (Pl.c (plS t n))])),(4, .d (.v (.slice none 0 0))),(5, .d (dI p.2.1)),(6, .d (dI p.1))]) (fun p=>mkH [(6, .box [.d (dI 0), .d (dI 0), .d (dI 0), .d (dI 0), .d (dI 0), .d (dI 0), .d (dI 0), .d (dI 0), .d (dI 0), .d (dI 0), .d (dI 0), .d (dI 0), .d (dB false), .d (dI 0), .d (dI 0), .d (dI 0), .d (dI 0), .d (dI 0), .d (dI 0), .d (.v (.string ⟨#[]⟩)), .d (.v (.slice none 0 0)), .d (.v (.slice none 0 0))]),(10, .box [.d (dI (m.h.sh t n).site), .d (dI (m.h.sh t n).num), .d (dI (m.h.sh t n).m.count), .d (dI (m.h.sh t n).m.unit), .d (dI (m.h.sh t n).m.g0), .d (dI (m.h.sh t n).m.g1), .d (dI (m.h.sh t n).m.g2), .d (dI (m.h.sh t n).m.g3), .d (dI (m.h.sh t n).m.g4), .d (dI (m.h.sh t n).m.g5), .d (dI (m.h.sh t n).len), .d (dI (m.h.sh t n).fifths), .d (dB (m.h.sh t n).start), .d (dI (m.h.sh t n).fin), .d (dI (m.h.sh t n).ends), .d (dI (m.h.sh t n).jump), .d (dI (m.h.sh t n).labels), .d (dI (m.h.sh t n).swing), .d (dI (m.h.sh t n).brk), .d (.v (.string ⟨(m.h.sh t n).reh.toArray⟩)), .own 7401, .own 7402]),(7401, .row 119 3 ((m.tempi).map Tm.c)),(7402, .tree 78 2 [] ((mix Ce.u Ce.t ((m.cells.take k).map (Cw (plS m.h.m m.h.len) (plS t n))) (m.cells.drop k)).set k [.any, .d (.sl 2 (((Cw (plS m.h.m m.h.len) (plS t n)) x0).voices.map Vo.c))])),(7501, .row 84 2 (p.2.2.map Cf.c)),(900003, .ghost u3 [(6, .ptr 6 0 0),(8, .d (.pt (Pl.c (plS m.h.m m.h.len)))),(10, .ptr 10 0 0),(11, .d (.pt (Pl.c (plS t n)))),(47, .d (dI m.cells.length)),(48, .d (dI k)),(87, .ptr 7402 k 0)])]) (fun p=>(x0.clefs).length - p.1) ((q+1,q,x0.clefs)) (DelG.start hy (Alb c16x) hfk) ?_ ?_ ?_
 exact fz ⟨sr,sr,sr,sr,sr,trivial⟩
 exact gz ⟨R,R,R,R,R,R,trivial⟩
 intro p hk0d
 have hD:=hk0d
 have hlt:=hD.lt
 have hle:=hD.le
 have hlen:=hD.len
 refine zs<|zr<|zm R R<|zp (As R (by conv=>lhs;whnf))<|?_
 refine zp (Bz R R R Tryz.underlying75)<|zp (Au R R R)<|zn<|?_
 refine zd R (fun c19d=> ?_) (fun c19d=> ?_)
 obtain ⟨z,hz⟩:∃z,(x0.clefs)[p.1]? =some z:=Ar (by omega)
 obtain ⟨w,hw⟩:∃w,p.2.2[p.2.1]? =some w:=Ar (by omega)
 refine zi<|zs<|Ah<|zr<|zp (As R (by conv=>lhs;whnf))<|?_
 refine zm R R<|zp (Ck R R R (R) R Lc (by have:=hD.len;omega))<|zp (Ae (s':= .d (.agg (Cf.c z))) (Ew R R Lx R (C2 (hD.get hz)) lb) (by kernel_rfl))<|XL.step R (Aq 3007 (l:= [.d (dI 0), .d (dI 0)]) R Oq (by kernel_rfl))<|XL.step R (Af (l':= [.d (dI z.tk), .d (dI z.clef)]) R R R R Xy R lb (by kernel_rfl))<|znr<|zm R R<|?_
 refine zp (Ae (s':= .d (.agg (Cf.c z))) (Ac (Ad R R Lx R lb)) (by kernel_rfl))<|XL.callv1 (ds:= [_]) R R R (Af2 _ _) R<|zp (En R R)<|zn<|?_
 refine zd R (fun c29d=> ?_) (fun c29d=> ?_)
 refine zr<|zp (As R (by conv=>lhs;whnf))<|?_
 refine zm R R<|zp (Ae (s':= .d (.agg (Cf.c z))) (Ac (Ad R R Lx R lb)) (by kernel_rfl))<|zp (Ck R R R (R) R Lc (by have:=hD.lt;have:=hD.len;omega))<|XL.step R (D8 R R R (C2 hw) R R Xy R lb)<|zng<|zm R R<|zp (Al R R R (by omega) (by omega))<|za R R<|zn<|Ag (by kernel_rfl)<|zm R R<|zp (Al R R R (by omega) (by omega))<|za R R<|zn<|?_
 exact Am ((p.1+1,p.2.1+1,p.2.2.set p.2.1 z)) (hD.put hz (Agf c29d)) (by show (x0.clefs).length - (p.1+1)<(x0.clefs).length - p.1;omega) (fz ⟨sr,sr,sr,sr,sr,trivial⟩) (gz ⟨R,R,R,R,Od R R,R,trivial⟩)
 refine zi<|Ag (by kernel_rfl)<|zm R R<|zp (Al R R R (by omega) (by omega))<|za R R<|zn<|?_
 exact Am ((p.1+1,p.2.1,p.2.2)) (hD.keep hz (Alb (Decidable.not_not.1 c29d))) (by show (x0.clefs).length - (p.1+1)<(x0.clefs).length - p.1;omega) (fz ⟨sr,sr,sr,sr,sr,trivial⟩) (gz ⟨R,R,R,R,R,R,trivial⟩)
 have hfin:=hD.fin (by omega)
 refine At<|zr<|zp (As R (by conv=>lhs;whnf))<|?_
 refine zm R R<|zp (Ll R R R Lc (Bd.at R) Bd.no (by rw [List.length_map];have:=hD.lt;have:=hD.le;have:=hD.len;omega) (Nat.le_refl _))<|XL.step R (S9 (l2:=(p.2.2.take p.2.1++List.replicate (p.2.2.length - p.2.1) (⟨0,0⟩:Cf)).map Cf.c) (zs:= [dI 0,dI 0]) R (.sub R) Tryz.underlying75 Oq (by kernel_rfl) (by kernel_rfl) (by decide) (by omega) (hD.clr R))<|znr<|?_
 refine zp (As R (by conv=>lhs;whnf))<|?_
 refine zm R R<|XL.step R (Ox R R R Lc (.at R) (by rw [List.length_map,List.length_append,List.length_take,List.length_replicate];have:=hD.lt;have:=hD.le;have:=hD.len;omega))<|zp (Aw R (by conv=>lhs;whnf))<|?_
 refine zn<|zt<|?_
 refine (Dr (l:= [(6, .ptr 6 0 0),(8, .d (.pt (Pl.c (plS m.h.m m.h.len)))),(10, .ptr 10 0 0),(11, .d (.pt (Pl.c (plS t n)))),(47, .d (dI m.cells.length)),(48, .d (dI k)),(87, .ptr 7402 k 0)]) (by kernel_rfl) (Cs R (RVS.tmp R R)) ?_).2
 refine zp (Fn R R)<|zp (Aa R R Ea)<|XL.step R (Jh [7501] (l':=(mix Ce.u Ce.t ((m.cells.take k).map (Cw (plS m.h.m m.h.len) (plS t n))) (m.cells.drop k)).set k [.own 7501, .d (.sl 2 (((Cw (plS m.h.m m.h.len) (plS t n)) x0).voices.map Vo.c))]) R R R (B1 (De hx0)) R Xz R lb R R (List.set_set ..))<|zn<|Ag (by kernel_rfl)<|?_
 refine XL.rowq (i:=7501) (l':=(((Cw (plS m.h.m m.h.len) (plS t n)) x0).clefs).map Cf.c) R (by first|exact hD.cut.trans (congrArg (List.map Cf.c) hfin)|exact congrArg (List.map Cf.c) hfx.symm)<|XL.freeze (i:=7501) R<|?_
 refine XL.rowqT (i:=7402) (l':=(mix Ce.u Ce.t ((m.cells.take k).map (Cw (plS m.h.m m.h.len) (plS t n))) (m.cells.drop k)).set k [.d (.sl 2 ((((Cw (plS m.h.m m.h.len) (plS t n)) x0).clefs).map Cf.c)), .d (.sl 2 (((Cw (plS m.h.m m.h.len) (plS t n)) x0).voices.map Vo.c))]) [] R (F0 (Ed [] _ _) R) (Cv (Ed [] _ _) (Ee (R) (R)) _)<|?_
 refine XL.rowqT (i:=7402) (l':=mix Ce.u Ce.t ((m.cells.take (k+1)).map (Cw (plS m.h.m m.h.len) (plS t n))) (m.cells.drop (k+1))) [] R (Jr hx0) (Ed [] _ _)<|zp (Al R R R (by omega) (by omega))<|zm R R<|zn<|?_
 exact Am (k+1) (⟨by omega,by rw [←Aab hx0 (by rw [←hgv,hk2b,List.drop_length];rfl)];exact hgo⟩) (by omega) (fz ⟨sr,sr,sr,sr,sr,sr,trivial⟩) (gz ⟨rfl,rfl,rfl,rfl,trivial⟩)
 refine zi<|Ag (by kernel_rfl)<|zp (Al R R R (by omega) (by omega))<|zm R R<|zn<|?_
 exact Am (q+1) (⟨by omega,by rw [T9 hy (Agf c16x),hfk, ←B3 hy]⟩) (by omega) (fz ⟨sr,sr,sr,sr,trivial⟩) (gz ⟨rfl,rfl,rfl,rfl,rfl,rfl,rfl,trivial⟩)
 have hfx:(x0.clefs).filter (cfK (plS t n).len)=x0.clefs:=by rw [show q=(x0.clefs).length by omega,List.take_length] at hfk;exact hfk
 refine At<|zr<|za R R<|zn<|zt<|?_
 refine (Dr (l:= [(0, .own 7501),(1, .d (.fn 65 [] [.pt (Pl.c (plS t n))])),(4, .d (.v (.slice none 0 0)))]) (by kernel_rfl) (rs1 R (RV.tmp R R)) ?_).2
 refine za R R<|zn<|zs<|zr<|zm R R<|zp (Ec (Bi R R R) (by decide))<|zn<|Av (by kernel_rfl) R<|zr<|zp (As R (by conv=>lhs;whnf))<|?_
 refine zp (Aw R (by conv=>lhs;whnf))<|?_
 refine zn<|zt<|?_
 refine (Dr (l:= [(6, .ptr 6 0 0),(8, .d (.pt (Pl.c (plS m.h.m m.h.len)))),(10, .ptr 10 0 0),(11, .d (.pt (Pl.c (plS t n)))),(47, .d (dI m.cells.length)),(48, .d (dI k)),(87, .ptr 7402 k 0)]) (by kernel_rfl) (Cs R (RVS.tmp R R)) ?_).2
 refine zp (Fn R R)<|zp (Aa R R Ea)<|XL.step R (Jh [7501] (l':=(mix Ce.u Ce.t ((m.cells.take k).map (Cw (plS m.h.m m.h.len) (plS t n))) (m.cells.drop k)).set k [.own 7501, .d (.sl 2 (((Cw (plS m.h.m m.h.len) (plS t n)) x0).voices.map Vo.c))]) R R R (B1 (De hx0)) R Xz R lb R R (List.set_set ..))<|zn<|Ag (by kernel_rfl)<|?_
 refine XL.rowq (i:=7501) (l':=(((Cw (plS m.h.m m.h.len) (plS t n)) x0).clefs).map Cf.c) R (by first|exact hD.cut.trans (congrArg (List.map Cf.c) hfin)|exact congrArg (List.map Cf.c) hfx.symm)<|XL.freeze (i:=7501) R<|?_
 refine XL.rowqT (i:=7402) (l':=(mix Ce.u Ce.t ((m.cells.take k).map (Cw (plS m.h.m m.h.len) (plS t n))) (m.cells.drop k)).set k [.d (.sl 2 ((((Cw (plS m.h.m m.h.len) (plS t n)) x0).clefs).map Cf.c)), .d (.sl 2 (((Cw (plS m.h.m m.h.len) (plS t n)) x0).voices.map Vo.c))]) [] R (F0 (Ed [] _ _) R) (Cv (Ed [] _ _) (Ee (R) (R)) _)<|?_
 refine XL.rowqT (i:=7402) (l':=mix Ce.u Ce.t ((m.cells.take (k+1)).map (Cw (plS m.h.m m.h.len) (plS t n))) (m.cells.drop (k+1))) [] R (Jr hx0) (Ed [] _ _)<|zp (Al R R R (by omega) (by omega))<|zm R R<|zn<|?_
 exact Am (k+1) (⟨by omega,by rw [←Aab hx0 (by rw [←hgv,hk2b,List.drop_length];rfl)];exact hgo⟩) (by omega) (fz ⟨sr,sr,sr,sr,sr,sr,trivial⟩) (gz ⟨rfl,rfl,rfl,rfl,trivial⟩)
 have hk0b:k=m.cells.length:=by omega
 refine At<|zr<|zp (Aa R R C8)<|zp (Ab R R Ht R R)<|zp (Ph (pd:= []) (cd:= [_]) R R R)<|XL.inl 900005 [(6, .ptr 6 0 0),(10, .ptr 10 0 0)] R R .d Aef Tryz.func66 R R lb (by simp only [List.forall_mem_cons];exact ⟨⟨Nat.le_of_ble_eq_true rfl,rfl⟩,⟨⟨Nat.le_of_ble_eq_true rfl,rfl⟩,fun p hp=>(by cases hp)⟩⟩) fun u5=>zr<|za R R<|znr<|?_
 refine zp (As R (by conv=>lhs;whnf))<|?_
 refine zm R R<|XL.inl 900006 [(0, .own 7401),(1, .d (.fn 67 [] [.pt (Pl.c (plS t n))])),(4, .d (.v (.slice none 0 0)))] R R .d Ac1 Tryz.func100 R R lb (by simp only [List.forall_mem_cons];exact ⟨⟨Nat.le_of_ble_eq_true rfl,rfl⟩,⟨⟨Nat.le_of_ble_eq_true rfl,rfl⟩,⟨⟨Nat.le_of_ble_eq_true rfl,rfl⟩,fun p hp=>(by cases hp)⟩⟩⟩) fun u6=>zr<|za R R<|zn<|zs<|zr<|?_
 refine zp (As R (by conv=>lhs;whnf))<|?_
 refine zp (Bz R R R Tryz.underlying27)<|zm R R<|zn<|Ah<|?_
 refine Az (α:=Nat) (fun q=>q≤(m.tempi).length∧((m.tempi).take q).filter (tmK (plS t n).len)=(m.tempi).take q) (fun q=>mkF [(0, .own 7401),(1, .d (.fn 67 [] [.pt (Pl.c (plS t n))])),(7, .d (dI m.tempi.length)),(8, .d (dI q))]) (fun q=>mkH [(6, .box [.d (dI 0), .d (dI 0), .d (dI 0), .d (dI 0), .d (dI 0), .d (dI 0), .d (dI 0), .d (dI 0), .d (dI 0), .d (dI 0), .d (dI 0), .d (dI 0), .d (dB false), .d (dI 0), .d (dI 0), .d (dI 0), .d (dI 0), .d (dI 0), .d (dI 0), .d (.v (.string ⟨#[]⟩)), .d (.v (.slice none 0 0)), .d (.v (.slice none 0 0))]),(10, .box [.d (dI (m.h.sh t n).site), .d (dI (m.h.sh t n).num), .d (dI (m.h.sh t n).m.count), .d (dI (m.h.sh t n).m.unit), .d (dI (m.h.sh t n).m.g0), .d (dI (m.h.sh t n).m.g1), .d (dI (m.h.sh t n).m.g2), .d (dI (m.h.sh t n).m.g3), .d (dI (m.h.sh t n).m.g4), .d (dI (m.h.sh t n).m.g5), .d (dI (m.h.sh t n).len), .d (dI (m.h.sh t n).fifths), .d (dB (m.h.sh t n).start), .d (dI (m.h.sh t n).fin), .d (dI (m.h.sh t n).ends), .d (dI (m.h.sh t n).jump), .d (dI (m.h.sh t n).labels), .d (dI (m.h.sh t n).swing), .d (dI (m.h.sh t n).brk), .d (.v (.string ⟨(m.h.sh t n).reh.toArray⟩)), .own 7401, .own 7402]),(7401, .row 119 3 ((m.tempi).map Tm.c)),(7402, .tree 78 2 [] (mix Ce.u Ce.t ((m.cells.take k).map (Cw (plS m.h.m m.h.len) (plS t n))) (m.cells.drop k))),(900005, .ghost u5 [(6, .ptr 6 0 0),(10, .ptr 10 0 0)]),(900006, .ghost u6 [(0, .own 7401),(1, .d (.fn 67 [] [.pt (Pl.c (plS t n))])),(4, .d (.v (.slice none 0 0)))])]) (fun q=>(m.tempi).length - q) (0) (⟨Nat.zero_le _,R⟩) ?_ ?_ ?_
 exact fz ⟨sr,sr,sr,sr,trivial⟩
 exact gz ⟨R,R,R,R,R,R,trivial⟩
 intro q hk0x
 obtain ⟨hk,hfk⟩:=hk0x
 refine zr<|zp (Au R R R)<|zn<|zs<|?_
 refine zd R (fun c9x=> ?_) (fun c9x=> ?_)
 obtain ⟨y,hy⟩:∃y,(m.tempi)[q]? =some y:=Ar (by omega)
 refine zi<|zs<|Ah<|zr<|zm R R<|za R R<|znr<|zm R R<|zp (As R (by conv=>lhs;whnf))<|?_
 refine zm R R<|zp (Ck R R R (R) R Kq (by omega))<|zp (Ae (s':= .d (.agg (Tm.c y))) (Ew R R J6 R (C2 (hy)) lb) (by kernel_rfl))<|XL.callv1 (ds:= [_]) R R R (Af1 _ _) R<|zn<|?_
 refine zd R (fun c16x=> ?_) (fun c16x=> ?_)
 refine zr<|zm R R<|za R R<|zn<|zt<|?_
 refine (Dr (l:= [(0, .own 7401),(1, .d (.fn 67 [] [.pt (Pl.c (plS t n))])),(4, .d (.v (.slice none 0 0)))]) (by kernel_rfl) (rs1 R (RV.tmp R R)) ?_).2
 refine za R R<|zn<|zs<|zr<|zm R R<|zp (Bi R R R)<|zn<|?_
 refine zd R (fun c12d=> ?_) (fun c12d=> ?_)
 exfalso;omega
 refine zi<|zs<|zr<|zm R R<|zp (Al R R R (by omega) (by omega))<|za R R<|zn<|Ah<|?_
 refine Az (α:=Nat × Nat × List Tm) (fun p=>DelG (tmK (plS t n).len) (m.tempi) p.1 p.2.1 p.2.2) (fun p=>mkF [(0, .own 7401),(1, .d (.fn 67 [] [.pt (Pl.c (plS t n))])),(4, .d (.v (.slice none 0 0))),(5, .d (dI p.2.1)),(6, .d (dI p.1))]) (fun p=>mkH [(6, .box [.d (dI 0), .d (dI 0), .d (dI 0), .d (dI 0), .d (dI 0), .d (dI 0), .d (dI 0), .d (dI 0), .d (dI 0), .d (dI 0), .d (dI 0), .d (dI 0), .d (dB false), .d (dI 0), .d (dI 0), .d (dI 0), .d (dI 0), .d (dI 0), .d (dI 0), .d (.v (.string ⟨#[]⟩)), .d (.v (.slice none 0 0)), .d (.v (.slice none 0 0))]),(10, .box [.d (dI (m.h.sh t n).site), .d (dI (m.h.sh t n).num), .d (dI (m.h.sh t n).m.count), .d (dI (m.h.sh t n).m.unit), .d (dI (m.h.sh t n).m.g0), .d (dI (m.h.sh t n).m.g1), .d (dI (m.h.sh t n).m.g2), .d (dI (m.h.sh t n).m.g3), .d (dI (m.h.sh t n).m.g4), .d (dI (m.h.sh t n).m.g5), .d (dI (m.h.sh t n).len), .d (dI (m.h.sh t n).fifths), .d (dB (m.h.sh t n).start), .d (dI (m.h.sh t n).fin), .d (dI (m.h.sh t n).ends), .d (dI (m.h.sh t n).jump), .d (dI (m.h.sh t n).labels), .d (dI (m.h.sh t n).swing), .d (dI (m.h.sh t n).brk), .d (.v (.string ⟨(m.h.sh t n).reh.toArray⟩)), .own 7401, .own 7402]),(7401, .row 119 3 (p.2.2.map Tm.c)),(7402, .tree 78 2 [] (mix Ce.u Ce.t ((m.cells.take k).map (Cw (plS m.h.m m.h.len) (plS t n))) (m.cells.drop k))),(900005, .ghost u5 [(6, .ptr 6 0 0),(10, .ptr 10 0 0)])]) (fun p=>(m.tempi).length - p.1) ((q+1,q,m.tempi)) (DelG.start hy (Ais c16x) hfk) ?_ ?_ ?_
 exact fz ⟨sr,sr,sr,sr,sr,trivial⟩
 exact gz ⟨R,R,R,R,R,trivial⟩
 intro p hk0d
 have hD:=hk0d
 have hlt:=hD.lt
 have hle:=hD.le
 have hlen:=hD.len
 refine zs<|zr<|zm R R<|zp (As R (by conv=>lhs;whnf))<|?_
 refine zp (Bz R R R Tryz.underlying27)<|zp (Au R R R)<|zn<|?_
 refine zd R (fun c19d=> ?_) (fun c19d=> ?_)
 obtain ⟨z,hz⟩:∃z,(m.tempi)[p.1]? =some z:=Ar (by omega)
 obtain ⟨w,hw⟩:∃w,p.2.2[p.2.1]? =some w:=Ar (by omega)
 refine zi<|zs<|Ah<|zr<|zp (As R (by conv=>lhs;whnf))<|?_
 refine zm R R<|zp (Ck R R R (R) R Kq (by have:=hD.len;omega))<|zp (Ae (s':= .d (.agg (Tm.c z))) (Ew R R J6 R (C2 (hD.get hz)) lb) (by kernel_rfl))<|XL.step R (Aq 5007 (l:= [.d (dI 0), .d (dI 0), .d (dB false)]) R Mr (by kernel_rfl))<|XL.step R (Af (l':= [.d (dI z.tk), .d (dI z.micros), .d (dB z.ramp)]) R R R R Qa R lb (by kernel_rfl))<|?_
 refine znr<|zm R R<|zp (Ae (s':= .d (.agg (Tm.c z))) (Ac (Ad R R J6 R lb)) (by kernel_rfl))<|XL.callv1 (ds:= [_]) R R R (Af1 _ _) R<|zp (En R R)<|zn<|?_
 refine zd R (fun c29d=> ?_) (fun c29d=> ?_)
 refine zr<|zp (As R (by conv=>lhs;whnf))<|?_
 refine zm R R<|zp (Ae (s':= .d (.agg (Tm.c z))) (Ac (Ad R R J6 R lb)) (by kernel_rfl))<|zp (Ck R R R (R) R Kq (by have:=hD.lt;have:=hD.len;omega))<|XL.step R (D8 R R R (C2 hw) R R Qa R lb)<|zng<|zm R R<|zp (Al R R R (by omega) (by omega))<|za R R<|zn<|Ag (by kernel_rfl)<|zm R R<|zp (Al R R R (by omega) (by omega))<|za R R<|zn<|?_
 exact Am ((p.1+1,p.2.1+1,p.2.2.set p.2.1 z)) (hD.put hz (Afd c29d)) (by show (m.tempi).length - (p.1+1)<(m.tempi).length - p.1;omega) (fz ⟨sr,sr,sr,sr,sr,trivial⟩) (gz ⟨R,R,Od R R,R,R,trivial⟩)
 refine zi<|Ag (by kernel_rfl)<|zm R R<|zp (Al R R R (by omega) (by omega))<|za R R<|zn<|?_
 exact Am ((p.1+1,p.2.1,p.2.2)) (hD.keep hz (Ais (Decidable.not_not.1 c29d))) (by show (m.tempi).length - (p.1+1)<(m.tempi).length - p.1;omega) (fz ⟨sr,sr,sr,sr,sr,trivial⟩) (gz ⟨R,R,R,R,R,trivial⟩)
 have hfin:=hD.fin (by omega)
 refine At<|zr<|zp (As R (by conv=>lhs;whnf))<|?_
 refine zm R R<|zp (Ll R R R Kq (Bd.at R) Bd.no (by rw [List.length_map];have:=hD.lt;have:=hD.le;have:=hD.len;omega) (Nat.le_refl _))<|XL.step R (S9 (l2:=(p.2.2.take p.2.1++List.replicate (p.2.2.length - p.2.1) (⟨0,0,false⟩:Tm)).map Tm.c) (zs:= [dI 0,dI 0,dB false]) R (.sub R) Tryz.underlying27 Mr (by kernel_rfl) (by kernel_rfl) (by decide) (by omega) (hD.clr R))<|?_
 refine znr<|zp (As R (by conv=>lhs;whnf))<|?_
 refine zm R R<|XL.step R (Ox R R R Kq (.at R) (by rw [List.length_map,List.length_append,List.length_take,List.length_replicate];have:=hD.lt;have:=hD.le;have:=hD.len;omega))<|zp (Aw R (by conv=>lhs;whnf))<|?_
 refine zn<|zt<|?_
 refine (Dr (l:= [(6, .ptr 6 0 0),(10, .ptr 10 0 0)]) (by kernel_rfl) (Cs R (RVS.tmp R R)) ?_).2
 refine zp (Aa R R C8)<|?_
 refine XL.step R (Af (l':= [.d (dI (m.h.sh t n).site), .d (dI (m.h.sh t n).num), .d (dI (m.h.sh t n).m.count), .d (dI (m.h.sh t n).m.unit), .d (dI (m.h.sh t n).m.g0), .d (dI (m.h.sh t n).m.g1), .d (dI (m.h.sh t n).m.g2), .d (dI (m.h.sh t n).m.g3), .d (dI (m.h.sh t n).m.g4), .d (dI (m.h.sh t n).m.g5), .d (dI (m.h.sh t n).len), .d (dI (m.h.sh t n).fifths), .d (dB (m.h.sh t n).start), .d (dI (m.h.sh t n).fin), .d (dI (m.h.sh t n).ends), .d (dI (m.h.sh t n).jump), .d (dI (m.h.sh t n).labels), .d (dI (m.h.sh t n).swing), .d (dI (m.h.sh t n).brk), .d (.v (.string ⟨(m.h.sh t n).reh.toArray⟩)), .own 7401, .own 7402]) R R R R Un R lb (by kernel_rfl))<|?_
 refine znr<|XL.rowq (i:=7401) (l':=(m.tempi.filter (tmK (plS t n).len)).map Tm.c) R (by first|exact hD.cut.trans (congrArg (List.map Tm.c) hfin)|exact congrArg (List.map Tm.c) hfx.symm)<|XL.freeze (i:=7401) R<|XL.freezeT (i:=7402) R (Rt _ _) (by rw [U0,hk0b,List.take_length,List.drop_length,List.append_nil])<|?_
 refine zp (Ae (s':= .d (.agg [dI (m.h.sh t n).site,dI (m.h.sh t n).num,dI (m.h.sh t n).m.count,dI (m.h.sh t n).m.unit,dI (m.h.sh t n).m.g0,dI (m.h.sh t n).m.g1,dI (m.h.sh t n).m.g2,dI (m.h.sh t n).m.g3,dI (m.h.sh t n).m.g4,dI (m.h.sh t n).m.g5,dI (m.h.sh t n).len,dI (m.h.sh t n).fifths,dB (m.h.sh t n).start,dI (m.h.sh t n).fin,dI (m.h.sh t n).ends,dI (m.h.sh t n).jump,dI (m.h.sh t n).labels,dI (m.h.sh t n).swing,dI (m.h.sh t n).brk, .v (.string ⟨(m.h.sh t n).reh.toArray⟩), .sl 3 ((m.tempi.filter (tmK (plS t n).len)).map Tm.c), .sl 2 ((m.cells.map (Cw (plS m.h.m m.h.len) (plS t n))).map Ce.c)])) (Ac (Ad R R Bj R lb)) (by kernel_rfl))<|?_
 refine XL.step R (Af (l':= [.d (dI (m.h.sh t n).site), .d (dI (m.h.sh t n).num), .d (dI (m.h.sh t n).m.count), .d (dI (m.h.sh t n).m.unit), .d (dI (m.h.sh t n).m.g0), .d (dI (m.h.sh t n).m.g1), .d (dI (m.h.sh t n).m.g2), .d (dI (m.h.sh t n).m.g3), .d (dI (m.h.sh t n).m.g4), .d (dI (m.h.sh t n).m.g5), .d (dI (m.h.sh t n).len), .d (dI (m.h.sh t n).fifths), .d (dB (m.h.sh t n).start), .d (dI (m.h.sh t n).fin), .d (dI (m.h.sh t n).ends), .d (dI (m.h.sh t n).jump), .d (dI (m.h.sh t n).labels), .d (dI (m.h.sh t n).swing), .d (dI (m.h.sh t n).brk), .d (.v (.string ⟨(m.h.sh t n).reh.toArray⟩)), .d (.sl 3 ((m.tempi.filter (tmK (plS t n).len)).map Tm.c)), .d (.sl 2 ((m.cells.map (Cw (plS m.h.m m.h.len) (plS t n))).map Ce.c))]) R R R R E9 R lb (by kernel_rfl))<|?_
 refine za R R<|zn<|zt<|?_
 exact A6 R (RV.cells R R R Bj lb R) (RV.tmp R R) (Vv (Asv c21 c33 (by rw [←hgo,hk0b,List.drop_length];rfl)))
 refine zi<|Ag (by kernel_rfl)<|zp (Al R R R (by omega) (by omega))<|zm R R<|zn<|?_
 exact Am (q+1) (⟨by omega,by rw [T9 hy (Afd c16x),hfk, ←B3 hy]⟩) (by omega) (fz ⟨sr,sr,sr,sr,trivial⟩) (gz ⟨rfl,rfl,rfl,rfl,rfl,rfl,trivial⟩)
 have hfx:(m.tempi).filter (tmK (plS t n).len)=m.tempi:=by rw [show q=(m.tempi).length by omega,List.take_length] at hfk;exact hfk
 refine At<|zr<|za R R<|zn<|zt<|?_
 refine (Dr (l:= [(0, .own 7401),(1, .d (.fn 67 [] [.pt (Pl.c (plS t n))])),(4, .d (.v (.slice none 0 0)))]) (by kernel_rfl) (rs1 R (RV.tmp R R)) ?_).2
 refine za R R<|zn<|zs<|zr<|zm R R<|zp (Ec (Bi R R R) (by decide))<|zn<|Av (by kernel_rfl) R<|zr<|zp (As R (by conv=>lhs;whnf))<|?_
 refine zp (Aw R (by conv=>lhs;whnf))<|?_
 refine zn<|zt<|?_
 refine (Dr (l:= [(6, .ptr 6 0 0),(10, .ptr 10 0 0)]) (by kernel_rfl) (Cs R (RVS.tmp R R)) ?_).2
 refine zp (Aa R R C8)<|?_
 refine XL.step R (Af (l':= [.d (dI (m.h.sh t n).site), .d (dI (m.h.sh t n).num), .d (dI (m.h.sh t n).m.count), .d (dI (m.h.sh t n).m.unit), .d (dI (m.h.sh t n).m.g0), .d (dI (m.h.sh t n).m.g1), .d (dI (m.h.sh t n).m.g2), .d (dI (m.h.sh t n).m.g3), .d (dI (m.h.sh t n).m.g4), .d (dI (m.h.sh t n).m.g5), .d (dI (m.h.sh t n).len), .d (dI (m.h.sh t n).fifths), .d (dB (m.h.sh t n).start), .d (dI (m.h.sh t n).fin), .d (dI (m.h.sh t n).ends), .d (dI (m.h.sh t n).jump), .d (dI (m.h.sh t n).labels), .d (dI (m.h.sh t n).swing), .d (dI (m.h.sh t n).brk), .d (.v (.string ⟨(m.h.sh t n).reh.toArray⟩)), .own 7401, .own 7402]) R R R R Un R lb (by kernel_rfl))<|?_
 refine znr<|XL.rowq (i:=7401) (l':=(m.tempi.filter (tmK (plS t n).len)).map Tm.c) R (by first|exact hD.cut.trans (congrArg (List.map Tm.c) hfin)|exact congrArg (List.map Tm.c) hfx.symm)<|XL.freeze (i:=7401) R<|XL.freezeT (i:=7402) R (Rt _ _) (by rw [U0,hk0b,List.take_length,List.drop_length,List.append_nil])<|?_
 refine zp (Ae (s':= .d (.agg [dI (m.h.sh t n).site,dI (m.h.sh t n).num,dI (m.h.sh t n).m.count,dI (m.h.sh t n).m.unit,dI (m.h.sh t n).m.g0,dI (m.h.sh t n).m.g1,dI (m.h.sh t n).m.g2,dI (m.h.sh t n).m.g3,dI (m.h.sh t n).m.g4,dI (m.h.sh t n).m.g5,dI (m.h.sh t n).len,dI (m.h.sh t n).fifths,dB (m.h.sh t n).start,dI (m.h.sh t n).fin,dI (m.h.sh t n).ends,dI (m.h.sh t n).jump,dI (m.h.sh t n).labels,dI (m.h.sh t n).swing,dI (m.h.sh t n).brk, .v (.string ⟨(m.h.sh t n).reh.toArray⟩), .sl 3 ((m.tempi.filter (tmK (plS t n).len)).map Tm.c), .sl 2 ((m.cells.map (Cw (plS m.h.m m.h.len) (plS t n))).map Ce.c)])) (Ac (Ad R R Bj R lb)) (by kernel_rfl))<|?_
 refine XL.step R (Af (l':= [.d (dI (m.h.sh t n).site), .d (dI (m.h.sh t n).num), .d (dI (m.h.sh t n).m.count), .d (dI (m.h.sh t n).m.unit), .d (dI (m.h.sh t n).m.g0), .d (dI (m.h.sh t n).m.g1), .d (dI (m.h.sh t n).m.g2), .d (dI (m.h.sh t n).m.g3), .d (dI (m.h.sh t n).m.g4), .d (dI (m.h.sh t n).m.g5), .d (dI (m.h.sh t n).len), .d (dI (m.h.sh t n).fifths), .d (dB (m.h.sh t n).start), .d (dI (m.h.sh t n).fin), .d (dI (m.h.sh t n).ends), .d (dI (m.h.sh t n).jump), .d (dI (m.h.sh t n).labels), .d (dI (m.h.sh t n).swing), .d (dI (m.h.sh t n).brk), .d (.v (.string ⟨(m.h.sh t n).reh.toArray⟩)), .d (.sl 3 ((m.tempi.filter (tmK (plS t n).len)).map Tm.c)), .d (.sl 2 ((m.cells.map (Cw (plS m.h.m m.h.len) (plS t n))).map Ce.c))]) R R R R E9 R lb (by kernel_rfl))<|?_
 refine za R R<|zn<|zt<|?_
 exact A6 R (RV.cells R R R Bj lb R) (RV.tmp R R) (Vv (Asv c21 c33 (by rw [←hgo,hk0b,List.drop_length];rfl)))
end Go.Proofs.YtaafemnkamfgnaaGreat
namespace Go.Proofs.YtaafemnkamfgnaaGreat
open Go.RowKit
def kR (n:Int) (v:Val):Ev:=⟨1,n,2,v, [], [],0,0,0, [],0,0⟩
def Vt:Vo:=⟨[kR 1 ⟨1,0⟩,kR 2 ⟨2,0⟩], []⟩
def Vs:Vo:=⟨[kR 3 ⟨1,1⟩], []⟩
def kCe:Ce:=⟨[], [Vt,Vs]⟩
def kMe:Me:=⟨3,4,0,0,0,0,0,0⟩
def Kl:Me:=⟨4,4,0,0,0,0,0,0⟩
def kM:Ms:=⟨⟨0,0,kMe,0,0,false,0,0,0,0,0,0, []⟩, [], [kCe]⟩
def kSl:List Slt:= [⟨0,0,0,0,967680⟩,⟨0,0,1,967680,1451520⟩,⟨0,1,0,0,1451520⟩]
theorem Aka (n:Int) (v:Val):(kR n v).fit:=⟨Nat.zero_le _,Nat.zero_le _,Nat.zero_le _⟩
theorem Zy : kM.fit := ⟨by decide, by decide, fun c hc => by
 have:=List.mem_singleton.1 hc;subst this
 refine ⟨by decide,by decide,fun v hv=> ?_⟩
 simp only [kCe,List.mem_cons,List.not_mem_nil,or_false] at hv
 rcases hv with rfl|rfl
 ·exact ⟨by decide,by decide,fun e he=>by simp only [Vt,List.mem_cons,List.not_mem_nil,or_false] at he;rcases he with rfl|rfl<;>exact Aka _ _⟩
 ·exact ⟨by decide, by decide, fun e he => by simp only [Vs, List.mem_cons, List.not_mem_nil, or_false] at he; rcases he with rfl; exact Aka _ _⟩⟩
theorem Zz:kM.evs:=fun c hc v hv e he=>by
 have:=List.mem_singleton.1 hc;subst this
 simp only [kCe,List.mem_cons,List.not_mem_nil,or_false] at hv
 rcases hv with rfl|rfl
 ·simp only [Vt,List.mem_cons,List.not_mem_nil,or_false] at he;rcases he with rfl|rfl<;>decide
 ·simp only [Vs,List.mem_cons,List.not_mem_nil,or_false] at he;rcases he with rfl;decide
theorem Aj8:slE kM=0:=by decide+kernel
theorem Aj7:slL kM=kSl:=by decide+kernel
theorem Asl:mlE kMe 0=0:=by decide+kernel
theorem Ask:mlV kMe 0=1451520:=by decide+kernel
theorem Asm:Aao kM= [0,967680]:=by
 unfold Aao
 rw [Aj7,show kSl.map (·.on)= [0,967680,0] from rfl]
 have h1:srt [0,967680,0]= [0,0,967680]:=by
  have hp:([0,967680,0]:List Int).Perm [0,0,967680]:=by decide
  have e1:srt [0,967680,0]=srt [0,0,967680]:=by
   refine List.Perm.eq_of_pairwise (le:=fun a b=>decide (a≤b)=true) (fun a b _ _ h1 h2=>by simp at h1 h2;omega) (List.pairwise_mergeSort (fun a b c h1 h2=>by simp at h1 h2 ⊢;omega) (fun a b=>by simp;omega) _) (List.pairwise_mergeSort (fun a b c h1 h2=>by simp at h1 h2 ⊢;omega) (fun a b=>by simp;omega) _) ?_
   exact ((List.mergeSort_perm _ _).trans hp).trans (List.mergeSort_perm _ _).symm
  rw [e1]
  exact List.mergeSort_of_pairwise (by decide)
 rw [h1]
 decide+kernel
theorem Aoi:Jt kM Kl 0=0:=by decide+kernel
theorem Atv:Nk kM Kl 0=Ahu kM Kl 0 (plS kMe 0) (plS Kl 0):=by rw [Nk,Aoi];rfl
theorem Aj9:(Cw (plS kMe 0) (plS Kl 0) kCe).voices.length=2:=by decide+kernel
theorem Atw : ∃ y, (Cw (plS kMe 0) (plS Kl 0) kCe).voices[1]? = some y ∧ y.evs.length = 2 := ⟨(Cw (plS kMe 0) (plS Kl 0) kCe).voices[1]'(by rw [Aj9]; decide), List.getElem?_eq_getElem _, by decide +kernel⟩
theorem Vl (n:Int) (v:Val):XC Tryz.prog 94 [.agg [dI 1,dI n], .agg (Val.c v)] (fun r=>r= .agg (Ev.c (kR n v))):=by
 refine An Adx Tryz.func94 R R lb<|zr<|XL.step R (Ap 2 (l:= [.d (dI 1), .d (dI n)]) R R (by kernel_rfl))<|XL.step R (Ap 3 (l:= [.d (dI v.log), .d (dI v.dots)]) R R (by kernel_rfl))<|?_
 refine XL.step R (Aq 4 (l:= [.d (dI 0), .d (dI 0), .d (dI 0), .d (dI 0), .d (dI 0), .d (.v (.slice none 0 0)), .d (.v (.slice none 0 0)), .d (dI 0), .d (dI 0), .d (dI 0), .d (.v (.slice none 0 0)), .d (dI 0), .d (dI 0)]) R Cc (by kernel_rfl))<|znr<|zp (Ae (s':= .d (.agg [dI 1,dI n])) (Ac (Ad R R Kt R lb)) (by kernel_rfl))<|?_
 refine zp (Ae (s':= .d (.agg (Val.c v))) (Ac (Ad R R El R lb)) (by kernel_rfl))<|zp (Ae (s':= .d (.agg [dI 1,dI n,dI 2,dI v.log,dI v.dots, .v (.slice none 0 0), .v (.slice none 0 0),dI 0,dI 0,dI 0, .v (.slice none 0 0),dI 0,dI 0])) (Ac (A4 R Qb Cc R)) (by kernel_rfl))<|?_
 refine XL.step R (Af (l':= [.d (dI 1), .d (dI n), .d (dI 2), .d (dI v.log), .d (dI v.dots), .d (.v (.slice none 0 0)), .d (.v (.slice none 0 0)), .d (dI 0), .d (dI 0), .d (dI 0), .d (.v (.slice none 0 0)), .d (dI 0), .d (dI 0)]) R R R R C4 R lb (by kernel_rfl))<|zn<|zt<|?_
 exact Jb R (RV.sub (RV.cells R R R Bq lb R) (.agg (.cons (.same R) (.cons (.same R) (.cons (.same R) (.cons (.same R) (.cons (.same R) (.cons (.nil 5) (.cons (.nil 5) (.cons (.same R) (.cons (.same R) (.cons (.same R) (.cons (.nil 2) (.cons (.same R) (.cons (.same R) (.nil)))))))))))))))) (R)
theorem Mg  :XC Tryz.prog 55 [] (fun r=>r= .agg (Ms.c kM)):=by
 refine An Aeo Tryz.func55 R R lb<|zr<|XL.step R (Aq 0 (l:= [.d (dI 0), .d (dI 0), .d (dI 0), .d (dI 0), .d (dI 0), .d (dI 0), .d (dI 0), .d (dI 0), .d (dI 0), .d (dI 0), .d (dI 0), .d (dI 0), .d (dB false), .d (dI 0), .d (dI 0), .d (dI 0), .d (dI 0), .d (dI 0), .d (dI 0), .d (.v (.string ⟨#[]⟩)), .d (.v (.slice none 0 0)), .d (.v (.slice none 0 0))]) R E6 (by kernel_rfl))<|znr<|?_
 refine zp (Ae (s':= .d (.agg [dI 1,dI 1])) (Ac (A4 R Mw Ku R)) (by kernel_rfl))<|zp (Ae (s':= .d (.agg [dI 1,dI 0])) (Ac (A4 R Yo Ft R)) (by kernel_rfl))<|XL.call1 R R (Vl 1 ⟨1,0⟩) R<|zp (Ae (s':= .d (.agg [dI 1,dI 2])) (Ac (A4 R Mw Ku R)) (by kernel_rfl))<|?_
 refine zp (Ae (s':= .d (.agg [dI 2,dI 0])) (Ac (A4 R Yo Ft R)) (by kernel_rfl))<|XL.call1 R R (Vl 2 ⟨2,0⟩) R<|XL.step R (Aq 1 (l:= [.d (dI 0), .d (dI 0), .d (dI 0), .d (dI 0), .d (dI 0), .d (.v (.slice none 0 0)), .d (.v (.slice none 0 0)), .d (dI 0), .d (dI 0), .d (dI 0), .d (.v (.slice none 0 0)), .d (dI 0), .d (dI 0)]) R Cc (by kernel_rfl))<|?_
 refine XL.step R (Aq 2 (l:= [.d (dI 0), .d (dI 0), .d (dI 0), .d (dI 0), .d (dI 0), .d (.v (.slice none 0 0)), .d (.v (.slice none 0 0)), .d (dI 0), .d (dI 0), .d (dI 0), .d (.v (.slice none 0 0)), .d (dI 0), .d (dI 0)]) R Cc (by kernel_rfl))<|?_
 refine XL.step R (Af (l':= [.d (dI (kR 1 ⟨1,0⟩).site), .d (dI (kR 1 ⟨1,0⟩).num), .d (dI (kR 1 ⟨1,0⟩).kind), .d (dI (kR 1 ⟨1,0⟩).v.log), .d (dI (kR 1 ⟨1,0⟩).v.dots), .d (.sl 5 ((kR 1 ⟨1,0⟩).heads.map Hd.c)), .d (.sl 5 ((kR 1 ⟨1,0⟩).graces.map Gr.c)), .d (dI (kR 1 ⟨1,0⟩).art), .d (dI (kR 1 ⟨1,0⟩).orn), .d (dI (kR 1 ⟨1,0⟩).dyn), .d (.sl 2 ((kR 1 ⟨1,0⟩).lyr.map Sy.c)), .d (dI (kR 1 ⟨1,0⟩).stem), .d (dI (kR 1 ⟨1,0⟩).beam)]) R R R R C4 R lb (by kernel_rfl))<|?_
 refine XL.step R (Af (l':= [.d (dI (kR 2 ⟨2,0⟩).site), .d (dI (kR 2 ⟨2,0⟩).num), .d (dI (kR 2 ⟨2,0⟩).kind), .d (dI (kR 2 ⟨2,0⟩).v.log), .d (dI (kR 2 ⟨2,0⟩).v.dots), .d (.sl 5 ((kR 2 ⟨2,0⟩).heads.map Hd.c)), .d (.sl 5 ((kR 2 ⟨2,0⟩).graces.map Gr.c)), .d (dI (kR 2 ⟨2,0⟩).art), .d (dI (kR 2 ⟨2,0⟩).orn), .d (dI (kR 2 ⟨2,0⟩).dyn), .d (.sl 2 ((kR 2 ⟨2,0⟩).lyr.map Sy.c)), .d (dI (kR 2 ⟨2,0⟩).stem), .d (dI (kR 2 ⟨2,0⟩).beam)]) R R R R C4 R lb (by kernel_rfl))<|?_
 refine znr<|zp (Ae (s':= .d (.agg [dI 1,dI 3])) (Ac (A4 R Mw Ku R)) (by kernel_rfl))<|zp (Ae (s':= .d (.agg [dI 1,dI 1])) (Ac (A4 R Yo Ft R)) (by kernel_rfl))<|XL.call1 R R (Vl 3 ⟨1,1⟩) R<|?_
 refine XL.step R (Aq 3 (l:= [.d (dI 0), .d (dI 0), .d (dI 0), .d (dI 0), .d (dI 0), .d (.v (.slice none 0 0)), .d (.v (.slice none 0 0)), .d (dI 0), .d (dI 0), .d (dI 0), .d (.v (.slice none 0 0)), .d (dI 0), .d (dI 0)]) R Cc (by kernel_rfl))<|?_
 refine XL.step R (Af (l':= [.d (dI (kR 3 ⟨1,1⟩).site), .d (dI (kR 3 ⟨1,1⟩).num), .d (dI (kR 3 ⟨1,1⟩).kind), .d (dI (kR 3 ⟨1,1⟩).v.log), .d (dI (kR 3 ⟨1,1⟩).v.dots), .d (.sl 5 ((kR 3 ⟨1,1⟩).heads.map Hd.c)), .d (.sl 5 ((kR 3 ⟨1,1⟩).graces.map Gr.c)), .d (dI (kR 3 ⟨1,1⟩).art), .d (dI (kR 3 ⟨1,1⟩).orn), .d (dI (kR 3 ⟨1,1⟩).dyn), .d (.sl 2 ((kR 3 ⟨1,1⟩).lyr.map Sy.c)), .d (dI (kR 3 ⟨1,1⟩).stem), .d (dI (kR 3 ⟨1,1⟩).beam)]) R R R R C4 R lb (by kernel_rfl))<|?_
 refine znr<|zp (Ae (s':= .d (.agg [dI 3,dI 4,dI 0,dI 0,dI 0,dI 0,dI 0,dI 0])) (Ac (A4 R Aix Ae6 R)) (by kernel_rfl))<|zp (Ae (s':= .d (.agg (Ev.c (kR 1 ⟨1,0⟩)))) (Ac (Ad R R Bq R lb)) (by kernel_rfl))<|zp (Ae (s':= .d (.agg (Ev.c (kR 2 ⟨2,0⟩)))) (Ac (Ad R R Bq R lb)) (by kernel_rfl))<|?_
 refine XL.step R (Hg (l:= [kR 1 ⟨1,0⟩,kR 2 ⟨2,0⟩].map Ev.c) R Tryz.underlying79 C4 Cc (by kernel_rfl) R (by omega) (by omega))<|zp (Pf (.agg (Vo.c Vt)) (Ae (s':= .d (.agg [.sl 13 ([kR 1 ⟨1,0⟩,kR 2 ⟨2,0⟩].map Ev.c), .v (.slice none 0 0)])) (Ac (A4 R C6 Bf R)) (by kernel_rfl)) (.agg (.cons (.same R) (.cons (.nil 4) (.nil)))))<|?_
 refine zp (Ae (s':= .d (.agg (Ev.c (kR 3 ⟨1,1⟩)))) (Ac (Ad R R Bq R lb)) (by kernel_rfl))<|XL.step R (Hg (l:= [kR 3 ⟨1,1⟩].map Ev.c) R Tryz.underlying79 C4 Cc (by kernel_rfl) R (by omega) (by omega))<|?_
 refine zp (Pf (.agg (Vo.c Vs)) (Ae (s':= .d (.agg [.sl 13 ([kR 3 ⟨1,1⟩].map Ev.c), .v (.slice none 0 0)])) (Ac (A4 R C6 Bf R)) (by kernel_rfl)) (.agg (.cons (.same R) (.cons (.nil 4) (.nil)))))<|XL.step R (Hg (l:= [Vt,Vs].map Vo.c) R Tryz.underlying76 Bu Bf (by kernel_rfl) R (by omega) (by omega))<|?_
 refine zp (Pf (.agg (Ce.c kCe)) (Ae (s':= .d (.agg [.v (.slice none 0 0), .sl 2 ([Vt,Vs].map Vo.c)])) (Ac (A4 R Aiw Fe R)) (by kernel_rfl)) (.agg (.cons (.nil 2) (.cons (.same R) (.nil)))))<|XL.step R (Hg (l:= [kCe].map Ce.c) R Tryz.underlying28 Jf Fe (by kernel_rfl) R (by omega) (by omega))<|?_
 refine zp (Pf (.agg (Ms.c kM)) (Ae (s':= .d (.agg [dI 0,dI 0,dI 3,dI 4,dI 0,dI 0,dI 0,dI 0,dI 0,dI 0,dI 0,dI 0,dB false,dI 0,dI 0,dI 0,dI 0,dI 0,dI 0, .v (.string ⟨#[]⟩), .v (.slice none 0 0), .sl 2 ([kCe].map Ce.c)])) (Ac (A4 (r:= [.d (dI 0), .d (dI 0), .d (dI 3), .d (dI 4), .d (dI 0), .d (dI 0), .d (dI 0), .d (dI 0), .d (dI 0), .d (dI 0), .d (dI 0), .d (dI 0), .d (dB false), .d (dI 0), .d (dI 0), .d (dI 0), .d (dI 0), .d (dI 0), .d (dI 0), .d (.v (.string ⟨#[]⟩)), .d (.v (.slice none 0 0)), .d (.sl 2 ([kCe].map Ce.c))]) R Qc E6 (by kernel_rfl))) (by kernel_rfl)) (.agg (.cons (.same R) (.cons (.same R) (.cons (.same R) (.cons (.same R) (.cons (.same R) (.cons (.same R) (.cons (.same R) (.cons (.same R) (.cons (.same R) (.cons (.same R) (.cons (.same R) (.cons (.same R) (.cons (.same R) (.cons (.same R) (.cons (.same R) (.cons (.same R) (.cons (.same R) (.cons (.same R) (.cons (.same R) (.cons (.same R) (.cons (.nil 3) (.cons (.same R) (.nil)))))))))))))))))))))))))<|?_
 refine XL.step R (Af (l':= [.d (dI kM.h.site), .d (dI kM.h.num), .d (dI kM.h.m.count), .d (dI kM.h.m.unit), .d (dI kM.h.m.g0), .d (dI kM.h.m.g1), .d (dI kM.h.m.g2), .d (dI kM.h.m.g3), .d (dI kM.h.m.g4), .d (dI kM.h.m.g5), .d (dI kM.h.len), .d (dI kM.h.fifths), .d (dB kM.h.start), .d (dI kM.h.fin), .d (dI kM.h.ends), .d (dI kM.h.jump), .d (dI kM.h.labels), .d (dI kM.h.swing), .d (dI kM.h.brk), .d (.v (.string ⟨kM.h.reh.toArray⟩)), .d (.sl 3 (kM.tempi.map Tm.c)), .d (.sl 2 (kM.cells.map Ce.c))]) R R R R E9 R lb (by kernel_rfl))<|?_
 refine zn<|zt<|?_
 exact Jb R (RV.cells R R R Bj lb R) (R)
theorem Aj6:XC Tryz.prog 20 [.agg (Ms.c kM)] (fun r=>r= .tup [.sl 5 (kSl.map Slt.c),dI 0]):=by
 have:=Yt kM Zy Zz
 rw [Aj7,Aj8] at this;exact this
theorem Aqc:XC Tryz.prog 21 [.agg (Ms.c kM)] (fun r=>r= .tup [.sl 1 (([0,967680]:List Int).map iv),dI 0]):=by
 have:=Ah4 kM Zy Zz
 rw [Asm,Aj8] at this;exact this
def kF:Ms:=Ahu kM Kl 0 (plS kMe 0) (plS Kl 0)
theorem Aqb:XC Tryz.prog 28 [.agg (Ms.c kM), .agg (Me.c Kl),dI 0] (fun r=>r= .tup [.agg (Ms.c kF),dI 0]):=by
 have:=Ap4 kM Kl 0 Zy Zz
 rw [Atv,Aoi] at this;exact this
theorem Aqa:XC Tryz.prog 15 [.agg (Ms.c kM)] (fun r=>r= .tup [dI 1451520,dI 0]):=by
 have:=Qr kM.h kM.tempi kM.cells
 rw [show mlV kM.h.m kM.h.len=1451520 from Ask,show mlE kM.h.m kM.h.len=0 from Asl] at this;exact this
theorem Am2  :XC Tryz.prog 19 [] (fun r=>r=dB true):=by
 obtain ⟨y,hy,hyl⟩:=Atw
 refine An Ae3 Tryz.func19 R R lb<|zr<|za R R<|znr<|XL.call1 R R (Mg) R<|XL.call1 R R (Aj6) R<|zm R R<|zp (A0 R R R)<|zp (A0 R R R)<|za R R<|za R R<|znr<|XL.call1 R R (Mg) R<|XL.call1 R R (Aqc) R<|?_
 refine zm R R<|zp (A0 R R R)<|zp (A0 R R R)<|za R R<|za R R<|znr<|XL.call1 R R (Mg) R<|zp (Ae (s':= .d (.agg (Me.c Kl))) (Ac (A4 R Aix Ae6 R)) (by kernel_rfl))<|XL.call1 R R (Aqb) R<|zm R R<|zp (A0 R R R)<|zp (A0 R R R)<|?_
 refine XL.step R (Aq 5 (l:= [.d (dI 0), .d (dI 0), .d (dI 0), .d (dI 0), .d (dI 0), .d (dI 0), .d (dI 0), .d (dI 0), .d (dI 0), .d (dI 0), .d (dI 0), .d (dI 0), .d (dB false), .d (dI 0), .d (dI 0), .d (dI 0), .d (dI 0), .d (dI 0), .d (dI 0), .d (.v (.string ⟨#[]⟩)), .d (.v (.slice none 0 0)), .d (.v (.slice none 0 0))]) R E6 (by kernel_rfl))<|?_
 refine XL.step R (Af (l':= [.d (dI kF.h.site), .d (dI kF.h.num), .d (dI kF.h.m.count), .d (dI kF.h.m.unit), .d (dI kF.h.m.g0), .d (dI kF.h.m.g1), .d (dI kF.h.m.g2), .d (dI kF.h.m.g3), .d (dI kF.h.m.g4), .d (dI kF.h.m.g5), .d (dI kF.h.len), .d (dI kF.h.fifths), .d (dB kF.h.start), .d (dI kF.h.fin), .d (dI kF.h.ends), .d (dI kF.h.jump), .d (dI kF.h.labels), .d (dI kF.h.swing), .d (dI kF.h.brk), .d (.v (.string ⟨kF.h.reh.toArray⟩)), .d (.sl 3 (kF.tempi.map Tm.c)), .d (.sl 2 (kF.cells.map Ce.c))]) R R R R E9 R lb (by kernel_rfl))<|?_
 refine za R R<|znr<|XL.call1 R R (Mg) R<|XL.call1 R R (Aqa) R<|zm R R<|zp (A0 R R R)<|zp (A0 R R R)<|za R R<|za R R<|znr<|zm R R<|zp (Ec (Bi R R R) (R))<|zm R R<|zm R R<|?_
 refine XL.len R R R Tryz.underlying42 fun hl34=>zp (Ec (Bi R R R) (by decide))<|zq R R R<|zm R R<|zm R R<|zp (Ao (k:=1) R R R Aop ((R:kSl[1]? =some ⟨0,0,1,967680,1451520⟩)))<|zp (Ae (s':= .d (.agg (Slt.c (⟨0,0,1,967680,1451520⟩)))) (Ay R R Alg lb) (by kernel_rfl))<|?_
 refine zp (Ae (s':= .d (.agg [dI 0,dI 0,dI 1,dI 967680,dI 1451520])) (Ac (A4 R Yp Mk R)) (by kernel_rfl))<|zp (Ae (s':= .d (dB true)) (Amh R R R) (by kernel_rfl))<|zq R R R<|zm R R<|zm R R<|zp (Ec (Bi R R R) (R))<|zq R R R<|zm R R<|zm R R<|XL.len R R R Tryz.underlying45 fun hl50=>zp (Ec (Bi R R R) (by decide))<|zq R R R<|zm R R<|zm R R<|?_
 refine zp (Ao (k:=1) R R R Dt ((R:([0,967680]:List Int)[1]? =some 967680)))<|zp (Bg R R Ai)<|zp (Ec (Bi R R R) (R))<|zq R R R<|zm R R<|zm R R<|zp (Ec (Bi R R R) (R))<|zq R R R<|zm R R<|zp (Aa R R Bm)<|zp (Ab R R Df R R)<|XL.len R R R Tryz.underlying28 fun hl66=>zp (Ec (Bi R R R) (by decide))<|zq R R R<|?_
 refine zm R R<|zp (Aa R R Bm)<|zp (Ab R R Df R R)<|zp (Ao (k:=0) R R R Em ((R:kF.cells[0]? =some (Cw (plS kMe 0) (plS Kl 0) kCe))))<|zp (Gz R R Cm)<|zp (Bg R R Eg)<|XL.len R R R Tryz.underlying76 fun hl75=>zp (Ec (Bi R R R) (by rw [Aj9];rfl))<|zq R R R<|zm R R<|zp (Aa R R Bm)<|zp (Ab R R Df R R)<|?_
 refine zp (Ao (k:=0) R R R Em ((R:kF.cells[0]? =some (Cw (plS kMe 0) (plS Kl 0) kCe))))<|zp (Gz R R Cm)<|zp (Bg R R Eg)<|zp (Ao (k:=1) R R R Ic (hy))<|zp (Gz R R Bo)<|zp (Bg R R Cz)<|XL.len R R R Tryz.underlying79 fun hl87=>zp (Ec (Bi R R R) (by rw [hyl];rfl))<|zq R R R<|zm R R<|zm R R<|zp (Ec (Bi R R R) (R))<|?_
 exact zq R R R<|zm R R<|zm R R<|zp (Ec (Bi R R R) (R))<|zq R R R<|za R R<|zn<|zt<|z1 R R (R)
end Go.Proofs.YtaafemnkamfgnaaGreat
namespace Go.Proofs.YtaafemnkamfgnaaGreat
open Go.RowKit
def cfE (c:Int):Int:=if c<1∨9<c then 11 else 0
end Go.Proofs.YtaafemnkamfgnaaGreat
namespace Go.Proofs.YtaafemnkamfgnaaGreat
open Go.RowKit
def clF (l:List Cf) (b t:Int):Int:=l.foldl (fun b c=>if c.tk≤t then c.clef else b) b
def Ms.cell (m:Ms) (s:Int):Ce:=(m.cells[s.toNat]?).getD ⟨[], []⟩
def clA (m:Ms) (s b t:Int):Int × Int:=if s<0∨(m.cells.length:Int)≤s then (0,2) else if cfE b≠0 then (0,cfE b) else (clF (m.cell s).clefs b t,0)
end Go.Proofs.YtaafemnkamfgnaaGreat
namespace Go.Proofs.YtaafemnkamfgnaaGreat
open Go.RowKit
def fsE (f:Nat→Int):Nat→Int
 |0=>0
 |n+1=>if fsE f n≠0 then fsE f n else f n
def Ava (L:Int) (l:List Cf) (i:Nat):Int:=
 match l[i]? with
 |none=>0
 |some x=>if cfE x.clef≠0 then cfE x.clef else if x.tk<0∨L≤x.tk then 2 else
  match l[i - 1]? with
  |none=>0
  |some y=>if 0<i∧x.tk≤y.tk then 25 else 0
def Atc (L:Int) (l:List Cf):Int:=fsE (Ava L l) l.length
def vAt (L:Int) (l:List Vo) (i:Nat):Int:=match l[i]? with|none=>0|some v=>vE L v
def ceE (L:Int) (c:Ce):Int:=if Atc L c.clefs≠0 then Atc L c.clefs else if 2<(c.voices.length:Int) then 9 else
 match c.voices[0]? with
 |none=>10
 |some v=>if v.evs.length=0 then 10 else fsE (vAt L c.voices) c.voices.length
def Avc (L:Int) (l:List Ce) (i:Nat):Int:=match l[i]? with|none=>0|some c=>ceE L c
def chE (m:Ms) (n:Int):Int:=if mlE m.h.m m.h.len≠0 then mlE m.h.m m.h.len else if m.h.fifths< -7∨7<m.h.fifths then 2 else if (m.cells.length:Int)≠n then 20 else fsE (Avc (mlV m.h.m m.h.len) m.cells) m.cells.length
end Go.Proofs.YtaafemnkamfgnaaGreat
namespace Go.Proofs.YtaafemnkamfgnaaGreat
open Go.RowKit
def Slt.z:Slt:=⟨0,0,0,0,0⟩
def Ce.voice (c:Ce) (v:Int):Vo:=(c.voices[v.toNat]?).getD ⟨[], []⟩
def atM (m:Ms) (s v t:Int):Slt × Int:=if mlE m.h.m m.h.len≠0 then (Slt.z,mlE m.h.m m.h.len)
 else if (s<0∨(m.cells.length:Int)≤s)∨(v<0∨((m.cell s).voices.length:Int)≤v)∨((m.cell s).voice v).evs.length=0 then (Slt.z,2)
 else if atE ((m.cell s).voice v) (mlV m.h.m m.h.len) t≠0 then (Slt.z,atE ((m.cell s).voice v) (mlV m.h.m m.h.len) t)
 else (⟨s,v,(atV ((m.cell s).voice v) (mlV m.h.m m.h.len) t).1,(atV ((m.cell s).voice v) (mlV m.h.m m.h.len) t).2,(atV ((m.cell s).voice v) (mlV m.h.m m.h.len) t).2+((ckL ((m.cell s).voice v) (mlV m.h.m m.h.len))[(atV ((m.cell s).voice v) (mlV m.h.m m.h.len) t).1.toNat]?).getD 0⟩,0)
end Go.Proofs.YtaafemnkamfgnaaGreat
namespace Go.Proofs.YtaafemnkamfgnaaGreat
open Go.RowKit
def Ms.ev (m:Ms) (s:Slt):Ev:=((((m.cell s.staff).voice s.voice).evs)[s.ev.toNat]?).getD restE
def idp (m:Ms) (a b:Int) (s:Slt):Bool:=decide ((m.ev s).site=a∧(m.ev s).num=b)
def fdM (m:Ms) (a b:Int):Slt × Bool:=if slE m≠0∨(a=0∧b=0) then (Slt.z,false) else
 match (slL m).find? (idp m a b) with
 |some s=>(s,true)
 |none=>(Slt.z,false)
def Ms.slot (m:Ms) (s:Slt):Prop:=s∈slL m
end Go.Proofs.YtaafemnkamfgnaaGreat
namespace Go.Proofs.YtaafemnkamfgnaaGreat
open Go.RowKit
set_option maxRecDepth 4000
set_option maxHeartbeats 4000000 in
theorem Af7 (d:Nat) (w:World) (a0:Int) (a1:Int) (a2:Int) (a3:Int) (a4:Int) (a5:Int) (a6:Int) (a7:Int) (b0:Int) (b1:Int) (b2:Int) (b3:Int) (b4:Int) (b5:Int) (b6:Int) (b7:Int):(Op.equalIn (d+3) 26 (.agg #[.int .i64 a0, .int .i64 a1, .int .i64 a2, .int .i64 a3, .int .i64 a4, .int .i64 a5, .int .i64 a6, .int .i64 a7]) (.agg #[.int .i64 b0, .int .i64 b1, .int .i64 b2, .int .i64 b3, .int .i64 b4, .int .i64 b5, .int .i64 b6, .int .i64 b7])).run Tryz.prog w= .ok (decide (a0=b0∧a1=b1∧(a2=b2∧a3=b3∧a4=b4∧a5=b5∧a6=b6∧a7=b7))) w:=by
 rw [show d+3=(d+2)+1 from rfl,run_equalIn_struct w (d+2) 26 _ _ (by kernel_rfl) (by kernel_rfl),Eb Tryz.underlying26]
 exact Cb (by decide) (Bc Ai w rfl) (Bc Ai w rfl) (Ci (d+1) 3 Tryz.underlying3 _ _) (Cb (by decide) (Bc Ai w rfl) (Bc Ai w rfl) (Ci (d+1) 3 Tryz.underlying3 _ _) (Gj (by decide) (K8 Rj w rfl) (K8 Rj w rfl) (Vx (d) w _ _ _ _ _ _ _ _ _ _ _ _)))
set_option maxHeartbeats 4000000 in
theorem Amb {t':TypeId} {o:Oper} {e:Operand→S} {h:Xh} {x y:Operand} {a0:Int} {a1:Int} {a2:Int} {a3:Int} {a4:Int} {a5:Int} {a6:Int} {a7:Int} {b0:Int} {b1:Int} {b2:Int} {b3:Int} {b4:Int} {b5:Int} {b6:Int} {b7:Int} (ho:o.op= .binOp .neq 26 x y t') (hx:e x= .d (.agg [.v (.int .i64 a0), .v (.int .i64 a1), .v (.int .i64 a2), .v (.int .i64 a3), .v (.int .i64 a4), .v (.int .i64 a5), .v (.int .i64 a6), .v (.int .i64 a7)])) (hy:e y= .d (.agg [.v (.int .i64 b0), .v (.int .i64 b1), .v (.int .i64 b2), .v (.int .i64 b3), .v (.int .i64 b4), .v (.int .i64 b5), .v (.int .i64 b6), .v (.int .i64 b7)])):A9 Tryz.prog o e h (.d (.v (.bool (decide (¬(a0=b0∧a1=b1∧(a2=b2∧a3=b3∧a4=b4∧a5=b5∧a6=b6∧a7=b7))))))):=by
 refine Eo ho hx hy rfl rfl (by kernel_rfl) fun w=> ?_
 refine (run_neq_struct w 26 #[.int .i64 a0, .int .i64 a1, .int .i64 a2, .int .i64 a3, .int .i64 a4, .int .i64 a5, .int .i64 a6, .int .i64 a7] #[.int .i64 b0, .int .i64 b1, .int .i64 b2, .int .i64 b3, .int .i64 b4, .int .i64 b5, .int .i64 b6, .int .i64 b7]).trans ?_
 have hq:=Af7 9997 w a0 a1 a2 a3 a4 a5 a6 a7 b0 b1 b2 b3 b4 b5 b6 b7
 simp only [Nat.reduceAdd] at hq
 rw [hq]
 simp only [Result.andThen_ok,decide_not]
set_option maxHeartbeats 4000000 in
theorem Ant (d:Nat) (w:World) (a0:Int) (a1:Int) (a2:Int) (a3:Int) (a4:Int) (a5:Int) (a6:Int) (a7:Int) (a8:Int) (a9:Int) (a10:Int) (a11:Int) (a12:Bool) (a13:Int) (a14:Int) (a15:Int) (a16:Int) (a17:Int) (a18:Int) (a19:ByteArray) (b0:Int) (b1:Int) (b2:Int) (b3:Int) (b4:Int) (b5:Int) (b6:Int) (b7:Int) (b8:Int) (b9:Int) (b10:Int) (b11:Int) (b12:Bool) (b13:Int) (b14:Int) (b15:Int) (b16:Int) (b17:Int) (b18:Int) (b19:ByteArray):(Op.equalIn (d+4) 127 (.agg #[.int .i64 a0, .int .i64 a1, .int .i64 a2, .int .i64 a3, .int .i64 a4, .int .i64 a5, .int .i64 a6, .int .i64 a7, .int .i64 a8, .int .i64 a9, .int .i64 a10, .int .i64 a11, .bool a12, .int .i64 a13, .int .i64 a14, .int .i64 a15, .int .i64 a16, .int .i64 a17, .int .i64 a18, .string a19]) (.agg #[.int .i64 b0, .int .i64 b1, .int .i64 b2, .int .i64 b3, .int .i64 b4, .int .i64 b5, .int .i64 b6, .int .i64 b7, .int .i64 b8, .int .i64 b9, .int .i64 b10, .int .i64 b11, .bool b12, .int .i64 b13, .int .i64 b14, .int .i64 b15, .int .i64 b16, .int .i64 b17, .int .i64 b18, .string b19])).run Tryz.prog w= .ok (decide ((a0=b0∧a1=b1)∧(a2=b2∧a3=b3∧(a4=b4∧a5=b5∧a6=b6∧a7=b7∧a8=b8∧a9=b9))∧a10=b10∧a11=b11∧a12=b12∧a13=b13∧a14=b14∧a15=b15∧a16=b16∧a17=b17∧a18=b18∧a19.toList=b19.toList)) w:=by
 rw [show d+4=(d+3)+1 from rfl,run_equalIn_struct w (d+3) 127 _ _ (by kernel_rfl) (by kernel_rfl),Eb Tryz.underlying127]
 exact Cb (by decide) (K8 Kt w rfl) (K8 Kt w rfl) (Vy (d+1) w _ _ _ _) (Cb (by decide) (K8 Bn w rfl) (K8 Bn w rfl) (Af7 (d) w _ _ _ _ _ _ _ _ _ _ _ _ _ _ _ _) (Cb (by decide) (Bc Ai w rfl) (Bc Ai w rfl) (Ci (d+2) 3 Tryz.underlying3 _ _) (Cb (by decide) (Bc Ai w rfl) (Bc Ai w rfl) (Ci (d+2) 3 Tryz.underlying3 _ _) (Cb (by decide) (Bc M0 w rfl) (Bc M0 w rfl) (Nm (d+2) 4 Tryz.underlying4 _ _) (Cb (by decide) (Bc Ai w rfl) (Bc Ai w rfl) (Ci (d+2) 3 Tryz.underlying3 _ _) (Cb (by decide) (Bc Ai w rfl) (Bc Ai w rfl) (Ci (d+2) 3 Tryz.underlying3 _ _) (Cb (by decide) (Bc Ai w rfl) (Bc Ai w rfl) (Ci (d+2) 3 Tryz.underlying3 _ _) (Cb (by decide) (Bc Ai w rfl) (Bc Ai w rfl) (Ci (d+2) 3 Tryz.underlying3 _ _) (Cb (by decide) (Bc Ai w rfl) (Bc Ai w rfl) (Ci (d+2) 3 Tryz.underlying3 _ _) (Cb (by decide) (Bc Ai w rfl) (Bc Ai w rfl) (Ci (d+2) 3 Tryz.underlying3 _ _) (Gj (by decide) (Bc H9 w rfl) (Bc H9 w rfl) (Af8 (d+2) 9 Tryz.underlying9 _ _))))))))))))
set_option maxHeartbeats 4000000 in
theorem Ql {t':TypeId} {o:Oper} {e:Operand→S} {h:Xh} {x y:Operand} {a0:Int} {a1:Int} {a2:Int} {a3:Int} {a4:Int} {a5:Int} {a6:Int} {a7:Int} {a8:Int} {a9:Int} {a10:Int} {a11:Int} {a12:Bool} {a13:Int} {a14:Int} {a15:Int} {a16:Int} {a17:Int} {a18:Int} {a19:ByteArray} {b0:Int} {b1:Int} {b2:Int} {b3:Int} {b4:Int} {b5:Int} {b6:Int} {b7:Int} {b8:Int} {b9:Int} {b10:Int} {b11:Int} {b12:Bool} {b13:Int} {b14:Int} {b15:Int} {b16:Int} {b17:Int} {b18:Int} {b19:ByteArray} (ho:o.op= .binOp .eql 127 x y t') (hx:e x= .d (.agg [.v (.int .i64 a0), .v (.int .i64 a1), .v (.int .i64 a2), .v (.int .i64 a3), .v (.int .i64 a4), .v (.int .i64 a5), .v (.int .i64 a6), .v (.int .i64 a7), .v (.int .i64 a8), .v (.int .i64 a9), .v (.int .i64 a10), .v (.int .i64 a11), .v (.bool a12), .v (.int .i64 a13), .v (.int .i64 a14), .v (.int .i64 a15), .v (.int .i64 a16), .v (.int .i64 a17), .v (.int .i64 a18), .v (.string a19)])) (hy:e y= .d (.agg [.v (.int .i64 b0), .v (.int .i64 b1), .v (.int .i64 b2), .v (.int .i64 b3), .v (.int .i64 b4), .v (.int .i64 b5), .v (.int .i64 b6), .v (.int .i64 b7), .v (.int .i64 b8), .v (.int .i64 b9), .v (.int .i64 b10), .v (.int .i64 b11), .v (.bool b12), .v (.int .i64 b13), .v (.int .i64 b14), .v (.int .i64 b15), .v (.int .i64 b16), .v (.int .i64 b17), .v (.int .i64 b18), .v (.string b19)])):A9 Tryz.prog o e h (.d (.v (.bool (decide ((a0=b0∧a1=b1)∧(a2=b2∧a3=b3∧(a4=b4∧a5=b5∧a6=b6∧a7=b7∧a8=b8∧a9=b9))∧a10=b10∧a11=b11∧a12=b12∧a13=b13∧a14=b14∧a15=b15∧a16=b16∧a17=b17∧a18=b18∧a19.toList=b19.toList))))):=by
 refine Eo ho hx hy rfl rfl (by kernel_rfl) fun w=> ?_
 refine (run_eql_struct w 127 #[.int .i64 a0, .int .i64 a1, .int .i64 a2, .int .i64 a3, .int .i64 a4, .int .i64 a5, .int .i64 a6, .int .i64 a7, .int .i64 a8, .int .i64 a9, .int .i64 a10, .int .i64 a11, .bool a12, .int .i64 a13, .int .i64 a14, .int .i64 a15, .int .i64 a16, .int .i64 a17, .int .i64 a18, .string a19] #[.int .i64 b0, .int .i64 b1, .int .i64 b2, .int .i64 b3, .int .i64 b4, .int .i64 b5, .int .i64 b6, .int .i64 b7, .int .i64 b8, .int .i64 b9, .int .i64 b10, .int .i64 b11, .bool b12, .int .i64 b13, .int .i64 b14, .int .i64 b15, .int .i64 b16, .int .i64 b17, .int .i64 b18, .string b19]).trans ?_
 have hq:=Ant 9996 w a0 a1 a2 a3 a4 a5 a6 a7 a8 a9 a10 a11 a12 a13 a14 a15 a16 a17 a18 a19 b0 b1 b2 b3 b4 b5 b6 b7 b8 b9 b10 b11 b12 b13 b14 b15 b16 b17 b18 b19
 simp only [Nat.reduceAdd] at hq
 rw [hq]
 simp only [Result.andThen_ok]
end Go.Proofs.YtaafemnkamfgnaaGreat
namespace Go.Proofs.YtaafemnkamfgnaaGreat
open Go.RowKit
theorem dno {p:Prop} [Decidable p] (h:¬p):false=decide p:=(decide_eq_false h).symm
theorem Ah0 {p:Prop} [Decidable p] (h:p):true=decide p:=(decide_eq_true h).symm
theorem Ev.eqv_iff {a b:Ev}:a.eqv b↔a=b:=by
 constructor
 ·rintro ⟨⟨h1,h2⟩,h3,h4,h5,h6,h7,h8,h9,h10,h11,h12⟩
  obtain ⟨a1,a2,a3,a4,a5,a6,a7,a8,a9,a10,a11,a12⟩:=a
  obtain ⟨b1,b2,b3,b4,b5,b6,b7,b8,b9,b10,b11,b12⟩:=b
  simp only at h1 h2 h3 h4 h5 h6 h7 h8 h9 h10 h11 h12
  subst h1 h2 h3 h4 h5 h6 h7 h8 h9 h10 h11 h12;rfl
 ·rintro rfl
  exact ⟨⟨rfl,rfl⟩,rfl,rfl,rfl,rfl,rfl,rfl,rfl,rfl,rfl,rfl⟩
instance:DecidableEq Ev:=fun a b=>decidable_of_iff _ Ev.eqv_iff
instance:DecidableEq Vo:=fun a b=>decidable_of_iff (a.evs=b.evs∧a.tups=b.tups) ⟨fun h=>by obtain ⟨x,y⟩:=a;obtain ⟨z,t⟩:=b;obtain ⟨rfl,rfl⟩:=h;rfl,fun h=>by rw [h];exact ⟨rfl,rfl⟩⟩
instance:DecidableEq Ce:=fun a b=>decidable_of_iff (a.clefs=b.clefs∧a.voices=b.voices) ⟨fun h=>by obtain ⟨x,y⟩:=a;obtain ⟨z,t⟩:=b;obtain ⟨rfl,rfl⟩:=h;rfl,fun h=>by rw [h];exact ⟨rfl,rfl⟩⟩
instance:DecidableEq Ms:=fun a b=>decidable_of_iff (a.h=b.h∧a.tempi=b.tempi∧a.cells=b.cells) ⟨fun h=>by obtain ⟨x,y,z⟩:=a;obtain ⟨x',y',z'⟩:=b;obtain ⟨rfl,rfl,rfl⟩:=h;rfl,fun h=>by rw [h];exact ⟨rfl,rfl,rfl⟩⟩
theorem Cf.eq_of {x y:Cf} (h:¬ ¬(x.tk=y.tk∧x.clef=y.clef)):x=y:=by
 obtain ⟨a,b⟩:=x;obtain ⟨a',b'⟩:=y;simp only [Decidable.not_not] at h;obtain ⟨rfl,rfl⟩:=h;rfl
theorem Cf.ne_of {x y:Cf} (h:¬(x.tk=y.tk∧x.clef=y.clef)):x≠y:=by rintro rfl;exact h ⟨rfl,rfl⟩
theorem Tm.eq_of {x y:Tm} (h:¬ ¬(x.tk=y.tk∧x.micros=y.micros∧x.ramp=y.ramp)):x=y:=by
 obtain ⟨a,b,c⟩:=x;obtain ⟨a',b',c'⟩:=y;simp only [Decidable.not_not] at h;obtain ⟨rfl,rfl,rfl⟩:=h;rfl
theorem Tm.ne_of {x y:Tm} (h:¬(x.tk=y.tk∧x.micros=y.micros∧x.ramp=y.ramp)):x≠y:=by rintro rfl;exact h ⟨rfl,rfl,rfl⟩
theorem Tp.eq_of {x y:Tp} (h:¬ ¬(x.first=y.first∧x.count=y.count∧x.actual=y.actual∧x.normal=y.normal)):x=y:=by
 obtain ⟨a,b,c,d⟩:=x;obtain ⟨a',b',c',d'⟩:=y;simp only [Decidable.not_not] at h;obtain ⟨rfl,rfl,rfl,rfl⟩:=h;rfl
theorem Tp.ne_of {x y:Tp} (h:¬(x.first=y.first∧x.count=y.count∧x.actual=y.actual∧x.normal=y.normal)):x≠y:=by rintro rfl;exact h ⟨rfl,rfl,rfl,rfl⟩
theorem Anp (a b:List Cf):XC Tryz.prog 79 [.sl 2 (a.map Cf.c), .sl 2 (b.map Cf.c)] (fun r=>r=dB (decide (a=b))):=by
 refine An Ad4 Tryz.func79 R R lb<|zr<|za R R<|zn<|zs<|zr<|zm R R<|XL.len R R R Tryz.underlying75 fun hl7=>zm R R<|XL.len R R R Tryz.underlying75 fun hl9=>zp (A1 R R R)<|zn<|?_
 refine zd R (fun c10=> ?_) (fun c10=> ?_)
 exact zr<|za R R<|zn<|zt<|z1 R R (rB (Gh (fun h=>c10 (by rw [h]))))
 refine zi<|zs<|zr<|zm R R<|XL.len R R R Tryz.underlying75 fun hl12=>zm R R<|zn<|Ah<|?_
 refine Az (α:=Nat) (fun k=>k≤a.length∧∀j x y,j<k→a[j]? =some x→b[j]? =some y→x=y) (fun k=>mkF [(0, .d (.sl 2 (a.map Cf.c))),(1, .d (.sl 2 (b.map Cf.c))),(12, .d (dI a.length)),(13, .d (dI k))]) (fun k=>mkH []) (fun k=>a.length - k) (0) (⟨Nat.zero_le _,fun j x y h=>absurd h (Nat.not_lt_zero _)⟩) ?_ ?_ ?_
 exact fz ⟨sr,sr,sr,sr,trivial⟩
 exact HSub.nil
 intro k hk0
 obtain ⟨hk,hf⟩:=hk0
 refine zr<|zp (Au R R R)<|zn<|zs<|?_
 refine zd R (fun c14=> ?_) (fun c14=> ?_)
 have hk0a:k<a.length:=by omega
 obtain ⟨x,hx0⟩:=Ar hk0a
 obtain ⟨y,hy⟩:∃y,b[k]? =some y:=Ar (by omega)
 refine zi<|zs<|Ah<|zr<|zm R R<|za R R<|zn<|zs<|Bv [] (by kernel_rfl) (by kernel_rfl) (by kernel_rfl) (by decide)<|ym R R<|ym R R<|yp (Ao R R R Lc hx0)<|yp (Ae (s':= .d (.agg (Cf.c x))) (Ay R R Lx lb) (by kernel_rfl))<|ym R R<|?_
 refine ym R R<|yp (Ao R R R Lc (hy))<|yp (Ae (s':= .d (.agg (Cf.c y))) (Ay R R Lx lb) (by kernel_rfl))<|yp (Zc R R R)<|?_
 refine ChK.nil ⟨by kernel_rfl, ?_⟩
 refine zd R (fun c24=> ?_) (fun c24=> ?_)
 exact zr<|za R R<|zn<|zt<|z1 R R (rB (Gh (fun h=>Cf.ne_of c24 (by rw [h] at hx0;rw [hx0] at hy;cases hy;rfl))))
 refine zi<|Ag (by kernel_rfl)<|zp (Al R R R (by omega) (by omega))<|zm R R<|zn<|?_
 exact Am (k+1) (⟨by omega,fun j x' y' hj hx' hy'=>by by_cases e:j=k;(· subst e;rw [hx0] at hx';rw [hy] at hy';cases hx';cases hy';exact Cf.eq_of c24);(· exact hf j x' y' (by omega) hx' hy')⟩) (by omega) (fz ⟨sr,sr,sr,sr,trivial⟩) (HSub.nil)
 have hk0b:k=a.length:=by omega
 exact At<|zr<|za R R<|zn<|zt<|z1 R R (rB (eq_yes (Et (by omega) (fun j x y hj=>hf j x y (by omega)))))
theorem Aaf (a b:List Tm):XC Tryz.prog 73 [.sl 3 (a.map Tm.c), .sl 3 (b.map Tm.c)] (fun r=>r=dB (decide (a=b))):=by
 refine An Ad9 Tryz.func73 R R lb<|zr<|za R R<|zn<|zs<|zr<|zm R R<|XL.len R R R Tryz.underlying27 fun hl7=>zm R R<|XL.len R R R Tryz.underlying27 fun hl9=>zp (A1 R R R)<|zn<|?_
 refine zd R (fun c10=> ?_) (fun c10=> ?_)
 exact zr<|za R R<|zn<|zt<|z1 R R (rB (Gh (fun h=>c10 (by rw [h]))))
 refine zi<|zs<|zr<|zm R R<|XL.len R R R Tryz.underlying27 fun hl12=>zm R R<|zn<|Ah<|?_
 refine Az (α:=Nat) (fun k=>k≤a.length∧∀j x y,j<k→a[j]? =some x→b[j]? =some y→x=y) (fun k=>mkF [(0, .d (.sl 3 (a.map Tm.c))),(1, .d (.sl 3 (b.map Tm.c))),(12, .d (dI a.length)),(13, .d (dI k))]) (fun k=>mkH []) (fun k=>a.length - k) (0) (⟨Nat.zero_le _,fun j x y h=>absurd h (Nat.not_lt_zero _)⟩) ?_ ?_ ?_
 exact fz ⟨sr,sr,sr,sr,trivial⟩
 exact HSub.nil
 intro k hk0
 obtain ⟨hk,hf⟩:=hk0
 refine zr<|zp (Au R R R)<|zn<|zs<|?_
 refine zd R (fun c14=> ?_) (fun c14=> ?_)
 have hk0a:k<a.length:=by omega
 obtain ⟨x,hx0⟩:=Ar hk0a
 obtain ⟨y,hy⟩:∃y,b[k]? =some y:=Ar (by omega)
 refine zi<|zs<|Ah<|zr<|zm R R<|za R R<|zn<|zs<|Bv [] (by kernel_rfl) (by kernel_rfl) (by kernel_rfl) (by decide)<|ym R R<|ym R R<|yp (Ao R R R Kq hx0)<|yp (Ae (s':= .d (.agg (Tm.c x))) (Ay R R J6 lb) (by kernel_rfl))<|ym R R<|?_
 refine ym R R<|yp (Ao R R R Kq (hy))<|yp (Ae (s':= .d (.agg (Tm.c y))) (Ay R R J6 lb) (by kernel_rfl))<|yp (Wm R R R)<|?_
 refine ChK.nil ⟨by kernel_rfl, ?_⟩
 refine zd R (fun c24=> ?_) (fun c24=> ?_)
 exact zr<|za R R<|zn<|zt<|z1 R R (rB (Gh (fun h=>Tm.ne_of c24 (by rw [h] at hx0;rw [hx0] at hy;cases hy;rfl))))
 refine zi<|Ag (by kernel_rfl)<|zp (Al R R R (by omega) (by omega))<|zm R R<|zn<|?_
 exact Am (k+1) (⟨by omega,fun j x' y' hj hx' hy'=>by by_cases e:j=k;(· subst e;rw [hx0] at hx';rw [hy] at hy';cases hx';cases hy';exact Tm.eq_of c24);(· exact hf j x' y' (by omega) hx' hy')⟩) (by omega) (fz ⟨sr,sr,sr,sr,trivial⟩) (HSub.nil)
 have hk0b:k=a.length:=by omega
 exact At<|zr<|za R R<|zn<|zt<|z1 R R (rB (eq_yes (Et (by omega) (fun j x y hj=>hf j x y (by omega)))))
theorem Anl (a b:List Tp):XC Tryz.prog 139 [.sl 4 (a.map Tp.c), .sl 4 (b.map Tp.c)] (fun r=>r=dB (decide (a=b))):=by
 refine An Acf Tryz.func139 R R lb<|zr<|za R R<|zn<|zs<|zr<|zm R R<|XL.len R R R Tryz.underlying80 fun hl7=>zm R R<|XL.len R R R Tryz.underlying80 fun hl9=>zp (A1 R R R)<|zn<|?_
 refine zd R (fun c10=> ?_) (fun c10=> ?_)
 exact zr<|za R R<|zn<|zt<|z1 R R (rB (Gh (fun h=>c10 (by rw [h]))))
 refine zi<|zs<|zr<|zm R R<|XL.len R R R Tryz.underlying80 fun hl12=>zm R R<|zn<|Ah<|?_
 refine Az (α:=Nat) (fun k=>k≤a.length∧∀j x y,j<k→a[j]? =some x→b[j]? =some y→x=y) (fun k=>mkF [(0, .d (.sl 4 (a.map Tp.c))),(1, .d (.sl 4 (b.map Tp.c))),(12, .d (dI a.length)),(13, .d (dI k))]) (fun k=>mkH []) (fun k=>a.length - k) (0) (⟨Nat.zero_le _,fun j x y h=>absurd h (Nat.not_lt_zero _)⟩) ?_ ?_ ?_
 exact fz ⟨sr,sr,sr,sr,trivial⟩
 exact HSub.nil
 intro k hk0
 obtain ⟨hk,hf⟩:=hk0
 refine zr<|zp (Au R R R)<|zn<|zs<|?_
 refine zd R (fun c14=> ?_) (fun c14=> ?_)
 have hk0a:k<a.length:=by omega
 obtain ⟨x,hx0⟩:=Ar hk0a
 obtain ⟨y,hy⟩:∃y,b[k]? =some y:=Ar (by omega)
 refine zi<|zs<|Ah<|zr<|zm R R<|za R R<|zn<|zs<|Bv [] (by kernel_rfl) (by kernel_rfl) (by kernel_rfl) (by decide)<|ym R R<|ym R R<|yp (Ao R R R E3 hx0)<|yp (Ae (s':= .d (.agg (Tp.c x))) (Ay R R B9 lb) (by kernel_rfl))<|ym R R<|?_
 refine ym R R<|yp (Ao R R R E3 (hy))<|yp (Ae (s':= .d (.agg (Tp.c y))) (Ay R R B9 lb) (by kernel_rfl))<|yp (Ajj R R R)<|?_
 refine ChK.nil ⟨by kernel_rfl, ?_⟩
 refine zd R (fun c24=> ?_) (fun c24=> ?_)
 exact zr<|za R R<|zn<|zt<|z1 R R (rB (Gh (fun h=>Tp.ne_of c24 (by rw [h] at hx0;rw [hx0] at hy;cases hy;rfl))))
 refine zi<|Ag (by kernel_rfl)<|zp (Al R R R (by omega) (by omega))<|zm R R<|zn<|?_
 exact Am (k+1) (⟨by omega,fun j x' y' hj hx' hy'=>by by_cases e:j=k;(· subst e;rw [hx0] at hx';rw [hy] at hy';cases hx';cases hy';exact Tp.eq_of c24);(· exact hf j x' y' (by omega) hx' hy')⟩) (by omega) (fz ⟨sr,sr,sr,sr,trivial⟩) (HSub.nil)
 have hk0b:k=a.length:=by omega
 exact At<|zr<|za R R<|zn<|zt<|z1 R R (rB (eq_yes (Et (by omega) (fun j x y hj=>hf j x y (by omega)))))
theorem Akv (a b:List Ev) (F:Nat) (hF:∀x∈a,∀y∈b,XC Tryz.prog F [.agg (Ev.c x), .agg (Ev.c y)] (fun r=>r=dB (decide (x=y)))):XC Tryz.prog 108 [.sl 13 (a.map Ev.c), .sl 13 (b.map Ev.c), .fn F [] []] (fun r=>r=dB (decide (a=b))):=by
 refine An Acu Tryz.func108 R R lb<|zr<|za R R<|zn<|zs<|zr<|zm R R<|XL.len R R R Tryz.underlying79 fun hl11=>zm R R<|XL.len R R R Tryz.underlying79 fun hl13=>zp (A1 R R R)<|zn<|?_
 refine zd R (fun c14=> ?_) (fun c14=> ?_)
 exact zr<|za R R<|zn<|zt<|z1 R R (rB (Gh (fun h=>c14 (by rw [h]))))
 refine zi<|zs<|zr<|zm R R<|XL.len R R R Tryz.underlying79 fun hl16=>zm R R<|zn<|Ah<|?_
 refine Az (α:=Nat) (fun k=>k≤a.length∧∀j x y,j<k→a[j]? =some x→b[j]? =some y→x=y) (fun k=>mkF [(1, .d (.sl 13 (b.map Ev.c))),(2, .d (.fn F [] [])),(15, .d (.sl 13 (a.map Ev.c))),(16, .d (dI a.length)),(17, .d (dI k))]) (fun k=>mkH []) (fun k=>a.length - k) (0) (⟨Nat.zero_le _,fun j x y h=>absurd h (Nat.not_lt_zero _)⟩) ?_ ?_ ?_
 exact fz ⟨sr,sr,sr,sr,sr,trivial⟩
 exact HSub.nil
 intro k hk0
 obtain ⟨hk,hf⟩:=hk0
 refine zr<|zp (Au R R R)<|zn<|zs<|?_
 refine zd R (fun c18=> ?_) (fun c18=> ?_)
 have hk0a:k<a.length:=by omega
 obtain ⟨x,hx0⟩:=Ar hk0a
 obtain ⟨y,hy⟩:∃y,b[k]? =some y:=Ar (by omega)
 refine zi<|zs<|Ah<|zr<|zm R R<|zp (Ao R R R F5 hx0)<|zp (Ae (s':= .d (.agg (Ev.c x))) (Ay R R Bq lb) (by kernel_rfl))<|XL.step R (Aq 8 (l:= [.d (dI 0), .d (dI 0), .d (dI 0), .d (dI 0), .d (dI 0), .d (.v (.slice none 0 0)), .d (.v (.slice none 0 0)), .d (dI 0), .d (dI 0), .d (dI 0), .d (.v (.slice none 0 0)), .d (dI 0), .d (dI 0)]) R Cc (by kernel_rfl))<|?_
 refine za R R<|XL.step R (Af (l':= [.d (dI x.site), .d (dI x.num), .d (dI x.kind), .d (dI x.v.log), .d (dI x.v.dots), .d (.sl 5 (x.heads.map Hd.c)), .d (.sl 5 (x.graces.map Gr.c)), .d (dI x.art), .d (dI x.orn), .d (dI x.dyn), .d (.sl 2 (x.lyr.map Sy.c)), .d (dI x.stem), .d (dI x.beam)]) R R R R C4 R lb (by kernel_rfl))<|znr<|zm R R<|zm R R<|zp (Ao R R R F5 (hy))<|?_
 refine zp (Ae (s':= .d (.agg (Ev.c y))) (Ay R R Bq lb) (by kernel_rfl))<|XL.step R (Aq 9 (l:= [.d (dI 0), .d (dI 0), .d (dI 0), .d (dI 0), .d (dI 0), .d (.v (.slice none 0 0)), .d (.v (.slice none 0 0)), .d (dI 0), .d (dI 0), .d (dI 0), .d (.v (.slice none 0 0)), .d (dI 0), .d (dI 0)]) R Cc (by kernel_rfl))<|?_
 refine XL.step R (Af (l':= [.d (dI y.site), .d (dI y.num), .d (dI y.kind), .d (dI y.v.log), .d (dI y.v.dots), .d (.sl 5 (y.heads.map Hd.c)), .d (.sl 5 (y.graces.map Gr.c)), .d (dI y.art), .d (dI y.orn), .d (dI y.dyn), .d (.sl 2 (y.lyr.map Sy.c)), .d (dI y.stem), .d (dI y.beam)]) R R R R C4 R lb (by kernel_rfl))<|znr<|zm R R<|?_
 refine zp (Ae (s':= .d (.agg (Ev.c x))) (Ac (Ad R R Bq R lb)) (by kernel_rfl))<|zp (Ae (s':= .d (.agg (Ev.c y))) (Ac (Ad R R Bq R lb)) (by kernel_rfl))<|XL.callv1 (ds:= [_,_]) R R R (hF x (List.mem_of_getElem? hx0) y (List.mem_of_getElem? hy)) R<|zp (En R R)<|zn<|?_
 refine zd R (fun c30=> ?_) (fun c30=> ?_)
 exact zr<|za R R<|zn<|zt<|z1 R R (rB (Gh (fun h=>c30 (by rw [h] at hx0;rw [hx0] at hy;cases hy;rfl))))
 refine zi<|Ag (by kernel_rfl)<|zp (Al R R R (by omega) (by omega))<|zm R R<|zn<|?_
 exact Am (k+1) (⟨by omega,fun j x' y' hj hx' hy'=>by by_cases e:j=k;(· subst e;rw [hx0] at hx';rw [hy] at hy';cases hx';cases hy';exact Decidable.not_not.1 c30);(· exact hf j x' y' (by omega) hx' hy')⟩) (by omega) (fz ⟨sr,sr,sr,sr,sr,trivial⟩) (HSub.nil)
 have hk0b:k=a.length:=by omega
 exact At<|zr<|za R R<|zn<|zt<|z1 R R (rB (eq_yes (Et (by omega) (fun j x y hj=>hf j x y (by omega)))))
theorem Aku (a b:List Vo) (F:Nat) (hF:∀x∈a,∀y∈b,XC Tryz.prog F [.agg (Vo.c x), .agg (Vo.c y)] (fun r=>r=dB (decide (x=y)))):XC Tryz.prog 80 [.sl 2 (a.map Vo.c), .sl 2 (b.map Vo.c), .fn F [] []] (fun r=>r=dB (decide (a=b))):=by
 refine An Ad3 Tryz.func80 R R lb<|zr<|za R R<|zn<|zs<|zr<|zm R R<|XL.len R R R Tryz.underlying76 fun hl11=>zm R R<|XL.len R R R Tryz.underlying76 fun hl13=>zp (A1 R R R)<|zn<|?_
 refine zd R (fun c14=> ?_) (fun c14=> ?_)
 exact zr<|za R R<|zn<|zt<|z1 R R (rB (Gh (fun h=>c14 (by rw [h]))))
 refine zi<|zs<|zr<|zm R R<|XL.len R R R Tryz.underlying76 fun hl16=>zm R R<|zn<|Ah<|?_
 refine Az (α:=Nat) (fun k=>k≤a.length∧∀j x y,j<k→a[j]? =some x→b[j]? =some y→x=y) (fun k=>mkF [(1, .d (.sl 2 (b.map Vo.c))),(2, .d (.fn F [] [])),(15, .d (.sl 2 (a.map Vo.c))),(16, .d (dI a.length)),(17, .d (dI k))]) (fun k=>mkH []) (fun k=>a.length - k) (0) (⟨Nat.zero_le _,fun j x y h=>absurd h (Nat.not_lt_zero _)⟩) ?_ ?_ ?_
 exact fz ⟨sr,sr,sr,sr,sr,trivial⟩
 exact HSub.nil
 intro k hk0
 obtain ⟨hk,hf⟩:=hk0
 refine zr<|zp (Au R R R)<|zn<|zs<|?_
 refine zd R (fun c18=> ?_) (fun c18=> ?_)
 have hk0a:k<a.length:=by omega
 obtain ⟨x,hx0⟩:=Ar hk0a
 obtain ⟨y,hy⟩:∃y,b[k]? =some y:=Ar (by omega)
 refine zi<|zs<|Ah<|zr<|zm R R<|zp (Ao R R R Ic hx0)<|zp (Ae (s':= .d (.agg (Vo.c x))) (Ay R R Ax lb) (by kernel_rfl))<|XL.step R (Aq 8 (l:= [.d (.v (.slice none 0 0)), .d (.v (.slice none 0 0))]) R Bf (by kernel_rfl))<|za R R<|XL.step R (Af (l':= [.d (.sl 13 (x.evs.map Ev.c)), .d (.sl 4 (x.tups.map Tp.c))]) R R R R Bu R lb (by kernel_rfl))<|znr<|?_
 refine zm R R<|zm R R<|zp (Ao R R R Ic (hy))<|zp (Ae (s':= .d (.agg (Vo.c y))) (Ay R R Ax lb) (by kernel_rfl))<|XL.step R (Aq 9 (l:= [.d (.v (.slice none 0 0)), .d (.v (.slice none 0 0))]) R Bf (by kernel_rfl))<|XL.step R (Af (l':= [.d (.sl 13 (y.evs.map Ev.c)), .d (.sl 4 (y.tups.map Tp.c))]) R R R R Bu R lb (by kernel_rfl))<|znr<|zm R R<|?_
 refine zp (Ae (s':= .d (.agg (Vo.c x))) (Ac (Ad R R Ax R lb)) (by kernel_rfl))<|zp (Ae (s':= .d (.agg (Vo.c y))) (Ac (Ad R R Ax R lb)) (by kernel_rfl))<|XL.callv1 (ds:= [_,_]) R R R (hF x (List.mem_of_getElem? hx0) y (List.mem_of_getElem? hy)) R<|zp (En R R)<|zn<|?_
 refine zd R (fun c30=> ?_) (fun c30=> ?_)
 exact zr<|za R R<|zn<|zt<|z1 R R (rB (Gh (fun h=>c30 (by rw [h] at hx0;rw [hx0] at hy;cases hy;rfl))))
 refine zi<|Ag (by kernel_rfl)<|zp (Al R R R (by omega) (by omega))<|zm R R<|zn<|?_
 exact Am (k+1) (⟨by omega,fun j x' y' hj hx' hy'=>by by_cases e:j=k;(· subst e;rw [hx0] at hx';rw [hy] at hy';cases hx';cases hy';exact Decidable.not_not.1 c30);(· exact hf j x' y' (by omega) hx' hy')⟩) (by omega) (fz ⟨sr,sr,sr,sr,sr,trivial⟩) (HSub.nil)
 have hk0b:k=a.length:=by omega
 exact At<|zr<|za R R<|zn<|zt<|z1 R R (rB (eq_yes (Et (by omega) (fun j x y hj=>hf j x y (by omega)))))
theorem Akw (a b:List Ce) (F:Nat) (hF:∀x∈a,∀y∈b,XC Tryz.prog F [.agg (Ce.c x), .agg (Ce.c y)] (fun r=>r=dB (decide (x=y)))):XC Tryz.prog 74 [.sl 2 (a.map Ce.c), .sl 2 (b.map Ce.c), .fn F [] []] (fun r=>r=dB (decide (a=b))):=by
 refine An Ad8 Tryz.func74 R R lb<|zr<|za R R<|zn<|zs<|zr<|zm R R<|XL.len R R R Tryz.underlying28 fun hl11=>zm R R<|XL.len R R R Tryz.underlying28 fun hl13=>zp (A1 R R R)<|zn<|?_
 refine zd R (fun c14=> ?_) (fun c14=> ?_)
 exact zr<|za R R<|zn<|zt<|z1 R R (rB (Gh (fun h=>c14 (by rw [h]))))
 refine zi<|zs<|zr<|zm R R<|XL.len R R R Tryz.underlying28 fun hl16=>zm R R<|zn<|Ah<|?_
 refine Az (α:=Nat) (fun k=>k≤a.length∧∀j x y,j<k→a[j]? =some x→b[j]? =some y→x=y) (fun k=>mkF [(1, .d (.sl 2 (b.map Ce.c))),(2, .d (.fn F [] [])),(15, .d (.sl 2 (a.map Ce.c))),(16, .d (dI a.length)),(17, .d (dI k))]) (fun k=>mkH []) (fun k=>a.length - k) (0) (⟨Nat.zero_le _,fun j x y h=>absurd h (Nat.not_lt_zero _)⟩) ?_ ?_ ?_
 exact fz ⟨sr,sr,sr,sr,sr,trivial⟩
 exact HSub.nil
 intro k hk0
 obtain ⟨hk,hf⟩:=hk0
 refine zr<|zp (Au R R R)<|zn<|zs<|?_
 refine zd R (fun c18=> ?_) (fun c18=> ?_)
 have hk0a:k<a.length:=by omega
 obtain ⟨x,hx0⟩:=Ar hk0a
 obtain ⟨y,hy⟩:∃y,b[k]? =some y:=Ar (by omega)
 refine zi<|zs<|Ah<|zr<|zm R R<|zp (Ao R R R Em hx0)<|zp (Ae (s':= .d (.agg (Ce.c x))) (Ay R R F2 lb) (by kernel_rfl))<|XL.step R (Aq 8 (l:= [.d (.v (.slice none 0 0)), .d (.v (.slice none 0 0))]) R Fe (by kernel_rfl))<|za R R<|XL.step R (Af (l':= [.d (.sl 2 (x.clefs.map Cf.c)), .d (.sl 2 (x.voices.map Vo.c))]) R R R R Jf R lb (by kernel_rfl))<|?_
 refine znr<|zm R R<|zm R R<|zp (Ao R R R Em (hy))<|zp (Ae (s':= .d (.agg (Ce.c y))) (Ay R R F2 lb) (by kernel_rfl))<|XL.step R (Aq 9 (l:= [.d (.v (.slice none 0 0)), .d (.v (.slice none 0 0))]) R Fe (by kernel_rfl))<|XL.step R (Af (l':= [.d (.sl 2 (y.clefs.map Cf.c)), .d (.sl 2 (y.voices.map Vo.c))]) R R R R Jf R lb (by kernel_rfl))<|znr<|zm R R<|?_
 refine zp (Ae (s':= .d (.agg (Ce.c x))) (Ac (Ad R R F2 R lb)) (by kernel_rfl))<|zp (Ae (s':= .d (.agg (Ce.c y))) (Ac (Ad R R F2 R lb)) (by kernel_rfl))<|XL.callv1 (ds:= [_,_]) R R R (hF x (List.mem_of_getElem? hx0) y (List.mem_of_getElem? hy)) R<|zp (En R R)<|zn<|?_
 refine zd R (fun c30=> ?_) (fun c30=> ?_)
 exact zr<|za R R<|zn<|zt<|z1 R R (rB (Gh (fun h=>c30 (by rw [h] at hx0;rw [hx0] at hy;cases hy;rfl))))
 refine zi<|Ag (by kernel_rfl)<|zp (Al R R R (by omega) (by omega))<|zm R R<|zn<|?_
 exact Am (k+1) (⟨by omega,fun j x' y' hj hx' hy'=>by by_cases e:j=k;(· subst e;rw [hx0] at hx';rw [hy] at hy';cases hx';cases hy';exact Decidable.not_not.1 c30);(· exact hf j x' y' (by omega) hx' hy')⟩) (by omega) (fz ⟨sr,sr,sr,sr,sr,trivial⟩) (HSub.nil)
 have hk0b:k=a.length:=by omega
 exact At<|zr<|za R R<|zn<|zt<|z1 R R (rB (eq_yes (Et (by omega) (fun j x y hj=>hf j x y (by omega)))))
theorem Ao8 (a b:List Tp):XC Tryz.prog 110 [.sl 4 (a.map Tp.c), .sl 4 (b.map Tp.c)] (fun r=>r=dB (decide (a=b))):=by
 exact An Acr Tryz.func110 R R lb<|zr<|za R R<|znr<|zm R R<|zm R R<|XL.call1 R R (Anl _ _) R<|za R R<|zn<|zt<|z1 R R (R)
theorem Aqq (a b:Ev):XC Tryz.prog 109 [.agg (Ev.c a), .agg (Ev.c b)] (fun r=>r=dB (decide (a=b))):=by
 have h:=Ak3 a b
 rw [show decide (a.eqv b)=decide (a=b) by rw [decide_eq_decide];exact Ev.eqv_iff] at h
 exact h
theorem Vo.eq_yes {a b:Vo} (h:a.evs=b.evs) (h2:a.tups=b.tups):a=b:=by obtain ⟨x,y⟩:=a;obtain ⟨z,t⟩:=b;simp only at h h2;subst h h2;rfl
theorem Ce.eq_yes {a b:Ce} (h:a.clefs=b.clefs) (h2:a.voices=b.voices):a=b:=by obtain ⟨x,y⟩:=a;obtain ⟨z,t⟩:=b;simp only at h h2;subst h h2;rfl
theorem Ms.eq_yes {a b:Ms} (h0:a.h=b.h) (h:a.tempi=b.tempi) (h2:a.cells=b.cells):a=b:=by obtain ⟨w,x,y⟩:=a;obtain ⟨w',z,t⟩:=b;simp only at h0 h h2;subst h0 h h2;rfl
theorem Ae9 (a b:Vo):XC Tryz.prog 78 [.agg (Vo.c a), .agg (Vo.c b)] (fun r=>r=dB (decide (a=b))):=by
 refine An Ad5 Tryz.func78 R R lb<|zr<|XL.step R (Ap 2 (l:= [.d (.sl 13 (a.evs.map Ev.c)), .d (.sl 4 (a.tups.map Tp.c))]) R R (by kernel_rfl))<|XL.step R (Ap 3 (l:= [.d (.sl 13 (b.evs.map Ev.c)), .d (.sl 4 (b.tups.map Tp.c))]) R R (by kernel_rfl))<|za R R<|znr<|zp (Aa R R Bo)<|zp (Ab R R Cz R R)<|zp (Aa R R Bo)<|zp (Ab R R Cz R R)<|?_
 refine XL.call1 R R (Akv _ _ _ (fun x _ y _=>Aqq x y)) R<|zm R R<|?_
 refine XL.dec 10 R (fun g10=> ?_) (fun g10=> ?_)
 exact zp (Aa R R B6)<|zp (Ab R R B7 R R)<|zp (Aa R R B6)<|zp (Ab R R B7 R R)<|XL.call1 R R (Ao8 _ _) R<|zq R R R<|za R R<|zn<|zt<|z1 R R (rB (by by_cases h:a.tups=b.tups;(· rw [decide_eq_true h];exact Ah0 (Vo.eq_yes g10 h));(· rw [decide_eq_false h];exact dno (fun e=>h (by rw [e])))))
 exact zk 5 R<|zq R R R<|za R R<|zn<|zt<|z1 R R (rB (dno (fun e=>g10 (by rw [e]))))
theorem Agg (a b:Ce):XC Tryz.prog 37 [.agg (Ce.c a), .agg (Ce.c b)] (fun r=>r=dB (decide (a=b))):=by
 refine An Aeu Tryz.func37 R R lb<|zr<|XL.step R (Ap 2 (l:= [.d (.sl 2 (a.clefs.map Cf.c)), .d (.sl 2 (a.voices.map Vo.c))]) R R (by kernel_rfl))<|XL.step R (Ap 3 (l:= [.d (.sl 2 (b.clefs.map Cf.c)), .d (.sl 2 (b.voices.map Vo.c))]) R R (by kernel_rfl))<|za R R<|znr<|zp (Aa R R Ea)<|zp (Ab R R Iz R R)<|zp (Aa R R Ea)<|?_
 refine zp (Ab R R Iz R R)<|XL.call1 R R (Anp _ _) R<|zm R R<|?_
 refine XL.dec 10 R (fun g10=> ?_) (fun g10=> ?_)
 exact zp (Aa R R Cm)<|zp (Ab R R Eg R R)<|zp (Aa R R Cm)<|zp (Ab R R Eg R R)<|XL.call1 R R (Aku _ _ _ (fun x _ y _=>Ae9 x y)) R<|zq R R R<|za R R<|zn<|zt<|z1 R R (rB (by by_cases h:a.voices=b.voices;(· rw [decide_eq_true h];exact Ah0 (Ce.eq_yes g10 h));(· rw [decide_eq_false h];exact dno (fun e=>h (by rw [e])))))
 exact zk 5 R<|zq R R R<|za R R<|zn<|zt<|z1 R R (rB (dno (fun e=>g10 (by rw [e]))))
def Mh.f (h:Mh):List D:= [dI h.site,dI h.num,dI h.m.count,dI h.m.unit,dI h.m.g0,dI h.m.g1,dI h.m.g2,dI h.m.g3,dI h.m.g4,dI h.m.g5,dI h.len,dI h.fifths,dB h.start,dI h.fin,dI h.ends,dI h.jump,dI h.labels,dI h.swing,dI h.brk, .v (.string ⟨h.reh.toArray⟩)]
theorem Mh.eqv_iff {a b:Mh}:((a.site=b.site∧a.num=b.num)∧(a.m.count=b.m.count∧a.m.unit=b.m.unit∧(a.m.g0=b.m.g0∧a.m.g1=b.m.g1∧a.m.g2=b.m.g2∧a.m.g3=b.m.g3∧a.m.g4=b.m.g4∧a.m.g5=b.m.g5))∧a.len=b.len∧a.fifths=b.fifths∧a.start=b.start∧a.fin=b.fin∧a.ends=b.ends∧a.jump=b.jump∧a.labels=b.labels∧a.swing=b.swing∧a.brk=b.brk∧(ByteArray.mk a.reh.toArray).toList=(ByteArray.mk b.reh.toArray).toList)↔a=b:=by
 constructor
 ·rintro ⟨⟨h1,h2⟩,⟨h3,h4,h5,h6,h7,h8,h9,h10⟩,h11,h12,h13,h14,h15,h16,h17,h18,h19,h20⟩
  obtain ⟨a1,a2,⟨a3,a4,a5,a6,a7,a8,a9,a10⟩,a11,a12,a13,a14,a15,a16,a17,a18,a19,a20⟩:=a
  obtain ⟨b1,b2,⟨b3,b4,b5,b6,b7,b8,b9,b10⟩,b11,b12,b13,b14,b15,b16,b17,b18,b19,b20⟩:=b
  simp only [Jz] at h1 h2 h3 h4 h5 h6 h7 h8 h9 h10 h11 h12 h13 h14 h15 h16 h17 h18 h19 h20
  subst h1 h2 h3 h4 h5 h6 h7 h8 h9 h10 h11 h12 h13 h14 h15 h16 h17 h18 h19 h20;rfl
 ·rintro rfl
  simp
theorem J4 (m:Ms):XC Tryz.prog 72 [.agg (Ms.c m)] (fun r=>r= .agg (Mh.f m.h)):=by
 refine An Aea Tryz.func72 R R lb<|zr<|?_
 refine XL.step R (Ap 1 (l:= [.d (dI m.h.site), .d (dI m.h.num), .d (dI m.h.m.count), .d (dI m.h.m.unit), .d (dI m.h.m.g0), .d (dI m.h.m.g1), .d (dI m.h.m.g2), .d (dI m.h.m.g3), .d (dI m.h.m.g4), .d (dI m.h.m.g5), .d (dI m.h.len), .d (dI m.h.fifths), .d (dB m.h.start), .d (dI m.h.fin), .d (dI m.h.ends), .d (dI m.h.jump), .d (dI m.h.labels), .d (dI m.h.swing), .d (dI m.h.brk), .d (.v (.string ⟨m.h.reh.toArray⟩)), .d (.sl 3 (m.tempi.map Tm.c)), .d (.sl 2 (m.cells.map Ce.c))]) R R (by kernel_rfl))<|?_
 refine XL.step R (Aq 2 (l:= [.d (dI 0), .d (dI 0), .d (dI 0), .d (dI 0), .d (dI 0), .d (dI 0), .d (dI 0), .d (dI 0), .d (dI 0), .d (dI 0), .d (dI 0), .d (dI 0), .d (dB false), .d (dI 0), .d (dI 0), .d (dI 0), .d (dI 0), .d (dI 0), .d (dI 0), .d (.v (.string ⟨#[]⟩))]) R X9 (by kernel_rfl))<|znr<|zp (Aa R R Nj)<|?_
 refine zp (Ae (s':= .d (.agg [dI m.h.site,dI m.h.num])) (Ac (Ad R R Kt R lb)) (by kernel_rfl))<|zp (Aa R R G6)<|zp (Ae (s':= .d (.agg (Me.c m.h.m))) (Ac (Ad R R Bn R lb)) (by kernel_rfl))<|zp (Aa R R Gb)<|zp (Ab R R Ai R R)<|zp (Aa R R T8)<|zp (Ab R R Ai R R)<|zp (Aa R R T7)<|?_
 refine zp (Ab R R M0 R R)<|zp (Aa R R T6)<|zp (Ab R R Ai R R)<|zp (Aa R R T5)<|zp (Ab R R Ai R R)<|zp (Aa R R T4)<|zp (Ab R R Ai R R)<|zp (Aa R R T3)<|zp (Ab R R Ai R R)<|zp (Aa R R T2)<|zp (Ab R R Ai R R)<|zp (Aa R R Qy)<|zp (Ab R R Ai R R)<|?_
 refine zp (Aa R R Gu)<|zp (Ab R R H9 R R)<|?_
 refine zp (Ae (s':= .d (.agg [dI m.h.site,dI m.h.num,dI m.h.m.count,dI m.h.m.unit,dI m.h.m.g0,dI m.h.m.g1,dI m.h.m.g2,dI m.h.m.g3,dI m.h.m.g4,dI m.h.m.g5,dI m.h.len,dI m.h.fifths,dB m.h.start,dI m.h.fin,dI m.h.ends,dI m.h.jump,dI m.h.labels,dI m.h.swing,dI m.h.brk, .v (.string ⟨m.h.reh.toArray⟩)])) (Ac (A4 (r:= [.d (dI m.h.site), .d (dI m.h.num), .d (dI m.h.m.count), .d (dI m.h.m.unit), .d (dI m.h.m.g0), .d (dI m.h.m.g1), .d (dI m.h.m.g2), .d (dI m.h.m.g3), .d (dI m.h.m.g4), .d (dI m.h.m.g5), .d (dI m.h.len), .d (dI m.h.fifths), .d (dB m.h.start), .d (dI m.h.fin), .d (dI m.h.ends), .d (dI m.h.jump), .d (dI m.h.labels), .d (dI m.h.swing), .d (dI m.h.brk), .d (.v (.string ⟨m.h.reh.toArray⟩))]) R Aph X9 (by kernel_rfl))) (by kernel_rfl))<|?_
 refine XL.step R (Af (l':= [.d (dI m.h.site), .d (dI m.h.num), .d (dI m.h.m.count), .d (dI m.h.m.unit), .d (dI m.h.m.g0), .d (dI m.h.m.g1), .d (dI m.h.m.g2), .d (dI m.h.m.g3), .d (dI m.h.m.g4), .d (dI m.h.m.g5), .d (dI m.h.len), .d (dI m.h.fifths), .d (dB m.h.start), .d (dI m.h.fin), .d (dI m.h.ends), .d (dI m.h.jump), .d (dI m.h.labels), .d (dI m.h.swing), .d (dI m.h.brk), .d (.v (.string ⟨m.h.reh.toArray⟩))]) R R R R Arf R lb (by kernel_rfl))<|?_
 refine zn<|zt<|?_
 exact Jb R (RV.cells R R R Aq4 lb R) (R)
theorem Rs (a b:Ms):XC Tryz.prog 30 [.agg (Ms.c a), .agg (Ms.c b)] (fun r=>r=dB (decide (a=b))):=by
 refine An Aez Tryz.func30 R R lb<|zr<|?_
 refine XL.step R (Ap 2 (l:= [.d (dI a.h.site), .d (dI a.h.num), .d (dI a.h.m.count), .d (dI a.h.m.unit), .d (dI a.h.m.g0), .d (dI a.h.m.g1), .d (dI a.h.m.g2), .d (dI a.h.m.g3), .d (dI a.h.m.g4), .d (dI a.h.m.g5), .d (dI a.h.len), .d (dI a.h.fifths), .d (dB a.h.start), .d (dI a.h.fin), .d (dI a.h.ends), .d (dI a.h.jump), .d (dI a.h.labels), .d (dI a.h.swing), .d (dI a.h.brk), .d (.v (.string ⟨a.h.reh.toArray⟩)), .d (.sl 3 (a.tempi.map Tm.c)), .d (.sl 2 (a.cells.map Ce.c))]) R R (by kernel_rfl))<|?_
 refine XL.step R (Ap 3 (l:= [.d (dI b.h.site), .d (dI b.h.num), .d (dI b.h.m.count), .d (dI b.h.m.unit), .d (dI b.h.m.g0), .d (dI b.h.m.g1), .d (dI b.h.m.g2), .d (dI b.h.m.g3), .d (dI b.h.m.g4), .d (dI b.h.m.g5), .d (dI b.h.len), .d (dI b.h.fifths), .d (dB b.h.start), .d (dI b.h.fin), .d (dI b.h.ends), .d (dI b.h.jump), .d (dI b.h.labels), .d (dI b.h.swing), .d (dI b.h.brk), .d (.v (.string ⟨b.h.reh.toArray⟩)), .d (.sl 3 (b.tempi.map Tm.c)), .d (.sl 2 (b.cells.map Ce.c))]) R R (by kernel_rfl))<|?_
 refine za R R<|zn<|zs<|?_
 by_cases q9:((a.h.site=b.h.site∧a.h.num=b.h.num)∧(a.h.m.count=b.h.m.count∧a.h.m.unit=b.h.m.unit∧(a.h.m.g0=b.h.m.g0∧a.h.m.g1=b.h.m.g1∧a.h.m.g2=b.h.m.g2∧a.h.m.g3=b.h.m.g3∧a.h.m.g4=b.h.m.g4∧a.h.m.g5=b.h.m.g5))∧a.h.len=b.h.len∧a.h.fifths=b.h.fifths∧a.h.start=b.h.start∧a.h.fin=b.h.fin∧a.h.ends=b.h.ends∧a.h.jump=b.h.jump∧a.h.labels=b.h.labels∧a.h.swing=b.h.swing∧a.h.brk=b.h.brk∧(ByteArray.mk a.h.reh.toArray).toList=(ByteArray.mk b.h.reh.toArray).toList)
 by_cases q15:(a.tempi=b.tempi)
 refine Bv [] (by kernel_rfl) (by kernel_rfl) (by kernel_rfl) (by decide)<|yp (Ae (s':= .d (.agg (Ms.c a))) (Ac (Ad R R Bj R lb)) (by kernel_rfl))<|ChK.cons R (CStep.call R (J4 _) R)<|yp (Ae (s':= .d (.agg (Ms.c b))) (Ac (Ad R R Bj R lb)) (by kernel_rfl))<|ChK.cons R (CStep.call R (J4 _) R)<|yp (Ec (Ql R R R) (q9))<|ym R R<|?_
 refine yp (Aa R R C8)<|yp (Ab R R Ht R R)<|yp (Aa R R C8)<|yp (Ab R R Ht R R)<|ChK.cons R (CStep.call R (P2 (Aaf _ _) q15) R)<|yp (Be R R (by conv=>lhs;whnf))<|?_
 refine ym R R<|yp (Aa R R Bm)<|yp (Ab R R Df R R)<|yp (Aa R R Bm)<|yp (Ab R R Df R R)<|ChK.cons R (CStep.call R (Akw _ _ _ (fun x _ y _=>Agg x y)) R)<|yp (Be R R (by conv=>lhs;whnf))<|?_
 refine ya R R<|?_
 refine ChK.nil ⟨by kernel_rfl, ?_⟩
 exact zt<|z1 R R (rB (by by_cases h:a.cells=b.cells;(· rw [decide_eq_true h];exact Ah0 (Ms.eq_yes (Mh.eqv_iff.1 q9) q15 h));(· rw [decide_eq_false h];exact dno (fun e=>h (by rw [e])))))
 refine Bv [] (by kernel_rfl) (by kernel_rfl) (by kernel_rfl) (by decide)<|yp (Ae (s':= .d (.agg (Ms.c a))) (Ac (Ad R R Bj R lb)) (by kernel_rfl))<|ChK.cons R (CStep.call R (J4 _) R)<|yp (Ae (s':= .d (.agg (Ms.c b))) (Ac (Ad R R Bj R lb)) (by kernel_rfl))<|ChK.cons R (CStep.call R (J4 _) R)<|yp (Ec (Ql R R R) (q9))<|ym R R<|?_
 refine yp (Aa R R C8)<|yp (Ab R R Ht R R)<|yp (Aa R R C8)<|yp (Ab R R Ht R R)<|ChK.cons R (CStep.call R (An5 (Aaf _ _) q15) R)<|yp (Be R R (by conv=>lhs;whnf))<|?_
 refine ym R R<|ChK.skip R<|ChK.skip R<|ChK.skip R<|ChK.skip R<|ChK.skip R<|yp (Be R R (by conv=>lhs;whnf))<|?_
 refine ya R R<|?_
 refine ChK.nil ⟨by kernel_rfl, ?_⟩
 exact zt<|z1 R R (rB (dno (fun e=>q15 (by rw [e]))))
 refine Bv [] (by kernel_rfl) (by kernel_rfl) (by kernel_rfl) (by decide)<|yp (Ae (s':= .d (.agg (Ms.c a))) (Ac (Ad R R Bj R lb)) (by kernel_rfl))<|ChK.cons R (CStep.call R (J4 _) R)<|yp (Ae (s':= .d (.agg (Ms.c b))) (Ac (Ad R R Bj R lb)) (by kernel_rfl))<|ChK.cons R (CStep.call R (J4 _) R)<|yp (Hc (Ql R R R) (q9))<|ym R R<|?_
 refine ChK.skip R<|ChK.skip R<|ChK.skip R<|ChK.skip R<|ChK.skip R<|yp (Be R R (by conv=>lhs;whnf))<|?_
 refine ym R R<|ChK.skip R<|ChK.skip R<|ChK.skip R<|ChK.skip R<|ChK.skip R<|yp (Be R R (by conv=>lhs;whnf))<|?_
 refine ya R R<|?_
 refine ChK.nil ⟨by kernel_rfl, ?_⟩
 exact zt<|z1 R R (rB (dno (fun e=>q9 (Mh.eqv_iff.2 (by rw [e])))))
end Go.Proofs.YtaafemnkamfgnaaGreat
namespace Go.Proofs.YtaafemnkamfgnaaGreat
open Go.RowKit
def bEv:Ev:=⟨0,0,3,⟨0,0⟩, [], [],0,0,0, [],0,0⟩
def bVo:Vo:=⟨[bEv], []⟩
def bCe:Ce:=⟨[], [bVo]⟩
def blH (t:Me) (n f:Int):Mh:=Mh.sh (⟨0,0,Me.z,0,f,false,0,0,0,0,0,0, []⟩:Mh) t n
def blM (t:Me) (n f s:Int):Ms:=⟨blH t n f, [],List.replicate s.toNat bCe⟩
def blE (t:Me) (n f s:Int):Int:=if mlE t n≠0 then mlE t n else if f< -7∨7<f∨s<1∨128<s then 2 else 0
def blS (t:Me) (n f s:Int):Ms:=if blE t n f s≠0 then Ms.z else blM t n f s
end Go.Proofs.YtaafemnkamfgnaaGreat
namespace Go.Proofs.YtaafemnkamfgnaaGreat
open Go.RowKit
theorem Zf {P:Program} {o:Oper} {e:Operand→S} {h:Xh} {t t':TypeId} {x y:Operand} {a b:Bool} (ho:o.op= .binOp .neq t x y t') (hx:e x= .d (.v (.bool a))) (hy:e y= .d (.v (.bool b))) (ht:P.underlying t=some .bool):A9 P o e h (.d (.v (.bool (decide (a≠b))))):=by
 refine G9 ho hx hy rfl (by simp) fun w=> ?_
 have hq:=Nm (P:=P) (w:=w) 9999 t ht a b
 simp only [Nat.reduceAdd] at hq
 have he:(Op.equal t (.bool a) (.bool b)).run P w= .ok (decide (a=b)) w:=hq
 simp [binOp,he]
theorem Qu (a b:Ms):XC Tryz.prog 35 [.agg (Ms.c a), .agg (Ms.c b)] (fun r=>r=dB (decide (a=b))):=by
 refine An Aew Tryz.func35 R R lb<|zr<|?_
 refine XL.step R (Ap 2 (l:= [.d (dI a.h.site), .d (dI a.h.num), .d (dI a.h.m.count), .d (dI a.h.m.unit), .d (dI a.h.m.g0), .d (dI a.h.m.g1), .d (dI a.h.m.g2), .d (dI a.h.m.g3), .d (dI a.h.m.g4), .d (dI a.h.m.g5), .d (dI a.h.len), .d (dI a.h.fifths), .d (dB a.h.start), .d (dI a.h.fin), .d (dI a.h.ends), .d (dI a.h.jump), .d (dI a.h.labels), .d (dI a.h.swing), .d (dI a.h.brk), .d (.v (.string ⟨a.h.reh.toArray⟩)), .d (.sl 3 (a.tempi.map Tm.c)), .d (.sl 2 (a.cells.map Ce.c))]) R R (by kernel_rfl))<|?_
 refine XL.step R (Ap 3 (l:= [.d (dI b.h.site), .d (dI b.h.num), .d (dI b.h.m.count), .d (dI b.h.m.unit), .d (dI b.h.m.g0), .d (dI b.h.m.g1), .d (dI b.h.m.g2), .d (dI b.h.m.g3), .d (dI b.h.m.g4), .d (dI b.h.m.g5), .d (dI b.h.len), .d (dI b.h.fifths), .d (dB b.h.start), .d (dI b.h.fin), .d (dI b.h.ends), .d (dI b.h.jump), .d (dI b.h.labels), .d (dI b.h.swing), .d (dI b.h.brk), .d (.v (.string ⟨b.h.reh.toArray⟩)), .d (.sl 3 (b.tempi.map Tm.c)), .d (.sl 2 (b.cells.map Ce.c))]) R R (by kernel_rfl))<|?_
 refine za R R<|zn<|zs<|zr<|zp (Aa R R Nj)<|zp (Ae (s':= .d (.agg [dI a.h.site,dI a.h.num])) (Ac (Ad R R Kt R lb)) (by kernel_rfl))<|zp (Aa R R Nj)<|zp (Ae (s':= .d (.agg [dI b.h.site,dI b.h.num])) (Ac (Ad R R Kt R lb)) (by kernel_rfl))<|zp (Amd R R R)<|zm R R<|?_
 refine XL.dec 16 R (fun g16=> ?_) (fun g16=> ?_)
 refine zk 5 R<|zq R R R<|zm R R<|zk 5 R<|zq R R R<|zm R R<|zk 5 R<|zq R R R<|zm R R<|zk 5 R<|zq R R R<|zm R R<|zk 5 R<|zq R R R<|?_
 refine zm R R<|zk 5 R<|zq R R R<|zm R R<|zk 5 R<|zq R R R<|zm R R<|zk 5 R<|zq R R R<|zm R R<|zk 5 R<|zq R R R<|zm R R<|zk 5 R<|?_
 refine zq R R R<|zm R R<|zk 5 R<|zq R R R<|zm R R<|zk 7 R<|zq R R R<|zm R R<|zk 7 R<|zq R R R<|zn<|Av (by kernel_rfl) R<|zr<|za R R<|?_
 exact zn<|zt<|z1 R R (rB (dno (fun e=>by subst e;simp_all)))
 refine zp (Aa R R G6)<|zp (Ae (s':= .d (.agg (Me.c a.h.m))) (Ac (Ad R R Bn R lb)) (by kernel_rfl))<|zp (Aa R R G6)<|zp (Ae (s':= .d (.agg (Me.c b.h.m))) (Ac (Ad R R Bn R lb)) (by kernel_rfl))<|zp (Amb R R R)<|zq R R R<|zm R R<|?_
 refine XL.dec 23 R (fun g23=> ?_) (fun g23=> ?_)
 refine zk 5 R<|zq R R R<|zm R R<|zk 5 R<|zq R R R<|zm R R<|zk 5 R<|zq R R R<|zm R R<|zk 5 R<|zq R R R<|zm R R<|zk 5 R<|zq R R R<|?_
 refine zm R R<|zk 5 R<|zq R R R<|zm R R<|zk 5 R<|zq R R R<|zm R R<|zk 5 R<|zq R R R<|zm R R<|zk 5 R<|zq R R R<|zm R R<|zk 5 R<|?_
 exact zq R R R<|zm R R<|zk 7 R<|zq R R R<|zm R R<|zk 7 R<|zq R R R<|zn<|Av (by kernel_rfl) R<|zr<|za R R<|zn<|zt<|z1 R R (rB (dno (fun e=>by subst e;simp_all)))
 refine zp (Aa R R Gb)<|zp (Ab R R Ai R R)<|zp (Aa R R Gb)<|zp (Ab R R Ai R R)<|zp (A1 R R R)<|zq R R R<|zm R R<|?_
 refine XL.dec 30 R (fun g30=> ?_) (fun g30=> ?_)
 refine zk 5 R<|zq R R R<|zm R R<|zk 5 R<|zq R R R<|zm R R<|zk 5 R<|zq R R R<|zm R R<|zk 5 R<|zq R R R<|zm R R<|zk 5 R<|zq R R R<|?_
 refine zm R R<|zk 5 R<|zq R R R<|zm R R<|zk 5 R<|zq R R R<|zm R R<|zk 5 R<|zq R R R<|zm R R<|zk 5 R<|zq R R R<|zm R R<|zk 7 R<|?_
 exact zq R R R<|zm R R<|zk 7 R<|zq R R R<|zn<|Av (by kernel_rfl) R<|zr<|za R R<|zn<|zt<|z1 R R (rB (dno (fun e=>by subst e;simp_all)))
 refine zp (Aa R R T8)<|zp (Ab R R Ai R R)<|zp (Aa R R T8)<|zp (Ab R R Ai R R)<|zp (A1 R R R)<|zq R R R<|zm R R<|?_
 refine XL.dec 37 R (fun g37=> ?_) (fun g37=> ?_)
 refine zk 5 R<|zq R R R<|zm R R<|zk 5 R<|zq R R R<|zm R R<|zk 5 R<|zq R R R<|zm R R<|zk 5 R<|zq R R R<|zm R R<|zk 5 R<|zq R R R<|?_
 refine zm R R<|zk 5 R<|zq R R R<|zm R R<|zk 5 R<|zq R R R<|zm R R<|zk 5 R<|zq R R R<|zm R R<|zk 7 R<|zq R R R<|zm R R<|zk 7 R<|?_
 exact zq R R R<|zn<|Av (by kernel_rfl) R<|zr<|za R R<|zn<|zt<|z1 R R (rB (dno (fun e=>by subst e;simp_all)))
 refine zp (Aa R R T7)<|zp (Ab R R M0 R R)<|zp (Aa R R T7)<|zp (Ab R R M0 R R)<|zp (Zf R R R Tryz.underlying4)<|zq R R R<|zm R R<|?_
 refine XL.dec 44 R (fun g44=> ?_) (fun g44=> ?_)
 refine zk 5 R<|zq R R R<|zm R R<|zk 5 R<|zq R R R<|zm R R<|zk 5 R<|zq R R R<|zm R R<|zk 5 R<|zq R R R<|zm R R<|zk 5 R<|zq R R R<|?_
 refine zm R R<|zk 5 R<|zq R R R<|zm R R<|zk 5 R<|zq R R R<|zm R R<|zk 7 R<|zq R R R<|zm R R<|zk 7 R<|zq R R R<|zn<|Av (by kernel_rfl) R<|?_
 exact zr<|za R R<|zn<|zt<|z1 R R (rB (dno (fun e=>by subst e;simp_all)))
 refine zp (Aa R R T6)<|zp (Ab R R Ai R R)<|zp (Aa R R T6)<|zp (Ab R R Ai R R)<|zp (A1 R R R)<|zq R R R<|zm R R<|?_
 refine XL.dec 51 R (fun g51=> ?_) (fun g51=> ?_)
 refine zk 5 R<|zq R R R<|zm R R<|zk 5 R<|zq R R R<|zm R R<|zk 5 R<|zq R R R<|zm R R<|zk 5 R<|zq R R R<|zm R R<|zk 5 R<|zq R R R<|?_
 refine zm R R<|zk 5 R<|zq R R R<|zm R R<|zk 7 R<|zq R R R<|zm R R<|zk 7 R<|zq R R R<|zn<|Av (by kernel_rfl) R<|zr<|za R R<|zn<|?_
 exact zt<|z1 R R (rB (dno (fun e=>by subst e;simp_all)))
 refine zp (Aa R R T5)<|zp (Ab R R Ai R R)<|zp (Aa R R T5)<|zp (Ab R R Ai R R)<|zp (A1 R R R)<|zq R R R<|zm R R<|?_
 refine XL.dec 58 R (fun g58=> ?_) (fun g58=> ?_)
 refine zk 5 R<|zq R R R<|zm R R<|zk 5 R<|zq R R R<|zm R R<|zk 5 R<|zq R R R<|zm R R<|zk 5 R<|zq R R R<|zm R R<|zk 5 R<|zq R R R<|?_
 exact zm R R<|zk 7 R<|zq R R R<|zm R R<|zk 7 R<|zq R R R<|zn<|Av (by kernel_rfl) R<|zr<|za R R<|zn<|zt<|z1 R R (rB (dno (fun e=>by subst e;simp_all)))
 refine zp (Aa R R T4)<|zp (Ab R R Ai R R)<|zp (Aa R R T4)<|zp (Ab R R Ai R R)<|zp (A1 R R R)<|zq R R R<|zm R R<|?_
 refine XL.dec 65 R (fun g65=> ?_) (fun g65=> ?_)
 refine zk 5 R<|zq R R R<|zm R R<|zk 5 R<|zq R R R<|zm R R<|zk 5 R<|zq R R R<|zm R R<|zk 5 R<|zq R R R<|zm R R<|zk 7 R<|zq R R R<|?_
 exact zm R R<|zk 7 R<|zq R R R<|zn<|Av (by kernel_rfl) R<|zr<|za R R<|zn<|zt<|z1 R R (rB (dno (fun e=>by subst e;simp_all)))
 refine zp (Aa R R T3)<|zp (Ab R R Ai R R)<|zp (Aa R R T3)<|zp (Ab R R Ai R R)<|zp (A1 R R R)<|zq R R R<|zm R R<|?_
 refine XL.dec 72 R (fun g72=> ?_) (fun g72=> ?_)
 refine zk 5 R<|zq R R R<|zm R R<|zk 5 R<|zq R R R<|zm R R<|zk 5 R<|zq R R R<|zm R R<|zk 7 R<|zq R R R<|zm R R<|zk 7 R<|zq R R R<|?_
 exact zn<|Av (by kernel_rfl) R<|zr<|za R R<|zn<|zt<|z1 R R (rB (dno (fun e=>by subst e;simp_all)))
 refine zp (Aa R R T2)<|zp (Ab R R Ai R R)<|zp (Aa R R T2)<|zp (Ab R R Ai R R)<|zp (A1 R R R)<|zq R R R<|zm R R<|?_
 refine XL.dec 79 R (fun g79=> ?_) (fun g79=> ?_)
 refine zk 5 R<|zq R R R<|zm R R<|zk 5 R<|zq R R R<|zm R R<|zk 7 R<|zq R R R<|zm R R<|zk 7 R<|zq R R R<|zn<|Av (by kernel_rfl) R<|zr<|?_
 exact za R R<|zn<|zt<|z1 R R (rB (dno (fun e=>by subst e;simp_all)))
 refine zp (Aa R R Qy)<|zp (Ab R R Ai R R)<|zp (Aa R R Qy)<|zp (Ab R R Ai R R)<|zp (A1 R R R)<|zq R R R<|zm R R<|?_
 refine XL.dec 86 R (fun g86=> ?_) (fun g86=> ?_)
 exact zk 5 R<|zq R R R<|zm R R<|zk 7 R<|zq R R R<|zm R R<|zk 7 R<|zq R R R<|zn<|Av (by kernel_rfl) R<|zr<|za R R<|zn<|zt<|z1 R R (rB (dno (fun e=>by subst e;simp_all)))
 refine zp (Aa R R Gu)<|zp (Ab R R H9 R R)<|zp (Aa R R Gu)<|zp (Ab R R H9 R R)<|zp (Apv R R R)<|zq R R R<|zm R R<|?_
 refine XL.bool 93 R (fun g93=> ?_) (fun g93=> ?_)
 exact zk 7 R<|zq R R R<|zm R R<|zk 7 R<|zq R R R<|zn<|Av (by kernel_rfl) R<|zr<|za R R<|zn<|zt<|z1 R R (rB (dno (fun e=>by subst e;simp_all)))
 refine zp (Aa R R C8)<|zp (Ab R R Ht R R)<|XL.len R R R Tryz.underlying27 fun hl96=>zp (Aa R R C8)<|zp (Ab R R Ht R R)<|XL.len R R R Tryz.underlying27 fun hl99=>zp (A1 R R R)<|zq R R R<|zm R R<|?_
 refine XL.dec 102 R (fun g102=> ?_) (fun g102=> ?_)
 exact zk 7 R<|zq R R R<|zn<|Av (by kernel_rfl) R<|zr<|za R R<|zn<|zt<|z1 R R (rB (dno (fun e=>by subst e;simp_all)))
 refine zp (Aa R R Bm)<|zp (Ab R R Df R R)<|XL.len R R R Tryz.underlying28 fun hl105=>zp (Aa R R Bm)<|zp (Ab R R Df R R)<|XL.len R R R Tryz.underlying28 fun hl108=>zp (A1 R R R)<|zq R R R<|zn<|?_
 refine zd R (fun c110=> ?_) (fun c110=> ?_)
 exact zr<|za R R<|zn<|zt<|z1 R R (rB (dno (fun e=>by subst e;simp_all)))
 refine zi<|zs<|zs<|?_
 have hh:a.h=b.h:=Mh.eqv_iff.1 (by simp_all)
 have hlt:a.tempi.length=b.tempi.length:=by omega
 have hlc:a.cells.length=b.cells.length:=by omega
 refine Ag (by kernel_rfl)<|za R R<|zn<|Ah<|?_
 refine Az (α:=Nat) (fun k=>k≤a.tempi.length∧∀q X Y,q<k→a.tempi[q]? =some X→b.tempi[q]? =some Y→X=Y) (fun k=>mkF [(2, .ptr 2 0 0),(3, .ptr 3 0 0),(5, .d (dI k))]) (fun k=>mkH [(2, .box ((Ms.c a).map S.d)),(3, .box ((Ms.c b).map S.d))]) (fun k=>a.tempi.length - k) (0) (⟨Nat.zero_le _,fun q X Y h=>absurd h (Nat.not_lt_zero _)⟩) ?_ ?_ ?_
 exact fz ⟨sr,sr,sr,trivial⟩
 exact gz ⟨R,R,trivial⟩
 intro k hk0
 obtain ⟨hk,hf0⟩:=hk0
 refine zs<|zr<|zm R R<|zp (Aa R R C8)<|zp (Ab R R Ht R R)<|XL.len R R R Tryz.underlying27 fun hl114=>zp (Au R R R)<|zn<|?_
 refine zd R (fun c115=> ?_) (fun c115=> ?_)
 have hkl:k<a.tempi.length:=by omega
 obtain ⟨x,hx⟩:=Ar hkl
 obtain ⟨y,hy⟩:∃y,b.tempi[k]? =some y:=Ar (by omega)
 refine zi<|zs<|Ah<|zs<|Bv [] (by kernel_rfl) (by kernel_rfl) (by kernel_rfl) (by decide)<|yp (Aa R R C8)<|yp (Ab R R Ht R R)<|ym R R<|yp (Ao R R R Kq (hx))<|yp (Ae (s':= .d (.agg (Tm.c x))) (Ay R R J6 lb) (by kernel_rfl))<|yp (Aa R R C8)<|yp (Ab R R Ht R R)<|ym R R<|yp (Ao R R R Kq (hy))<|?_
 refine yp (Ae (s':= .d (.agg (Tm.c y))) (Ay R R J6 lb) (by kernel_rfl))<|yp (Wm R R R)<|?_
 refine ChK.nil ⟨by kernel_rfl, ?_⟩
 refine zd R (fun c128=> ?_) (fun c128=> ?_)
 exact zr<|za R R<|zn<|zt<|z1 R R (rB (dno (fun h=>Tm.ne_of c128 (by rw [h] at hx;rw [hx] at hy;cases hy;rfl))))
 refine zi<|Ag (by kernel_rfl)<|zm R R<|zp (Al R R R (by omega) (by omega))<|za R R<|zn<|?_
 exact Am (k+1) (⟨by omega,fun q X Y hq hX hY=>by by_cases e:q=k;(· subst e;rw [hx] at hX;rw [hy] at hY;cases hX;cases hY;exact Tm.eq_of c128);(· exact hf0 q X Y (by omega) hX hY)⟩) (by omega) (fz ⟨sr,sr,sr,trivial⟩) (gz ⟨rfl,rfl,trivial⟩)
 have hqt:a.tempi=b.tempi:=Et hlt (fun j x y hj=>hf0 j x y (by omega))
 refine At<|zs<|zr<|za R R<|zn<|Ah<|?_
 refine Az (α:=Nat) (fun k=>k≤a.cells.length∧∀q X Y,q<k→a.cells[q]? =some X→b.cells[q]? =some Y→X=Y) (fun k=>mkF [(2, .ptr 2 0 0),(3, .ptr 3 0 0),(6, .d (dI k))]) (fun k=>mkH [(2, .box ((Ms.c a).map S.d)),(3, .box ((Ms.c b).map S.d))]) (fun k=>a.cells.length - k) (0) (⟨Nat.zero_le _,fun q X Y h=>absurd h (Nat.not_lt_zero _)⟩) ?_ ?_ ?_
 exact fz ⟨sr,sr,sr,trivial⟩
 exact gz ⟨R,R,trivial⟩
 intro k hk2
 obtain ⟨hk,hf2⟩:=hk2
 refine zs<|zr<|zm R R<|zp (Aa R R Bm)<|zp (Ab R R Df R R)<|XL.len R R R Tryz.underlying28 fun hl132=>zp (Au R R R)<|zn<|?_
 refine zd R (fun c133=> ?_) (fun c133=> ?_)
 have hkl:k<a.cells.length:=by omega
 obtain ⟨x,hx⟩:=Ar hkl
 obtain ⟨y,hy⟩:∃y,b.cells[k]? =some y:=Ar (by omega)
 refine zi<|zs<|Ah<|zs<|Jl 12 13 [7,8] id 7 (Qq 7 (.box [.d (.sl 2 (x.clefs.map Cf.c)), .d (.sl 2 (x.voices.map Vo.c))])) (by kernel_rfl) (by kernel_rfl) (by kernel_rfl) (by kernel_rfl) R (by decide)<|ChMK.bf R (CStep.pure (Aa R R Bm)) (by conv=>lhs;whnf)<|?_
 refine ChMK.bf R (CStep.pure (Ab R R Df R R)) (by conv=>lhs;whnf)<|?_
 refine ChMK.bf R (CStep.pure (As R (by conv=>lhs;whnf))) (by conv=>lhs;whnf)<|?_
 refine ChMK.bf R (CStep.pure (Ao R R R Em (hx))) (by conv=>lhs;whnf)<|?_
 refine ChMK.bf R (CStep.pure (Ae (s':= .d (.agg (Ce.c x))) (Ay R R F2 lb) (by kernel_rfl))) (by conv=>lhs;whnf)<|?_
 refine ChMK.fr R R (CStep.pure (Aa R R Bm)) (CStep.pure (Aa R R Bm)) (by exact rfl)<|ChMK.fr R R (CStep.pure (Ab R R Df R R)) (CStep.pure (Ab R R Df R R)) (by exact rfl)<|ChMK.fr R R (CStep.pure (As R (by conv=>lhs;whnf))) (CStep.pure (As R (by conv=>lhs;whnf))) (by exact rfl)<|?_
 refine ChMK.fr R R (CStep.pure (Ao R R R Em (hy))) (CStep.pure (Ao R R R Em (hy))) (by exact rfl)<|ChMK.fr R R (CStep.pure (Ae (s':= .d (.agg (Ce.c y))) (Ay R R F2 lb) (by kernel_rfl))) (CStep.pure (Ae (s':= .d (.agg (Ce.c y))) (Ay R R F2 lb) (by kernel_rfl))) (by exact rfl)<|?_
 refine ChMK.bfO R (CStep.allocN 7 (l:= [.d (.v (.slice none 0 0)), .d (.v (.slice none 0 0))]) R Fe R R) (by conv=>lhs;whnf) (fun _ _=>Zp _ _)<|?_
 refine ChMK.bfN R (CStep.allocN 8 (l:= [.d (.v (.slice none 0 0)), .d (.v (.slice none 0 0))]) R Fe R R) (by conv=>lhs;whnf) R R<|?_
 refine ChMK.mu R (Afv (l2:= [.d (.sl 2 (x.clefs.map Cf.c)), .d (.sl 2 (x.voices.map Vo.c))]) R R R R Jf R lb (by kernel_rfl))<|?_
 refine ChMK.nil ⟨⟨by kernel_rfl,by kernel_rfl,by kernel_rfl⟩, ?_⟩
 refine XL.step R (Af (l':= [.d (.sl 2 (y.clefs.map Cf.c)), .d (.sl 2 (y.voices.map Vo.c))]) R R R R Jf R lb (by kernel_rfl))<|zn<|zs<|zr<|zp (Aa R R Ea)<|zp (Ab R R Iz R R)<|XL.len R R R Tryz.underlying75 fun hl148=>zp (Aa R R Ea)<|zp (Ab R R Iz R R)<|XL.len R R R Tryz.underlying75 fun hl151=>zp (A1 R R R)<|zm R R<|?_
 refine XL.dec 153 R (fun g153=> ?_) (fun g153=> ?_)
 exact zk 7 R<|zq R R R<|zn<|Av (by kernel_rfl) R<|zr<|za R R<|zn<|zt<|z1 R R (rB (dno (fun h=>by rw [h] at hx;rw [hx] at hy;cases hy;omega)))
 refine zp (Aa R R Cm)<|zp (Ab R R Eg R R)<|XL.len R R R Tryz.underlying76 fun hl156=>zp (Aa R R Cm)<|zp (Ab R R Eg R R)<|XL.len R R R Tryz.underlying76 fun hl159=>zp (A1 R R R)<|zq R R R<|zn<|?_
 refine zd R (fun c161=> ?_) (fun c161=> ?_)
 exact zr<|za R R<|zn<|zt<|z1 R R (rB (dno (fun h=>by rw [h] at hx;rw [hx] at hy;cases hy;omega)))
 refine zi<|zs<|zs<|?_
 have hl1:x.clefs.length=y.clefs.length:=by omega
 have hl2:x.voices.length=y.voices.length:=by omega
 refine Ag (by kernel_rfl)<|za R R<|zn<|Ah<|?_
 refine Az (α:=Nat) (fun j=>j≤x.clefs.length∧∀q X Y,q<j→x.clefs[q]? =some X→y.clefs[q]? =some Y→X=Y) (fun j=>mkF [(2, .ptr 2 0 0),(3, .ptr 3 0 0),(6, .d (dI k)),(7, .ptr 7 0 0),(8, .ptr 8 0 0),(9, .d (dI j))]) (fun j=>mkH [(2, .box ((Ms.c a).map S.d)),(3, .box ((Ms.c b).map S.d)),(7, .box ((Ce.c x).map S.d)),(8, .box ((Ce.c y).map S.d))]) (fun j=>x.clefs.length - j) (0) (⟨Nat.zero_le _,fun q X Y h=>absurd h (Nat.not_lt_zero _)⟩) ?_ ?_ ?_
 exact fz ⟨sr,sr,sr,sr,sr,sr,trivial⟩
 exact gz ⟨R,R,R,R,trivial⟩
 intro j hk4
 obtain ⟨hj,hf4⟩:=hk4
 refine zs<|zr<|zm R R<|zp (Aa R R Ea)<|zp (Ab R R Iz R R)<|XL.len R R R Tryz.underlying75 fun hl165=>zp (Au R R R)<|zn<|?_
 refine zd R (fun c166=> ?_) (fun c166=> ?_)
 have hjl:j<x.clefs.length:=by omega
 obtain ⟨u,hu⟩:=Ar hjl
 obtain ⟨w,hw⟩:∃w,y.clefs[j]? =some w:=Ar (by omega)
 refine zi<|zs<|Ah<|zs<|Bv [] (by kernel_rfl) (by kernel_rfl) (by kernel_rfl) (by decide)<|yp (Aa R R Ea)<|yp (Ab R R Iz R R)<|ym R R<|yp (Ao R R R Lc (hu))<|yp (Ae (s':= .d (.agg (Cf.c u))) (Ay R R Lx lb) (by kernel_rfl))<|yp (Aa R R Ea)<|yp (Ab R R Iz R R)<|ym R R<|yp (Ao R R R Lc (hw))<|?_
 refine yp (Ae (s':= .d (.agg (Cf.c w))) (Ay R R Lx lb) (by kernel_rfl))<|yp (Zc R R R)<|?_
 refine ChK.nil ⟨by kernel_rfl, ?_⟩
 refine zd R (fun c179=> ?_) (fun c179=> ?_)
 exact zr<|za R R<|zn<|zt<|z1 R R (rB (dno (fun h=>Cf.ne_of c179 (by rw [h] at hx;rw [hx] at hy;cases hy;rw [hu] at hw;cases hw;rfl))))
 refine zi<|Ag (by kernel_rfl)<|zm R R<|zp (Al R R R (by omega) (by omega))<|za R R<|zn<|?_
 exact Am (j+1) (⟨by omega,fun q X Y hq hX hY=>by by_cases e:q=j;(· subst e;rw [hu] at hX;rw [hw] at hY;cases hX;cases hY;exact Cf.eq_of c179);(· exact hf4 q X Y (by omega) hX hY)⟩) (by omega) (fz ⟨sr,sr,sr,sr,sr,sr,trivial⟩) (gz ⟨rfl,rfl,rfl,rfl,trivial⟩)
 have hcl:x.clefs=y.clefs:=Et hl1 (fun i x y hi=>hf4 i x y (by omega))
 refine At<|zr<|za R R<|zn<|Ah<|?_
 refine Az (α:=Nat) (fun j=>j≤x.voices.length∧∀q X Y,q<j→x.voices[q]? =some X→y.voices[q]? =some Y→X=Y) (fun j=>mkF [(2, .ptr 2 0 0),(3, .ptr 3 0 0),(6, .d (dI k)),(7, .ptr 7 0 0),(8, .ptr 8 0 0),(10, .d (dI j))]) (fun j=>mkH [(2, .box ((Ms.c a).map S.d)),(3, .box ((Ms.c b).map S.d)),(7, .box ((Ce.c x).map S.d)),(8, .box ((Ce.c y).map S.d))]) (fun j=>x.voices.length - j) (0) (⟨Nat.zero_le _,fun q X Y h=>absurd h (Nat.not_lt_zero _)⟩) ?_ ?_ ?_
 exact fz ⟨sr,sr,sr,sr,sr,sr,trivial⟩
 exact gz ⟨R,R,R,R,trivial⟩
 intro j hk6
 obtain ⟨hj,hf6⟩:=hk6
 refine zs<|zr<|zm R R<|zp (Aa R R Cm)<|zp (Ab R R Eg R R)<|XL.len R R R Tryz.underlying76 fun hl183=>zp (Au R R R)<|zn<|?_
 refine zd R (fun c184=> ?_) (fun c184=> ?_)
 have hjl:j<x.voices.length:=by omega
 obtain ⟨u,hu⟩:=Ar hjl
 obtain ⟨w,hw⟩:∃w,y.voices[j]? =some w:=Ar (by omega)
 refine zi<|zs<|Ah<|zs<|Bv [] (by kernel_rfl) (by kernel_rfl) (by kernel_rfl) (by decide)<|yp (Aa R R Cm)<|yp (Ab R R Eg R R)<|ym R R<|yp (Ao R R R Ic (hu))<|yp (Ae (s':= .d (.agg (Vo.c u))) (Ay R R Ax lb) (by kernel_rfl))<|yp (Aa R R Cm)<|yp (Ab R R Eg R R)<|ym R R<|yp (Ao R R R Ic (hw))<|?_
 refine yp (Ae (s':= .d (.agg (Vo.c w))) (Ay R R Ax lb) (by kernel_rfl))<|ChK.cons R (CStep.call R (Ae9 _ _) R)<|yp (En R R)<|?_
 refine ChK.nil ⟨by kernel_rfl, ?_⟩
 refine zd R (fun c198=> ?_) (fun c198=> ?_)
 exact zr<|za R R<|zn<|zt<|z1 R R (rB (dno (fun h=>c198 (by rw [h] at hx;rw [hx] at hy;cases hy;rw [hu] at hw;cases hw;rfl))))
 refine zi<|Ag (by kernel_rfl)<|zm R R<|zp (Al R R R (by omega) (by omega))<|za R R<|zn<|?_
 exact Am (j+1) (⟨by omega,fun q X Y hq hX hY=>by by_cases e:q=j;(· subst e;rw [hu] at hX;rw [hw] at hY;cases hX;cases hY;exact Decidable.not_not.1 c198);(· exact hf6 q X Y (by omega) hX hY)⟩) (by omega) (fz ⟨sr,sr,sr,sr,sr,sr,trivial⟩) (gz ⟨rfl,rfl,rfl,rfl,trivial⟩)
 have hcv:x.voices=y.voices:=Et hl2 (fun i x y hi=>hf6 i x y (by omega))
 refine At<|Ag (by kernel_rfl)<|zm R R<|zp (Al R R R (by omega) (by omega))<|za R R<|zn<|?_
 exact Am (k+1) (⟨by omega,fun q X Y hq hX hY=>by by_cases e:q=k;(· subst e;rw [hx] at hX;rw [hy] at hY;cases hX;cases hY;exact Ce.eq_yes hcl hcv);(· exact hf2 q X Y (by omega) hX hY)⟩) (by omega) (fz ⟨sr,sr,sr,trivial⟩) (gz ⟨rfl,rfl,trivial⟩)
 have hqc:a.cells=b.cells:=Et hlc (fun j x y hj=>hf2 j x y (by omega))
 exact At<|zr<|za R R<|zn<|zt<|z1 R R (rB (Ah0 (Ms.eq_yes hh hqt hqc)))
end Go.Proofs.YtaafemnkamfgnaaGreat
namespace Go.Proofs.YtaafemnkamfgnaaGreat
open Go.RowKit
def idxA {α:Type} (p:α→Bool) (l:List α):Int:=match l.findIdx? p with|some k=>(k:Int)|none=> -1
def Ev.snd (e:Ev):Bool:=decide (e.kind=1∧0<e.heads.length)
def Vo.snd (v:Vo):Bool:=v.evs.any Ev.snd
def Ms.sil (m:Ms) (s:Int):Bool:=if s<0∨(m.cells.length:Int)≤s then true else !((m.cell s).voices.any Vo.snd)
end Go.Proofs.YtaafemnkamfgnaaGreat
namespace Go.Proofs.YtaafemnkamfgnaaGreat
open Go.RowKit
def evI (e:Ev):Id:=⟨e.site,e.num⟩
def voI (v:Vo):List Id:=v.evs.map evI
def Auj (l:List Vo):List Id:=(l.map voI).flatten
def Avb (l:List Ce):List Id:=(l.map fun c=>Auj c.voices).flatten
def idsM (m:Ms):List Id:=⟨m.h.site,m.h.num⟩::Avb m.cells
end Go.Proofs.YtaafemnkamfgnaaGreat
namespace Go.Proofs.YtaafemnkamfgnaaGreat
open Go.RowKit
theorem Amt (m:Ms) (h:m.fit):XC Tryz.prog 33 [.agg (Ms.c m)] (fun r=>r= .agg (Ms.c m)):=(N3 m h).xc2 rfl (Ces.t_fz _) (Ces.t_D _) rfl
theorem Aqx (c:Ce) (h:c.fit):XC Tryz.prog 38 [.agg (Ce.c c)] (fun r=>r= .agg (Ce.c c)):=(Aaq c h).xc2 rfl (Vos.t_fz _) (Vos.t_D _) rfl
theorem Arn (s:Sy):J8 (J8 s)=J8 s:=by simp [J8,List.take_take]
theorem Arp (e:Ev):Kz (Kz e)=Kz e:=by
 simp only [Kz,List.take_take,Nat.min_self]
 rw [←List.map_take,List.take_take,Nat.min_self,List.map_map]
 congr 1
 exact List.map_congr_left fun s _=>Arn s
theorem Arm (v:Vo):Jm (Jm v)=Jm v:=by
 simp only [Jm,List.take_take,Nat.min_self]
 rw [←List.map_take,List.take_take,Nat.min_self,List.map_map]
 congr 1
 exact List.map_congr_left fun s _=>Arp s
theorem Arq (c:Ce):Mz (Mz c)=Mz c:=by
 simp only [Mz,List.take_take,Nat.min_self]
 rw [←List.map_take,List.take_take,Nat.min_self,List.map_map]
 congr 1
 exact List.map_congr_left fun s _=>Arm s
theorem Aro (m:Ms):Aj (Aj m)=Aj m:=by
 simp only [Aj,shH,List.take_take,Nat.min_self]
 rw [←List.map_take,List.take_take,Nat.min_self,List.map_map]
 congr 1
 exact List.map_congr_left fun s _=>Arq s
end Go.Proofs.YtaafemnkamfgnaaGreat
namespace Go.Proofs.YtaafemnkamfgnaaGreat
open Go.RowKit
def Zo {α:Type} (f:Int→α→α) (g:Int→α→Int):Int→List α→List α
 |_, []=> []
 |b,x::l=>f b x::Zo f g (g b x) l
def And {α:Type} (g:Int→α→Int) (b:Int) (l:List α):Int:=l.foldl g b
def Auz (s b:Int) (e:Ev):Ev:=if e.site=0∧e.num=0 then {e with site:=s,num:=b} else e
def Ar8 (b:Int) (e:Ev):Int:=if e.site=0∧e.num=0 then b+1 else b
def Auy (s b:Int) (v:Vo):Vo:=⟨Zo (Auz s) Ar8 b v.evs,v.tups⟩
def Ar7 (b:Int) (v:Vo):Int:=And Ar8 b v.evs
def Au0 (s b:Int) (c:Ce):Ce:=⟨c.clefs,Zo (Auy s) Ar7 b c.voices⟩
def Ar9 (b:Int) (c:Ce):Int:=And Ar7 b c.voices
def numM (m:Ms) (s b:Int):Ms:=⟨m.h,m.tempi,Zo (Au0 s) Ar9 b m.cells⟩
def nxtM (m:Ms) (b:Int):Int:=And Ar9 b m.cells
def No (e:Ev):Ev:={e with site:=0,num:=0}
def G7 (v:Vo):Vo:=⟨v.evs.map No,v.tups⟩
def G8 (c:Ce):Ce:=⟨c.clefs,c.voices.map G7⟩
def Py (m:Ms):Ms:=⟨{m.h with site:=0,num:=0},m.tempi,m.cells.map G8⟩
end Go.Proofs.YtaafemnkamfgnaaGreat
namespace Go.Proofs.YtaafemnkamfgnaaGreat
open Go.RowKit
def mapD {α:Type} (f:Int→α→α) (g:Int→α→Int) (b:Int) (l:List α) (k:Nat):List α:=Zo f g b (l.take k)++l.drop k
theorem Aj1 (m:Ms) (h:m.room):XC Tryz.prog 36 [.agg (Ms.c m)] (fun r=>r= .agg (Ms.c (Py (Aj m)))):=by
 have hF:=Tb m
 have hcl:=hF.cells
 refine An Aev Tryz.func36 R R lb<|zr<|?_
 refine XL.step R (Ap 1 (l:= [.d (dI m.h.site), .d (dI m.h.num), .d (dI m.h.m.count), .d (dI m.h.m.unit), .d (dI m.h.m.g0), .d (dI m.h.m.g1), .d (dI m.h.m.g2), .d (dI m.h.m.g3), .d (dI m.h.m.g4), .d (dI m.h.m.g5), .d (dI m.h.len), .d (dI m.h.fifths), .d (dB m.h.start), .d (dI m.h.fin), .d (dI m.h.ends), .d (dI m.h.jump), .d (dI m.h.labels), .d (dI m.h.swing), .d (dI m.h.brk), .d (.v (.string ⟨m.h.reh.toArray⟩)), .d (.sl 3 (m.tempi.map Tm.c)), .d (.sl 2 (m.cells.map Ce.c))]) R R (by kernel_rfl))<|?_
 refine XL.step R (Aq 2 (l:= [.d (dI 0), .d (dI 0), .d (dI 0), .d (dI 0), .d (dI 0), .d (dI 0), .d (dI 0), .d (dI 0), .d (dI 0), .d (dI 0), .d (dI 0), .d (dI 0), .d (dB false), .d (dI 0), .d (dI 0), .d (dI 0), .d (dI 0), .d (dI 0), .d (dI 0), .d (.v (.string ⟨#[]⟩)), .d (.v (.slice none 0 0)), .d (.v (.slice none 0 0))]) R E6 (by kernel_rfl))<|znr<|?_
 refine zp (Ae (s':= .d (.agg (Ms.c m))) (Ac (Ad R R Bj R lb)) (by kernel_rfl))<|XL.callS R R (Yu _ (by assumption)) R<|?_
 refine XL.step R (Af (l':= [.d (dI (shH m.h).site), .d (dI (shH m.h).num), .d (dI (shH m.h).m.count), .d (dI (shH m.h).m.unit), .d (dI (shH m.h).m.g0), .d (dI (shH m.h).m.g1), .d (dI (shH m.h).m.g2), .d (dI (shH m.h).m.g3), .d (dI (shH m.h).m.g4), .d (dI (shH m.h).m.g5), .d (dI (shH m.h).len), .d (dI (shH m.h).fifths), .d (dB (shH m.h).start), .d (dI (shH m.h).fin), .d (dI (shH m.h).ends), .d (dI (shH m.h).jump), .d (dI (shH m.h).labels), .d (dI (shH m.h).swing), .d (dI (shH m.h).brk), .d (.v (.string ⟨(shH m.h).reh.toArray⟩)), .own 7401, .own 7402]) R R R R E9 R lb (by kernel_rfl))<|?_
 refine znr<|zp (Ae (s':= .d (.agg [dI 0,dI 0])) (Ac (A4 R Mw Ku R)) (by kernel_rfl))<|zp (Aa R R Nj)<|?_
 refine XL.step R (Af (l':= [.d (dI 0), .d (dI 0), .d (dI (shH m.h).m.count), .d (dI (shH m.h).m.unit), .d (dI (shH m.h).m.g0), .d (dI (shH m.h).m.g1), .d (dI (shH m.h).m.g2), .d (dI (shH m.h).m.g3), .d (dI (shH m.h).m.g4), .d (dI (shH m.h).m.g5), .d (dI (shH m.h).len), .d (dI (shH m.h).fifths), .d (dB (shH m.h).start), .d (dI (shH m.h).fin), .d (dI (shH m.h).ends), .d (dI (shH m.h).jump), .d (dI (shH m.h).labels), .d (dI (shH m.h).swing), .d (dI (shH m.h).brk), .d (.v (.string ⟨(shH m.h).reh.toArray⟩)), .own 7401, .own 7402]) R R R R X0 R lb (by kernel_rfl))<|?_
 refine zn<|zs<|zr<|za R R<|zn<|Ah<|?_
 refine Az (α:=Nat) (fun k=>k≤(Aj m).cells.length) (fun k=>mkF [(1, .ptr 1 0 0),(2, .ptr 2 0 0),(3, .d (dI k))]) (fun k=>mkH [(1, .box [.d (dI 0), .d (dI 0), .d (dI (shH m.h).m.count), .d (dI (shH m.h).m.unit), .d (dI (shH m.h).m.g0), .d (dI (shH m.h).m.g1), .d (dI (shH m.h).m.g2), .d (dI (shH m.h).m.g3), .d (dI (shH m.h).m.g4), .d (dI (shH m.h).m.g5), .d (dI (shH m.h).len), .d (dI (shH m.h).fifths), .d (dB (shH m.h).start), .d (dI (shH m.h).fin), .d (dI (shH m.h).ends), .d (dI (shH m.h).jump), .d (dI (shH m.h).labels), .d (dI (shH m.h).swing), .d (dI (shH m.h).brk), .d (.v (.string ⟨(shH m.h).reh.toArray⟩)), .own 7401, .own 7402]),(2, .box [.d (dI 0), .d (dI 0), .d (dI 0), .d (dI 0), .d (dI 0), .d (dI 0), .d (dI 0), .d (dI 0), .d (dI 0), .d (dI 0), .d (dI 0), .d (dI 0), .d (dB false), .d (dI 0), .d (dI 0), .d (dI 0), .d (dI 0), .d (dI 0), .d (dI 0), .d (.v (.string ⟨#[]⟩)), .d (.v (.slice none 0 0)), .d (.v (.slice none 0 0))]),(7401, .row 119 3 (((Aj m).tempi).map Tm.c)),(7402, .tree 78 2 [] (mix Ce.u Ce.t (((Aj m).cells.take k).map G8) ((Aj m).cells.drop k)))]) (fun k=>(Aj m).cells.length - k) (0) (Nat.zero_le _) ?_ ?_ ?_
 exact fz ⟨sr,sr,sr,trivial⟩
 exact gz ⟨R,R,R,R,trivial⟩
 intro k hk0
 have hk:=hk0
 refine zs<|zr<|zm R R<|zp (Aa R R Bm)<|zp (Ab R R Df R R)<|zp (Ae (s':= .d (dI ((Aj m).cells.length))) (Gq R R R Tryz.underlying28) (sI (by rw [Vp,List.length_map,List.length_take,List.length_drop];omega)))<|zp (Au R R R)<|zn<|?_
 refine zd R (fun c15=> ?_) (fun c15=> ?_)
 have hkl:k<(Aj m).cells.length:=by omega
 obtain ⟨x,hx⟩:=Ar hkl
 have hcf:=hF.c x (List.mem_of_getElem? hx)
 have hvl:=hcf.voices
 refine zi<|zs<|Ah<|zs<|S7 (i:=7402) (j:=7502) (k:=k) (m:=1) (l':=(mix Ce.u Ce.t (((Aj m).cells.take k).map G8) ((Aj m).cells.drop k)).set k [.row 84 2 (((x.clefs).map Cf.c).map (·.map T.d)), .own 7502]) [] (x.voices.map Vo.t) R R R (De hx) R (Vos.t_in [] _) (R)<|?_
 refine Hm (i:=7402) (j:=7501) (k:=k) (m:=0) (l':=(mix Ce.u Ce.t (((Aj m).cells.take k).map G8) ((Aj m).cells.drop k)).set k [.own 7501, .own 7502]) ((x.clefs).map Cf.c) R R R (B1 (De hx)) R (List.set_set ..)<|Ag (by kernel_rfl)<|za R R<|zn<|Ah<|?_
 refine Az (α:=Nat) (fun j=>j≤x.voices.length) (fun j=>mkF [(1, .ptr 1 0 0),(2, .ptr 2 0 0),(3, .d (dI k)),(4, .d (dI j))]) (fun j=>mkH [(1, .box [.d (dI 0), .d (dI 0), .d (dI (shH m.h).m.count), .d (dI (shH m.h).m.unit), .d (dI (shH m.h).m.g0), .d (dI (shH m.h).m.g1), .d (dI (shH m.h).m.g2), .d (dI (shH m.h).m.g3), .d (dI (shH m.h).m.g4), .d (dI (shH m.h).m.g5), .d (dI (shH m.h).len), .d (dI (shH m.h).fifths), .d (dB (shH m.h).start), .d (dI (shH m.h).fin), .d (dI (shH m.h).ends), .d (dI (shH m.h).jump), .d (dI (shH m.h).labels), .d (dI (shH m.h).swing), .d (dI (shH m.h).brk), .d (.v (.string ⟨(shH m.h).reh.toArray⟩)), .own 7401, .own 7402]),(2, .box [.d (dI 0), .d (dI 0), .d (dI 0), .d (dI 0), .d (dI 0), .d (dI 0), .d (dI 0), .d (dI 0), .d (dI 0), .d (dI 0), .d (dI 0), .d (dI 0), .d (dB false), .d (dI 0), .d (dI 0), .d (dI 0), .d (dI 0), .d (dI 0), .d (dI 0), .d (.v (.string ⟨#[]⟩)), .d (.v (.slice none 0 0)), .d (.v (.slice none 0 0))]),(7401, .row 119 3 (((Aj m).tempi).map Tm.c)),(7402, .tree 78 2 [7501,7502] ((mix Ce.u Ce.t (((Aj m).cells.take k).map G8) ((Aj m).cells.drop k)).set k [.own 7501, .own 7502])),(7501, .row 84 2 ((x.clefs).map Cf.c)),(7502, .tree 82 2 [] (mix Vo.u Vo.t ((x.voices.take j).map G7) (x.voices.drop j)))]) (fun j=>x.voices.length - j) (0) (Nat.zero_le _) ?_ ?_ ?_
 exact fz ⟨sr,sr,sr,sr,trivial⟩
 exact gz ⟨R,R,R,R,R,R,trivial⟩
 intro j hk2
 have hj:=hk2
 refine zs<|zr<|zm R R<|zp (Aa R R Bm)<|zp (Ab R R Df R R)<|zm R R<|zp (Di R R R (R) R Em (F8 (Ki hkl)))<|zp (Aa R R Cm)<|zp (Ae (s':= .own 7502) (C0 R R Eg R (B1 (De hx)) R) R)<|?_
 refine zp (Ae (s':= .d (dI x.voices.length)) (Gq R R R Tryz.underlying76) (sI (by rw [Vp,List.length_map,List.length_take,List.length_drop];omega)))<|zp (Au R R R)<|zn<|?_
 refine zd R (fun c26=> ?_) (fun c26=> ?_)
 have hjl:j<x.voices.length:=by omega
 obtain ⟨w,hw⟩:=Ar hjl
 have hvf:=hcf.v w (List.mem_of_getElem? hw)
 have hel:=hvf.evs
 refine zi<|zs<|Ah<|zs<|Hm (i:=7502) (j:=7601) (k:=j) (m:=0) (l':=(mix Vo.u Vo.t ((x.voices.take j).map G7) (x.voices.drop j)).set j [.own 7601, .row 157 4 (((w.tups).map Tp.c).map (·.map T.d))]) ((w.evs).map Ev.c) R R R (De hw) R (R)<|?_
 refine Hm (i:=7502) (j:=7602) (k:=j) (m:=1) (l':=(mix Vo.u Vo.t ((x.voices.take j).map G7) (x.voices.drop j)).set j [.own 7601, .own 7602]) ((w.tups).map Tp.c) R R R (B1 (De hw)) R (List.set_set ..)<|Ag (by kernel_rfl)<|zp (Aa R R Bm)<|zp (Ab R R Df R R)<|zm R R<|zp (Di R R R (R) R Em (F8 (Ki hkl)))<|?_
 refine zp (Aa R R Cm)<|zp (Ae (s':= .own 7502) (C0 R R Eg R (B1 (De hx)) R) R)<|zm R R<|zp (Di R R R (R) R Ic (F8 (Ki hjl)))<|zp (Aa R R Bo)<|zp (Ae (s':= .own 7601) (C0 R R Cz R (B1 (De hw)) R) R)<|zp (Aw R (by conv=>lhs;whnf))<|?_
 refine znr<|za R R<|zn<|Ah<|?_
 refine Az (α:=Nat) (fun n=>n≤w.evs.length) (fun n=>mkF [(1, .ptr 1 0 0),(2, .ptr 2 0 0),(3, .d (dI k)),(4, .d (dI j)),(5, .own 7601),(6, .d (dI n))]) (fun n=>mkH [(1, .box [.d (dI 0), .d (dI 0), .d (dI (shH m.h).m.count), .d (dI (shH m.h).m.unit), .d (dI (shH m.h).m.g0), .d (dI (shH m.h).m.g1), .d (dI (shH m.h).m.g2), .d (dI (shH m.h).m.g3), .d (dI (shH m.h).m.g4), .d (dI (shH m.h).m.g5), .d (dI (shH m.h).len), .d (dI (shH m.h).fifths), .d (dB (shH m.h).start), .d (dI (shH m.h).fin), .d (dI (shH m.h).ends), .d (dI (shH m.h).jump), .d (dI (shH m.h).labels), .d (dI (shH m.h).swing), .d (dI (shH m.h).brk), .d (.v (.string ⟨(shH m.h).reh.toArray⟩)), .own 7401, .own 7402]),(2, .box [.d (dI 0), .d (dI 0), .d (dI 0), .d (dI 0), .d (dI 0), .d (dI 0), .d (dI 0), .d (dI 0), .d (dI 0), .d (dI 0), .d (dI 0), .d (dI 0), .d (dB false), .d (dI 0), .d (dI 0), .d (dI 0), .d (dI 0), .d (dI 0), .d (dI 0), .d (.v (.string ⟨#[]⟩)), .d (.v (.slice none 0 0)), .d (.v (.slice none 0 0))]),(7401, .row 119 3 (((Aj m).tempi).map Tm.c)),(7402, .tree 78 2 [7501,7502] ((mix Ce.u Ce.t (((Aj m).cells.take k).map G8) ((Aj m).cells.drop k)).set k [.own 7501, .own 7502])),(7501, .row 84 2 ((x.clefs).map Cf.c)),(7502, .tree 82 2 [7602,7601] ((mix Vo.u Vo.t ((x.voices.take j).map G7) (x.voices.drop j)).set j [.own 7601, .own 7602])),(7601, .row 59 13 ((Gs No w.evs n).map Ev.c)),(7602, .row 157 4 ((w.tups).map Tp.c))]) (fun n=>w.evs.length - n) (0) (Nat.zero_le _) ?_ ?_ ?_
 exact fz ⟨sr,sr,sr,sr,sr,sr,trivial⟩
 exact gz ⟨R,R,R,R,R,R,Oe (Kj _ _),R,trivial⟩
 intro n hk4
 have hn:=hk4
 refine zs<|zr<|zm R R<|zp (As R (by conv=>lhs;whnf))<|?_
 refine zp (Bz R R R Tryz.underlying79)<|zp (Au R R R)<|zn<|?_
 refine zd R (fun c42=> ?_) (fun c42=> ?_)
 have hml:=Hj No w.evs n
 have hnl:n<w.evs.length:=by omega
 obtain ⟨e,he⟩:=Ar hnl
 have hg:=Lq (f:=No) he
 refine zi<|zs<|Ah<|Ag (by kernel_rfl)<|zp (As R (by conv=>lhs;whnf))<|?_
 refine zm R R<|zp (Ae (s':= .d (.agg [dI 0,dI 0])) (Ac (A4 R Mw Ku R)) (by kernel_rfl))<|zp (Ck R R R (R) R F5 (by omega))<|zp (Aa R R Iu)<|XL.step R (D8 R R R (C2 hg) R R X0 R lb)<|zn<|Ag (by kernel_rfl)<|zm R R<|zp (Al R R R (by omega) (by omega))<|za R R<|zn<|?_
 exact Am (n+1) (by omega) (by omega) (fz ⟨sr,sr,sr,sr,sr,sr,trivial⟩) (gz ⟨R,R,R,R,R,R,Od (a:=No e) R (Lp he),R,trivial⟩)
 have hml:=Hj No w.evs n
 have hne:¬n<w.evs.length:=by omega
 refine At<|Ag (by kernel_rfl)<|XL.rowq (i:=7601) (l':=((G7 w).evs).map Ev.c) R (by rw [Lr (by omega)];rfl)<|XL.freeze (i:=7601) R<|XL.rowqT (i:=7502) (l':=(mix Vo.u Vo.t ((x.voices.take j).map G7) (x.voices.drop j)).set j [.d (.sl 13 (((G7 w).evs).map Ev.c)), .own 7602]) [7602] R (F0 (Fv [] _ _) R) (Cv (Fv [] _ _) (Ee (R) (R)) _)<|?_
 refine XL.freeze (i:=7602) R<|XL.rowqT (i:=7502) (l':=(mix Vo.u Vo.t ((x.voices.take j).map G7) (x.voices.drop j)).set j [.d (.sl 13 (((G7 w).evs).map Ev.c)), .d (.sl 4 (w.tups.map Tp.c))]) [] R (F0 (Fv [] _ _) R) (Cv (Fv [] _ _) (Ee (R) (R)) _)<|?_
 refine XL.rowqT (i:=7502) (l':=mix Vo.u Vo.t ((x.voices.take (j+1)).map G7) (x.voices.drop (j+1))) [] R (Jr hw) (Fv [] _ _)<|zm R R<|zp (Al R R R (by omega) (by omega))<|za R R<|zn<|?_
 exact Am (j+1) (by omega) (by omega) (fz ⟨sr,sr,sr,sr,trivial⟩) (gz ⟨R,R,R,R,R,R,trivial⟩)
 refine At<|Ag (by kernel_rfl)<|XL.freezeT (i:=7502) R (Vq _ _) (by rw [Zm,List.drop_of_length_le (by omega),List.append_nil,show x.voices.take j=x.voices from List.take_of_length_le (by omega)])<|?_
 refine XL.rowqT (i:=7402) (l':=(mix Ce.u Ce.t (((Aj m).cells.take k).map G8) ((Aj m).cells.drop k)).set k [.own 7501, .d (.sl 2 ((G8 x).voices.map Vo.c))]) [7501] R (F0 (Ed [] _ _) R) (Cv (Ed [] _ _) (Ee (R) (R)) _)<|XL.freeze (i:=7501) R<|?_
 refine XL.rowqT (i:=7402) (l':=(mix Ce.u Ce.t (((Aj m).cells.take k).map G8) ((Aj m).cells.drop k)).set k [.d (.sl 2 (x.clefs.map Cf.c)), .d (.sl 2 ((G8 x).voices.map Vo.c))]) [] R (F0 (Ed [] _ _) R) (Cv (Ed [] _ _) (Ee (R) (R)) _)<|?_
 refine XL.rowqT (i:=7402) (l':=mix Ce.u Ce.t (((Aj m).cells.take (k+1)).map G8) ((Aj m).cells.drop (k+1))) [] R (Jr hx) (Ed [] _ _)<|zm R R<|zp (Al R R R (by omega) (by omega))<|za R R<|zn<|?_
 exact Am (k+1) (by omega) (by omega) (fz ⟨sr,sr,sr,trivial⟩) (gz ⟨R,R,R,R,trivial⟩)
 refine At<|zr<|XL.freeze (i:=7401) R<|XL.freezeT (i:=7402) R (Rt _ _) (by rw [U0,List.drop_of_length_le (by omega),List.append_nil,show (Aj m).cells.take k=(Aj m).cells from List.take_of_length_le (by omega)])<|?_
 refine zp (Ae (s':= .d (.agg [dI 0,dI 0,dI (shH m.h).m.count,dI (shH m.h).m.unit,dI (shH m.h).m.g0,dI (shH m.h).m.g1,dI (shH m.h).m.g2,dI (shH m.h).m.g3,dI (shH m.h).m.g4,dI (shH m.h).m.g5,dI (shH m.h).len,dI (shH m.h).fifths,dB (shH m.h).start,dI (shH m.h).fin,dI (shH m.h).ends,dI (shH m.h).jump,dI (shH m.h).labels,dI (shH m.h).swing,dI (shH m.h).brk, .v (.string ⟨(shH m.h).reh.toArray⟩), .sl 3 (((Aj m).tempi).map Tm.c), .sl 2 ((Py (Aj m)).cells.map Ce.c)])) (Ac (Ad R R Bj R lb)) (by kernel_rfl))<|?_
 refine XL.step R (Af (l':= [.d (dI 0), .d (dI 0), .d (dI (shH m.h).m.count), .d (dI (shH m.h).m.unit), .d (dI (shH m.h).m.g0), .d (dI (shH m.h).m.g1), .d (dI (shH m.h).m.g2), .d (dI (shH m.h).m.g3), .d (dI (shH m.h).m.g4), .d (dI (shH m.h).m.g5), .d (dI (shH m.h).len), .d (dI (shH m.h).fifths), .d (dB (shH m.h).start), .d (dI (shH m.h).fin), .d (dI (shH m.h).ends), .d (dI (shH m.h).jump), .d (dI (shH m.h).labels), .d (dI (shH m.h).swing), .d (dI (shH m.h).brk), .d (.v (.string ⟨(shH m.h).reh.toArray⟩)), .d (.sl 3 (((Aj m).tempi).map Tm.c)), .d (.sl 2 ((Py (Aj m)).cells.map Ce.c))]) R R R R E9 R lb (by kernel_rfl))<|?_
 refine zn<|zt<|?_
 exact Jb R (RV.cells R R R Bj lb R) (R)
end Go.Proofs.YtaafemnkamfgnaaGreat
namespace Go.Proofs.YtaafemnkamfgnaaGreat
open Go.RowKit
theorem Agj (m:Ms) (hF:m.fit):XC Tryz.prog 77 [.agg (Ms.c m)] (fun r=>r= .agg (Ms.c (Py m))):=by
 have hcl:=hF.cells
 refine An Ad6 Tryz.func77 R R lb<|zr<|?_
 refine XL.step R (Ap 1 (l:= [.d (dI m.h.site), .d (dI m.h.num), .d (dI m.h.m.count), .d (dI m.h.m.unit), .d (dI m.h.m.g0), .d (dI m.h.m.g1), .d (dI m.h.m.g2), .d (dI m.h.m.g3), .d (dI m.h.m.g4), .d (dI m.h.m.g5), .d (dI m.h.len), .d (dI m.h.fifths), .d (dB m.h.start), .d (dI m.h.fin), .d (dI m.h.ends), .d (dI m.h.jump), .d (dI m.h.labels), .d (dI m.h.swing), .d (dI m.h.brk), .d (.v (.string ⟨m.h.reh.toArray⟩)), .d (.sl 3 (m.tempi.map Tm.c)), .d (.sl 2 (m.cells.map Ce.c))]) R R (by kernel_rfl))<|?_
 refine XL.step R (Aq 2 (l:= [.d (dI 0), .d (dI 0), .d (dI 0), .d (dI 0), .d (dI 0), .d (dI 0), .d (dI 0), .d (dI 0), .d (dI 0), .d (dI 0), .d (dI 0), .d (dI 0), .d (dB false), .d (dI 0), .d (dI 0), .d (dI 0), .d (dI 0), .d (dI 0), .d (dI 0), .d (.v (.string ⟨#[]⟩)), .d (.v (.slice none 0 0)), .d (.v (.slice none 0 0))]) R E6 (by kernel_rfl))<|znr<|?_
 refine zp (Ae (s':= .d (.agg (Ms.c m))) (Ac (Ad R R Bj R lb)) (by kernel_rfl))<|XL.callS R R (N3 _ (by assumption)) R<|?_
 refine XL.step R (Aq 3 (l:= [.d (dI 0), .d (dI 0), .d (dI 0), .d (dI 0), .d (dI 0), .d (dI 0), .d (dI 0), .d (dI 0), .d (dI 0), .d (dI 0), .d (dI 0), .d (dI 0), .d (dB false), .d (dI 0), .d (dI 0), .d (dI 0), .d (dI 0), .d (dI 0), .d (dI 0), .d (.v (.string ⟨#[]⟩)), .d (.v (.slice none 0 0)), .d (.v (.slice none 0 0))]) R E6 (by kernel_rfl))<|?_
 refine XL.step R (Af (l':= [.d (dI (m.h).site), .d (dI (m.h).num), .d (dI (m.h).m.count), .d (dI (m.h).m.unit), .d (dI (m.h).m.g0), .d (dI (m.h).m.g1), .d (dI (m.h).m.g2), .d (dI (m.h).m.g3), .d (dI (m.h).m.g4), .d (dI (m.h).m.g5), .d (dI (m.h).len), .d (dI (m.h).fifths), .d (dB (m.h).start), .d (dI (m.h).fin), .d (dI (m.h).ends), .d (dI (m.h).jump), .d (dI (m.h).labels), .d (dI (m.h).swing), .d (dI (m.h).brk), .d (.v (.string ⟨(m.h).reh.toArray⟩)), .own 7401, .own 7402]) R R R R E9 R lb (by kernel_rfl))<|?_
 refine znr<|zp (Ae (s':= .d (.agg [dI 0,dI 0])) (Ac (A4 R Mw Ku R)) (by kernel_rfl))<|zp (Aa R R Nj)<|?_
 refine XL.step R (Af (l':= [.d (dI 0), .d (dI 0), .d (dI (m.h).m.count), .d (dI (m.h).m.unit), .d (dI (m.h).m.g0), .d (dI (m.h).m.g1), .d (dI (m.h).m.g2), .d (dI (m.h).m.g3), .d (dI (m.h).m.g4), .d (dI (m.h).m.g5), .d (dI (m.h).len), .d (dI (m.h).fifths), .d (dB (m.h).start), .d (dI (m.h).fin), .d (dI (m.h).ends), .d (dI (m.h).jump), .d (dI (m.h).labels), .d (dI (m.h).swing), .d (dI (m.h).brk), .d (.v (.string ⟨(m.h).reh.toArray⟩)), .own 7401, .own 7402]) R R R R X0 R lb (by kernel_rfl))<|?_
 refine znr<|XL.inl 900001 [(2, .ptr 2 0 0),(3, .ptr 3 0 0)] R R .d Ad0 Tryz.func84 R R lb (by simp only [List.forall_mem_cons];exact ⟨⟨Nat.le_of_ble_eq_true rfl,rfl⟩,⟨⟨Nat.le_of_ble_eq_true rfl,rfl⟩,fun p hp=>(by cases hp)⟩⟩) fun u1=>zr<|zp (As R (by conv=>lhs;whnf))<|?_
 refine zp (Fn R R)<|zp (Aa R R Bm)<|zp (Ab R R Df R R)<|zp (Ae (s':= .d (dI m.cells.length)) (Gq R R R Tryz.underlying28) (sI (by rw [List.length_map])))<|zm R R<|zn<|Ah<|?_
 refine Az (α:=Nat) (fun k=>k≤m.cells.length) (fun k=>mkF [(0, .ptr 3 0 0),(1, .d (.fn 107 [] [])),(12, .d (dI m.cells.length)),(13, .d (dI k))]) (fun k=>mkH [(2, .box [.d (dI 0), .d (dI 0), .d (dI 0), .d (dI 0), .d (dI 0), .d (dI 0), .d (dI 0), .d (dI 0), .d (dI 0), .d (dI 0), .d (dI 0), .d (dI 0), .d (dB false), .d (dI 0), .d (dI 0), .d (dI 0), .d (dI 0), .d (dI 0), .d (dI 0), .d (.v (.string ⟨#[]⟩)), .d (.v (.slice none 0 0)), .d (.v (.slice none 0 0))]),(3, .box [.d (dI 0), .d (dI 0), .d (dI (m.h).m.count), .d (dI (m.h).m.unit), .d (dI (m.h).m.g0), .d (dI (m.h).m.g1), .d (dI (m.h).m.g2), .d (dI (m.h).m.g3), .d (dI (m.h).m.g4), .d (dI (m.h).m.g5), .d (dI (m.h).len), .d (dI (m.h).fifths), .d (dB (m.h).start), .d (dI (m.h).fin), .d (dI (m.h).ends), .d (dI (m.h).jump), .d (dI (m.h).labels), .d (dI (m.h).swing), .d (dI (m.h).brk), .d (.v (.string ⟨(m.h).reh.toArray⟩)), .own 7401, .own 7402]),(7401, .row 119 3 ((m.tempi).map Tm.c)),(7402, .tree 78 2 [] (mix Ce.u Ce.t ((m.cells.take k).map G8) (m.cells.drop k))),(900001, .ghost u1 [(2, .ptr 2 0 0),(3, .ptr 3 0 0)])]) (fun k=>m.cells.length - k) (0) (Nat.zero_le _) ?_ ?_ ?_
 exact fz ⟨sr,sr,sr,sr,trivial⟩
 exact gz ⟨R,R,R,R,R,trivial⟩
 intro k hk0
 have hk:=hk0
 refine zr<|zp (Au R R R)<|zn<|zs<|?_
 refine zd R (fun c14=> ?_) (fun c14=> ?_)
 have hkl:k<m.cells.length:=by omega
 obtain ⟨x,hx⟩:=Ar hkl
 have hcf:=hF.c x (List.mem_of_getElem? hx)
 have hvl:=hcf.voices
 refine zi<|zs<|Ah<|zr<|zm R R<|za R R<|zn<|zs<|S7 (i:=7402) (j:=7502) (k:=k) (m:=1) (l':=(mix Ce.u Ce.t ((m.cells.take k).map G8) (m.cells.drop k)).set k [.row 84 2 (((x.clefs).map Cf.c).map (·.map T.d)), .own 7502]) [] (x.voices.map Vo.t) R R R (De hx) R (Vos.t_in [] _) (R)<|?_
 refine Hm (i:=7402) (j:=7501) (k:=k) (m:=0) (l':=(mix Ce.u Ce.t ((m.cells.take k).map G8) (m.cells.drop k)).set k [.own 7501, .own 7502]) ((x.clefs).map Cf.c) R R R (B1 (De hx)) R (List.set_set ..)<|Ag (by kernel_rfl)<|zp (As R (by conv=>lhs;whnf))<|?_
 refine zp (Fn R R)<|zp (Aa R R Bm)<|zp (Ab R R Df R R)<|zm R R<|zp (Di R R R (R) R Em (F8 (Ki hkl)))<|zp (Aa R R Cm)<|zp (Ae (s':= .own 7502) (C0 R R Eg R (B1 (De hx)) R) R)<|zp (Ae (s':= .d (dI x.voices.length)) (Gq R R R Tryz.underlying76) (sI (by rw [List.length_map])))<|zm R R<|zn<|Ah<|?_
 refine Az (α:=Nat) (fun j=>j≤x.voices.length) (fun j=>mkF [(0, .ptr 3 0 0),(1, .d (.fn 107 [] [])),(4, .d (dI k)),(12, .d (dI m.cells.length)),(13, .d (dI k)),(24, .d (dI x.voices.length)),(25, .d (dI j))]) (fun j=>mkH [(2, .box [.d (dI 0), .d (dI 0), .d (dI 0), .d (dI 0), .d (dI 0), .d (dI 0), .d (dI 0), .d (dI 0), .d (dI 0), .d (dI 0), .d (dI 0), .d (dI 0), .d (dB false), .d (dI 0), .d (dI 0), .d (dI 0), .d (dI 0), .d (dI 0), .d (dI 0), .d (.v (.string ⟨#[]⟩)), .d (.v (.slice none 0 0)), .d (.v (.slice none 0 0))]),(3, .box [.d (dI 0), .d (dI 0), .d (dI (m.h).m.count), .d (dI (m.h).m.unit), .d (dI (m.h).m.g0), .d (dI (m.h).m.g1), .d (dI (m.h).m.g2), .d (dI (m.h).m.g3), .d (dI (m.h).m.g4), .d (dI (m.h).m.g5), .d (dI (m.h).len), .d (dI (m.h).fifths), .d (dB (m.h).start), .d (dI (m.h).fin), .d (dI (m.h).ends), .d (dI (m.h).jump), .d (dI (m.h).labels), .d (dI (m.h).swing), .d (dI (m.h).brk), .d (.v (.string ⟨(m.h).reh.toArray⟩)), .own 7401, .own 7402]),(7401, .row 119 3 ((m.tempi).map Tm.c)),(7402, .tree 78 2 [7501,7502] ((mix Ce.u Ce.t ((m.cells.take k).map G8) (m.cells.drop k)).set k [.own 7501, .own 7502])),(7501, .row 84 2 ((x.clefs).map Cf.c)),(7502, .tree 82 2 [] (mix Vo.u Vo.t ((x.voices.take j).map G7) (x.voices.drop j))),(900001, .ghost u1 [(2, .ptr 2 0 0),(3, .ptr 3 0 0)])]) (fun j=>x.voices.length - j) (0) (Nat.zero_le _) ?_ ?_ ?_
 exact fz ⟨sr,sr,sr,sr,sr,sr,sr,trivial⟩
 exact gz ⟨R,R,R,R,R,R,R,trivial⟩
 intro j hk2
 have hj:=hk2
 refine zr<|zp (Au R R R)<|zn<|zs<|?_
 refine zd R (fun c26=> ?_) (fun c26=> ?_)
 have hjl:j<x.voices.length:=by omega
 obtain ⟨w,hw⟩:=Ar hjl
 have hvf:=hcf.v w (List.mem_of_getElem? hw)
 have hel:=hvf.evs
 refine zi<|zs<|Ah<|zr<|zm R R<|za R R<|zn<|zs<|Hm (i:=7502) (j:=7601) (k:=j) (m:=0) (l':=(mix Vo.u Vo.t ((x.voices.take j).map G7) (x.voices.drop j)).set j [.own 7601, .row 157 4 (((w.tups).map Tp.c).map (·.map T.d))]) ((w.evs).map Ev.c) R R R (De hw) R (R)<|?_
 refine Hm (i:=7502) (j:=7602) (k:=j) (m:=1) (l':=(mix Vo.u Vo.t ((x.voices.take j).map G7) (x.voices.drop j)).set j [.own 7601, .own 7602]) ((w.tups).map Tp.c) R R R (B1 (De hw)) R (List.set_set ..)<|Ag (by kernel_rfl)<|zp (As R (by conv=>lhs;whnf))<|?_
 refine zp (Fn R R)<|zp (Aa R R Bm)<|zp (Ab R R Df R R)<|zm R R<|zp (Di R R R (R) R Em (F8 (Ki hkl)))<|zp (Aa R R Cm)<|zp (Ae (s':= .own 7502) (C0 R R Eg R (B1 (De hx)) R) R)<|zm R R<|zp (Di R R R (R) R Ic (F8 (Ki hjl)))<|zp (Aa R R Bo)<|?_
 refine zp (Ae (s':= .own 7601) (C0 R R Cz R (B1 (De hw)) R) R)<|zp (Aw R (by conv=>lhs;whnf))<|?_
 refine znr<|zp (As R (by conv=>lhs;whnf))<|?_
 refine zp (Bz R R R Tryz.underlying79)<|zm R R<|zn<|Ah<|?_
 refine Az (α:=Nat) (fun n=>n≤w.evs.length) (fun n=>mkF [(0, .ptr 3 0 0),(1, .d (.fn 107 [] [])),(4, .d (dI k)),(6, .own 7601),(12, .d (dI m.cells.length)),(13, .d (dI k)),(24, .d (dI x.voices.length)),(25, .d (dI j)),(41, .d (dI w.evs.length)),(42, .d (dI n))]) (fun n=>mkH [(2, .box [.d (dI 0), .d (dI 0), .d (dI 0), .d (dI 0), .d (dI 0), .d (dI 0), .d (dI 0), .d (dI 0), .d (dI 0), .d (dI 0), .d (dI 0), .d (dI 0), .d (dB false), .d (dI 0), .d (dI 0), .d (dI 0), .d (dI 0), .d (dI 0), .d (dI 0), .d (.v (.string ⟨#[]⟩)), .d (.v (.slice none 0 0)), .d (.v (.slice none 0 0))]),(3, .box [.d (dI 0), .d (dI 0), .d (dI (m.h).m.count), .d (dI (m.h).m.unit), .d (dI (m.h).m.g0), .d (dI (m.h).m.g1), .d (dI (m.h).m.g2), .d (dI (m.h).m.g3), .d (dI (m.h).m.g4), .d (dI (m.h).m.g5), .d (dI (m.h).len), .d (dI (m.h).fifths), .d (dB (m.h).start), .d (dI (m.h).fin), .d (dI (m.h).ends), .d (dI (m.h).jump), .d (dI (m.h).labels), .d (dI (m.h).swing), .d (dI (m.h).brk), .d (.v (.string ⟨(m.h).reh.toArray⟩)), .own 7401, .own 7402]),(7401, .row 119 3 ((m.tempi).map Tm.c)),(7402, .tree 78 2 [7501,7502] ((mix Ce.u Ce.t ((m.cells.take k).map G8) (m.cells.drop k)).set k [.own 7501, .own 7502])),(7501, .row 84 2 ((x.clefs).map Cf.c)),(7502, .tree 82 2 [7602,7601] ((mix Vo.u Vo.t ((x.voices.take j).map G7) (x.voices.drop j)).set j [.own 7601, .own 7602])),(7601, .row 59 13 ((Gs No w.evs n).map Ev.c)),(7602, .row 157 4 ((w.tups).map Tp.c)),(900001, .ghost u1 [(2, .ptr 2 0 0),(3, .ptr 3 0 0)])]) (fun n=>w.evs.length - n) (0) (Nat.zero_le _) ?_ ?_ ?_
 exact fz ⟨sr,sr,sr,sr,sr,sr,sr,sr,sr,sr,trivial⟩
 exact gz ⟨R,R,R,R,R,R,Oe (Kj _ _),R,R,trivial⟩
 intro n hk4
 have hn:=hk4
 refine zr<|zp (Au R R R)<|zn<|zs<|?_
 refine zd R (fun c43=> ?_) (fun c43=> ?_)
 have hml:=Hj No w.evs n
 have hnl:n<w.evs.length:=by omega
 obtain ⟨e,he⟩:=Ar hnl
 have hg:=Lq (f:=No) he
 refine zi<|zs<|Ah<|zr<|zm R R<|za R R<|zng<|zm R R<|zp (As R (by conv=>lhs;whnf))<|?_
 refine zm R R<|zp (Ck R R R (R) R F5 (by omega))<|?_
 refine XL.inl 900002 [(0, .ptr 3 0 0),(1, .d (.fn 107 [] [])),(4, .d (dI k)),(6, .own 7601),(12, .d (dI m.cells.length)),(13, .d (dI k)),(24, .d (dI x.voices.length)),(25, .d (dI j)),(41, .d (dI w.evs.length)),(42, .d (dI n))] R R .d Acv Tryz.func107 R R lb (by simp only [List.forall_mem_cons];exact ⟨⟨Nat.le_of_ble_eq_true rfl,rfl⟩,⟨⟨Nat.le_of_ble_eq_true rfl,rfl⟩,⟨⟨Nat.le_of_ble_eq_true rfl,rfl⟩,⟨⟨Nat.le_of_ble_eq_true rfl,rfl⟩,⟨⟨Nat.le_of_ble_eq_true rfl,rfl⟩,⟨⟨Nat.le_of_ble_eq_true rfl,rfl⟩,⟨⟨Nat.le_of_ble_eq_true rfl,rfl⟩,⟨⟨Nat.le_of_ble_eq_true rfl,rfl⟩,⟨⟨Nat.le_of_ble_eq_true rfl,rfl⟩,⟨⟨Nat.le_of_ble_eq_true rfl,rfl⟩,fun p hp=>(by cases hp)⟩⟩⟩⟩⟩⟩⟩⟩⟩⟩) fun u2=>?_
 refine Ag (by kernel_rfl)<|zp (As R (by conv=>lhs;whnf))<|?_
 refine zp (Ae (s':= .d (.agg [dI 0,dI 0])) (Ac (A4 R Mw Ku R)) (by kernel_rfl))<|zp (Fn R R)<|zp (Aa R R Iu)<|XL.step R (D8 R R R (C2 hg) R R X0 R lb)<|zn<|?_
 refine (Dr (l:= [(0, .ptr 3 0 0),(1, .d (.fn 107 [] [])),(4, .d (dI k)),(6, .own 7601),(12, .d (dI m.cells.length)),(13, .d (dI k)),(24, .d (dI x.voices.length)),(25, .d (dI j)),(41, .d (dI w.evs.length)),(42, .d (dI n))]) (by kernel_rfl) (rs0 R R) ?_).1
 refine zn<|Ag (by kernel_rfl)<|zp (Al R R R (by omega) (by omega))<|zm R R<|zn<|?_
 exact Am (n+1) (by omega) (by omega) (fz ⟨sr,sr,sr,sr,sr,sr,sr,sr,sr,sr,trivial⟩) (gz ⟨R,R,R,R,R,R,Od (a:=No e) R (Lp he),R,R,trivial⟩)
 have hml:=Hj No w.evs n
 have hne:¬n<w.evs.length:=by omega
 refine At<|Ag (by kernel_rfl)<|XL.rowq (i:=7601) (l':=((G7 w).evs).map Ev.c) R (by rw [Lr (by omega)];rfl)<|XL.freeze (i:=7601) R<|XL.rowqT (i:=7502) (l':=(mix Vo.u Vo.t ((x.voices.take j).map G7) (x.voices.drop j)).set j [.d (.sl 13 (((G7 w).evs).map Ev.c)), .own 7602]) [7602] R (F0 (Fv [] _ _) R) (Cv (Fv [] _ _) (Ee (R) (R)) _)<|?_
 refine XL.freeze (i:=7602) R<|XL.rowqT (i:=7502) (l':=(mix Vo.u Vo.t ((x.voices.take j).map G7) (x.voices.drop j)).set j [.d (.sl 13 (((G7 w).evs).map Ev.c)), .d (.sl 4 (w.tups.map Tp.c))]) [] R (F0 (Fv [] _ _) R) (Cv (Fv [] _ _) (Ee (R) (R)) _)<|?_
 refine XL.rowqT (i:=7502) (l':=mix Vo.u Vo.t ((x.voices.take (j+1)).map G7) (x.voices.drop (j+1))) [] R (Jr hw) (Fv [] _ _)<|zp (Al R R R (by omega) (by omega))<|zm R R<|zn<|?_
 exact Am (j+1) (by omega) (by omega) (fz ⟨sr,sr,sr,sr,sr,sr,sr,trivial⟩) (gz ⟨R,R,R,R,R,R,R,trivial⟩)
 refine At<|Ag (by kernel_rfl)<|XL.freezeT (i:=7502) R (Vq _ _) (by rw [Zm,List.drop_of_length_le (by omega),List.append_nil,show x.voices.take j=x.voices from List.take_of_length_le (by omega)])<|?_
 refine XL.rowqT (i:=7402) (l':=(mix Ce.u Ce.t ((m.cells.take k).map G8) (m.cells.drop k)).set k [.own 7501, .d (.sl 2 ((G8 x).voices.map Vo.c))]) [7501] R (F0 (Ed [] _ _) R) (Cv (Ed [] _ _) (Ee (R) (R)) _)<|XL.freeze (i:=7501) R<|?_
 refine XL.rowqT (i:=7402) (l':=(mix Ce.u Ce.t ((m.cells.take k).map G8) (m.cells.drop k)).set k [.d (.sl 2 (x.clefs.map Cf.c)), .d (.sl 2 ((G8 x).voices.map Vo.c))]) [] R (F0 (Ed [] _ _) R) (Cv (Ed [] _ _) (Ee (R) (R)) _)<|XL.rowqT (i:=7402) (l':=mix Ce.u Ce.t ((m.cells.take (k+1)).map G8) (m.cells.drop (k+1))) [] R (Jr hx) (Ed [] _ _)<|?_
 refine zp (Al R R R (by omega) (by omega))<|zm R R<|zn<|?_
 exact Am (k+1) (by omega) (by omega) (fz ⟨sr,sr,sr,sr,trivial⟩) (gz ⟨R,R,R,R,R,trivial⟩)
 refine At<|?_
 refine (Dr (l:= [(2, .ptr 2 0 0),(3, .ptr 3 0 0)]) (by kernel_rfl) (rs0 R R) ?_).1
 refine znr<|XL.freeze (i:=7401) R<|XL.freezeT (i:=7402) R (Rt _ _) (by rw [U0,List.drop_of_length_le (by omega),List.append_nil,show m.cells.take k=m.cells from List.take_of_length_le (by omega)])<|?_
 refine zp (Ae (s':= .d (.agg [dI 0,dI 0,dI (m.h).m.count,dI (m.h).m.unit,dI (m.h).m.g0,dI (m.h).m.g1,dI (m.h).m.g2,dI (m.h).m.g3,dI (m.h).m.g4,dI (m.h).m.g5,dI (m.h).len,dI (m.h).fifths,dB (m.h).start,dI (m.h).fin,dI (m.h).ends,dI (m.h).jump,dI (m.h).labels,dI (m.h).swing,dI (m.h).brk, .v (.string ⟨(m.h).reh.toArray⟩), .sl 3 (m.tempi.map Tm.c), .sl 2 ((Py m).cells.map Ce.c)])) (Ac (Ad R R Bj R lb)) (by kernel_rfl))<|?_
 refine XL.step R (Af (l':= [.d (dI 0), .d (dI 0), .d (dI (m.h).m.count), .d (dI (m.h).m.unit), .d (dI (m.h).m.g0), .d (dI (m.h).m.g1), .d (dI (m.h).m.g2), .d (dI (m.h).m.g3), .d (dI (m.h).m.g4), .d (dI (m.h).m.g5), .d (dI (m.h).len), .d (dI (m.h).fifths), .d (dB (m.h).start), .d (dI (m.h).fin), .d (dI (m.h).ends), .d (dI (m.h).jump), .d (dI (m.h).labels), .d (dI (m.h).swing), .d (dI (m.h).brk), .d (.v (.string ⟨(m.h).reh.toArray⟩)), .d (.sl 3 (m.tempi.map Tm.c)), .d (.sl 2 ((Py m).cells.map Ce.c))]) R R R R E9 R lb (by kernel_rfl))<|?_
 refine zn<|zt<|?_
 exact Jb R (RV.cells R R R Bj lb R) (R)
end Go.Proofs.YtaafemnkamfgnaaGreat
namespace Go.Proofs.YtaafemnkamfgnaaGreat
open Go.RowKit
theorem Ai1 (m:Ms):(Aj m).room:=fun c hc v hv e he=>by
 obtain ⟨x,_,rfl⟩:=List.mem_map.1 hc
 obtain ⟨y,_,rfl⟩:=List.mem_map.1 hv
 obtain ⟨z,_,rfl⟩:=List.mem_map.1 he
 refine ⟨?_, ?_, ?_⟩
 ·show (z.heads.take 5).length*40≤_;rw [List.length_take];omega
 ·show (z.graces.take 4).length*40≤_;rw [List.length_take];omega
 ·show ((z.lyr.take 5).map J8).length*24≤_;rw [List.length_map,List.length_take];omega
end Go.Proofs.YtaafemnkamfgnaaGreat
namespace Go.Proofs.YtaafemnkamfgnaaGreat
open Go.RowKit
def OpG (P:Program) (n:Nat) (ops:Array Oper) (o:Oper) (f:Fr) (h1:Xh) (ids:List Nat) (s:S):Prop:=
 (Bl ops f n o.guard=some true∧Ac7 P o (ev f) h1 ids s)∨(Bl ops f n o.guard=some false∧ids= []∧s= .d (.v undef))
structure GOK (P:Program) (n:Nat) (ops:Array Oper) (κ κ2:S→S) (hA hB hC:Xh) (o:Oper) (fA fB fC:Fr) (c:C3) (ids:List Nat) (sA sB sC:S):Prop where
 a:(c= .bf∨c= .fr∨c= .ff)→OpG P n ops o fA hA ids sA∧sB=κ sA
 b:(c= .af∨c= .fr∨c= .fl∨c= .ff)→OpF P n ops o fB hB sB
 l:(c= .fl∨c= .ff)→OpF P n ops o fC hC sC
 k:c≠ .st→sC=κ2 sB
 m:c= .mu→Bl ops fA n o.guard=some true∧Ie P n o fA hA 987654 sB κ hB
 s:c= .st→Bl ops fB n o.guard=some true∧Ie P n o fB hB 987654 sC κ2 hC
 i:c= .bf∨ids= []
inductive ChG (P:Program) (n:Nat) (ops:Array Oper) (κ κ2:S→S) (hA hB hC:Xh):List Oper→Fr→Fr→Fr→List C3→List (List Nat × S)→List S→List S→Fr→Prop where
 |nil (fA fB fC:Fr):ChG P n ops κ κ2 hA hB hC [] fA fB fC [] [] [] [] fC
 |step {o:Oper} {rest:List Oper} {fA fB fC f':Fr} {c:C3} {ids:List Nat} {sA sB sC:S} {C:List C3} {LA:List (List Nat × S)} {LB LC:List S} (hok:GOK P n ops κ κ2 hA hB hC o fA fB fC c ids sA sB sC) (hr:ChG P n ops κ κ2 hA hB hC rest (A7 fA o.dst sA) (A7 fB o.dst sB) (A7 fC o.dst sC) C LA LB LC f'):
   ChG P n ops κ κ2 hA hB hC (o::rest) fA fB fC (c::C) ((ids,sA)::LA) (sB::LB) (sC::LC) f'
section
variable (P:Program) (n:Nat) (ops:Array Oper) (pre:List Oper) (p p2:Nat) (fA fB fC:Fr) (hA hB hC:Xh) (LA:List (List Nat × S)) (LB LC:List S) (E:Env)
def InvG (listed:Array Bool) (a:Act) (w:World):Prop:=
 (listed.size=ops.size∧(∀j o e,ops[j]? =some o→listed.getD j false=true→e∈o.after→Region.binds .any e=true→listed.getD e.on false=true)∧∀k,pre.length≤k→listed.getD k false=false)∧
  ((listed.getD p false = false ∧ listed.getD p2 false = false ∧ ∃ H β, Sim E H β hA w ∧ FV n H β a (A3 fA pre LA (fun j => listed.getD j false) pre.length) ∧ ∀ (k : Nat) (q : List Nat × S), LA[k]? = some q → listed.getD k false = false → ∀ i ∈ q.1, β i = none) ∨
   (listed.getD p false=true∧listed.getD p2 false=false∧∃H β,Sim E H β hB w∧FV n H β a (A3 fB pre (noI LB) (fun j=>listed.getD j false) pre.length))∨
   (listed.getD p2 false = true ∧ ∃ H β, Sim E H β hC w ∧ FV n H β a (A3 fC pre (noI LC) (fun j => listed.getD j false) pre.length)))
end
def ChGK (P:Program) (n:Nat) (ops:Array Oper) (κ κ2:S→S) (hA hB hC:Xh) (rest:List Oper) (fA fB fC:Fr) (acc:List C3) (ia:List Nat) (G:List C3→List Nat→Fr→Prop):Prop:=∃C LA LB LC f',ChG P n ops κ κ2 hA hB hC rest fA fB fC C LA LB LC f'∧G (acc++C) (ia++LA.flatMap (·.1)) f'
section
variable {P:Program} {n:Nat} {ops:Array Oper} {κ κ2:S→S} {hA hB hC:Xh} {rest:List Oper} {fA fB fC:Fr} {o:Oper} {s s' s2:S} {acc:List C3} {ia ids:List Nat} {G:List C3→List Nat→Fr→Prop}
end
theorem Ap5 {P:Program} {n:Nat} {o:Oper} {f:Fr} {h hb hB:Xh} {i:Nat} {s:S} {κ:S→S} {m:Nat→Option XO→Option XO} (hbl:∀E H β w,Sim E H β h w→∃β',Bt.sim β β'∧Sim E H β' hb w) (ha:∀hF,HLe hb hF→Ie P n o f hF i s κ (hF.by m)) (hh:HSub (hb.by m) hB):
  ∀hF,HLe h hF→Ie P n o f hF 987654 s κ (hF.by fun k _=>hB k):=fun hF hle f' he E H β a w hs hf hop=>by
 obtain ⟨β1,q1,q2⟩:=hbl E H β w (hs.drop hle)
 refine Dm (ha hb (HLe.refl _) f' he E H β1 a w q2 (hf.sim q1) (fun x hx=>(hop x hx).sim q1)) ?_
 rintro a' w' ⟨H',β',u,e,k1,k2,_,k3⟩
 exact ⟨H',β',u,e,k1.drop hh,k2, .inl rfl,k3⟩
theorem Atd {h:Xh} {i k m ty sz:Nat} {ls ls':List Nat} {l l':List (List T)} {x:List T} (hi:h i=some (.tree ty sz ls l)) (hk:l[k]? =some x) (hm:Nat.blt m x.length=true) (hl':l.set k (x.set m .any)=l') (hin':T.inLL ls' l'=true):
  ∀E H β w,Sim E H β h w→∃β',Bt.sim β β'∧Sim E H β' (h.set i (.tree ty sz ls' l')) w:=fun E H β w s=>by
 subst hl'
 exact s.blurT hi hk (Eu hm) hin'
theorem O5 {P:Program} {n:Nat} {c:Code} {K:Cu} {f:Fr} {h:Xh} (F:Fr) (G:Xh) (hf:FSub n f F) (hg:HSub h G) (hc:XW P n c K F G):XW P n c K f h:=fun E H β a w hs hfv=>
 hc E H β a w (hs.drop hg) ⟨hfv.defers,hfv.size,fun t ht=>(hf t ht).vs (hfv.slot t ht)⟩
end Go.Proofs.YtaafemnkamfgnaaGreat
namespace Go.Proofs.YtaafemnkamfgnaaGreat
open Go.RowKit
def Asn (x:Int):List Int→List Int
 | []=> [x]
 |y::l=>if y<x then y::Asn x l else if y=x then y::l else x::y::l
def colU (l:List Slt):List Int:=l.foldl (fun out s=>Asn s.on out) []
end Go.Proofs.YtaafemnkamfgnaaGreat
namespace Go.Proofs.YtaafemnkamfgnaaGreat
open Go.RowKit
def Adj {α:Type} (R:α→α→Prop) (l:List α):Prop:=∀k y x,l[k]? =some y→l[k+1]? =some x→R y x
def NextS (y x:Slt):Prop:=x.staff=y.staff→x.voice=y.voice→x.on=y.off
end Go.Proofs.YtaafemnkamfgnaaGreat
namespace Go.Proofs.YtaafemnkamfgnaaGreat
open Go.RowKit
def Vo.z:Vo:=⟨[], []⟩
def Auv (l:List Vo) (w:Nat):List Vo:=l++List.replicate (w+1 - l.length) Vo.z
def Asz (v:Vo):Bool:=Nat.beq v.evs.length 0
def Arh (l:List Vo):List Vo:=(l.reverse.dropWhile Asz).reverse
def svL (l:List Vo) (w:Nat) (v:Vo):List Vo:=(Auv l w).set w v
def svC (x:Ce) (w:Nat) (v:Vo):Ce:=⟨x.clefs,Arh (svL x.voices w v)⟩
def svM (m:Ms) (s n:Int) (v:Vo):Ms:=match m.cells[s.toNat]? with
 |some x=>⟨m.h,m.tempi,m.cells.set s.toNat (svC x n.toNat v)⟩
 |none=>m
def svE (m:Ms) (s n:Int) (v:Vo):Int:=if mlE m.h.m m.h.len≠0 then mlE m.h.m m.h.len else if s<0∨(m.cells.length:Int)≤s∨n<0∨1<n then 2 else if v.evs.length=0∧n=0 then 10 else if v.evs.length≠0∧ckE v (mlV m.h.m m.h.len)≠0 then ckE v (mlV m.h.m m.h.len) else 0
theorem P7 {k:Nat} {x:List T}:∀{l:List (List T)} {k:Nat},T.toDLL (l.set k x)=(T.toDLL l).set k (T.toDL x)
 | [],_=>rfl
 |y::l,0=>rfl
 |y::l,k+1=>by simp only [List.set_cons_succ,T.toDLL,P7 (k:=k) (l:=l) (x:=x)]
theorem Tz {x:List T} (hx:T.fzL x=true):∀{l:List (List T)} {k:Nat},T.fzLL l=true→T.fzLL (l.set k x)=true
 | [],_,_=>rfl
 |y::l,0,h=>by
  simp only [T.fzLL,Bool.and_eq_true] at h
  simp only [List.set_cons_zero,T.fzLL,Bool.and_eq_true];exact ⟨hx,h.2⟩
 |y::l,k+1,h=>by
  simp only [T.fzLL,Bool.and_eq_true] at h
  simp only [List.set_cons_succ,T.fzLL,Bool.and_eq_true];exact ⟨h.1,Tz hx h.2⟩
theorem Aun {l:List Ce} {q:Nat} (y:Ce):T.toDLL ((l.map Ce.t).set q (Ce.u y))=(l.set q y).map Ce.c:=by rw [P7 (k:=q),Ces.t_D,List.map_set];rfl
end Go.Proofs.YtaafemnkamfgnaaGreat
