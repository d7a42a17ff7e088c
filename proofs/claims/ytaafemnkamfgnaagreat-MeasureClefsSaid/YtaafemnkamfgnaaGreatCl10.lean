/- Part 10 of what the statements need: lemmas and walks. -/
import Derived.Lib.OwnBridge
import Derived.Test.YtaafemnkamfgnaaGreatCl9
set_option linter.unusedVariables false
set_option linter.unusedSimpArgs false
set_option linter.unusedSectionVars false
set_option maxRecDepth 20000
set_option maxHeartbeats 8000000
namespace Go.Proofs.YtaafemnkamfgnaaGreat
open Go.RowKit
open Go.Sort in
theorem Ajt {zs:List Int} {c:Array Value} (h:zs.length≤c.size):(putCells (Value.int .i64) 0 zs.toArray c).toList.take zs.length=zs.map (Value.int .i64):=by
 apply List.ext_getElem?
 intro k
 rw [List.getElem?_take,List.getElem?_map]
 by_cases hk:k<zs.length
 ·rw [if_pos hk,Array.getElem?_toList,putCells,Array.getElem?_mapIdx,Array.getElem?_eq_getElem (by omega),Option.map_some,if_pos ⟨by omega,by simpa using hk⟩,List.getElem?_eq_getElem hk,Option.map_some]
  congr 2
  rw [Nat.sub_zero,getElem!_pos _ k (by simpa using hk)]
  simp
 ·rw [if_neg hk,List.getElem?_eq_none (by omega)];rfl
abbrev ixs (zs:List Int):List (List D):=zs.map iv
theorem Ad8 {E:Env} {H:Hp} {β:Bt} {h:Xh} {w:World} {i:Nat} {zs:List Int} {L:Loc} (hs:Sim E H β h w) (hi:h i=some (.row 3 1 (ixs zs))) (hL:β i=some L):
  (L.v= .slice none 0 0∧zs= [])∨∃cap cur,L.v= .slice (some ⟨L.b,0,none⟩) zs.length cap∧L.sz=1∧E.w.heap.size≤L.b∧w.heap[L.b]? =some (.cells cur 3 (0,0))∧zs.length≤cap∧cap≤maxLen∧cur.size=cap∧cur.toList.take zs.length=zs.map (Value.int .i64):=by
 obtain ⟨hsz,hz,hvb,us,hown,hone,hcells⟩:=hs.obj i _ L hi hL
 have hn:(ixs zs).length=zs.length:=by simp [ixs]
 rw [hn] at hown
 rcases hown.2 with ⟨e1,e2⟩|⟨g,cap,cur,e1,e2,e3,e4,e5,e6,e7⟩
 ·exact .inl ⟨e1,List.length_eq_zero_iff.1 e2⟩
 ·have hg:=hvb g (by rw [e1];rfl)
  subst hg
  rw [Nat.mul_one] at e6 e7
  refine .inr ⟨cap,cur,e1,hsz,e2,e3,e4,e5,e6, ?_⟩
  rw [e7]
  have hl:us.length=zs.length:=by rw [hown.1,Nat.mul_one]
  apply List.ext_getElem?
  intro k
  by_cases hk:k<zs.length
  ·obtain ⟨u,h1,h2⟩:=hcells k 0 [dI zs[k]] (dI zs[k]) (by simp [ixs,hk];rfl) rfl
   rw [Nat.mul_one,Nat.add_zero] at h1
   rw [h1,O5 h2]
   simp [hk]
  ·rw [List.getElem?_eq_none (by omega),List.getElem?_eq_none (by simp;omega)]
open Go.Sort in
theorem Sim.putI {E:Env} {H:Hp} {β:Bt} {h:Xh} {w:World} {i q:Nat} {zs ys:List Int} {L:Loc} {cap:Nat} {cur:Array Value} (hs:Sim E H β h w) (hi:h i=some (.row 3 1 (ixs zs))) (hL:β i=some L)
  (hv:L.v= .slice (some ⟨L.b,0,none⟩) zs.length cap) (hb:E.w.heap.size≤L.b) (hc:w.heap[L.b]? =some (.cells cur 3 (0,0))) (hn:zs.length≤cap) (hm:cap≤maxLen) (hz:cur.size=cap) (hl:ys.length=zs.length):
  Sim E H β (h.set i (.row 3 1 (ixs ys))) (putRow (Value.int .i64) (Sort.ahead w q) L.b 0 ys.toArray):=by
 obtain ⟨hsz,_,hvb,_⟩:=hs.obj i _ L hi hL
 have s2:Sim E H β h (Sort.ahead w q):=hs.call ⟨rfl,rfl,rfl,Nat.le_refl _,fun _ _=>rfl⟩ (Hp.le.refl _) (fun b o u e=> .inl e) hs.imm
 have hcell:(putRow (Value.int .i64) (Sort.ahead w q) L.b 0 ys.toArray).heap[L.b]? =some (.cells (putCells (Value.int .i64) 0 ys.toArray cur) 3 (0,0)):=by
  show (w.heap.modify L.b _)[L.b]? =_
  rw [Array.getElem?_modify,if_pos rfl,hc];rfl
 have hcs:(putCells (Value.int .i64) 0 ys.toArray cur).size=cap:=by simp [putCells,hz]
 refine s2.turn hi hL rfl (Go.Lib.below_putRow hs.below hb) (fun b hb'=> ?_) ?_
 ·show (w.heap.modify L.b _)[b]? =w.heap[b]?
  rw [Array.getElem?_modify,if_neg]
  intro e
  exact hb' (by simp [XO.blk,hv,Value.ownBlock,e])
 ·have hlen:(ixs ys).length=zs.length:=by simp [ixs,hl]
  refine ⟨hsz,fun x hx=> ?_,hvb,ys.map (Value.int .i64),⟨by simp [ixs], .inr ⟨L.b,cap,_,by rw [hlen];exact hv,hb,hcell,by rw [hlen];exact hn,hm,by rw [Nat.mul_one];exact hcs, ?_⟩⟩,fun u hu=> ?_,fun k j x d hk hj=> ?_⟩
  ·obtain ⟨z,_,rfl⟩:=List.mem_map.1 hx;rfl
  ·rw [show (ixs ys).length*1=ys.length by simp [ixs]]
   exact Ajt (by omega)
  ·obtain ⟨z,_,rfl⟩:=List.mem_map.1 hu;rfl
  ·rw [ixs,List.getElem?_map] at hk
   cases hy:ys[k]? with
   |none=>rw [hy] at hk;cases hk
   |some z=>
    rw [hy] at hk;cases hk
    match j with
    |0=>cases hj;exact ⟨.int .i64 z,by rw [Nat.mul_one,Nat.add_zero,List.getElem?_map,hy];rfl, .v _⟩
    |j+1=>simp [iv] at hj
open Go.Sort in
theorem Sim.grow {E:Env} {H:Hp} {β:Bt} {h:Xh} {w:World} (hs:Sim E H β h w) (os:Array Obj):Sim E H β h (Go.Sort.grow w os):=by
 have hb:Below w.heap.size w (Go.Sort.grow w os):=⟨rfl,rfl,rfl,by simp,fun k hk=>by simp only [Go.Sort.grow];rw [Array.getElem?_append_left hk]⟩
 exact hs.call hb (Hp.le.refl _) (fun b o u e=> .inl e) (hs.imm.below hb)
theorem V6 {w:World} {b:Nat} {cur:Array Value} {zs:List Int} (hc:w.heap[b]? =some (.cells cur 3 (0,0))) (ht:cur.toList.take zs.length=zs.map (Value.int .i64)):Go.Sort.Holds (Value.int .i64) w b 0 zs.toArray:=fun j hj=>by
 have hj':j<zs.length:=by simpa using hj
 have:cur[j]? =some (.int .i64 zs[j]):=by
  have h1:(cur.toList.take zs.length)[j]? =some (.int .i64 zs[j]):=by rw [ht];simp [hj']
  rw [List.getElem?_take,if_pos hj'] at h1
  simpa using h1
 refine ⟨?_,by simp [World.frozen?,hc]⟩
 simp [World.cell?,hc,this,hj']
def srt (zs:List Int):List Int:=zs.mergeSort fun x y=>decide (x≤y)
theorem Adu (zs:List Int):(srt zs).length=zs.length:=List.length_mergeSort _
theorem Adt:srt []= []:=by simp [srt]
section
variable {n:Nat} {f:Fr} {h:Xh} {o:Oper} {ops rest:List Oper} {K:Cq} {tys:Array TypeId}
theorem An3 {i:Nat} {x:Operand} {zs:List Int} (ho:o.op= .call {callee:= .value (.func 58),args:= #[x],argTypes:=tys}) (hx:ev f x= .own i) (hi:h i=some (.row 3 1 (ixs zs))) (hlen:zs.length<4611686018427387904):
  Step Tryz.prog n o f h .any f (h.set i (.row 3 1 (ixs (srt zs)))):=by
 intro E H β a w hs hfv hop
 have g:=hop x (by rw [ho];simp [Op.operands,Call.operands])
 rw [hx] at g
 obtain ⟨L,hL,hv⟩:=Fn g
 have fin:∀w',Sim E H β (h.set i (.row 3 1 (ixs (srt zs)))) w'→∃H' β' u,a.put o.dst (.tuple #[])=a.put o.dst u∧Sim E H' β' (h.set i (.row 3 1 (ixs (srt zs)))) w'∧FV n H' β' a f∧VS H' β' u .any:=fun w' k=>⟨H,β,_,rfl,k,hfv, .any _⟩
 unfold Oper.wp
 rw [Mo ho Ac2,show (#[x]:Array Operand).map a.eval= #[a.eval x] by simp]
 rw [hv]
 rcases Ad8 hs hi hL with ⟨e1,rfl⟩|⟨cap,cur,e1,_,e2,e3,e4,e5,e6,e7⟩
 ·rw [e1]
  refine (Tryz.slices_Sort_int_none none 0 w).mono ?_
  rintro e w' ⟨rfl,rfl⟩
  exact fin _ (by rw [Adt,Xh.set_self hi];exact hs)
 ·rw [e1]
  refine (Tryz.slices_Sort_int L.b 0 cap zs w (V6 e3 e7) (Array.getElem?_eq_some_iff.1 e3).1 hlen).mono ?_
  rintro e w' ⟨rfl,q,os,rfl⟩
  exact fin _ ((hs.putI hi hL e1 e2 e3 e4 e5 e6 (Adu zs)).grow os)
theorem Ws {h:Xh} {i:Nat} {o o2:XO}:((h.set i o).kill i).set i o2=(h.kill i).set i o2:=by
 funext j
 by_cases e:i=j
 ·subst e;rw [Xh.set_same,Xh.set_same]
 ·rw [Xh.set_ne _ _ e,Xh.set_ne _ _ e,Xh.kill_ne _ e,Xh.kill_ne _ e,Xh.set_ne _ _ e]
def cpt (zs:List Int):List Int:=Go.Lib.compact zs
theorem Aem (zs:List Int):(cpt zs).length≤zs.length:=Go.Lib.compact_length_le zs
theorem Ael:cpt []= []:=by have:=Aem [];exact List.length_eq_zero_iff.1 (by simpa using this)
theorem Sim.cutR {E:Env} {H:Hp} {β:Bt} {h:Xh} {w:World} {i m c:Nat} {ty:TypeId} {sz:Nat} {r:List (List D)} {L:Loc} {A:Option Addr} (hs:Sim E H β h w) (hi:h i=some (.row ty sz r)) (hL:β i=some L) (hv:L.v= .slice A r.length c) (hm:m≤r.length):
  Sim E H (β.set i (some ⟨.slice A m c,L.b,sz,noB⟩)) ((h.kill i).set i (.row ty sz (r.take m))) w:=by
 obtain ⟨h1,hz,hvb,us,hown,hone,hc⟩:=hs.obj i _ L hi hL
 have hn2:(r.take m).length=m:=by rw [List.length_take];omega
 have hblk:(Value.slice A m c).ownBlock=L.v.ownBlock:=by rw [hv];cases A<;>rfl
 have hmul:m*sz≤r.length*sz:=Nat.mul_le_mul_right _ hm
 refine hs.lay i _ _ (fun b hb=>⟨_,L,hi,hL, ?_⟩) ⟨rfl,fun x hx=>hz x (List.mem_of_mem_take hx),fun b hb=>hvb b (by rw [←hblk];exact hb),us.take (m*sz),⟨?_, ?_⟩,fun u hu=>hone u (List.mem_of_mem_take hu),fun k j x d hk hj=> ?_⟩
 ·simp only [XO.blk] at hb ⊢
  rw [←hblk];exact hb
 ·rw [hn2,List.length_take,hown.1];omega
 ·rw [hn2]
  rcases hown.2 with ⟨e1,e2⟩|⟨g,cap,cur,e1,e2,e3,e4,e5,e6,e7⟩
  ·rw [hv] at e1
   injection e1 with q1 q2 q3
   subst q1 q3
   have:m=0:=by omega
   subst this
   exact .inl ⟨rfl,rfl⟩
  ·rw [hv] at e1
   injection e1 with q1 q2 q3
   subst q1 q3
   refine .inr ⟨g,c,cur,rfl,e2,e3,by omega,e5,e6, ?_⟩
   rw [←e7,List.take_take,Nat.min_eq_left hmul]
 ·have hkm:k<m:=by have:=(List.getElem?_eq_some_iff.1 hk).1;rw [List.length_take] at this;omega
  rw [List.getElem?_take,if_pos hkm] at hk
  obtain ⟨u,h5,h6⟩:=hc k j x d hk hj
  have hjs:j<sz:=by have:=(List.getElem?_eq_some_iff.1 hj).1;rw [hz x (List.mem_of_getElem? hk)] at this;exact this
  have h7:(k+1)*sz≤m*sz:=Nat.mul_le_mul_right _ hkm
  rw [Nat.add_mul] at h7
  exact ⟨u,by rw [List.getElem?_take,if_pos (by omega)];exact h5,h6⟩
theorem Sim.cutI {E:Env} {H:Hp} {β:Bt} {h:Xh} {w:World} {i m c:Nat} {zs:List Int} {L:Loc} {A:Option Addr} (hs:Sim E H β h w) (hi:h i=some (.row 3 1 (ixs zs))) (hL:β i=some L) (hv:L.v= .slice A zs.length c) (hm:m≤zs.length):
  Sim E H (β.set i (some ⟨.slice A m c,L.b,1,noB⟩)) ((h.kill i).set i (.row 3 1 (ixs (zs.take m)))) w:=by
 have:=hs.cutR hi hL (by rw [List.length_map];exact hv) (by rw [List.length_map];exact hm)
 rw [←List.map_take] at this
 exact this
theorem Afb {i:Nat} {x:Operand} {zs:List Int} (ho:o.op= .call {callee:= .value (.func 59),args:= #[x],argTypes:=tys}) (hx:ev f x= .own i) (hi:h i=some (.row 3 1 (ixs zs))) (hlen:zs.length≤9223372036854775807):
  Step Tryz.prog n o f h (.own i) (Dw f i) ((h.kill i).set i (.row 3 1 (ixs (cpt zs)))):=by
 intro E H β a w hs hfv hop
 have g:=hop x (by rw [ho];simp [Op.operands,Call.operands])
 rw [hx] at g
 obtain ⟨L,hL,hv⟩:=Fn g
 unfold Oper.wp
 rw [Mo ho Ac1,show (#[x]:Array Operand).map a.eval= #[a.eval x] by simp]
 rw [hv]
 rcases Ad8 hs hi hL with ⟨e1,rfl⟩|⟨cap,cur,e1,_,e2,e3,e4,e5,e6,e7⟩
 ·rw [e1]
  refine (Tryz.slices_Compact_int_empty none 0 w).mono ?_
  rintro e w' ⟨rfl,rfl⟩
  have:=hs.cutI hi hL e1 (Nat.le_refl _)
  rw [Ael]
  exact ⟨H,_,_,rfl,this,hfv.kill i _,VS.own (Bt.set_same _ _ _)⟩
 ·rw [e1]
  refine (Tryz.slices_Compact_int L.b 0 cap zs w (V6 e3 e7) hlen e4).mono ?_
  rintro e w' ⟨rfl,q,rfl⟩
  have hl:=Aem zs
  have hl2:(Go.Lib.compact zs++List.replicate (zs.length - (Go.Lib.compact zs).length) 0).length=zs.length:=by unfold cpt at hl;simp;omega
  have k:=(hs.putI (q:=q) hi hL e1 e2 e3 e4 e5 e6 hl2).cutI (m:=(cpt zs).length) (Xh.set_same _ _ _) hL (by rw [hl2];exact e1) (by rw [hl2];exact hl)
  rw [Ws,cpt,List.take_left] at k
  exact ⟨H,_,_,rfl,k,hfv.kill i _,VS.own (Bt.set_same _ _ _)⟩
end
def Zg (m:Ms):List Int:=cpt (srt ((slL m).map (·.on)))
theorem Aru {m:Ms} (h:slE m≠0):Zg m= []:=by rw [Zg,slL,if_pos h];simp [Adt,Ael]
theorem r2i {l l':List Int} {a b:Int} (h:l=l') (h2:a=b):D.tup [.sl 1 (l.map iv),dI a]= .tup [.sl 1 (l'.map iv),dI b]:=by rw [h,h2]
theorem An5 {m:Ms} (hF:m.fit):(slL m).length≤3000000000:=by
 unfold slL
 split
 ·exact Nat.zero_le _
 ·have:=Zf (L:=mlV m.h.m m.h.len) (l:=m.cells) (fun c hc=>(hF.c c hc).voices)
  have:=hF.cells
  omega
theorem Agj (m:Ms) (hF:m.fit) (hE:m.evs):XC Tryz.prog 21 [.agg (Ms.c m)] (fun r=>r= .tup [.sl 1 ((Zg m).map iv),dI (slE m)]):=by
 have hsl:=An5 hF
 refine Ak Ade Tryz.func21 R R lb<|zr<|?_
 refine XL.step R (Ap 1 (l:= [.d (dI m.h.site), .d (dI m.h.num), .d (dI m.h.m.count), .d (dI m.h.m.unit), .d (dI m.h.m.g0), .d (dI m.h.m.g1), .d (dI m.h.m.g2), .d (dI m.h.m.g3), .d (dI m.h.m.g4), .d (dI m.h.m.g5), .d (dI m.h.len), .d (dI m.h.fifths), .d (dB m.h.start), .d (dI m.h.fin), .d (dI m.h.ends), .d (dI m.h.jump), .d (dI m.h.labels), .d (dI m.h.swing), .d (dI m.h.brk), .d (.v (.string ⟨m.h.reh.toArray⟩)), .d (.sl 3 (m.tempi.map Tm.c)), .d (.sl 2 (m.cells.map Ce.c))]) R R (by kernel_rfl))<|?_
 refine za R R<|za R R<|znr<|zp (Ae (s':= .d (.agg (Ms.c m))) (Ac (Ad R R Co R lb)) (by kernel_rfl))<|XL.call1 R R (Xu _ (by assumption) (by assumption)) R<|zm R R<|zp (Ao R R R)<|zp (Ao R R R)<|za R R<|za R R<|zn<|zs<|zr<|zm R R<|?_
 refine zp (A5 R R R)<|zn<|?_
 refine zd R (fun c15=> ?_) (fun c15=> ?_)
 refine zr<|zm R R<|za R R<|za R R<|zn<|zt<|?_
 exact Ax R (RV.nil (sz:=1) R R) (RV.tmp R R) (r2i (Aru (by assumption)).symm R)
 refine zi<|zr<|za R R<|zn<|zs<|zr<|zm R R<|XL.len R R R Tryz.underlying42 fun hl18=>zm R R<|zn<|Ah<|Do 7801 6 3 1 R<|?_
 refine A0 (α:=Nat) (fun k=>k≤(slL m).length) (fun k=>mkF [(2, .d (.v (.slice none 0 0))),(3, .d (dI 0)),(6, .own 7801),(17, .d (.sl 5 ((slL m).map Slt.c))),(18, .d (dI (slL m).length)),(19, .d (dI k))]) (fun k=>mkH [(7801, .row 3 1 ((((slL m).take k).map (·.on)).map iv))]) (fun k=>(slL m).length - k) (0) (Nat.zero_le _) ?_ ?_ ?_
 exact fz ⟨sr,sr,sr,sr,sr,sr,trivial⟩
 exact gz ⟨R,trivial⟩
 intro k hk0
 refine zr<|zp (Aq R R R)<|zn<|zs<|?_
 refine zd R (fun c20=> ?_) (fun c20=> ?_)
 have hk0a:k<(slL m).length:=by omega
 obtain ⟨x0,hx0⟩:=Ay hk0a
 refine zi<|zs<|Ah<|zr<|zp (Au R R R Ana hx0)<|zp (Ae (s':= .d (.agg (Slt.c x0))) (Bc R R Ajx lb) (by kernel_rfl))<|XL.step R (Al 8 (l:= [.d (dI 0), .d (dI 0), .d (dI 0), .d (dI 0), .d (dI 0)]) R Ll (by kernel_rfl))<|?_
 refine XL.step R (Af (l':= [.d (dI x0.staff), .d (dI x0.voice), .d (dI x0.ev), .d (dI x0.on), .d (dI x0.off)]) R R R R Afa R lb (by kernel_rfl))<|zng<|zp (As R (by conv=>lhs;whnf))<|?_
 refine zp (Aa R R Alw)<|zp (Ab R R Ai R R)<|XL.step R (Bj 26 R Tryz.underlying45 D6 He R R (by omega) (by omega))<|XL.step R (A4 R P8 (.own R) (Src.own R) (by unfold maxLen;simp;omega) (by simp;omega))<|zp (Ar R (by conv=>lhs;whnf))<|?_
 refine zn<|Ag (by kernel_rfl)<|zp (Am R R R (by omega) (by omega))<|zm R R<|zn<|?_
 exact An (k+1) (by omega) (by omega) (fz ⟨sr,sr,sr,sr,sr,sr,trivial⟩) (gz ⟨I3 (a:=x0.on) R (by rw [Bl hx0,List.map_append];rfl),trivial⟩)
 have hk0b:k=(slL m).length:=by omega
 refine Av<|zr<|zp (As R (by conv=>lhs;whnf))<|?_
 refine XL.step R (An3 (zs:=((slL m).take k).map (·.on)) R R R (by rw [List.length_map,List.length_take];omega))<|znr<|zp (As R (by conv=>lhs;whnf))<|?_
 refine XL.step R (Afb (zs:=srt (((slL m).take k).map (·.on))) R R R (by rw [Adu,List.length_map,List.length_take];omega))<|zp (Ar R (by conv=>lhs;whnf))<|?_
 refine za R R<|zn<|zt<|B6 (i:=7801) R<|?_
 exact Ax R (RV.tmp R R) (RV.tmp R R) (r2i (by rw [hk0b,List.take_length];rfl) (by omega))
end Go.Proofs.YtaafemnkamfgnaaGreat
namespace Go.Proofs.YtaafemnkamfgnaaGreat
open Go.RowKit
inductive C3 where
 |bf|fr|af|fl|ff|mu|st
 deriving DecidableEq
def OpF (P:Program) (n:Nat) (ops:Array Oper) (o:Oper) (f:Fr) (h1:Xh) (s:S):Prop:=
 (Bi ops f n o.guard=some true∧Agv P o (ev f) h1 [] s)∨(Bi ops f n o.guard=some false∧s= .d (.v undef))
structure FOK (P:Program) (n:Nat) (ops:Array Oper) (κ:S→S) (hA hB hC:Xh) (o:Oper) (fA fB:Fr) (c:C3) (sA sB:S):Prop where
 a:(c= .bf∨c= .fr∨c= .ff)→OpF P n ops o fA hA sA∧sB=κ sA
 b:(c= .af∨c= .fr∨c= .fl∨c= .ff)→OpF P n ops o fB hB sB
 l:(c= .fl∨c= .ff)→OpF P n ops o fB hC sB
 m:c= .mu→Bi ops fA n o.guard=some true∧Km P n o fA hA 987654 sB κ hB
 s:c= .st→Bi ops fB n o.guard=some true∧Km P n o fB hB 987654 sB id hC
inductive ChF (P:Program) (n:Nat) (ops:Array Oper) (κ:S→S) (hA hB hC:Xh):List Oper→Fr→Fr→List C3→List S→List S→Fr→Prop where
 |nil (fA fB:Fr):ChF P n ops κ hA hB hC [] fA fB [] [] [] fB
 |step {o:Oper} {rest:List Oper} {fA fB f':Fr} {c:C3} {sA sB:S} {C:List C3} {LA LB:List S} (hok:FOK P n ops κ hA hB hC o fA fB c sA sB) (hr:ChF P n ops κ hA hB hC rest (A7 fA o.dst sA) (A7 fB o.dst sB) C LA LB f'):
   ChF P n ops κ hA hB hC (o::rest) fA fB (c::C) (sA::LA) (sB::LB) f'
def noI (L:List S):List (List Nat × S):=L.map fun s=>([],s)
theorem Qx {L:List S} {k:Nat} {s:S} (h:L[k]? =some s):(noI L)[k]? =some ([],s):=by rw [noI,List.getElem?_map,h];rfl
theorem Aia {L:List S} {k:Nat} {q:List Nat × S} (h:(noI L)[k]? =some q):L[k]? =some q.2∧q.1= []:=by
 rw [noI,List.getElem?_map] at h
 cases hl:L[k]? with
 |none=>rw [hl] at h;cases h
 |some s=>rw [hl] at h;cases h;exact ⟨rfl,rfl⟩
theorem ChF.ok {P:Program} {n:Nat} {ops:Array Oper} {κ:S→S} {hA hB hC:Xh} {l:List Oper} {fA fB f':Fr} {C:List C3} {LA LB:List S} (hc:ChF P n ops κ hA hB hC l fA fB C LA LB f'):
  C.length=l.length∧LA.length=l.length∧LB.length=l.length∧
  (∀k o c sA sB,l[k]? =some o→C[k]? =some c→LA[k]? =some sA→LB[k]? =some sB→FOK P n ops κ hA hB hC o (A3 fA l (noI LA) Dk k) (A3 fB l (noI LB) Dk k) c sA sB)∧A3 fB l (noI LB) Dk l.length=f':=by
 induction hc with
 |nil=>exact ⟨rfl,rfl,rfl,fun k o c qa qb e=>by simp at e,rfl⟩
 | @step o rest fA fB f' c sA sB C LA LB hok hr ih=>
  obtain ⟨i1,i2,i3,i4,i5⟩:=ih
  refine ⟨by simp [i1],by simp [i2],by simp [i3],fun k o' c' qa qb h1 h2 h3 h4=> ?_, ?_⟩
  ·cases k with
   |zero=>simp at h1 h2 h3 h4;subst h1 h2 h3 h4;exact hok
   |succ k=>
    have e1:noI (sA::LA)=([],sA)::noI LA:=rfl
    have e2:noI (sB::LB)=([],sB)::noI LB:=rfl
    rw [e1,e2,Fc,Fc];exact i4 k o' c' qa qb (by simpa using h1) (by simpa using h2) (by simpa using h3) (by simpa using h4)
  ·have e2:noI (sB::LB)=([],sB)::noI LB:=rfl
   rw [e2,List.length_cons,Fc];exact i5
def Agk (ops:Array Oper) (p p2:Nat) (C:List C3):Bool:=
 (List.range C.length).all fun k=>
  match C[k]? with
  |some .bf=>C0 ops 9 p k && C0 ops 9 p2 k
  |some .af=>C0 ops 9 k p && C0 ops 9 p2 k
  |some .fl=>C0 ops 9 k p
  |some .mu=>Nat.beq k p && C0 ops 9 p2 k
  |some .st=>Nat.beq k p2 && C0 ops 9 k p
  |some .fr=>C0 ops 9 p2 k
  |some .ff=>true
  |none=>true
section
variable (P:Program) (n:Nat) (ops:Array Oper) (pre:List Oper) (p p2:Nat) (fA fB:Fr) (hA hB hC:Xh) (LA LB:List S) (E:Env)
def Amq (listed:Array Bool) (a:Act) (w:World):Prop:=
 (listed.size=ops.size∧(∀j o e,ops[j]? =some o→listed.getD j false=true→e∈o.after→Region.binds .any e=true→listed.getD e.on false=true)∧∀k,pre.length≤k→listed.getD k false=false)∧
  ((listed.getD p false = false ∧ listed.getD p2 false = false ∧ ∃ H β, Sim E H β hA w ∧ FV n H β a (A3 fA pre (noI LA) (fun j => listed.getD j false) pre.length)) ∨
   (listed.getD p false=true∧listed.getD p2 false=false∧∃H β,Sim E H β hB w∧FV n H β a (A3 fB pre (noI LB) (fun j=>listed.getD j false) pre.length))∨
   (listed.getD p2 false = true ∧ ∃ H β, Sim E H β hC w ∧ FV n H β a (A3 fB pre (noI LB) (fun j => listed.getD j false) pre.length)))
end
theorem Aiu {P:Program} {n:Nat} {ops:Array Oper} {pre:List Oper} {p p2:Nat} {fA fB:Fr} {hA hB hC:Xh} {LA LB:List S} {E:Env} {Q:Exit→Act→World→Prop} {κ:S→S} {C:List C3}
  (hops:∀j,j<pre.length→ops[j]? =pre[j]?) (hin:pre.all (inN n)=true) (hreg:I4 ops pre=true) (hf:∀t,fB t=κ (fA t)) (hCl:C.length=pre.length) (hAl:LA.length=pre.length) (hBl:LB.length=pre.length)
  (hok:∀k o c sA sB,pre[k]? =some o→C[k]? =some c→LA[k]? =some sA→LB[k]? =some sB→FOK P n ops κ hA hB hC o (A3 fA pre (noI LA) Dk k) (A3 fB pre (noI LB) Dk k) c sA sB)
  (hp:C[p]? =some .mu) (hp2:C[p2]? =some .st) (hcls:Agk ops p p2 C=true) {listed:Array Bool} {a:Act} {w:World} (hI:Amq n ops pre p p2 fA fB hA hB hC LA LB E listed a w) {i:Nat} (hi:i∈Region.ready .any ops listed) (hip0:i<pre.length):
  wpOp P ops Q i (fun a' w'=>Amq n ops pre p p2 fA fB hA hB hC LA LB E (listed.setIfInBounds i true) a' w') a w:=by
 obtain ⟨⟨hsz,hdown,hunp⟩,hcase⟩:=hI
 have hcl:∀k c,C[k]? =some c→match c with|C3.bf=>C0 ops 9 p k=true∧C0 ops 9 p2 k=true|C3.af=>C0 ops 9 k p=true∧C0 ops 9 p2 k=true|C3.fl=>C0 ops 9 k p=true|C3.mu=>k=p∧C0 ops 9 p2 k=true|C3.st=>k=p2∧C0 ops 9 k p=true|C3.ff=>True|C3.fr=>C0 ops 9 p2 k=true:=by
  intro k c hck
  unfold Agk at hcls
  have:=List.all_eq_true.1 hcls k (List.mem_range.2 (List.getElem?_eq_some_iff.1 hck).1)
  rw [hck] at this
  cases c with
  |mu=>simp only [Bool.and_eq_true] at this;exact ⟨Nat.eq_of_beq_eq_true this.1,this.2⟩
  |st=>simp only [Bool.and_eq_true] at this;exact ⟨Nat.eq_of_beq_eq_true this.1,this.2⟩
  |fr=>exact this
  |ff=>trivial
  |fl=>exact this
  |bf=>simpa [Bool.and_eq_true] using this
  |af=>simpa [Bool.and_eq_true] using this
 obtain ⟨hil,hunl,o,ho,hdeps⟩:=E5 hi
 have hil':i<pre.length:=hip0
 have hol:pre[i]? =some o:=by rw [←hops i hip0];exact ho
 obtain ⟨sA,hLA⟩:∃q,LA[i]? =some q:=⟨_,List.getElem?_eq_getElem (by omega)⟩
 obtain ⟨sB,hLB⟩:∃q,LB[i]? =some q:=⟨_,List.getElem?_eq_getElem (by omega)⟩
 obtain ⟨c,hC'⟩:∃q,C[i]? =some q:=⟨_,List.getElem?_eq_getElem (by omega)⟩
 have hunl':listed.getD i false=false:=by rw [←Gx true (by omega)];exact hunl
 have hdown':∀j o e,ops[j]? =some o→(fun j=>listed.getD j false) j=true→e∈o.after→Region.binds .any e=true→(fun j=>listed.getD j false) e.on=true:=fun j o e h1 h2 h3 h4=>hdown j o e (by simpa using h1) h2 h3 h4
 have hwl:∀d j,C0 ops (d+1) i j=true→listed.getD j false=true:=by
  intro d j hw
  unfold C0 at hw
  rw [ho] at hw
  simp only [List.any_eq_true,Bool.and_eq_true,Bool.or_eq_true] at hw
  obtain ⟨e,he,hb,h2⟩:=hw
  have hl:=hdeps e (by simpa using he) hb
  rcases h2 with h2|h2
  ·rw [←Nat.eq_of_beq_eq_true h2];exact hl
  ·exact Cr hdown' d e.on j h2 hl
 have hlo:∀t,t∈B2 ops o→∀j o',j<i→pre[j]? =some o'→o'.dst=some t→listed.getD j false=true:=by
  intro t ht j o' hj hj' hd
  exact hwl 2 j (Gw hreg hj hj' hol (by unfold Kk;rw [hd];simp [G9 ht]))
 have hhi:∀t,t∈B2 ops o→∀j o',i<j→pre[j]? =some o'→o'.dst=some t→listed.getD j false=false:=by
  intro t ht j o' hj hj' hd
  cases hlj:listed.getD j false with
  |false=>rfl
  |true=>
   have hw:=Gw hreg hj hol hj' (by unfold Kk;rw [hd];simp [G9 ht])
   have:=Cr hdown' 3 j i hw hlj
   rw [hunl'] at this;cases this
 have hcur:∀(f0:Fr) (L:List (List Nat × S)) t,t∈B2 ops o→A3 f0 pre L (fun j=>listed.getD j false) pre.length t=A3 f0 pre L Dk i t:=by
  intro f0 L t ht
  have h1:∀j o',i≤j→pre[j]? =some o'→o'.dst=some t→(fun j=>listed.getD j false) j=false:=by
   intro j o' hj hj' hd
   by_cases e:j=i
   ·subst e;exact hunl'
   ·exact hhi t ht j o' (by omega) hj' hd
  rw [Ga h1 pre.length (by omega),Kx (hlo t ht) i (Nat.le_refl _)]
 have hin':inN n o=true:=List.all_eq_true.1 hin o (List.mem_of_getElem? hol)
 have hoin:=hin'
 unfold inN at hoin
 rw [Bool.and_eq_true] at hoin
 have hopn:∀t,Operand.tmp t∈o.op.operands→t∈B2 ops o:=by
  intro t hx
  unfold B2 Oper.looksAt
  simp only [List.mem_append,List.mem_filterMap]
  exact .inr (.inl ⟨.tmp t,by simpa using hx,rfl⟩)
 have hev:∀(f0:Fr) (L:List (List Nat × S)),∀x∈o.op.operands,ev (A3 f0 pre L (fun j=>listed.getD j false) pre.length) x=ev (A3 f0 pre L Dk i) x:=by
  intro f0 L x hx
  cases x with
  |tmp t=>simp only [ev];exact hcur f0 L t (hopn t hx)
  |_=>rfl
 have hop:∀(f0:Fr) (L:List (List Nat × S)) (H:Hp) (β:Bt),FV n H β a (A3 f0 pre L (fun j=>listed.getD j false) pre.length)→∀x∈o.op.operands,VS H β (a.eval x) (ev (A3 f0 pre L Dk i) x):=by
  intro f0 L H β hfv x hx
  rw [←hev f0 L x hx]
  exact hfv.operands hin' x hx
 have hguard:∀(f0:Fr) (L:List (List Nat × S)) (H:Hp) (β:Bt),FV n H β a (A3 f0 pre L (fun j=>listed.getD j false) pre.length)→∀b,Bi ops (A3 f0 pre L Dk i) n o.guard=some b→Region.wanted o (yielded ops a.tmps)=b:=by
  intro f0 L H β hfv b hb
  refine Gz hfv ?_
  rw [←hb]
  unfold Bi
  cases hg:o.guard with
  |none=>rfl
  |some g=>
   obtain ⟨j,want⟩:=g
   simp only
   cases ht:(ops[j]?).bind (·.dst) with
   |none=>rfl
   |some t=>
    simp only
    have htn:t∈B2 ops o:=by
     unfold B2 Oper.looksAt
     rw [hg]
     simp only [List.mem_append]
     exact .inr (.inr (by rw [ht];simp))
    rw [hcur f0 L t htn]
 have hlisted':∀j,(listed.setIfInBounds i true).getD j false=if j=i then true else listed.getD j false:=by
  intro j
  by_cases e:j=i
  ·subst e
   simp [Array.getD_eq_getD_getElem?,show j<listed.size by omega]
  ·rw [if_neg e]
   simp [Array.getD_eq_getD_getElem?,Array.getElem?_setIfInBounds_ne (fun h=>e h.symm)]
 have hdown2:∀j o' e,ops[j]? =some o'→(listed.setIfInBounds i true).getD j false=true→e∈o'.after→Region.binds .any e=true→(listed.setIfInBounds i true).getD e.on false=true:=by
  intro j o' e hj hl he hb
  rw [hlisted'] at hl ⊢
  split
  ·rfl
  ·by_cases ej:j=i
   ·subst ej
    rw [ho] at hj;cases hj
    exact hdeps e he hb
   ·rw [if_neg ej] at hl
    exact hdown j o' e hj hl he hb
 have hslot:∀(f0:Fr) (L:List (List Nat × S)) (q:List Nat × S) (H':Hp) (β':Bt) (u:Value),L[i]? =some q→FV n H' β' a (A3 f0 pre L (fun j=>listed.getD j false) pre.length)→VS H' β' u q.2→FV n H' β' (a.put o.dst u) (A3 f0 pre L (fun j=>(listed.setIfInBounds i true).getD j false) pre.length):=by
  intro f0 L q H' β' u hLi hfv' hu
  have hp:=hfv'.put hu o.dst hoin.2
  refine ⟨hp.defers,hp.size,fun t ht=> ?_⟩
  have h1:=hp.slot t ht
  have hsame:∀j,j≠i→(fun j=>(listed.setIfInBounds i true).getD j false) j=(fun j=>listed.getD j false) j:=fun j hj=>by simp only;rw [hlisted',if_neg hj]
  by_cases hd:o.dst=some t
  ·have ht':t∈B2 ops o:=by unfold B2;simp [hd]
   have e1:A3 f0 pre L (fun j=>(listed.setIfInBounds i true).getD j false) pre.length t=A3 f0 pre L (fun j=>(listed.setIfInBounds i true).getD j false) (i+1) t:=by
    refine Ga (fun j o' hj hj' hd'=> ?_) pre.length (by omega)
    show (listed.setIfInBounds i true).getD j false=false
    rw [hlisted',if_neg (by omega)]
    exact hhi t ht' j o' (by omega) hj' hd'
   have e2:A3 f0 pre L (fun j=>(listed.setIfInBounds i true).getD j false) (i+1) t=q.2:=by
    unfold A3
    rw [hol,hLi]
    have hb:(listed.setIfInBounds i true).getD i false=true:=by rw [hlisted',if_pos rfl]
    simp only [hb,cond_true,A7,hd,Di,Bf]
   have e3:A7 (A3 f0 pre L (fun j=>listed.getD j false) pre.length) o.dst q.2 t=q.2:=by rw [hd];simp only [A7,Di,Bf,cond_true]
   rw [e1,e2]
   rw [e3] at h1
   exact h1
  ·have e1:=J2 (f:=f0) (L:=L) (lst:=fun j=>listed.getD j false) (t:=t) hsame (fun o' h=>by rw [hol] at h;cases h;exact hd) pre.length
   have e3:A7 (A3 f0 pre L (fun j=>listed.getD j false) pre.length) o.dst q.2 t=A3 f0 pre L (fun j=>listed.getD j false) pre.length t:=by
    cases hdd:o.dst with
    |none=>rfl
    |some t'=>
     have:t'≠t:=fun e=>hd (by rw [hdd,e])
     simp only [A7,Di,Bh this,cond_false]
   rw [e1]
   rw [e3] at h1
   exact h1
 have hsz':(listed.setIfInBounds i true).size=ops.size:=by simpa using hsz
 have hunp2:∀k,pre.length≤k→(listed.setIfInBounds i true).getD k false=false:=fun k hk=>by rw [hlisted',if_neg (by omega)];exact hunp k hk
 have fok:=hok i o c _ _ hol hC' hLA hLB
 have hcls1:=hcl i c hC'
 have hpp2:p≠p2:=fun e=>by rw [e,hp2] at hp;cases hp
 have hbase:(listed.setIfInBounds i true).size=ops.size∧(∀j o e,ops[j]? =some o→(listed.setIfInBounds i true).getD j false=true→e∈o.after→Region.binds .any e=true→(listed.setIfInBounds i true).getD e.on false=true)∧∀k,pre.length≤k→(listed.setIfInBounds i true).getD k false=false:=⟨hsz',hdown2,hunp2⟩
 have keep:∀j,j≠i→(listed.setIfInBounds i true).getD j false=listed.getD j false:=fun j hj=>by rw [hlisted',if_neg hj]
 have hgB:(noI LB)[i]? =some ([],sB):=Qx hLB
 have hgA:(noI LA)[i]? =some ([],sA):=Qx hLA
 unfold wpOp
 rw [ho]
 simp only
 have cas:∀(f0:Fr) (L:List S) (s:S) (hX:Xh) (H:Hp) (β:Bt),L[i]? =some s→OpF P n ops o (A3 f0 pre (noI L) Dk i) hX s→Sim E H β hX w→FV n H β a (A3 f0 pre (noI L) (fun j=>listed.getD j false) pre.length)→
   ∀K:Act→World→Prop,(∀a' w',(∃H' β',Sim E H' β' hX w'∧FV n H' β' a' (A3 f0 pre (noI L) (fun j=>(listed.setIfInBounds i true).getD j false) pre.length))→K a' w')→
   ((Region.wanted o (yielded ops a.tmps)=true∧o.wp P a w K NoQ)∨(Region.wanted o (yielded ops a.tmps)=false∧K (a.put o.dst undef) w)):=by
  intro f0 L s hX H β hL hop' hsim hfv K hK
  rcases hop' with ⟨hw,hcalm⟩|⟨hw,hs0⟩
  ·refine .inl ⟨hguard f0 (noI L) H β hfv _ hw,Dn (hcalm E H β a w hsim (fun _ e=>by cases e) (hop f0 (noI L) H β hfv)) ?_⟩
   rintro a' w' ⟨H',β',u,rfl,k1,k2,k3,_,k5⟩
   exact hK _ _ ⟨H',β',k1,hslot f0 (noI L) ([],s) H' β' u (Qx hL) (hfv.mono k2 k3) k5⟩
  ·exact .inr ⟨hguard f0 (noI L) H β hfv _ hw,hK _ _ ⟨H,β,hsim,hslot f0 (noI L) ([],s) H β undef (Qx hL) hfv (by rw [hs0];exact .d (.v _))⟩⟩
 have fin:∀K:Act→World→Prop,(Region.wanted o (yielded ops a.tmps)=true∧o.wp P a w K NoQ)∨(Region.wanted o (yielded ops a.tmps)=false∧K (a.put o.dst undef) w)→
   if Region.wanted o (yielded ops a.tmps)=true then o.wp P a w K Q∨(o.asks P a w∧LetsOut Q) else K (a.put o.dst undef) w:=by
  intro K h
  rcases h with ⟨h1,h2⟩|⟨h1,h2⟩
  ·rw [if_pos h1];exact .inl (Dn h2 fun _ _ h=>h)
  ·rw [if_neg (by rw [h1];decide)];exact h2
 rcases hcase with ⟨hpn,hpn2,H,β,hsim,hfv⟩|⟨hpy,hpn2,H,β,hsim,hfv⟩|⟨hpy2,H,β,hsim,hfv⟩
 ·by_cases hip:i=p
  ·subst hip
   have:c= .mu:=by rw [hC'] at hp;cases hp;rfl
   subst this
   obtain ⟨k1,k2⟩:=fok.m rfl
   refine fin _ (.inl ⟨hguard fA (noI LA) H β hfv _ k1,Dn (k2 _ (hev fA (noI LA)) E H β a w hsim hfv (hfv.operands hin')) ?_⟩)
   rintro a' w' ⟨H',β',u,rfl,q1,q2,_,q3⟩
   refine ⟨hbase, .inr (.inl ⟨by rw [hlisted',if_pos rfl],by rw [keep p2 (fun e=>hpp2 e.symm)];exact hpn2,H',β',q1,hslot fB (noI LB) ([],sB) H' β' u hgB ⟨q2.defers,q2.size,fun t ht=> ?_⟩ q3⟩)⟩
   have hrel := S2 (κ := κ) (l := pre) (LA := noI LA) (LB := noI LB) (lst := fun j => listed.getD j false) (fA := fA) (fB := fB) hf (by rw [noI, noI, List.length_map, List.length_map]; omega) (fun k qa' qb' ha hb hlk => by
    obtain ⟨ha1,_⟩:=Aia ha
    obtain ⟨hb1,_⟩:=Aia hb
    have hkl:k<pre.length:=by rw [←hAl];exact (List.getElem?_eq_some_iff.1 ha1).1
    obtain ⟨c',hC2⟩:∃q,C[k]? =some q:=⟨_,List.getElem?_eq_getElem (by omega)⟩
    have hokk:=hok k _ c' _ _ (List.getElem?_eq_getElem hkl) hC2 ha1 hb1
    have hck:=hcl k c' hC2
    cases c' with
    |bf=>exact (hokk.a (.inl rfl)).2
    |fr=>exact (hokk.a (.inr (.inl rfl))).2
    |ff=>exact (hokk.a (.inr (.inr rfl))).2
    |mu=>
     have:k=i:=hck.1
     subst this
     rw [hunl'] at hlk;cases hlk
    |af=>
     have:=Cr hdown' 9 k i hck.1 hlk
     rw [hunl'] at this;cases this
    |fl=>
     have:=Cr hdown' 9 k i hck hlk
     rw [hunl'] at this;cases this
    |st=>
     have:=Cr hdown' 9 k i hck.2 hlk
     rw [hunl'] at this; cases this) pre.length t
   rw [hrel]
   exact q2.slot t ht
  ·have hnw:C0 ops 9 i p=true→False:=fun h=>by
    have:=hwl 8 p h
    rw [hpn] at this;cases this
   have hcase2:c= .bf∨c= .fr∨c= .ff:=by
    cases c with
    |bf=>exact .inl rfl
    |fr=>exact .inr (.inl rfl)
    |ff=>exact .inr (.inr rfl)
    |mu=>exact absurd hcls1.1 hip
    |af=>exact (hnw hcls1.1).elim
    |fl=>exact (hnw hcls1).elim
    |st=>exact (hnw hcls1.2).elim
   have hip2:i≠p2:=fun e=>by subst e;rw [hC'] at hp2;cases hp2;rcases hcase2 with h|h|h<;>cases h
   exact fin _ (cas fA LA sA hA H β hLA (fok.a hcase2).1 hsim hfv _ fun a' w' ⟨H',β',k1,k2⟩=>⟨hbase, .inl ⟨by rw [keep p (fun e=>hip e.symm)];exact hpn,by rw [keep p2 (fun e=>hip2 e.symm)];exact hpn2,H',β',k1,k2⟩⟩)
 ·have hip:i≠p:=fun e=>by subst e;rw [hunl'] at hpy;cases hpy
  by_cases hip2:i=p2
  ·subst hip2
   have:c= .st:=by rw [hC'] at hp2;cases hp2;rfl
   subst this
   obtain ⟨k1,k2⟩:=fok.s rfl
   refine fin _ (.inl ⟨hguard fB (noI LB) H β hfv _ k1,Dn (k2 _ (hev fB (noI LB)) E H β a w hsim hfv (hfv.operands hin')) ?_⟩)
   rintro a' w' ⟨H',β',u,rfl,q1,q2,_,q3⟩
   exact ⟨hbase, .inr (.inr ⟨by rw [hlisted',if_pos rfl],H',β',q1,hslot fB (noI LB) ([],sB) H' β' u hgB q2 q3⟩)⟩
  ·have hcase2:c= .af∨c= .fr∨c= .fl∨c= .ff:=by
    cases c with
    |af=>exact .inl rfl
    |fr=>exact .inr (.inl rfl)
    |fl=>exact .inr (.inr (.inl rfl))
    |ff=>exact .inr (.inr (.inr rfl))
    |mu=>exact absurd hcls1.1 hip
    |st=>exact absurd hcls1.1 hip2
    |bf=>
     have:=Cr hdown' 9 p i hcls1.1 hpy
     rw [hunl'] at this;cases this
   exact fin _ (cas fB LB sB hB H β hLB (fok.b hcase2) hsim hfv _ fun a' w' ⟨H',β',k1,k2⟩=>⟨hbase, .inr (.inl ⟨by rw [keep p (fun e=>hip e.symm)];exact hpy,by rw [keep p2 (fun e=>hip2 e.symm)];exact hpn2,H',β',k1,k2⟩)⟩)
 ·have hip2:i≠p2:=fun e=>by subst e;rw [hunl'] at hpy2;cases hpy2
  have hnw:C0 ops 9 p2 i=true→False:=fun h=>by
   have:=Cr hdown' 9 p2 i h hpy2
   rw [hunl'] at this;cases this
  have hcase2:c= .fl∨c= .ff:=by
   cases c with
   |fl=>exact .inl rfl
   |ff=>exact .inr rfl
   |af=>exact (hnw hcls1.2).elim
   |fr=>exact (hnw hcls1).elim
   |mu=>exact (hnw hcls1.2).elim
   |st=>exact absurd hcls1.1 hip2
   |bf=>exact (hnw hcls1.2).elim
  exact fin _ (cas fB LB sB hC H β hLB (fok.l hcase2) hsim hfv _ fun a' w' ⟨H',β',k1,k2⟩=>⟨hbase, .inr (.inr ⟨by rw [keep p2 (fun e=>hip2 e.symm)];exact hpy2,H',β',k1,k2⟩)⟩)
theorem Ajn {f0:Fr} {l:List Oper} {L:List (List Nat × S)} {m:Nat}:∀k,A3 f0 l L (fun j=>(Array.replicate m false).getD j false) k=f0:=by
 intro k
 induction k with
 |zero=>rfl
 |succ k ih=>
  unfold A3
  cases l[k]? with
  |none=>exact ih
  |some o=>
   cases L[k]? with
   |none=>exact ih
   |some q=>
    have hz:(Array.replicate m false).getD k false=false:=by rw [Array.getD_eq_getD_getElem?,Array.getElem?_replicate];split<;>rfl
    simp only
    rw [hz,cond_false]
    exact ih
theorem Anj {P:Program} {n id:Nat} {pre suf:List Oper} {ops:Array Oper} {K:Cq} {f f':Fr} {h hB hC:Xh} {κ:S→S} {C:List C3} {LA LB:List S} (p p2:Nat) (hopsE:ops=(pre++suf).toArray) (hne:0<suf.length) (hm:P.follows .mixedOrders=true) (hin:pre.all (inN n)=true) (hin2:suf.all (inN n)=true)
  (hreg:I4 ops pre=true) (hS:N7 ops pre.length=true) (hc:ChF P n ops κ h hB hC pre f (fun t=>κ (f t)) C LA LB f') (hp:C[p]? =some .mu) (hp2:C[p2]? =some .st) (hcls:Agk ops p p2 C=true) (hk:XL P n ops suf K f' hC):XW P n (.region id ops true) K f h:=by
 have hops:∀j,j<pre.length→ops[j]? =pre[j]? :=fun j hj=>by rw [hopsE];simp [List.getElem?_append_left hj]
 have hops2:∀j,suf[j]? =ops[pre.length+j]? :=fun j=>by rw [hopsE,List.getElem?_toArray,List.getElem?_append_right (by omega),Nat.add_sub_cancel_left]
 have hsize:ops.size=pre.length+suf.length:=by rw [hopsE];simp
 intro E H β a w hs hf
 obtain ⟨k1,k2,k3,k8,k10⟩:=hc.ok
 have hpl2:p2<pre.length:=by rw [←k1];exact (List.getElem?_eq_some_iff.1 hp2).1
 have hz:∀k,(Array.replicate ops.size false).getD k false=false:=fun k=>by
  rw [Array.getD_eq_getD_getElem?,Array.getElem?_replicate];split<;>rfl
 refine Ky (I:=Amq n ops pre p p2 f (fun t=>κ (f t)) h hB hC LA LB E) pre.length suf hm hops2 hsize hne hS ⟨⟨by simp,fun j o e _ hj=>(by rw [hz] at hj;cases hj),fun k _=>hz k⟩, .inl ⟨hz p,hz p2,H,β,hs.drew,by rw [Ajn];exact hf⟩⟩ (fun _ _ _ hI=>hI.1) ?_ ?_
 ·intro listed a w hI i hi hip
  exact Aiu hops hin hreg (fun _=>rfl) k1 k2 k3 k8 hp hp2 hcls hI hi hip
 ·rintro listed a w ⟨_,hcase⟩ hall
  rcases hcase with ⟨_,hpn,_⟩|⟨_,hpn,_⟩|⟨_,H,β,hsim,hfv⟩
  ·rw [hall p2 hpl2] at hpn;cases hpn
  ·rw [hall p2 hpl2] at hpn;cases hpn
  ·refine hk hin2 E H β a w hsim ?_
   rw [S3 hall pre.length (Nat.le_refl _),k10] at hfv
   exact hfv
def ChFK (P:Program) (n:Nat) (ops:Array Oper) (κ:S→S) (hA hB hC:Xh) (rest:List Oper) (fA fB:Fr) (acc:List C3) (G:List C3→Fr→Prop):Prop:=∃C LA LB f',ChF P n ops κ hA hB hC rest fA fB C LA LB f'∧G (acc++C) f'
section
variable {P:Program} {n:Nat} {ops:Array Oper} {κ:S→S} {hA hB hC:Xh} {rest:List Oper} {fA fB:Fr} {o:Oper} {s s':S} {acc:List C3} {G:List C3→Fr→Prop}
theorem ChFK.nil (hg:G acc fB):ChFK P n ops κ hA hB hC [] fA fB acc G:=⟨[], [], [],fB, .nil _ _,by simpa using hg⟩
theorem ChFK.step {c:C3} (hok:FOK P n ops κ hA hB hC o fA fB c s s') (hr:ChFK P n ops κ hA hB hC rest (A7 fA o.dst s) (A7 fB o.dst s') (acc++ [c]) G):ChFK P n ops κ hA hB hC (o::rest) fA fB acc G:=by
 obtain ⟨C,LA,LB,f',k1,k2⟩:=hr
 refine ⟨_,_,_,f', .step hok k1, ?_⟩
 rw [List.append_assoc] at k2
 exact k2
theorem Jr {f:Fr} {h:Xh} (hw:Bi ops f n o.guard=some true) (hc:CStep P o f h [] s h):OpF P n ops o f h s:= .inl ⟨hw,by obtain ⟨_,_,k⟩:=hc;exact k h (HLe.refl _)⟩
theorem ChFK.ff (hw:Bi ops fA n o.guard=some true) (hw':Bi ops fB n o.guard=some true) (hc:CStep P o fA hA [] s hA) (hc':CStep P o fB hB [] s' hB) (hc2:CStep P o fB hC [] s' hC) (hk:κ s=s') (hr:ChFK P n ops κ hA hB hC rest (A7 fA o.dst s) (A7 fB o.dst s') (acc++ [.ff]) G):ChFK P n ops κ hA hB hC (o::rest) fA fB acc G:=
 .step ⟨fun _=>⟨Jr hw hc,hk.symm⟩,fun _=>Jr hw' hc',fun _=>Jr hw' hc2,fun e=>absurd e (by decide),fun e=>absurd e (by decide)⟩ hr
theorem ChFK.mus (hw:Bi ops fA n o.guard=some true) (hκ:κ=fun s=>s) (hc:∀f',(∀x∈o.op.operands,ev f' x=ev fA x)→Step P n o f' hA s' f' hB) (hr:ChFK P n ops κ hA hB hC rest (A7 fA o.dst .any) (A7 fB o.dst s') (acc++ [.mu]) G):ChFK P n ops κ hA hB hC (o::rest) fA fB acc G:=
 .step ⟨fun e => absurd e (by decide), fun e => absurd e (by decide), fun e => absurd e (by decide), fun _ => ⟨hw, fun f' he E H β a w hs hf hop => Dn (hc f' he E H β a w hs hf hop) (by
  rintro a' w' ⟨H',β',u,e,k1,k2,k3⟩
  subst hκ
  exact ⟨H', β', u, e, k1, k2, .inl rfl, k3⟩)⟩, fun e => absurd e (by decide)⟩ hr
theorem ChFK.bf (hw:Bi ops fA n o.guard=some true) (hc:CStep P o fA hA [] s hA) (hk:κ s=s') (hr:ChFK P n ops κ hA hB hC rest (A7 fA o.dst s) (A7 fB o.dst s') (acc++ [.bf]) G):ChFK P n ops κ hA hB hC (o::rest) fA fB acc G:=
 .step ⟨fun _=>⟨Jr hw hc,hk.symm⟩,fun e=>absurd e (by decide),fun e=>absurd e (by decide),fun e=>absurd e (by decide),fun e=>absurd e (by decide)⟩ hr
theorem ChFK.fr (hw:Bi ops fA n o.guard=some true) (hw':Bi ops fB n o.guard=some true) (hc:CStep P o fA hA [] s hA) (hc':CStep P o fB hB [] s' hB) (hk:κ s=s') (hr:ChFK P n ops κ hA hB hC rest (A7 fA o.dst s) (A7 fB o.dst s') (acc++ [.fr]) G):ChFK P n ops κ hA hB hC (o::rest) fA fB acc G:=
 .step ⟨fun _=>⟨Jr hw hc,hk.symm⟩,fun _=>Jr hw' hc',fun e=>absurd e (by decide),fun e=>absurd e (by decide),fun e=>absurd e (by decide)⟩ hr
theorem ChFK.af (hw':Bi ops fB n o.guard=some true) (hc':CStep P o fB hB [] s' hB) (hr:ChFK P n ops κ hA hB hC rest (A7 fA o.dst .any) (A7 fB o.dst s') (acc++ [.af]) G):ChFK P n ops κ hA hB hC (o::rest) fA fB acc G:=
 .step ⟨fun e=>absurd e (by decide),fun _=>Jr hw' hc',fun e=>absurd e (by decide),fun e=>absurd e (by decide),fun e=>absurd e (by decide)⟩ hr
theorem ChFK.fl (hw':Bi ops fB n o.guard=some true) (hc':CStep P o fB hB [] s' hB) (hc2:CStep P o fB hC [] s' hC) (hr:ChFK P n ops κ hA hB hC rest (A7 fA o.dst .any) (A7 fB o.dst s') (acc++ [.fl]) G):ChFK P n ops κ hA hB hC (o::rest) fA fB acc G:=
 .step ⟨fun e=>absurd e (by decide),fun _=>Jr hw' hc',fun _=>Jr hw' hc2,fun e=>absurd e (by decide),fun e=>absurd e (by decide)⟩ hr
theorem ChFK.mu (hw:Bi ops fA n o.guard=some true) (hc:∀hF,HLe hA hF→Km P n o fA hF 987654 s' κ (hF.by (fun k _=>hB k))) (hr:ChFK P n ops κ hA hB hC rest (A7 fA o.dst .any) (A7 fB o.dst s') (acc++ [.mu]) G):ChFK P n ops κ hA hB hC (o::rest) fA fB acc G:=
 .step ⟨fun e=>absurd e (by decide),fun e=>absurd e (by decide),fun e=>absurd e (by decide),fun _=>⟨hw,hc hA (HLe.refl _)⟩,fun e=>absurd e (by decide)⟩ hr
theorem ChFK.st (hw:Bi ops fB n o.guard=some true) (hc:∀f',(∀x∈o.op.operands,ev f' x=ev fB x)→Step P n o f' hB s' f' hC) (hr:ChFK P n ops κ hA hB hC rest (A7 fA o.dst .any) (A7 fB o.dst s') (acc++ [.st]) G):ChFK P n ops κ hA hB hC (o::rest) fA fB acc G:=
 .step ⟨fun e => absurd e (by decide), fun e => absurd e (by decide), fun e => absurd e (by decide), fun e => absurd e (by decide), fun _ => ⟨hw, fun f' he E H β a w hs hf hop => Dn (hc f' he E H β a w hs hf hop) (by
  rintro a' w' ⟨H',β',u,e,k1,k2,k3⟩
  exact ⟨H', β', u, e, k1, k2, .inl rfl, k3⟩)⟩⟩ hr
end
theorem Y5 {P:Program} {n:Nat} {o:Oper} {f:Fr} {h hC:Xh} {t m:Nat} {x y:Operand} {i off:Nat} {l cs l':List S} (ho:o.op= .store t x y) (hx:ev f x= .ptr i 0 off) (hi:h i=some (.box l)) (hc:Dl h (ev f y)=some cs) (hz:sizeB P t m=true) (hm:cs.length=m) (hoff:off+m≤l.length) (hl:sets l off cs=l') (hh:HSub (h.set i (.box l')) hC):
  ∀f',(∀x∈o.op.operands,ev f' x=ev f x)→Step P n o f' h (.d (.v undef)) f' hC:=fun f' he E H β a w hs hf hop=>by
 have e1:=he x (by rw [ho];simp [Op.operands])
 have e2:=he y (by rw [ho];simp [Op.operands])
 refine Dn (Af (n:=n) (f:=f') ho (by rw [e1];exact hx) hi (by rw [e2];exact hc) hz hm hoff hl E H β a w hs hf hop) ?_
 rintro a' w' ⟨H',β',u,e,k1,k2,k3⟩
 exact ⟨H',β',u,e,k1.drop hh,k2,k3⟩
theorem Y4 {P:Program} {n:Nat} {o:Oper} {f:Fr} {h hC:Xh} {t m:Nat} {x y:Operand} {i k off:Nat} {ty:TypeId} {sz:Nat} {ls:List Nat} (ls':List Nat) {l l':List (List T)} {z:List T} {cs:List S} (ho:o.op= .store t x y) (hx:ev f x= .ptr i k off) (hi:h i=some (.tree ty sz ls l)) (hk:l[k]? =some z) (hc:Dl h (ev f y)=some cs)
  (hz:sizeB P t m=true) (hm:cs.length=m) (hoff:off+m≤z.length) (hsub:ls.all (fun j=>Bv j ls')=true) (hcs:cs.all (fun d=>d.toT.inn ls')=true) (hl':l.set k (sets z off (cs.map S.toT))=l') (hh:HSub (h.set i (.tree ty sz ls' l')) hC):
  ∀f',(∀x∈o.op.operands,ev f' x=ev f x)→Step P n o f' h (.d (.v undef)) f' hC:=fun f' he E H β a w hs hf hop=>by
 have e1:=he x (by rw [ho];simp [Op.operands])
 have e2:=he y (by rw [ho];simp [Op.operands])
 refine Dn (Kz (n:=n) (f:=f') ls' ho (by rw [e1];exact hx) hi hk (by rw [e2];exact hc) hz hm hoff hsub hcs hl' E H β a w hs hf hop) ?_
 rintro a' w' ⟨H',β',u,e,k1,k2,k3⟩
 exact ⟨H',β',u,e,k1.drop hh,k2,k3⟩
theorem Adl {P:Program} {n id:Nat} {l:List Oper} {K:Cq} {f:Fr} {h:Xh} (p p2 q:Nat) (κ:S→S) (hB hC:Xh) (hm:P.follows .mixedOrders=true) (hin:l.all (inN n)=true) (hreg:I4 l.toArray (l.take q)=true) (hS:(Nat.blt q l.length && N7 l.toArray q)=true)
  (hc:ChFK P n l.toArray κ h hB hC (l.take q) f (fun t=>κ (f t)) [] (fun C f'=>(C[p]? =some .mu∧C[p2]? =some .st∧Agk l.toArray p p2 C=true)∧XL P n l.toArray (l.drop q) K f' hC)):XW P n (.region id l.toArray true) K f h:=by
 obtain ⟨C,LA,LB,f',k1,⟨k2,k3,k4⟩,k5⟩:=hc
 rw [Bool.and_eq_true] at hS
 have hp:=Es hS.1
 rw [←List.take_append_drop q l,List.all_append,Bool.and_eq_true] at hin
 exact Anj p p2 (by rw [List.take_append_drop]) (by rw [List.length_drop];omega) hm hin.1 hin.2 hreg (by rw [List.length_take,Nat.min_eq_left (by omega)];exact hS.2) k1 k2 k3 k4 k5
end Go.Proofs.YtaafemnkamfgnaaGreat
namespace Go.Proofs.YtaafemnkamfgnaaGreat
open Go.RowKit
theorem Kq {P:Program} {o:Oper} {e:Operand→S} {h:Xh} {t sz n:Nat} {x y:Operand} {α:Type} {l:List α} {g:α→List D} (ho:o.op= .slice t x none (some y) none) (hx:e x= .d (.sl sz (l.map g))) (hy:e y= .d (.v (.int .i64 (min (l.length:Int) (n:Int))))) (hf:elB P t sz=true):Bb P o e h (.d (.sl sz ((l.take n).map g))):=by
 have q:=Iw (h:=h) (a:=0) (b:=min l.length n) ho hx hf .no (Bd.ati hy (by omega)) (Nat.zero_le _) (Nat.min_le_left _ _)
 refine Ae q ?_
 rw [List.drop_zero,Nat.min_comm, ←List.take_take,List.take_length]
theorem Ut {P:Program} {o:Oper} {e:Operand→S} {h:Xh} {t n:Nat} {x y:Operand} {l:List UInt8} (ho:o.op= .slice t x none (some y) none) (hx:e x= .d (.v (.string ⟨l.toArray⟩))) (hy:e y= .d (.v (.int .i64 (min (l.length:Int) (n:Int))))) (hu:P.underlying t=some .string):Bb P o e h (.d (.v (.string ⟨(l.take n).toArray⟩))):=fun E H β ρ w _ hop=>by
 have g:=hop x (by rw [ho];simp [Op.operands])
 have g2:=hop y (by rw [ho];simp [Op.operands])
 rw [hx] at g
 rw [hy] at g2
 refine ⟨_, ?_, .d (.v (.string ⟨(l.take n).toArray⟩))⟩
 have hm:(min (l.length:Int) (n:Int))=((min l.length n:Nat):Int):=by omega
 have hsz:(ByteArray.mk l.toArray).size=l.length:=by simp [ByteArray.size]
 have hlt:(0:Int)≤((min l.length n:Nat):Int)∧((min l.length n:Nat):Int)≤(l.length:Int):=⟨by omega,by omega⟩
 have hex:(ByteArray.mk l.toArray).extract 0 (min l.length n)=⟨(l.take n).toArray⟩:=by
  apply ByteArray.ext
  rw [ByteArray.data_extract]
  simp [List.take_take]
  omega
 unfold execOp
 simp only [ho,Da g,Da g2,hm,Instr.sliceAt,Option.map_none,Option.map_some,Sem.run_bind,run_underlying hu,Result.andThen_ok,Instr.slice,Instr.sliceBounds,Instr.sliceBound,hsz,Sem.run_pure,Option.isSome_none,Bool.false_eq_true,if_false,asInt,asIntOf,hlt,and_self,if_true,Int.toNat_natCast,hex]
theorem Sim.subcut {E:Env} {H:Hp} {β:Bt} {h:Xh} {w:World} (s:Sim E H β h w) {i b k m:Nat} {ty:TypeId} {sz:Nat} {r:List (List D)} {l:List S} (hb:h b=some (.box l)) (hk:l[k]? =some (.sub i 0 m)) (hi:h i=some (.row ty sz r)) (hib:i≠b):
  ∃β',Sim E H β' (((h.kill i).set i (.row ty sz (r.take m))).set b (.box ((S.killL i l).set k (.own i)))) w∧∀{n:Nat} {a:Act} {f:Fr},FV n H β a f→FV n H β' a (Dw f i):=by
 have keep:∀Lo,((h.kill i).set i (.row ty sz (r.take m))) b=some (.box (S.killL i l))∧(β.set i Lo) b=β b:=fun Lo=>⟨by rw [Xh.set_ne _ _ hib,Xh.kill_ne _ hib,hb];rfl,Bt.set_ne _ _ hib⟩
 cases hL:β b with
 |none=>
  have s2:Sim E H (β.set i none) ((h.kill i).set i (.row ty sz (r.take m))) w:=(s.kill i none).blind (Bt.set_same _ _ _) rfl
  exact ⟨β.set i none,s2.blind (by rw [(keep none).2,hL]) rfl,fun hf=>hf.kill i none⟩
 |some Lb=>
  obtain ⟨h1,h0,us,t,h2,h3,h4⟩:=s.obj b _ Lb hb hL
  have hku:k<us.size:=by have:=(List.getElem?_eq_some_iff.1 hk).1;omega
  obtain ⟨L,A,n,c,hLi,hv,_,hmn,hu⟩:=Xa (h4 k us[k] _ (Array.getElem?_eq_getElem hku) hk)
  have hu':us[k]= .slice A m c:=by
   rw [hu,Nat.zero_mul,Nat.sub_zero,Nat.sub_zero]
   split
   ·rfl
   ·rename_i hc
    obtain ⟨_,_,_,_,hown,_,_⟩:=s.obj i _ L hi hLi
    rcases hown.2 with ⟨e1,_⟩|⟨g,cap,cur,e1,_⟩
    ·rw [hv] at e1;injection e1 with q1 q2 q3;subst q1;rfl
    ·rw [hv] at e1;injection e1 with q1 q2 q3;subst q1;simp [Go.WideShapes.add_plain]
  have hrn:n=r.length:=by
   obtain ⟨_,_,_,_,hown,_,_⟩:=s.obj i _ L hi hLi
   rcases hown.2 with ⟨e1,e2⟩|⟨g,cap,cur,e1,_⟩
   ·rw [hv] at e1;injection e1 with q1 q2 q3;omega
   ·rw [hv] at e1;injection e1 with q1 q2 q3
  subst hrn
  have s2:=s.cutR hi hLi hv hmn
  refine ⟨_,s2.turn (o:= .box (S.killL i l)) (keep (some ⟨.slice A m c,L.b,sz,noB⟩)).1 (by rw [(keep (some ⟨.slice A m c,L.b,sz,noB⟩)).2,hL]) rfl s2.below (fun _ _=>rfl) ⟨h1,by rw [List.length_set,S.killL_length];exact h0,us,t,h2,by rw [List.length_set,S.killL_length];exact h3,fun j u q hj hq=> ?_⟩,fun hf=>hf.kill i _⟩
  by_cases e:k=j
  ·subst e
   rw [List.getElem?_set_self (by rw [S.killL_length];omega)] at hq
   cases hq
   rw [Array.getElem?_eq_getElem hku] at hj
   cases hj
   rw [hu']
   exact VS.own (L:=⟨.slice A m c,L.b,sz,noB⟩) (Bt.set_same _ _ _)
  ·rw [List.getElem?_set_ne e,S.killL_get] at hq
   cases hl:l[j]? with
   |none=>rw [hl] at hq;cases hq
   |some q'=>rw [hl] at hq;cases hq;exact (h4 j u q' hj hl).kill i _
theorem Agw {P:Program} {n:Nat} {c:Code} {K:Cq} {f:Fr} {h:Xh} (i b k m:Nat) {ty:TypeId} {sz:Nat} {r r':List (List D)} {l l':List S} (hb:h b=some (.box l)) (hk:l[k]? =some (.sub i 0 m)) (hi:h i=some (.row ty sz r)) (hib:i≠b) (hr:r.take m=r') (hl:(S.killL i l).set k (.own i)=l')
  (hc:XW P n c K (Dw f i) (((h.kill i).set i (.row ty sz r')).set b (.box l'))):XW P n c K f h:=fun E H β a w hs hf=>by
 subst hr hl
 obtain ⟨β',s2,f2⟩:=hs.subcut hb hk hi hib
 exact hc E H β' a w s2 (f2 hf)
theorem Xr {P:Program} {n:Nat} {o:Oper} {f:Fr} {h:Xh} {t:Nat} {x y:Operand} {i j p q off:Nat} {l l':List S} (ho:o.op= .store t x y) (hx:ev f x= .ptr i 0 off) (hi:h i=some (.box l)) (hy:ev f y= .sub j p q) (hz:sizeB P t 1=true) (hoff:off+1≤l.length) (hl:sets l off [.sub j p q]=l'):
  Step P n o f h (.d (.v undef)) f (h.set i (.box l')):=by
 subst hl
 intro E H β a w hs hf hop
 have g1:=hop x (by rw [ho];simp [Op.operands])
 have g2:=hop y (by rw [ho];simp [Op.operands])
 rw [hx] at g1
 rw [hy] at g2
 obtain ⟨L,hL,hp⟩:=Fm g1
 rw [Nat.zero_mul,Nat.zero_add] at hp
 have h1:(a.eval y).oneCell'=true:=by obtain ⟨_,_,_,_,_,_,_,_,hu⟩:=Xa g2;rw [hu];rfl
 have hcs:=Wl h1
 obtain ⟨w', r1, r2⟩ := Jk (P := P) (off := off) hL (a.eval y).cells.toList [.sub j p q] 0 l h w hs hi (by rw [hcs]; rfl) (fun k v s hj hs' => by
  rw [hcs] at hj
  match k with
  |0=>cases hj;cases hs';exact ⟨g2,h1⟩
  | k + 1 => simp at hs') (by rw [hcs]; simpa using hoff)
 have hr:(execOp a.eval o).run P w= .ok .skip w':=by
  have hsz:(a.eval y).cells.size=1:=by rw [hcs];rfl
  unfold execOp
  simp only [ho,Instr.storeAt,hp,Instr.sureAddr,Sem.run_bind,Sem.run_pure,Result.andThen_ok,storeVar,sizeB.run hz,hsz,ne_eq,not_true_eq_false,if_false,r1]
 unfold Oper.wp
 rw [hr]
 exact ⟨H,β,_,rfl,r2,hf, .d (.v _)⟩
structure Ev.room (e:Ev):Prop where
 heads:e.heads.length*40≤140737488355328
 graces:e.graces.length*40≤140737488355328
 lyr:e.lyr.length*24≤140737488355328
def Pi (s:Sy):Sy:=⟨s.text.take 30,s.link⟩
def Rw (e:Ev):Ev:={e with heads:=e.heads.take 5,graces:=e.graces.take 4,lyr:=(e.lyr.take 5).map Pi}
def shSys (l:List Sy) (k:Nat):List Sy:=(l.take k).map Pi++l.drop k
theorem Acd (l:List Hd) (h:l.length*40≤140737488355328):XS Tryz.prog 140 [.sl 5 (l.map Hd.c)] (.own 5) [(5, .row 200 5 ((l).map Hd.c))]:=by
 refine Du Qh Tryz.func140 R R lb (by kernel_rfl) (by kernel_rfl)<|zr<|za R R<|zn<|zs<|zr<|zm R R<|?_
 refine XL.eqnil R R R Tryz.underlying55 (fun hn4=> ?_) ?_
 refine zn<|Aw (by kernel_rfl) R<|zr<|za R R<|zn<|Do 5 2 200 5 R<|zt<|?_
 exact ⟨Ci R (RVS.tmp R R),HSub.cons (by rw [hn4];rfl) (HSub.nil)⟩
 refine zn<|A1 (by kernel_rfl) R<|zi<|zr<|XL.step R (Bj 5 R Tryz.underlying55 Xm Rr R R (by omega) (by omega))<|zm R R<|XL.step R (A4 R Ajg (.own R) (Src.sl (by omega)) (by unfold maxLen;simp;omega) (by simp;omega))<|zp (Ar R (by conv=>lhs;whnf))<|?_
 refine zn<|zt<|?_
 exact ⟨Ci R (RVS.tmp R R),HSub.cons (R) (HSub.nil)⟩
theorem Acf (l:List Gr) (h:l.length*40≤140737488355328):XS Tryz.prog 141 [.sl 5 (l.map Gr.c)] (.own 5) [(5, .row 203 5 ((l).map Gr.c))]:=by
 refine Du Qg Tryz.func141 R R lb (by kernel_rfl) (by kernel_rfl)<|zr<|za R R<|zn<|zs<|zr<|zm R R<|?_
 refine XL.eqnil R R R Tryz.underlying56 (fun hn4=> ?_) ?_
 refine zn<|Aw (by kernel_rfl) R<|zr<|za R R<|zn<|Do 5 2 203 5 R<|zt<|?_
 exact ⟨Ci R (RVS.tmp R R),HSub.cons (by rw [hn4];rfl) (HSub.nil)⟩
 refine zn<|A1 (by kernel_rfl) R<|zi<|zr<|XL.step R (Bj 5 R Tryz.underlying56 Xl Rq R R (by omega) (by omega))<|zm R R<|XL.step R (A4 R Ajf (.own R) (Src.sl (by omega)) (by unfold maxLen;simp;omega) (by simp;omega))<|zp (Ar R (by conv=>lhs;whnf))<|?_
 refine zn<|zt<|?_
 exact ⟨Ci R (RVS.tmp R R),HSub.cons (R) (HSub.nil)⟩
theorem Acc (l:List Sy) (h:l.length*24≤140737488355328):XS Tryz.prog 142 [.sl 2 (l.map Sy.c)] (.own 5) [(5, .row 171 2 ((l).map Sy.c))]:=by
 refine Du Qf Tryz.func142 R R lb (by kernel_rfl) (by kernel_rfl)<|zr<|za R R<|zn<|zs<|zr<|zm R R<|?_
 refine XL.eqnil R R R Tryz.underlying57 (fun hn4=> ?_) ?_
 refine zn<|Aw (by kernel_rfl) R<|zr<|za R R<|zn<|Do 5 2 171 2 R<|zt<|?_
 exact ⟨Ci R (RVS.tmp R R),HSub.cons (by rw [hn4];rfl) (HSub.nil)⟩
 refine zn<|A1 (by kernel_rfl) R<|zi<|zr<|XL.step R (Bj 5 R Tryz.underlying57 Xn N4 R R (by omega) (by omega))<|zm R R<|XL.step R (A4 R Aje (.own R) (Src.sl (by omega)) (by unfold maxLen;simp;omega) (by simp;omega))<|zp (Ar R (by conv=>lhs;whnf))<|?_
 refine zn<|zt<|?_
 exact ⟨Ci R (RVS.tmp R R),HSub.cons (R) (HSub.nil)⟩
theorem Ajj (e:Ev) (h:e.room):XS Tryz.prog 111 [.agg (Ev.c e)] (.agg [.d (dI e.site), .d (dI e.num), .d (dI e.kind), .d (dI e.v.log), .d (dI e.v.dots), .own 7501, .own 7502, .d (dI e.art), .d (dI e.orn), .d (dI e.dyn), .own 7503, .d (dI e.stem), .d (dI e.beam)]) [(7501, .row 200 5 ((e.heads).map Hd.c)),(7502, .row 203 5 ((e.graces).map Gr.c)),(7503, .row 171 2 ((e.lyr).map Sy.c))]:=by
 have h1:=h.heads
 have h2:=h.graces
 have h3:=h.lyr
 refine Du Qj Tryz.func111 R R lb (by kernel_rfl) (by kernel_rfl)<|zr<|XL.step R (Ap 1 (l:= [.d (dI e.site), .d (dI e.num), .d (dI e.kind), .d (dI e.v.log), .d (dI e.v.dots), .d (.sl 5 (e.heads.map Hd.c)), .d (.sl 5 (e.graces.map Gr.c)), .d (dI e.art), .d (dI e.orn), .d (dI e.dyn), .d (.sl 2 (e.lyr.map Sy.c)), .d (dI e.stem), .d (dI e.beam)]) R R (by kernel_rfl))<|?_
 refine XL.step R (Al 2 (l:= [.d (dI 0), .d (dI 0), .d (dI 0), .d (dI 0), .d (dI 0), .d (.v (.slice none 0 0)), .d (.v (.slice none 0 0)), .d (dI 0), .d (dI 0), .d (dI 0), .d (.v (.slice none 0 0)), .d (dI 0), .d (dI 0)]) R B9 (by kernel_rfl))<|zn<|zs<|Ck 10 [7501,7502,7503] (by kernel_rfl) (by kernel_rfl) (by kernel_rfl) (by kernel_rfl) (by decide)<|yp (Aa R R Cw)<|?_
 refine yp (Ab R R G3 R R)<|ChK.cons R (CStep.callS R ((Acd _ (by assumption)).lab 7501) R (Mg (by kernel_rfl)))<|yp (Aa R R Fx)<|yp (Ab R R M4 R R)<|ChK.cons R (CStep.callS R ((Acf _ (by assumption)).lab 7502) R (Mg (by kernel_rfl)))<|yp (Aa R R Ed)<|yp (Ab R R I0 R R)<|?_
 refine ChK.cons R (CStep.callS R ((Acc _ (by assumption)).lab 7503) R (Mg (by kernel_rfl)))<|yp (Aa R R Cw)<|?_
 refine ChK.nil ⟨by kernel_rfl, ?_⟩
 refine XL.step R (Af (l':= [.d (dI e.site), .d (dI e.num), .d (dI e.kind), .d (dI e.v.log), .d (dI e.v.dots), .own 7501, .d (.sl 5 (e.graces.map Gr.c)), .d (dI e.art), .d (dI e.orn), .d (dI e.dyn), .d (.sl 2 (e.lyr.map Sy.c)), .d (dI e.stem), .d (dI e.beam)]) R R R R Mx R lb (by kernel_rfl))<|zp (Aa R R Fx)<|?_
 refine XL.step R (Af (l':= [.d (dI e.site), .d (dI e.num), .d (dI e.kind), .d (dI e.v.log), .d (dI e.v.dots), .own 7501, .own 7502, .d (dI e.art), .d (dI e.orn), .d (dI e.dyn), .d (.sl 2 (e.lyr.map Sy.c)), .d (dI e.stem), .d (dI e.beam)]) R R R R Ae9 R lb (by kernel_rfl))<|zp (Aa R R Ed)<|?_
 refine XL.step R (Af (l':= [.d (dI e.site), .d (dI e.num), .d (dI e.kind), .d (dI e.v.log), .d (dI e.v.dots), .own 7501, .own 7502, .d (dI e.art), .d (dI e.orn), .d (dI e.dyn), .own 7503, .d (dI e.stem), .d (dI e.beam)]) R R R R Ae8 R lb (by kernel_rfl))<|znr<|zp (Ac (Ad R R Bu R lb))<|?_
 refine XL.step R (Af (l':= [.d (dI e.site), .d (dI e.num), .d (dI e.kind), .d (dI e.v.log), .d (dI e.v.dots), .own 7501, .own 7502, .d (dI e.art), .d (dI e.orn), .d (dI e.dyn), .own 7503, .d (dI e.stem), .d (dI e.beam)]) R R R R Cz R lb (by kernel_rfl))<|zn<|zt<|?_
 exact ⟨Ci R (RVS.eq (RVS.cells (i:=2) R R R Bu lb) R),HSub.cons (R) (HSub.cons (R) (HSub.cons (R) (HSub.nil)))⟩
theorem Wr (e:Ev) (h:e.room):XC Tryz.prog 83 [.agg (Ev.c e)] (fun r=>r= .agg (Ev.c (Rw e))):=by
 refine Ak Acn Tryz.func83 R R lb<|zr<|XL.step R (Ap 1 (l:= [.d (dI e.site), .d (dI e.num), .d (dI e.kind), .d (dI e.v.log), .d (dI e.v.dots), .d (.sl 5 (e.heads.map Hd.c)), .d (.sl 5 (e.graces.map Gr.c)), .d (dI e.art), .d (dI e.orn), .d (dI e.dyn), .d (.sl 2 (e.lyr.map Sy.c)), .d (dI e.stem), .d (dI e.beam)]) R R (by kernel_rfl))<|?_
 refine XL.step R (Al 2 (l:= [.d (dI 0), .d (dI 0), .d (dI 0), .d (dI 0), .d (dI 0), .d (.v (.slice none 0 0)), .d (.v (.slice none 0 0)), .d (dI 0), .d (dI 0), .d (dI 0), .d (.v (.slice none 0 0)), .d (dI 0), .d (dI 0)]) R B9 (by kernel_rfl))<|znr<|zp (Ae (s':= .d (.agg (Ev.c e))) (Ac (Ad R R Bu R lb)) (by kernel_rfl))<|XL.callS R R (Ajj _ (by assumption)) R<|?_
 refine XL.freeze (i:=7501) R<|XL.freeze (i:=7502) R<|XL.step R (Af (l':= [.d (dI e.site), .d (dI e.num), .d (dI e.kind), .d (dI e.v.log), .d (dI e.v.dots), .d (.sl 5 (e.heads.map Hd.c)), .d (.sl 5 (e.graces.map Gr.c)), .d (dI e.art), .d (dI e.orn), .d (dI e.dyn), .own 7503, .d (dI e.stem), .d (dI e.beam)]) R R R R Cz R lb (by kernel_rfl))<|zn<|zs<|?_
 refine Adl 22 24 25 (fun s=>s) (mkH [(1, .box [.d (dI e.site), .d (dI e.num), .d (dI e.kind), .d (dI e.v.log), .d (dI e.v.dots), .d (.sl 5 ((e.heads.take 5).map Hd.c)), .d (.sl 5 (e.graces.map Gr.c)), .d (dI e.art), .d (dI e.orn), .d (dI e.dyn), .own 7503, .d (dI e.stem), .d (dI e.beam)]),(2, .box [.d (dI 0), .d (dI 0), .d (dI 0), .d (dI 0), .d (dI 0), .d (.v (.slice none 0 0)), .d (.v (.slice none 0 0)), .d (dI 0), .d (dI 0), .d (dI 0), .d (.v (.slice none 0 0)), .d (dI 0), .d (dI 0)]),(7503, .row 171 2 ((e.lyr).map Sy.c))]) (mkH [(1, .box [.d (dI e.site), .d (dI e.num), .d (dI e.kind), .d (dI e.v.log), .d (dI e.v.dots), .d (.sl 5 ((e.heads.take 5).map Hd.c)), .d (.sl 5 ((e.graces.take 4).map Gr.c)), .d (dI e.art), .d (dI e.orn), .d (dI e.dyn), .own 7503, .d (dI e.stem), .d (dI e.beam)]),(2, .box [.d (dI 0), .d (dI 0), .d (dI 0), .d (dI 0), .d (dI 0), .d (.v (.slice none 0 0)), .d (.v (.slice none 0 0)), .d (dI 0), .d (dI 0), .d (dI 0), .d (.v (.slice none 0 0)), .d (dI 0), .d (dI 0)]),(7503, .row 171 2 ((e.lyr).map Sy.c))]) (by kernel_rfl) (by kernel_rfl) (by kernel_rfl) (by kernel_rfl)<|?_
 refine ChFK.bf R (CStep.pure (Aa R R Cw)) (by conv=>lhs;whnf)<|?_
 refine ChFK.bf R (CStep.pure (Ab R R G3 R R)) (by conv=>lhs;whnf)<|?_
 refine ChFK.bf R (CStep.pure (Aa R R Cw)) (by conv=>lhs;whnf)<|?_
 refine ChFK.bf R (CStep.pure (Ab R R G3 R R)) (by conv=>lhs;whnf)<|?_
 refine ChFK.bf R (CStep.pure (L9 R R Tryz.underlying55)) (by conv=>lhs;whnf)<|?_
 refine ChFK.bf R (CStep.pure (Fq R R R)) (by conv=>lhs;whnf)<|?_
 refine ChFK.bf R (CStep.pure (Kq R R R Q7)) (by conv=>lhs;whnf)<|?_
 refine ChFK.bf R (CStep.pure (Aa R R Fx)) (by conv=>lhs;whnf)<|?_
 refine ChFK.bf R (CStep.pure (Ab R R M4 R R)) (by conv=>lhs;whnf)<|?_
 refine ChFK.bf R (CStep.pure (Aa R R Fx)) (by conv=>lhs;whnf)<|?_
 refine ChFK.bf R (CStep.pure (Ab R R M4 R R)) (by conv=>lhs;whnf)<|?_
 refine ChFK.fr R R (CStep.pure (L9 R R Tryz.underlying56)) (CStep.pure (L9 R R Tryz.underlying56)) (by exact rfl)<|ChFK.fr R R (CStep.pure (Fq R R R)) (CStep.pure (Fq R R R)) (by exact rfl)<|ChFK.fr R R (CStep.pure (Kq R R R Uc)) (CStep.pure (Kq R R R Uc)) (by exact rfl)<|ChFK.bf R (CStep.pure (Aa R R Ed)) (by conv=>lhs;whnf)<|?_
 refine ChFK.bf R (CStep.pure (Ab R R I0 R R)) (by conv=>lhs;whnf)<|?_
 refine ChFK.bf R (CStep.pure (Aa R R Ed)) (by conv=>lhs;whnf)<|?_
 refine ChFK.bf R (CStep.pure (Ab R R I0 R R)) (by conv=>lhs;whnf)<|?_
 refine ChFK.ff R R (CStep.pure (Bz R R R Tryz.underlying57)) (CStep.pure (Bz R R R Tryz.underlying57)) (CStep.pure (Bz R R R Tryz.underlying57)) (by exact rfl)<|ChFK.ff R R (CStep.pure (Fq R R R)) (CStep.pure (Fq R R R)) (CStep.pure (Fq R R R)) (by exact rfl)<|?_
 refine ChFK.ff R R (CStep.pure (Kr R R R Kj Bd.no (Bd.ati R (show _=((min e.lyr.length 5:Nat):Int) by omega)) (Nat.zero_le _) (by rw [List.length_map];omega))) (CStep.pure (Kr rfl rfl rfl Kj Bd.no (Bd.ati rfl (show _=((min e.lyr.length 5:Nat):Int) by omega)) (Nat.zero_le _) (by rw [List.length_map];omega))) (CStep.pure (Kr rfl rfl rfl Kj Bd.no (Bd.ati rfl (show _=((min e.lyr.length 5:Nat):Int) by omega)) (Nat.zero_le _) (by rw [List.length_map];omega))) (by exact rfl)<|?_
 refine ChFK.bf R (CStep.pure (Aa R R Cw)) (by conv=>lhs;whnf)<|?_
 refine ChFK.mus R R (Y5 (l':= [.d (dI e.site), .d (dI e.num), .d (dI e.kind), .d (dI e.v.log), .d (dI e.v.dots), .d (.sl 5 ((e.heads.take 5).map Hd.c)), .d (.sl 5 (e.graces.map Gr.c)), .d (dI e.art), .d (dI e.orn), .d (dI e.dyn), .own 7503, .d (dI e.stem), .d (dI e.beam)]) R R R R Mx R lb (by kernel_rfl) (gz ⟨R,R,R,trivial⟩))<|ChFK.af R (CStep.pure (Aa R R Fx))<|?_
 refine ChFK.st R (Y5 (l':= [.d (dI e.site), .d (dI e.num), .d (dI e.kind), .d (dI e.v.log), .d (dI e.v.dots), .d (.sl 5 ((e.heads.take 5).map Hd.c)), .d (.sl 5 ((e.graces.take 4).map Gr.c)), .d (dI e.art), .d (dI e.orn), .d (dI e.dyn), .own 7503, .d (dI e.stem), .d (dI e.beam)]) R R R R Ae9 R lb (by kernel_rfl) (gz ⟨R,R,R,trivial⟩))<|?_
 refine ChFK.nil ⟨⟨by kernel_rfl,by kernel_rfl,by kernel_rfl⟩, ?_⟩
 refine zp (Aa R R Ed)<|XL.step R (Xr (l':= [.d (dI e.site), .d (dI e.num), .d (dI e.kind), .d (dI e.v.log), .d (dI e.v.dots), .d (.sl 5 ((e.heads.take 5).map Hd.c)), .d (.sl 5 ((e.graces.take 4).map Gr.c)), .d (dI e.art), .d (dI e.orn), .d (dI e.dyn), .sub 7503 0 (min e.lyr.length 5), .d (dI e.stem), .d (dI e.beam)]) R R R R Ae8 lb (by kernel_rfl))<|zn<|zs<|zs<|?_
 refine Agw 7503 1 10 (min e.lyr.length 5) R R R (by decide) (r':=(e.lyr.take 5).map Sy.c) (by rw [←List.map_take,Nat.min_comm, ←List.take_take,List.take_length]) R<|?_
 have hsl:(e.lyr.take 5).length≤5:=by rw [List.length_take];omega
 refine Ag (by kernel_rfl)<|za R R<|zn<|Ah<|?_
 refine A0 (α:=Nat) (fun k=>k≤(e.lyr.take 5).length) (fun k=>mkF [(1, .ptr 1 0 0),(2, .ptr 2 0 0),(3, .d (dI k))]) (fun k=>mkH [(1, .box [.d (dI e.site), .d (dI e.num), .d (dI e.kind), .d (dI e.v.log), .d (dI e.v.dots), .d (.sl 5 ((e.heads.take 5).map Hd.c)), .d (.sl 5 ((e.graces.take 4).map Gr.c)), .d (dI e.art), .d (dI e.orn), .d (dI e.dyn), .own 7503, .d (dI e.stem), .d (dI e.beam)]),(2, .box [.d (dI 0), .d (dI 0), .d (dI 0), .d (dI 0), .d (dI 0), .d (.v (.slice none 0 0)), .d (.v (.slice none 0 0)), .d (dI 0), .d (dI 0), .d (dI 0), .d (.v (.slice none 0 0)), .d (dI 0), .d (dI 0)]),(7503, .row 171 2 ((Ha Pi (e.lyr.take 5) k).map Sy.c))]) (fun k=>(e.lyr.take 5).length - k) (0) (Nat.zero_le _) ?_ ?_ ?_
 exact fz ⟨sr,sr,sr,trivial⟩
 exact gz ⟨R,R,Pm (Om _ _),trivial⟩
 intro k hk0
 refine zs<|zr<|zm R R<|zp (Aa R R Ed)<|zp (Ab R R I0 R R)<|zp (Bz R R R Tryz.underlying57)<|zp (Aq R R R)<|zn<|?_
 refine zd R (fun c34=> ?_) (fun c34=> ?_)
 have hml:=M8 Pi (e.lyr.take 5) k
 have hkl:k<(e.lyr.take 5).length:=by omega
 obtain ⟨x,hx⟩:=Ay hkl
 have hg:=Pu (f:=Pi) hx
 refine zi<|zs<|Ah<|Ck 18 [] (by kernel_rfl) (by kernel_rfl) (by kernel_rfl) (by kernel_rfl) (by decide)<|yp (Aa R R Ed)<|yp (Ab R R I0 R R)<|ym R R<|yp (Aa R R Ed)<|yp (Ab R R I0 R R)<|ym R R<|yp (Cm R R R (R) R Kj (by omega))<|yp (Aa R R Gy)<|yp (Ii R R J8 R (C5 hg) R)<|yp (Aa R R Ed)<|?_
 refine yp (Ab R R I0 R R)<|ym R R<|yp (Cm R R R (R) R Kj (by omega))<|yp (Aa R R Gy)<|yp (Ii R R J8 R (C5 hg) R)<|yp (Ks R R Tryz.underlying9)<|yp (Fq R R R)<|yp (Ut R R R Tryz.underlying9)<|?_
 refine ChK.nil ⟨by kernel_rfl, ?_⟩
 refine zp (Cm R R R (R) R Kj (by omega))<|zp (Aa R R Gy)<|XL.step R (E8 R R R (C5 hg) R R Ake R lb)<|zn<|Ag (by kernel_rfl)<|zm R R<|zp (Am R R R (by omega) (by omega))<|za R R<|zn<|?_
 exact An (k+1) (by omega) (by omega) (fz ⟨sr,sr,sr,trivial⟩) (gz ⟨R,R,Pk (a:=Pi x) R (Pt hx),trivial⟩)
 have hml:=M8 Pi (e.lyr.take 5) k
 have he:=Pv (f:=Pi) (l:=(e.lyr.take 5)) (k:=k) (by omega)
 refine Av<|zr<|zp (Ac (Ad R R Bu R lb))<|XL.step R (Af (l':= [.d (dI e.site), .d (dI e.num), .d (dI e.kind), .d (dI e.v.log), .d (dI e.v.dots), .d (.sl 5 ((e.heads.take 5).map Hd.c)), .d (.sl 5 ((e.graces.take 4).map Gr.c)), .d (dI e.art), .d (dI e.orn), .d (dI e.dyn), .own 7503, .d (dI e.stem), .d (dI e.beam)]) R R R R Cz R lb (by kernel_rfl))<|zn<|zt<|?_
 refine B6 (i:=7503) R<|?_
 exact Jn R (RV.cells R R R Bu lb R) (by rw [he];rfl)
end Go.Proofs.YtaafemnkamfgnaaGreat
namespace Go.Proofs.YtaafemnkamfgnaaGreat
open Go.RowKit
def Vo.room (v:Vo):Prop:=∀e∈v.evs,e.room
def Oa (v:Vo):Vo:=⟨(v.evs.take 12).map Rw,v.tups.take 6⟩
theorem Afe {l:List Ev} {k:Nat} {x:Ev} (h:l[k]? =some x):(l.take (k+1)).map Rw=(l.take k).map Rw++ [Rw x]:=by rw [Bl h,List.map_append];rfl
theorem J6 {α:Type} {l:List α} {k m:Nat} (h:k≤m) (h2:¬k<m∨¬k<l.length):l.take k=l.take m:=by
 rcases h2 with h2|h2
 ·rw [show k=m by omega]
 ·rw [List.take_of_length_le (by omega),List.take_of_length_le (by omega)]
theorem Wq (v:Vo) (h:v.room):XS Tryz.prog 39 [.agg (Vo.c v)] (.agg [.own 7201, .own 7202]) [(7201, .row 59 13 (((Oa v).evs).map Ev.c)),(7202, .row 157 4 (((Oa v).tups).map Tp.c))]:=by
 refine Du Ac8 Tryz.func39 R R lb (by kernel_rfl) (by kernel_rfl)<|zr<|XL.step R (Ap 1 (l:= [.d (.sl 13 (v.evs.map Ev.c)), .d (.sl 4 (v.tups.map Tp.c))]) R R (by kernel_rfl))<|XL.step R (Al 2 (l:= [.d (.v (.slice none 0 0)), .d (.v (.slice none 0 0))]) R Be (by kernel_rfl))<|znr<|?_
 refine XL.step R (Al 3 (l:= [.d (.v (.slice none 0 0)), .d (.v (.slice none 0 0))]) R Be (by kernel_rfl))<|zn<|zs<|zr<|za R R<|zn<|Ah<|Et 7201 3 0 59 13 (l':= [.own 7201, .d (.v (.slice none 0 0))]) R R (by decide) (by kernel_rfl)<|?_
 refine A0 (α:=Nat) (fun k=>k≤v.evs.length∧k≤12) (fun k=>mkF [(1, .ptr 1 0 0),(2, .ptr 2 0 0),(3, .ptr 3 0 0),(4, .d (dI k))]) (fun k=>mkH [(1, .box ((Vo.c v).map S.d)),(2, .box [.d (.v (.slice none 0 0)), .d (.v (.slice none 0 0))]),(3, .box [.own 7201, .d (.v (.slice none 0 0))]),(7201, .row 59 13 (((v.evs.take k).map Rw).map Ev.c))]) (fun k=>v.evs.length - k) (0) (⟨Nat.zero_le _,Nat.zero_le _⟩) ?_ ?_ ?_
 exact fz ⟨sr,sr,sr,sr,trivial⟩
 exact gz ⟨R,R,R,R,trivial⟩
 intro k hk0
 obtain ⟨hk,hk12⟩:=hk0
 refine zs<|zr<|zm R R<|zp (Aa R R Bw)<|zp (Ab R R C8 R R)<|XL.len R R R Tryz.underlying79 fun hl8=>zp (Aq R R R)<|zm R R<|?_
 refine XL.dec 10 R (fun g10=> ?_) (fun g10=> ?_)
 refine zm R R<|zp (Aq R R R)<|zq R R R<|zn<|?_
 refine zd R (fun c13=> ?_) (fun c13=> ?_)
 have hkl:k<v.evs.length:=by omega
 obtain ⟨x,hx⟩:=Ay hkl
 have hr:=h x (List.mem_of_getElem? hx)
 have htl:((v.evs.take k).map Rw).length=k:=by rw [List.length_map,List.length_take];omega
 refine zi<|zs<|Ah<|Ck 9 [] (by kernel_rfl) (by kernel_rfl) (by kernel_rfl) (by kernel_rfl) (by decide)<|yp (Aa R R Bw)<|yp (Ab R R C8 R R)<|yp (Aa R R Bw)<|yp (Ab R R C8 R R)<|ym R R<|yp (Au R R R Hr (hx))<|yp (Ae (s':= .d (.agg (Ev.c x))) (Bc R R Bu lb) (by kernel_rfl))<|?_
 refine ChK.cons R (CStep.call R (Wr _ (by assumption)) R)<|ChK.cons R (CStep.slice R Tryz.underlying79 Cz B9 R R (by omega) (by omega))<|?_
 refine ChK.nil ⟨by kernel_rfl, ?_⟩
 refine XL.step R (A4 R F9 (.own R) (Src.sl (by omega)) (by unfold maxLen;simp;omega) (by simp;omega))<|zp (Aa R R Bw)<|XL.step R (Af (l':= [.own 7201, .d (.v (.slice none 0 0))]) R R R R Qq R lb (by kernel_rfl))<|zn<|Ag (by kernel_rfl)<|zm R R<|zp (Am R R R (by omega) (by omega))<|za R R<|zn<|?_
 exact An (k+1) (⟨by omega,by omega⟩) (by omega) (fz ⟨sr,sr,sr,sr,trivial⟩) (gz ⟨rfl,rfl,rfl,I3 rfl (Afe hx),trivial⟩)
 refine Av<|zs<|Ck 9 [] (by kernel_rfl) (by kernel_rfl) (by kernel_rfl) (by kernel_rfl) (by decide)<|yp (Aa R R B0)<|yp (Ab R R B1 R R)<|yp (Aa R R B0)<|yp (Ab R R B1 R R)<|yp (Aa R R B0)<|yp (Ab R R B1 R R)<|yp (L9 R R Tryz.underlying80)<|yp (Fq R R R)<|yp (Kq R R R E7)<|?_
 refine ChK.nil ⟨by kernel_rfl, ?_⟩
 refine XL.step R (A4 R Fo (.nil 7202 _ _) (Src.sl (by omega)) (by unfold maxLen;simp;omega) (by simp;omega))<|zp (Aa R R B0)<|XL.step R (Af (l':= [.own 7201, .own 7202]) R R R R F0 R lb (by kernel_rfl))<|znr<|zp (Ac (Ad R R At R lb))<|XL.step R (Af (l':= [.own 7201, .own 7202]) R R R R Bo R lb (by kernel_rfl))<|zn<|zt<|?_
 exact ⟨Ci R (RVS.eq (RVS.cells (i:=2) R R R At lb) R),HSub.cons (by rw [J6 (l:=v.evs) hk12 (by omega)];rfl) (HSub.cons (R) (HSub.nil))⟩
 refine zk 2 R<|zq R R R<|zn<|A1 (by kernel_rfl) R<|Av<|zs<|Ck 9 [] (by kernel_rfl) (by kernel_rfl) (by kernel_rfl) (by kernel_rfl) (by decide)<|yp (Aa R R B0)<|yp (Ab R R B1 R R)<|yp (Aa R R B0)<|yp (Ab R R B1 R R)<|yp (Aa R R B0)<|yp (Ab R R B1 R R)<|yp (L9 R R Tryz.underlying80)<|?_
 refine yp (Fq R R R)<|yp (Kq R R R E7)<|?_
 refine ChK.nil ⟨by kernel_rfl, ?_⟩
 refine XL.step R (A4 R Fo (.nil 7202 _ _) (Src.sl (by omega)) (by unfold maxLen;simp;omega) (by simp;omega))<|zp (Aa R R B0)<|XL.step R (Af (l':= [.own 7201, .own 7202]) R R R R F0 R lb (by kernel_rfl))<|znr<|zp (Ac (Ad R R At R lb))<|XL.step R (Af (l':= [.own 7201, .own 7202]) R R R R Bo R lb (by kernel_rfl))<|zn<|zt<|?_
 exact ⟨Ci R (RVS.eq (RVS.cells (i:=2) R R R At lb) R),HSub.cons (by rw [J6 (l:=v.evs) hk12 (by omega)];rfl) (HSub.cons (R) (HSub.nil))⟩
def Ms.room (m:Ms):Prop:=∀c∈m.cells,∀v∈c.voices,v.room
def L4 (v:Vo):List T:=(Oa v).t
def Up (c:Ce):Ce:=⟨c.clefs.take 8,(c.voices.take 3).map Oa⟩
def K1 (c:Ce):List T:=(Up c).t
def shH (h:Mh):Mh:={h with reh:=h.reh.take 30}
def E1 (m:Ms):Ms:=⟨shH m.h,m.tempi.take 8,(m.cells.take 4).map Up⟩
theorem Lp (ls:List Nat) (l:List Vo):T.inLL ls (l.map L4)=true:=T.inLL_map (fun v=>Vo.t_in ls (Oa v)) l
theorem Je (ls:List Nat) (l:List Ce):T.inLL ls (l.map K1)=true:=T.inLL_map (fun v=>Ce.t_in ls (Up v)) l
theorem Xw (l:List Vo):l.map L4=(l.map Oa).map Vo.t:=by rw [List.map_map];rfl
theorem Xx (l:List Ce):l.map K1=(l.map Up).map Ce.t:=by rw [List.map_map];rfl
theorem Akk (m:Ms) (h:m.room):XS Tryz.prog 14 [.agg (Ms.c m)] (.agg [.d (dI (shH m.h).site), .d (dI (shH m.h).num), .d (dI (shH m.h).m.count), .d (dI (shH m.h).m.unit), .d (dI (shH m.h).m.g0), .d (dI (shH m.h).m.g1), .d (dI (shH m.h).m.g2), .d (dI (shH m.h).m.g3), .d (dI (shH m.h).m.g4), .d (dI (shH m.h).m.g5), .d (dI (shH m.h).len), .d (dI (shH m.h).fifths), .d (dB (shH m.h).start), .d (dI (shH m.h).fin), .d (dI (shH m.h).ends), .d (dI (shH m.h).jump), .d (dI (shH m.h).labels), .d (dI (shH m.h).swing), .d (dI (shH m.h).brk), .d (.v (.string ⟨(shH m.h).reh.toArray⟩)), .own 7401, .own 7402]) [(7401, .row 119 3 (((E1 m).tempi).map Tm.c)),(7402, .tree 78 2 [] ((E1 m).cells.map Ce.t))]:=by
 refine Du Adi Tryz.func14 R R lb (by kernel_rfl) (by kernel_rfl)<|zr<|?_
 refine XL.step R (Ap 1 (l:= [.d (dI m.h.site), .d (dI m.h.num), .d (dI m.h.m.count), .d (dI m.h.m.unit), .d (dI m.h.m.g0), .d (dI m.h.m.g1), .d (dI m.h.m.g2), .d (dI m.h.m.g3), .d (dI m.h.m.g4), .d (dI m.h.m.g5), .d (dI m.h.len), .d (dI m.h.fifths), .d (dB m.h.start), .d (dI m.h.fin), .d (dI m.h.ends), .d (dI m.h.jump), .d (dI m.h.labels), .d (dI m.h.swing), .d (dI m.h.brk), .d (.v (.string ⟨m.h.reh.toArray⟩)), .d (.sl 3 (m.tempi.map Tm.c)), .d (.sl 2 (m.cells.map Ce.c))]) R R (by kernel_rfl))<|?_
 refine XL.step R (Al 2 (l:= [.d (dI 0), .d (dI 0), .d (dI 0), .d (dI 0), .d (dI 0), .d (dI 0), .d (dI 0), .d (dI 0), .d (dI 0), .d (dI 0), .d (dI 0), .d (dI 0), .d (dB false), .d (dI 0), .d (dI 0), .d (dI 0), .d (dI 0), .d (dI 0), .d (dI 0), .d (.v (.string ⟨#[]⟩)), .d (.v (.slice none 0 0)), .d (.v (.slice none 0 0))]) R F3 (by kernel_rfl))<|znr<|zp (Aa R R Cx)<|?_
 refine zp (Ab R R G4 R R)<|za R R<|znr<|zp (Aa R R Cx)<|?_
 refine XL.step R (Af (l':= [.d (dI m.h.site), .d (dI m.h.num), .d (dI m.h.m.count), .d (dI m.h.m.unit), .d (dI m.h.m.g0), .d (dI m.h.m.g1), .d (dI m.h.m.g2), .d (dI m.h.m.g3), .d (dI m.h.m.g4), .d (dI m.h.m.g5), .d (dI m.h.len), .d (dI m.h.fifths), .d (dB m.h.start), .d (dI m.h.fin), .d (dI m.h.ends), .d (dI m.h.jump), .d (dI m.h.labels), .d (dI m.h.swing), .d (dI m.h.brk), .d (.v (.string ⟨m.h.reh.toArray⟩)), .d (.sl 3 (m.tempi.map Tm.c)),_]) R R R R Tf R lb R)<|?_
 refine zn<|zs<|zr<|za R R<|zn<|Ah<|?_
 refine Et 7402 1 21 78 2 (l':= [.d (dI m.h.site), .d (dI m.h.num), .d (dI m.h.m.count), .d (dI m.h.m.unit), .d (dI m.h.m.g0), .d (dI m.h.m.g1), .d (dI m.h.m.g2), .d (dI m.h.m.g3), .d (dI m.h.m.g4), .d (dI m.h.m.g5), .d (dI m.h.len), .d (dI m.h.fifths), .d (dB m.h.start), .d (dI m.h.fin), .d (dI m.h.ends), .d (dI m.h.jump), .d (dI m.h.labels), .d (dI m.h.swing), .d (dI m.h.brk), .d (.v (.string ⟨m.h.reh.toArray⟩)), .d (.sl 3 (m.tempi.map Tm.c)), .own 7402]) R R (by decide) (by kernel_rfl)<|?_
 refine S6 (i:=7402) (l':= []) R R<|?_
 refine A0 (α:=Nat) (fun k=>k≤m.cells.length∧k≤4) (fun k=>mkF [(1, .ptr 1 0 0),(2, .ptr 2 0 0),(3, .d (.sl 2 (m.cells.map Ce.c))),(4, .d (dI k))]) (fun k=>mkH [(1, .box [.d (dI m.h.site), .d (dI m.h.num), .d (dI m.h.m.count), .d (dI m.h.m.unit), .d (dI m.h.m.g0), .d (dI m.h.m.g1), .d (dI m.h.m.g2), .d (dI m.h.m.g3), .d (dI m.h.m.g4), .d (dI m.h.m.g5), .d (dI m.h.len), .d (dI m.h.fifths), .d (dB m.h.start), .d (dI m.h.fin), .d (dI m.h.ends), .d (dI m.h.jump), .d (dI m.h.labels), .d (dI m.h.swing), .d (dI m.h.brk), .d (.v (.string ⟨m.h.reh.toArray⟩)), .d (.sl 3 (m.tempi.map Tm.c)), .own 7402]),(2, .box [.d (dI 0), .d (dI 0), .d (dI 0), .d (dI 0), .d (dI 0), .d (dI 0), .d (dI 0), .d (dI 0), .d (dI 0), .d (dI 0), .d (dI 0), .d (dI 0), .d (dB false), .d (dI 0), .d (dI 0), .d (dI 0), .d (dI 0), .d (dI 0), .d (dI 0), .d (.v (.string ⟨#[]⟩)), .d (.v (.slice none 0 0)), .d (.v (.slice none 0 0))]),(7402, .tree 78 2 [] ((m.cells.take k).map K1))]) (fun k=>m.cells.length - k) (0) (⟨Nat.zero_le _,Nat.zero_le _⟩) ?_ ?_ ?_
 exact fz ⟨sr,sr,sr,sr,trivial⟩
 exact gz ⟨R,R,R,trivial⟩
 intro k hk0
 obtain ⟨hk,hk4⟩:=hk0
 refine zs<|zr<|zm R R<|zm R R<|XL.len R R R Tryz.underlying28 fun hl12=>zp (Aq R R R)<|zm R R<|?_
 refine XL.dec 14 R (fun g14=> ?_) (fun g14=> ?_)
 refine zm R R<|zp (Aq R R R)<|zq R R R<|zn<|?_
 refine zd R (fun c17=> ?_) (fun c17=> ?_)
 have hkl:k<m.cells.length:=by omega
 obtain ⟨x,hx⟩:=Ay hkl
 have hr:=h x (List.mem_of_getElem? hx)
 have htl:(m.cells.take k).length=k:=by rw [List.length_take];omega
 refine zi<|zs<|Ah<|zr<|XL.step R (Al 5 (l:= [.d (.v (.slice none 0 0)), .d (.v (.slice none 0 0))]) R Gm (by kernel_rfl))<|zn<|zs<|Ck 15 [] (by kernel_rfl) (by kernel_rfl) (by kernel_rfl) (by kernel_rfl) (by decide)<|yp (Aa R R Gi)<|yp (Ab R R Ob R R)<|ym R R<|ym R R<|yp (Au R R R J1 (hx))<|yp (El R R Gi)<|?_
 refine yp (A8 R R Ob)<|ym R R<|ym R R<|yp (Au R R R J1 (hx))<|yp (El R R Gi)<|yp (A8 R R Ob)<|yp (L9 R R Tryz.underlying75)<|yp (Fq R R R)<|yp (Kq R R R Lg)<|?_
 refine ChK.nil ⟨by kernel_rfl, ?_⟩
 refine XL.step R (A4 R Ajd (.nil 7301 _ _) (Src.sl (by omega)) (by unfold maxLen;simp;omega) (by simp;omega))<|XL.rowq (i:=7301) (l':=(x.clefs.take 8).map Cf.c) R (R)<|zp (Aa R R Gi)<|XL.step R (Af (l':= [.own 7301, .d (.v (.slice none 0 0))]) R R R R Ae7 R lb (by kernel_rfl))<|zn<|zs<|zr<|za R R<|zn<|Ah<|?_
 refine Et 7302 5 1 82 2 (l':= [.own 7301, .own 7302]) R R (by decide) (by kernel_rfl)<|S6 (i:=7302) (l':= []) R R<|?_
 refine A0 (α:=Nat) (fun j=>j≤x.voices.length∧j≤3) (fun j=>mkF [(1, .ptr 1 0 0),(2, .ptr 2 0 0),(3, .d (.sl 2 (m.cells.map Ce.c))),(4, .d (dI k)),(5, .ptr 5 0 0),(6, .d (dI j))]) (fun j=>mkH [(1, .box [.d (dI m.h.site), .d (dI m.h.num), .d (dI m.h.m.count), .d (dI m.h.m.unit), .d (dI m.h.m.g0), .d (dI m.h.m.g1), .d (dI m.h.m.g2), .d (dI m.h.m.g3), .d (dI m.h.m.g4), .d (dI m.h.m.g5), .d (dI m.h.len), .d (dI m.h.fifths), .d (dB m.h.start), .d (dI m.h.fin), .d (dI m.h.ends), .d (dI m.h.jump), .d (dI m.h.labels), .d (dI m.h.swing), .d (dI m.h.brk), .d (.v (.string ⟨m.h.reh.toArray⟩)), .d (.sl 3 (m.tempi.map Tm.c)), .own 7402]),(2, .box [.d (dI 0), .d (dI 0), .d (dI 0), .d (dI 0), .d (dI 0), .d (dI 0), .d (dI 0), .d (dI 0), .d (dI 0), .d (dI 0), .d (dI 0), .d (dI 0), .d (dB false), .d (dI 0), .d (dI 0), .d (dI 0), .d (dI 0), .d (dI 0), .d (dI 0), .d (.v (.string ⟨#[]⟩)), .d (.v (.slice none 0 0)), .d (.v (.slice none 0 0))]),(5, .box [.own 7301, .own 7302]),(7301, .row 84 2 ((x.clefs.take 8).map Cf.c)),(7302, .tree 82 2 [] ((x.voices.take j).map L4)),(7402, .tree 78 2 [] ((m.cells.take k).map K1))]) (fun j=>x.voices.length - j) (0) (⟨Nat.zero_le _,Nat.zero_le _⟩) ?_ ?_ ?_
 exact fz ⟨sr,sr,sr,sr,sr,sr,trivial⟩
 exact gz ⟨R,R,R,R,R,R,trivial⟩
 intro j hk2
 obtain ⟨hj,hj3⟩:=hk2
 refine zs<|zr<|zm R R<|zm R R<|zm R R<|zp (Au R R R J1 (hx))<|zp (El R R Ep)<|zp (A8 R R Iz)<|XL.len R R R Tryz.underlying76 fun hl43=>zp (Aq R R R)<|zm R R<|?_
 refine XL.dec 45 R (fun g45=> ?_) (fun g45=> ?_)
 refine zm R R<|zp (Aq R R R)<|zq R R R<|zn<|?_
 refine zd R (fun c48=> ?_) (fun c48=> ?_)
 have hjl:j<x.voices.length:=by omega
 obtain ⟨y,hy⟩:=Ay hjl
 have hq:=hr y (List.mem_of_getElem? hy)
 have hul:(x.voices.take j).length=j:=by rw [List.length_take];omega
 refine zi<|zs<|Ah<|Ck 12 [7201,7202,62] (by kernel_rfl) (by kernel_rfl) (by kernel_rfl) (by kernel_rfl) (by decide)<|yp (Aa R R Ep)<|yp (Ab R R Iz R R)<|ym R R<|ym R R<|yp (Au R R R J1 (hx))<|yp (El R R Ep)<|yp (A8 R R Iz)<|ym R R<|yp (Au R R R Q6 (hy))<|?_
 refine yp (Ae (s':= .d (.agg (Vo.c y))) (Bc R R At lb) (by kernel_rfl))<|ChK.cons R (CStep.callS R (Wq _ (by assumption)) R (Mg (by kernel_rfl)))<|ChK.cons R (CStep.slice1 62 (cs:= [.own 7201, .own 7202]) R Tryz.underlying76 Bo Be R R (by decide) (by decide) R)<|?_
 refine ChK.nil ⟨by kernel_rfl, ?_⟩
 refine XL.step R (Gq [7201,7202] (lr:=((x.voices.take (j+1)).map L4).set j [.own 7201, .own 7202]) R Ajc (.own R) (SrcT.ownS R) (by unfold maxLen;simp;omega) (by simp;omega) (N3 hy _) (D8 (Lp [] _) (Gg (R) (R)) _) R)<|?_
 refine XL.closeR (i:=7302) (j:=7201) (k:=j) (m:=0) (l':=((x.voices.take (j+1)).map L4).set j [.row 59 13 ((((Oa y).evs).map Ev.c).map (·.map T.d)), .own 7202]) [7202] R R R (Db (Dz hy)) R (List.set_set ..) (D8 (Lp [] _) (Gg (E3 (T.inLL_d _ _)) (R)) _) R<|?_
 refine XL.closeR (i:=7302) (j:=7202) (k:=j) (m:=1) (l':=((x.voices.take (j+1)).map L4).set j [.row 59 13 ((((Oa y).evs).map Ev.c).map (·.map T.d)), .row 157 4 ((((Oa y).tups).map Tp.c).map (·.map T.d))]) [] R R R (Db (Dz hy)) R (List.set_set ..) (D8 (Lp [] _) (Gg (E3 (T.inLL_d _ _)) (E3 (T.inLL_d _ _))) _) R<|?_
 refine XL.rowqT (i:=7302) (l':=(x.voices.take (j+1)).map L4) [] R (set_same (Dz hy)) (Lp [] _)<|zp (Aa R R Ep)<|XL.step R (Af (l':= [.own 7301, .own 7302]) R R R R Amt R lb (by kernel_rfl))<|zn<|Ag (by kernel_rfl)<|zm R R<|zp (Am R R R (by omega) (by omega))<|za R R<|zn<|?_
 exact An (j+1) (⟨by omega,by omega⟩) (by omega) (fz ⟨sr,sr,sr,sr,sr,sr,trivial⟩) (gz ⟨rfl,rfl,rfl,rfl,rfl,rfl,trivial⟩)
 refine Av<|Ag (by kernel_rfl)<|zp (Aa R R Cx)<|zp (Ab R R G4 R R)<|zp (Ac (Ad R R Mp R lb))<|XL.step R (Vf 68 (cs:= [.own 7301, .own 7302]) R Tryz.underlying28 Mw Gm R R (by decide) (by decide))<|?_
 refine XL.step R (Gq [7301,7302] (lr:=((m.cells.take (k+1)).map K1).set k [.own 7301, .own 7302]) R Zb (.own R) (SrcT.ownS R) (by unfold maxLen;simp;omega) (by simp;omega) (N3 hx _) (D8 (Je [] _) (Gg (R) (R)) _) R)<|?_
 have hvt:(x.voices.take j).map L4=(Up x).voices.map Vo.t:=by rw [J6 (l:=x.voices) hj3 (by omega),Xw];rfl
 refine XL.closeR (i:=7402) (j:=7301) (k:=k) (m:=0) (l':=((m.cells.take (k+1)).map K1).set k [.row 84 2 (((x.clefs.take 8).map Cf.c).map (·.map T.d)), .own 7302]) [7302] R R R (Db (Dz hx)) R (List.set_set ..) (D8 (Je [] _) (Gg (E3 (T.inLL_d _ _)) (R)) _) R<|?_
 refine XL.closeT (i:=7402) (j:=7302) (k:=k) (m:=1) (l':=((m.cells.take (k+1)).map K1).set k [.row 84 2 (((x.clefs.take 8).map Cf.c).map (·.map T.d)), .row 82 2 ((x.voices.take j).map L4)]) [] R R R (Db (Dz hx)) R (List.set_set ..) (D8 (Je [] _) (Gg (E3 (T.inLL_d _ _)) (E3 (T.nil_in (Lp [] _) _))) _) R<|?_
 refine XL.rowqT (i:=7402) (l':=(m.cells.take (k+1)).map K1) [] R (by rw [hvt];exact set_same (Dz hx)) (Je [] _)<|zp (Aa R R Cx)<|?_
 refine XL.step R (Af (l':= [.d (dI m.h.site), .d (dI m.h.num), .d (dI m.h.m.count), .d (dI m.h.m.unit), .d (dI m.h.m.g0), .d (dI m.h.m.g1), .d (dI m.h.m.g2), .d (dI m.h.m.g3), .d (dI m.h.m.g4), .d (dI m.h.m.g5), .d (dI m.h.len), .d (dI m.h.fifths), .d (dB m.h.start), .d (dI m.h.fin), .d (dI m.h.ends), .d (dI m.h.jump), .d (dI m.h.labels), .d (dI m.h.swing), .d (dI m.h.brk), .d (.v (.string ⟨m.h.reh.toArray⟩)), .d (.sl 3 (m.tempi.map Tm.c)), .own 7402]) R R R R Tf R lb (by kernel_rfl))<|?_
 refine zn<|Ag (by kernel_rfl)<|zm R R<|zp (Am R R R (by omega) (by omega))<|za R R<|zn<|?_
 exact An (k+1) (⟨by omega,by omega⟩) (by omega) (fz ⟨sr,sr,sr,sr,trivial⟩) (gz ⟨rfl,rfl,rfl,trivial⟩)
 refine zk 2 R<|zq R R R<|zn<|A1 (by kernel_rfl) R<|Av<|Ag (by kernel_rfl)<|zp (Aa R R Cx)<|zp (Ab R R G4 R R)<|zp (Ac (Ad R R Mp R lb))<|XL.step R (Vf 68 (cs:= [.own 7301, .own 7302]) R Tryz.underlying28 Mw Gm R R (by decide) (by decide))<|?_
 refine XL.step R (Gq [7301,7302] (lr:=((m.cells.take (k+1)).map K1).set k [.own 7301, .own 7302]) R Zb (.own R) (SrcT.ownS R) (by unfold maxLen;simp;omega) (by simp;omega) (N3 hx _) (D8 (Je [] _) (Gg (R) (R)) _) R)<|?_
 have hvt:(x.voices.take j).map L4=(Up x).voices.map Vo.t:=by rw [J6 (l:=x.voices) hj3 (by omega),Xw];rfl
 refine XL.closeR (i:=7402) (j:=7301) (k:=k) (m:=0) (l':=((m.cells.take (k+1)).map K1).set k [.row 84 2 (((x.clefs.take 8).map Cf.c).map (·.map T.d)), .own 7302]) [7302] R R R (Db (Dz hx)) R (List.set_set ..) (D8 (Je [] _) (Gg (E3 (T.inLL_d _ _)) (R)) _) R<|?_
 refine XL.closeT (i:=7402) (j:=7302) (k:=k) (m:=1) (l':=((m.cells.take (k+1)).map K1).set k [.row 84 2 (((x.clefs.take 8).map Cf.c).map (·.map T.d)), .row 82 2 ((x.voices.take j).map L4)]) [] R R R (Db (Dz hx)) R (List.set_set ..) (D8 (Je [] _) (Gg (E3 (T.inLL_d _ _)) (E3 (T.nil_in (Lp [] _) _))) _) R<|?_
 refine XL.rowqT (i:=7402) (l':=(m.cells.take (k+1)).map K1) [] R (by rw [hvt];exact set_same (Dz hx)) (Je [] _)<|zp (Aa R R Cx)<|?_
 refine XL.step R (Af (l':= [.d (dI m.h.site), .d (dI m.h.num), .d (dI m.h.m.count), .d (dI m.h.m.unit), .d (dI m.h.m.g0), .d (dI m.h.m.g1), .d (dI m.h.m.g2), .d (dI m.h.m.g3), .d (dI m.h.m.g4), .d (dI m.h.m.g5), .d (dI m.h.len), .d (dI m.h.fifths), .d (dB m.h.start), .d (dI m.h.fin), .d (dI m.h.ends), .d (dI m.h.jump), .d (dI m.h.labels), .d (dI m.h.swing), .d (dI m.h.brk), .d (.v (.string ⟨m.h.reh.toArray⟩)), .d (.sl 3 (m.tempi.map Tm.c)), .own 7402]) R R R R Tf R lb (by kernel_rfl))<|?_
 refine zn<|Ag (by kernel_rfl)<|zm R R<|zp (Am R R R (by omega) (by omega))<|za R R<|zn<|?_
 exact An (k+1) (⟨by omega,by omega⟩) (by omega) (fz ⟨sr,sr,sr,sr,trivial⟩) (gz ⟨rfl,rfl,rfl,trivial⟩)
 refine Av<|zr<|XL.step R (Bj 7401 R Tryz.underlying27 Pa Lu R R (by omega) (by omega))<|zp (Aa R R Fb)<|zp (Ab R R Qt R R)<|zp (Aa R R Fb)<|zp (Ab R R Qt R R)<|XL.len R R R Tryz.underlying27 fun hl76=>zp (Fq R R R)<|zp (Kq R R R Ou)<|?_
 refine XL.step R (A4 R Zc (.own R) (Src.sl (by omega)) (by unfold maxLen;simp;omega) (by simp;omega))<|zp (Aa R R Fb)<|?_
 refine XL.step R (Af (l':= [.d (dI m.h.site), .d (dI m.h.num), .d (dI m.h.m.count), .d (dI m.h.m.unit), .d (dI m.h.m.g0), .d (dI m.h.m.g1), .d (dI m.h.m.g2), .d (dI m.h.m.g3), .d (dI m.h.m.g4), .d (dI m.h.m.g5), .d (dI m.h.len), .d (dI m.h.fifths), .d (dB m.h.start), .d (dI m.h.fin), .d (dI m.h.ends), .d (dI m.h.jump), .d (dI m.h.labels), .d (dI m.h.swing), .d (dI m.h.brk), .d (.v (.string ⟨m.h.reh.toArray⟩)), .own 7401, .own 7402]) R R R R Tg R lb (by kernel_rfl))<|?_
 refine znr<|zp (Aa R R Jh)<|zp (Ab R R J8 R R)<|zp (Aa R R Jh)<|zp (Ab R R J8 R R)<|zp (Ks R R Tryz.underlying9)<|zp (Fq R R R)<|zp (Ut R R R Tryz.underlying9)<|zp (Aa R R Jh)<|?_
 refine XL.step R (Af (l':= [.d (dI m.h.site), .d (dI m.h.num), .d (dI m.h.m.count), .d (dI m.h.m.unit), .d (dI m.h.m.g0), .d (dI m.h.m.g1), .d (dI m.h.m.g2), .d (dI m.h.m.g3), .d (dI m.h.m.g4), .d (dI m.h.m.g5), .d (dI m.h.len), .d (dI m.h.fifths), .d (dB m.h.start), .d (dI m.h.fin), .d (dI m.h.ends), .d (dI m.h.jump), .d (dI m.h.labels), .d (dI m.h.swing), .d (dI m.h.brk), .d (.v (.string ⟨(m.h.reh.take 30).toArray⟩)), .own 7401, .own 7402]) R R R R Ake R lb (by kernel_rfl))<|?_
 refine znr<|zp (Ac (Ad R R Co R lb))<|?_
 refine XL.step R (Af (l':= [.d (dI m.h.site), .d (dI m.h.num), .d (dI m.h.m.count), .d (dI m.h.m.unit), .d (dI m.h.m.g0), .d (dI m.h.m.g1), .d (dI m.h.m.g2), .d (dI m.h.m.g3), .d (dI m.h.m.g4), .d (dI m.h.m.g5), .d (dI m.h.len), .d (dI m.h.fifths), .d (dB m.h.start), .d (dI m.h.fin), .d (dI m.h.ends), .d (dI m.h.jump), .d (dI m.h.labels), .d (dI m.h.swing), .d (dI m.h.brk), .d (.v (.string ⟨(m.h.reh.take 30).toArray⟩)), .own 7401, .own 7402]) R R R R Gl R lb (by kernel_rfl))<|?_
 refine zn<|zt<|?_
 exact ⟨Ci R (RVS.eq (RVS.cells (i:=2) R R R Co lb) R),HSub.cons (R) (HSub.cons (by rw [J6 (l:=m.cells) hk4 (by omega),Xx];rfl) (HSub.nil))⟩
 refine zk 2 R<|zq R R R<|zn<|A1 (by kernel_rfl) R<|Av<|zr<|XL.step R (Bj 7401 R Tryz.underlying27 Pa Lu R R (by omega) (by omega))<|zp (Aa R R Fb)<|zp (Ab R R Qt R R)<|zp (Aa R R Fb)<|zp (Ab R R Qt R R)<|XL.len R R R Tryz.underlying27 fun hl76=>zp (Fq R R R)<|zp (Kq R R R Ou)<|?_
 refine XL.step R (A4 R Zc (.own R) (Src.sl (by omega)) (by unfold maxLen;simp;omega) (by simp;omega))<|zp (Aa R R Fb)<|?_
 refine XL.step R (Af (l':= [.d (dI m.h.site), .d (dI m.h.num), .d (dI m.h.m.count), .d (dI m.h.m.unit), .d (dI m.h.m.g0), .d (dI m.h.m.g1), .d (dI m.h.m.g2), .d (dI m.h.m.g3), .d (dI m.h.m.g4), .d (dI m.h.m.g5), .d (dI m.h.len), .d (dI m.h.fifths), .d (dB m.h.start), .d (dI m.h.fin), .d (dI m.h.ends), .d (dI m.h.jump), .d (dI m.h.labels), .d (dI m.h.swing), .d (dI m.h.brk), .d (.v (.string ⟨m.h.reh.toArray⟩)), .own 7401, .own 7402]) R R R R Tg R lb (by kernel_rfl))<|?_
 refine znr<|zp (Aa R R Jh)<|zp (Ab R R J8 R R)<|zp (Aa R R Jh)<|zp (Ab R R J8 R R)<|zp (Ks R R Tryz.underlying9)<|zp (Fq R R R)<|zp (Ut R R R Tryz.underlying9)<|zp (Aa R R Jh)<|?_
 refine XL.step R (Af (l':= [.d (dI m.h.site), .d (dI m.h.num), .d (dI m.h.m.count), .d (dI m.h.m.unit), .d (dI m.h.m.g0), .d (dI m.h.m.g1), .d (dI m.h.m.g2), .d (dI m.h.m.g3), .d (dI m.h.m.g4), .d (dI m.h.m.g5), .d (dI m.h.len), .d (dI m.h.fifths), .d (dB m.h.start), .d (dI m.h.fin), .d (dI m.h.ends), .d (dI m.h.jump), .d (dI m.h.labels), .d (dI m.h.swing), .d (dI m.h.brk), .d (.v (.string ⟨(m.h.reh.take 30).toArray⟩)), .own 7401, .own 7402]) R R R R Ake R lb (by kernel_rfl))<|?_
 refine znr<|zp (Ac (Ad R R Co R lb))<|?_
 refine XL.step R (Af (l':= [.d (dI m.h.site), .d (dI m.h.num), .d (dI m.h.m.count), .d (dI m.h.m.unit), .d (dI m.h.m.g0), .d (dI m.h.m.g1), .d (dI m.h.m.g2), .d (dI m.h.m.g3), .d (dI m.h.m.g4), .d (dI m.h.m.g5), .d (dI m.h.len), .d (dI m.h.fifths), .d (dB m.h.start), .d (dI m.h.fin), .d (dI m.h.ends), .d (dI m.h.jump), .d (dI m.h.labels), .d (dI m.h.swing), .d (dI m.h.brk), .d (.v (.string ⟨(m.h.reh.take 30).toArray⟩)), .own 7401, .own 7402]) R R R R Gl R lb (by kernel_rfl))<|?_
 refine zn<|zt<|?_
 exact ⟨Ci R (RVS.eq (RVS.cells (i:=2) R R R Co lb) R),HSub.cons (R) (HSub.cons (by rw [J6 (l:=m.cells) hk4 (by omega),Xx];rfl) (HSub.nil))⟩
theorem XS.xc2 {P:Program} {F:FuncId} {ds:List D} {s:S} {i j:Nat} {e e2:TypeId} {sz sz2:Nat} {l l2:List (List D)} {t:List (List T)} {d:D} (hx:XS P F ds s [(i, .row e sz l),(j, .tree e2 sz2 [] t)]) (hj:((mkH [(i, .row e sz l),(j, .tree e2 sz2 [] t)]).frz i (.sl sz l)) j=some (.tree e2 sz2 [] t)) (hf:T.fzLL t=true) (ht:T.toDLL t=l2)
  (hd:norm ((s.frz i (.sl sz l)).frz j (.sl sz2 l2))= .d d):XC P F ds (fun r=>r=d):=
 ⟨hx.callable, fun H w vs h1 h2 h3 => (hx.calls H w vs h1 h2 h3).mono fun e w' ⟨H', β, u, he, k1, k2, k3⟩ => by
  obtain ⟨H2,q1,q2,q3⟩:=k1.freeze (i:=i) (by simp only [mkH];exact Xh.set_same _ _ _)
  obtain ⟨H3,p1,p2,p3⟩:=q3.freezeT (i:=j) hj hf
  rw [ht] at p2
  have hv:=VS.norm (((k2.mono (q1.trans p1) fun _ _ h=>h).frz i _ (fun L hL=>(q2 L hL).mono p1)).frz j _ p2)
  rw [hd] at hv
  exact ⟨H3, u, d, he, rfl, p3.ext, fun b o u e => p3.new b o u e, p3.imm, p3.below, Dx hv⟩⟩
theorem Akl (m:Ms) (h:m.room):XC Tryz.prog 14 [.agg (Ms.c m)] (fun r=>r= .agg (Ms.c (E1 m))):=(Akk m h).xc2 rfl (Ces.t_fz _) (Ces.t_D _) rfl
end Go.Proofs.YtaafemnkamfgnaaGreat
namespace Go.Proofs.YtaafemnkamfgnaaGreat
open Go.RowKit
structure DelG {α:Type} (p:α→Bool) (xs:List α) (j i:Nat) (W:List α):Prop where
 lt:i<j
 le:j≤xs.length
 len:W.length=xs.length
 take:W.take i=(xs.take j).filter p
 drop:W.drop j=xs.drop j
section
variable {α:Type} {p:α→Bool} {xs W:List α} {j i:Nat}
theorem Aee {l:List α} {k:Nat} {g:α} (h:l[k]? =some g) (hg:p g=false):(l.take (k+1)).filter p=(l.take k).filter p:=by rw [Bl h,List.filter_append,List.filter_cons_of_neg (by rw [hg];exact Bool.false_ne_true),List.filter_nil,List.append_nil]
theorem S0 {l:List α} {k:Nat} {g:α} (h:l[k]? =some g) (hg:p g=true):(l.take (k+1)).filter p=(l.take k).filter p++ [g]:=by rw [Bl h,List.filter_append,List.filter_cons_of_pos hg,List.filter_nil]
theorem DelG.get (h:DelG p xs j i W) {g:α} (hg:xs[j]? =some g):W[j]? =some g:=by
 have:=congrArg (fun l=>l[0]?) h.drop
 simpa [List.getElem?_drop,hg] using this
theorem DelG.keep (h:DelG p xs j i W) {g:α} (hg:xs[j]? =some g) (h0:p g=false):DelG p xs (j+1) i W:=by
 have:=(List.getElem?_eq_some_iff.1 hg).1
 have:=h.lt
 refine ⟨by omega,by omega,h.len,by rw [Aee hg h0];exact h.take, ?_⟩
 rw [←List.drop_drop,h.drop,List.drop_drop]
theorem DelG.put (h:DelG p xs j i W) {g:α} (hg:xs[j]? =some g) (h0:p g=true):DelG p xs (j+1) (i+1) (W.set i g):=by
 have h1:=(List.getElem?_eq_some_iff.1 hg).1
 have h2:=h.lt
 have h3:=h.len
 refine ⟨by omega,by omega,by rw [List.length_set];exact h3, ?_, ?_⟩
 ·rw [S0 hg h0, ←h.take,List.take_succ_eq_append_getElem (by rw [List.length_set];omega),List.getElem_set_self,List.take_set_of_le (Nat.le_refl _)]
 ·rw [List.drop_set_of_lt (by omega), ←List.drop_drop,h.drop,List.drop_drop]
theorem DelG.start {k:Nat} {g:α} (hg:xs[k]? =some g) (h0:p g=false) (hk:(xs.take k).filter p=xs.take k):DelG p xs (k+1) k xs:=
 ⟨by omega,by have:=(List.getElem?_eq_some_iff.1 hg).1;omega,rfl,by rw [Aee hg h0,hk],rfl⟩
theorem DelG.fin (h:DelG p xs j i W) (hj:j=xs.length):W.take i=xs.filter p:=by rw [h.take,hj,List.take_length]
theorem DelG.clr (h:DelG p xs j i W) {g:α→List D} {z:α} {zs:List D} (hz:zs=g z):sets (W.map g) i (List.replicate ((W.map g).length - i) zs)=(W.take i++List.replicate (W.length - i) z).map g:=by
 have:=h.lt;have:=h.le;have:=h.len
 subst hz
 rw [Jf _ _ _ (by rw [List.length_replicate,List.length_map];omega),List.drop_eq_nil_of_le (by rw [List.length_replicate,List.length_map];omega),List.append_nil,List.map_append,List.map_take,List.map_replicate,List.length_map]
theorem DelG.cut (h:DelG p xs j i W) {g:α→List D} {z:α}:(((W.take i++List.replicate (W.length - i) z).map g).take i)=(W.take i).map g:=by
 have:=h.lt;have:=h.le;have:=h.len
 rw [←List.map_take,List.take_append_of_le_length (by rw [List.length_take];omega),List.take_take,Nat.min_self]
end
def cfK (n:Int) (x:Cf):Bool:=decide (¬n≤x.tk)
def tmK (n:Int) (x:Tm):Bool:=decide (¬n≤x.tk)
theorem Ajs {n:Int} {x:Cf} (h:n≤x.tk):cfK n x=false:=by rw [cfK,decide_eq_false];exact fun k=>k h
theorem Aer {n:Int} {x:Cf} (h:¬n≤x.tk):cfK n x=true:=by rw [cfK,decide_eq_true h]
theorem Ag8 {n:Int} {x:Tm} (h:n≤x.tk):tmK n x=false:=by rw [tmK,decide_eq_false];exact fun k=>k h
theorem Adp {n:Int} {x:Tm} (h:¬n≤x.tk):tmK n x=true:=by rw [tmK,decide_eq_true h]
def Cn (old p:Pl) (c:Ce):Ce:=⟨c.clefs.filter (cfK p.len),c.voices.map fun v=>(D9 v old p).1⟩
def In (old p:Pl):List Vo→Int
 | []=>0
 |v::l=>if (D9 v old p).2≠0 then (D9 v old p).2 else In old p l
def Jy (old p:Pl):List Ce→Int
 | []=>0
 |c::l=>if In old p c.voices≠0 then In old p c.voices else Jy old p l
theorem Alz {old p:Pl} {l:List Vo} {k:Nat} {v:Vo} (hv:l[k]? =some v) (h:(D9 v old p).2=0):In old p (l.drop k)=In old p (l.drop (k+1)):=by rw [Br hv,In,if_neg (by omega)]
theorem Y2 {old p:Pl} {l:List Vo} {k:Nat} {v:Vo} (hv:l[k]? =some v) (h:(D9 v old p).2≠0):In old p (l.drop k)=(D9 v old p).2:=by rw [Br hv,In,if_pos h]
theorem Y3 {old p:Pl} {l:List Ce} {k:Nat} {c:Ce} (hc:l[k]? =some c) (h:In old p c.voices=0):Jy old p (l.drop k)=Jy old p (l.drop (k+1)):=by rw [Br hc,Jy,if_neg (by omega)]
theorem Al0 {old p:Pl} {l:List Ce} {k:Nat} {c:Ce} (hc:l[k]? =some c) (h:In old p c.voices≠0):Jy old p (l.drop k)=In old p c.voices:=by rw [Br hc,Jy,if_pos h]
def Mh.z:Mh:=⟨0,0,Me.z,0,0,false,0,0,0,0,0,0, []⟩
def Ms.z:Ms:=⟨Mh.z, [], []⟩
def Aga (m:Ms) (t:Me) (n:Int) (old p:Pl):Ms:=⟨m.h.sh t n,m.tempi.filter (tmK p.len),m.cells.map (Cn old p)⟩
def I9 (m:Ms) (t:Me) (n:Int):Int:=if mlE m.h.m m.h.len≠0 then mlE m.h.m m.h.len else if mlE t n≠0 then mlE t n else Jy (plS m.h.m m.h.len) (plS t n) m.cells
def Mm (m:Ms) (t:Me) (n:Int):Ms:=if I9 m t n≠0 then Ms.z else Aga m t n (plS m.h.m m.h.len) (plS t n)
theorem Atk {m:Ms} {t:Me} {n:Int} (h:mlE m.h.m m.h.len≠0):I9 m t n=mlE m.h.m m.h.len∧Mm m t n=Ms.z:=by
 have e:I9 m t n=mlE m.h.m m.h.len:=by rw [I9,if_pos h]
 exact ⟨e,by rw [Mm,e,if_pos h]⟩
theorem Ari {m:Ms} {t:Me} {n:Int} (h:¬mlE m.h.m m.h.len≠0) (h2:mlE t n≠0):I9 m t n=mlE t n∧Mm m t n=Ms.z:=by
 have e:I9 m t n=mlE t n:=by rw [I9,if_neg h,if_pos h2]
 exact ⟨e,by rw [Mm,e,if_pos h2]⟩
theorem Atj {m:Ms} {t:Me} {n e:Int} (h:¬mlE m.h.m m.h.len≠0) (h2:¬mlE t n≠0) (h3:Jy (plS m.h.m m.h.len) (plS t n) m.cells=e) (h4:e≠0):I9 m t n=e∧Mm m t n=Ms.z:=by
 have e:I9 m t n=e:=by rw [I9,if_neg h,if_neg h2,h3]
 exact ⟨e,by rw [Mm,e,if_pos h4]⟩
theorem Arh {m:Ms} {t:Me} {n:Int} (h:¬mlE m.h.m m.h.len≠0) (h2:¬mlE t n≠0) (h3:Jy (plS m.h.m m.h.len) (plS t n) m.cells=0):I9 m t n=0∧Mm m t n=Aga m t n (plS m.h.m m.h.len) (plS t n):=by
 have e:I9 m t n=0:=by rw [I9,if_neg h,if_neg h2,h3]
 exact ⟨e,by rw [Mm,e,if_neg (by decide)]⟩
theorem Uz {m m':Ms} {e e':Int} (h:e=e'∧m=m'):D.tup [.agg (Ms.c m'),dI e']= .tup [.agg (Ms.c m),dI e]:=by rw [h.1,h.2]
theorem Alu (h:Mh) (t:Me) (n:Int) (A B:Option Addr) (n0 c0 n1 c1:Nat):XC Tryz.prog 16 [.agg [dI (h.sh t n).site,dI (h.sh t n).num,dI (h.sh t n).m.count,dI (h.sh t n).m.unit,dI (h.sh t n).m.g0,dI (h.sh t n).m.g1,dI (h.sh t n).m.g2,dI (h.sh t n).m.g3,dI (h.sh t n).m.g4,dI (h.sh t n).m.g5,dI (h.sh t n).len,dI (h.sh t n).fifths,dB (h.sh t n).start,dI (h.sh t n).fin,dI (h.sh t n).ends,dI (h.sh t n).jump,dI (h.sh t n).labels,dI (h.sh t n).swing,dI (h.sh t n).brk, .v (.string ⟨(h.sh t n).reh.toArray⟩), .v (.slice A n0 c0), .v (.slice B n1 c1)]] (fun r=>r= .tup [.agg (Pl.c (plS t n)),dI (mlE t n)]):=by
 have k:=Alc (h.sh t n) A B n0 c0 n1 c1
 have e1:plS (h.sh t n).m (h.sh t n).len=plS t n:=Aqe
 have e2:mlE (h.sh t n).m (h.sh t n).len=mlE t n:=Tw
 rw [e1,e2] at k
 exact k
theorem Ahu {t:Me} {n:Int} (h:¬mlE t n≠0):1≤(plS t n).len∧(plS t n).len≤15482880∧0≤(plS t n).off∧(plS t n).off≤123863040:=by
 have k:=Ak8 h
 have hl:=k.me.len
 rw [Akt h]
 exact ⟨k.lo,k.hi,by simp only;omega,by simp only;have:=k.lo;omega⟩
end Go.Proofs.YtaafemnkamfgnaaGreat
namespace Go.Proofs.YtaafemnkamfgnaaGreat
open Go.RowKit
theorem Aor (m:Ms) (t:Me) (n:Int) (hF:m.fit) (hE:m.evs):XC Tryz.prog 28 [.agg (Ms.c m), .agg (Me.c t), .v (.int .i64 n)] (fun r=>r= .tup [.agg (Ms.c (Mm m t n)),dI (I9 m t n)]):=by
 refine Ak Add Tryz.func28 R R lb<|zr<|?_
 refine XL.step R (Ap 3 (l:= [.d (dI m.h.site), .d (dI m.h.num), .d (dI m.h.m.count), .d (dI m.h.m.unit), .d (dI m.h.m.g0), .d (dI m.h.m.g1), .d (dI m.h.m.g2), .d (dI m.h.m.g3), .d (dI m.h.m.g4), .d (dI m.h.m.g5), .d (dI m.h.len), .d (dI m.h.fifths), .d (dB m.h.start), .d (dI m.h.fin), .d (dI m.h.ends), .d (dI m.h.jump), .d (dI m.h.labels), .d (dI m.h.swing), .d (dI m.h.brk), .d (.v (.string ⟨m.h.reh.toArray⟩)), .d (.sl 3 (m.tempi.map Tm.c)), .d (.sl 2 (m.cells.map Ce.c))]) R R (by kernel_rfl))<|?_
 refine XL.step R (Ap 4 (l:= [.d (dI t.count), .d (dI t.unit), .d (dI t.g0), .d (dI t.g1), .d (dI t.g2), .d (dI t.g3), .d (dI t.g4), .d (dI t.g5)]) R R (by kernel_rfl))<|?_
 refine XL.step R (Al 6 (l:= [.d (dI 0), .d (dI 0), .d (dI 0), .d (dI 0), .d (dI 0), .d (dI 0), .d (dI 0), .d (dI 0), .d (dI 0), .d (dI 0), .d (dI 0), .d (dI 0), .d (dB false), .d (dI 0), .d (dI 0), .d (dI 0), .d (dI 0), .d (dI 0), .d (dI 0), .d (.v (.string ⟨#[]⟩)), .d (.v (.slice none 0 0)), .d (.v (.slice none 0 0))]) R F3 (by kernel_rfl))<|za R R<|znr<|?_
 refine zp (Ae (s':= .d (.agg (Ms.c m))) (Ac (Ad R R Co R lb)) (by kernel_rfl))<|XL.call1 R R (Ald m.h m.tempi m.cells) R<|zm R R<|zp (Ao R R R)<|zp (Ao R R R)<|XL.step R (Al 8 (l:= [.d (dI 0), .d (dI 0), .d (dI 0), .d (dI 0), .d (dI 0), .d (dI 0), .d (dI 0), .d (dI 0), .d (dI 0), .d (dI 0)]) R Hh (by kernel_rfl))<|?_
 refine XL.step R (Af (l':= [.d (dI (plS m.h.m m.h.len).m.count), .d (dI (plS m.h.m m.h.len).m.unit), .d (dI (plS m.h.m m.h.len).m.g0), .d (dI (plS m.h.m m.h.len).m.g1), .d (dI (plS m.h.m m.h.len).m.g2), .d (dI (plS m.h.m m.h.len).m.g3), .d (dI (plS m.h.m m.h.len).m.g4), .d (dI (plS m.h.m m.h.len).m.g5), .d (dI (plS m.h.m m.h.len).off), .d (dI (plS m.h.m m.h.len).len)]) R R R R My R lb (by kernel_rfl))<|?_
 refine za R R<|zn<|zs<|zr<|zm R R<|zp (A5 R R R)<|zn<|?_
 refine zd R (fun c21=> ?_) (fun c21=> ?_)
 refine zr<|zp (Ae (s':= .d (.agg [dI 0,dI 0,dI 0,dI 0,dI 0,dI 0,dI 0,dI 0,dI 0,dI 0,dI 0,dI 0,dB false,dI 0,dI 0,dI 0,dI 0,dI 0,dI 0, .v (.string ⟨#[]⟩), .v (.slice none 0 0), .v (.slice none 0 0)])) (Ac (Az R Pc F3 R)) (by kernel_rfl))<|zm R R<|?_
 refine XL.step R (Af (l':= [.d (dI 0), .d (dI 0), .d (dI 0), .d (dI 0), .d (dI 0), .d (dI 0), .d (dI 0), .d (dI 0), .d (dI 0), .d (dI 0), .d (dI 0), .d (dI 0), .d (dB false), .d (dI 0), .d (dI 0), .d (dI 0), .d (dI 0), .d (dI 0), .d (dI 0), .d (.v (.string ⟨#[]⟩)), .d (.v (.slice none 0 0)), .d (.v (.slice none 0 0))]) R R R R Gl R lb (by kernel_rfl))<|za R R<|zn<|zt<|?_
 exact Ax R (RV.sub (RV.cells R R R Co lb R) (.agg (.cons (.same R) (.cons (.same R) (.cons (.same R) (.cons (.same R) (.cons (.same R) (.cons (.same R) (.cons (.same R) (.cons (.same R) (.cons (.same R) (.cons (.same R) (.cons (.same R) (.cons (.same R) (.cons (.same R) (.cons (.same R) (.cons (.same R) (.cons (.same R) (.cons (.same R) (.cons (.same R) (.cons (.same R) (.cons (.same R) (.cons (.nil 3) (.cons (.nil 2) (.nil))))))))))))))))))))))))) (RV.tmp R R) (Uz (Atk c21))
 refine zi<|zs<|?_
 refine Lw 9 10 [7401,7402,10] id 10 (Sr 10 (.box [.d (dI (m.h.sh t n).site), .d (dI (m.h.sh t n).num), .d (dI (m.h.sh t n).m.count), .d (dI (m.h.sh t n).m.unit), .d (dI (m.h.sh t n).m.g0), .d (dI (m.h.sh t n).m.g1), .d (dI (m.h.sh t n).m.g2), .d (dI (m.h.sh t n).m.g3), .d (dI (m.h.sh t n).m.g4), .d (dI (m.h.sh t n).m.g5), .d (dI (m.h.sh t n).len), .d (dI (m.h.sh t n).fifths), .d (dB (m.h.sh t n).start), .d (dI (m.h.sh t n).fin), .d (dI (m.h.sh t n).ends), .d (dI (m.h.sh t n).jump), .d (dI (m.h.sh t n).labels), .d (dI (m.h.sh t n).swing), .d (dI (m.h.sh t n).brk), .d (.v (.string ⟨(m.h.sh t n).reh.toArray⟩)), .own 7401, .own 7402])) (by kernel_rfl) (by kernel_rfl) (by kernel_rfl) (by kernel_rfl) R (by decide)<|?_
 refine ChMK.bf R (CStep.pure (Ae (s':= .d (.agg (Ms.c m))) (Ac (Ad R R Co R lb)) (by kernel_rfl))) (by conv=>lhs;whnf)<|?_
 refine ChMK.bfS R (CStep.callS R (Aif _ (by assumption)) R (Mg (by kernel_rfl))) (by conv=>lhs;whnf) (by simp only [List.forall_mem_cons];exact ⟨rfl,⟨rfl,fun p hp=>(by cases hp)⟩⟩) (by simp only [List.forall_mem_cons];exact ⟨rfl,⟨rfl,fun p hp=>(by cases hp)⟩⟩)<|?_
 refine ChMK.bf R (CStep.pure (Ae (s':= .d (.agg (Me.c t))) (Ac (Ad R R Bk R lb)) (by kernel_rfl))) (by conv=>lhs;whnf)<|?_
 refine ChMK.bf R (CStep.pure (As R (by conv=>lhs;whnf))) (by conv=>lhs;whnf)<|?_
 refine ChMK.bf R (CStep.callP [7401,7402] R [.agg [.d (dI m.h.site), .d (dI m.h.num), .d (dI m.h.m.count), .d (dI m.h.m.unit), .d (dI m.h.m.g0), .d (dI m.h.m.g1), .d (dI m.h.m.g2), .d (dI m.h.m.g3), .d (dI m.h.m.g4), .d (dI m.h.m.g5), .d (dI m.h.len), .d (dI m.h.fifths), .d (dB m.h.start), .d (dI m.h.fin), .d (dI m.h.ends), .d (dI m.h.jump), .d (dI m.h.labels), .d (dI m.h.swing), .d (dI m.h.brk), .d (.v (.string ⟨m.h.reh.toArray⟩)), .own 7401, .own 7402], .d (.agg (Me.c t)), .d (dI n)] R (s:= .tup [.agg [.d (dI (m.h.sh t n).site), .d (dI (m.h.sh t n).num), .d (dI (m.h.sh t n).m.count), .d (dI (m.h.sh t n).m.unit), .d (dI (m.h.sh t n).m.g0), .d (dI (m.h.sh t n).m.g1), .d (dI (m.h.sh t n).m.g2), .d (dI (m.h.sh t n).m.g3), .d (dI (m.h.sh t n).m.g4), .d (dI (m.h.sh t n).m.g5), .d (dI (m.h.sh t n).len), .d (dI (m.h.sh t n).fifths), .d (dB (m.h.sh t n).start), .d (dI (m.h.sh t n).fin), .d (dI (m.h.sh t n).ends), .d (dI (m.h.sh t n).jump), .d (dI (m.h.sh t n).labels), .d (dI (m.h.sh t n).swing), .d (dI (m.h.sh t n).brk), .d (.v (.string ⟨(m.h.sh t n).reh.toArray⟩)), .own 7401, .own 7402], .d (dI (mlE t n))]) (fun ρ=>Akm m.h _ _ _ _ _ _ t n) R R R R) (by conv=>lhs;whnf)<|?_
 refine ChMK.bf R (CStep.pure (As R (by conv=>lhs;whnf))) (by conv=>lhs;whnf)<|?_
 refine ChMK.bf R (CStep.pure (Yc R R R)) (by conv=>lhs;whnf)<|?_
 refine ChMK.fr R R (CStep.pure (Yc R R R)) (CStep.pure (Yc R R R)) (by exact rfl)<|?_
 refine ChMK.bfO R (CStep.allocN 10 (l:= [.d (dI 0), .d (dI 0), .d (dI 0), .d (dI 0), .d (dI 0), .d (dI 0), .d (dI 0), .d (dI 0), .d (dI 0), .d (dI 0), .d (dI 0), .d (dI 0), .d (dB false), .d (dI 0), .d (dI 0), .d (dI 0), .d (dI 0), .d (dI 0), .d (dI 0), .d (.v (.string ⟨#[]⟩)), .d (.v (.slice none 0 0)), .d (.v (.slice none 0 0))]) R F3 R R) (by conv=>lhs;whnf) (fun _ _=>Alb _ _)<|?_
 refine ChMK.mu R (Aos (l2:= [.d (dI (m.h.sh t n).site), .d (dI (m.h.sh t n).num), .d (dI (m.h.sh t n).m.count), .d (dI (m.h.sh t n).m.unit), .d (dI (m.h.sh t n).m.g0), .d (dI (m.h.sh t n).m.g1), .d (dI (m.h.sh t n).m.g2), .d (dI (m.h.sh t n).m.g3), .d (dI (m.h.sh t n).m.g4), .d (dI (m.h.sh t n).m.g5), .d (dI (m.h.sh t n).len), .d (dI (m.h.sh t n).fifths), .d (dB (m.h.sh t n).start), .d (dI (m.h.sh t n).fin), .d (dI (m.h.sh t n).ends), .d (dI (m.h.sh t n).jump), .d (dI (m.h.sh t n).labels), .d (dI (m.h.sh t n).swing), .d (dI (m.h.sh t n).brk), .d (.v (.string ⟨(m.h.sh t n).reh.toArray⟩)), .own 7401, .own 7402]) R R R R Gl R lb (by kernel_rfl))<|?_
 refine ChMK.nil ⟨⟨by kernel_rfl,by kernel_rfl,by kernel_rfl⟩, ?_⟩
 refine za R R<|zn<|zs<|zr<|zm R R<|zp (A5 R R R)<|zn<|?_
 refine zd R (fun c33=> ?_) (fun c33=> ?_)
 refine zr<|zp (Ae (s':= .d (.agg [dI 0,dI 0,dI 0,dI 0,dI 0,dI 0,dI 0,dI 0,dI 0,dI 0,dI 0,dI 0,dB false,dI 0,dI 0,dI 0,dI 0,dI 0,dI 0, .v (.string ⟨#[]⟩), .v (.slice none 0 0), .v (.slice none 0 0)])) (Ac (Az R Pc F3 R)) (by kernel_rfl))<|zm R R<|?_
 refine XL.step R (Af (l':= [.d (dI 0), .d (dI 0), .d (dI 0), .d (dI 0), .d (dI 0), .d (dI 0), .d (dI 0), .d (dI 0), .d (dI 0), .d (dI 0), .d (dI 0), .d (dI 0), .d (dB false), .d (dI 0), .d (dI 0), .d (dI 0), .d (dI 0), .d (dI 0), .d (dI 0), .d (.v (.string ⟨#[]⟩)), .d (.v (.slice none 0 0)), .d (.v (.slice none 0 0))]) R R R R Gl R lb (by kernel_rfl))<|za R R<|zn<|zt<|?_
 exact Ax R (RV.sub (RV.cells R R R Co lb R) (.agg (.cons (.same R) (.cons (.same R) (.cons (.same R) (.cons (.same R) (.cons (.same R) (.cons (.same R) (.cons (.same R) (.cons (.same R) (.cons (.same R) (.cons (.same R) (.cons (.same R) (.cons (.same R) (.cons (.same R) (.cons (.same R) (.cons (.same R) (.cons (.same R) (.cons (.same R) (.cons (.same R) (.cons (.same R) (.cons (.same R) (.cons (.nil 3) (.cons (.nil 2) (.nil))))))))))))))))))))))))) (RV.tmp R R) (Uz (Ari c21 c33))
 refine zi<|zr<|zp (Ac (Ad R R Co R lb))<|?_
 refine XL.callP [7401,7402] R R [.agg [.d (dI (m.h.sh t n).site), .d (dI (m.h.sh t n).num), .d (dI (m.h.sh t n).m.count), .d (dI (m.h.sh t n).m.unit), .d (dI (m.h.sh t n).m.g0), .d (dI (m.h.sh t n).m.g1), .d (dI (m.h.sh t n).m.g2), .d (dI (m.h.sh t n).m.g3), .d (dI (m.h.sh t n).m.g4), .d (dI (m.h.sh t n).m.g5), .d (dI (m.h.sh t n).len), .d (dI (m.h.sh t n).fifths), .d (dB (m.h.sh t n).start), .d (dI (m.h.sh t n).fin), .d (dI (m.h.sh t n).ends), .d (dI (m.h.sh t n).jump), .d (dI (m.h.sh t n).labels), .d (dI (m.h.sh t n).swing), .d (dI (m.h.sh t n).brk), .d (.v (.string ⟨(m.h.sh t n).reh.toArray⟩)), .own 7401, .own 7402]] R (s:= .d (.tup [.agg (Pl.c (plS t n)),dI (mlE t n)])) (fun ρ=>Alu m.h t n _ _ _ _ _ _) R R R R<|?_
 refine zm R R<|zp (Ao R R R)<|zp (Ao R R R)<|XL.step R (Al 11 (l:= [.d (dI 0), .d (dI 0), .d (dI 0), .d (dI 0), .d (dI 0), .d (dI 0), .d (dI 0), .d (dI 0), .d (dI 0), .d (dI 0)]) R Hh (by kernel_rfl))<|?_
 refine XL.step R (Af (l':= [.d (dI (plS t n).m.count), .d (dI (plS t n).m.unit), .d (dI (plS t n).m.g0), .d (dI (plS t n).m.g1), .d (dI (plS t n).m.g2), .d (dI (plS t n).m.g3), .d (dI (plS t n).m.g4), .d (dI (plS t n).m.g5), .d (dI (plS t n).off), .d (dI (plS t n).len)]) R R R R My R lb (by kernel_rfl))<|za R R<|zn<|zs<|zr<|zm R R<|zp (A5 R R R)<|zn<|?_
 refine zd R (fun c42=> ?_) (fun c42=> ?_)
 refine zr<|zp (Ae (s':= .d (.agg [dI 0,dI 0,dI 0,dI 0,dI 0,dI 0,dI 0,dI 0,dI 0,dI 0,dI 0,dI 0,dB false,dI 0,dI 0,dI 0,dI 0,dI 0,dI 0, .v (.string ⟨#[]⟩), .v (.slice none 0 0), .v (.slice none 0 0)])) (Ac (Az R Pc F3 R)) (by kernel_rfl))<|zm R R<|?_
 refine XL.step R (Af (l':= [.d (dI 0), .d (dI 0), .d (dI 0), .d (dI 0), .d (dI 0), .d (dI 0), .d (dI 0), .d (dI 0), .d (dI 0), .d (dI 0), .d (dI 0), .d (dI 0), .d (dB false), .d (dI 0), .d (dI 0), .d (dI 0), .d (dI 0), .d (dI 0), .d (dI 0), .d (.v (.string ⟨#[]⟩)), .d (.v (.slice none 0 0)), .d (.v (.slice none 0 0))]) R R R R Gl R lb (by kernel_rfl))<|za R R<|zn<|zt<|?_
 exact Ax R (RV.sub (RV.cells R R R Co lb R) (.agg (.cons (.same R) (.cons (.same R) (.cons (.same R) (.cons (.same R) (.cons (.same R) (.cons (.same R) (.cons (.same R) (.cons (.same R) (.cons (.same R) (.cons (.same R) (.cons (.same R) (.cons (.same R) (.cons (.same R) (.cons (.same R) (.cons (.same R) (.cons (.same R) (.cons (.same R) (.cons (.same R) (.cons (.same R) (.cons (.same R) (.cons (.nil 3) (.cons (.nil 2) (.nil))))))))))))))))))))))))) (RV.tmp R R) (Uz (Ari c21 c42))
 refine zi<|zs<|zs<|?_
 have h1:=hF.tempi
 have h2:=hF.cells
 have hO:=Ahu c21
 have hP:=Ahu (t:=t) (n:=n) c33
 refine Ag (by kernel_rfl)<|XL.freezeP 8 (ds:=Pl.c (plS m.h.m m.h.len)) R (by kernel_rfl) (by kernel_rfl)<|XL.freezeP 11 (ds:=Pl.c (plS t n)) R (by kernel_rfl) (by kernel_rfl)<|zp (Aa R R Cx)<|zp (Ab R R G4 R R)<|zp (Ae (s':= .d (dI m.cells.length)) (Tr R R R Tryz.underlying28) (sI (by rw [List.length_map])))<|zm R R<|zn<|Ah<|?_
 refine A0 (α:=Nat) (fun k=>k≤m.cells.length∧Jy (plS m.h.m m.h.len) (plS t n) (m.cells.drop k)=Jy (plS m.h.m m.h.len) (plS t n) m.cells) (fun k=>mkF [(6, .ptr 6 0 0),(8, .d (.pt (Pl.c (plS m.h.m m.h.len)))),(10, .ptr 10 0 0),(11, .d (.pt (Pl.c (plS t n)))),(47, .d (dI m.cells.length)),(48, .d (dI k))]) (fun k=>mkH [(6, .box [.d (dI 0), .d (dI 0), .d (dI 0), .d (dI 0), .d (dI 0), .d (dI 0), .d (dI 0), .d (dI 0), .d (dI 0), .d (dI 0), .d (dI 0), .d (dI 0), .d (dB false), .d (dI 0), .d (dI 0), .d (dI 0), .d (dI 0), .d (dI 0), .d (dI 0), .d (.v (.string ⟨#[]⟩)), .d (.v (.slice none 0 0)), .d (.v (.slice none 0 0))]),(10, .box [.d (dI (m.h.sh t n).site), .d (dI (m.h.sh t n).num), .d (dI (m.h.sh t n).m.count), .d (dI (m.h.sh t n).m.unit), .d (dI (m.h.sh t n).m.g0), .d (dI (m.h.sh t n).m.g1), .d (dI (m.h.sh t n).m.g2), .d (dI (m.h.sh t n).m.g3), .d (dI (m.h.sh t n).m.g4), .d (dI (m.h.sh t n).m.g5), .d (dI (m.h.sh t n).len), .d (dI (m.h.sh t n).fifths), .d (dB (m.h.sh t n).start), .d (dI (m.h.sh t n).fin), .d (dI (m.h.sh t n).ends), .d (dI (m.h.sh t n).jump), .d (dI (m.h.sh t n).labels), .d (dI (m.h.sh t n).swing), .d (dI (m.h.sh t n).brk), .d (.v (.string ⟨(m.h.sh t n).reh.toArray⟩)), .own 7401, .own 7402]),(7401, .row 119 3 ((m.tempi).map Tm.c)),(7402, .tree 78 2 [] (mix Ce.u Ce.t ((m.cells.take k).map (Cn (plS m.h.m m.h.len) (plS t n))) (m.cells.drop k)))]) (fun k=>m.cells.length - k) (0) (⟨Nat.zero_le _,R⟩) ?_ ?_ ?_
 exact fz ⟨sr,sr,sr,sr,sr,sr,trivial⟩
 exact gz ⟨R,R,R,R,trivial⟩
 intro k hk0
 obtain ⟨hk,hgo⟩:=hk0
 refine zr<|zp (Aq R R R)<|zn<|zs<|?_
 refine zd R (fun c49=> ?_) (fun c49=> ?_)
 have hk0a:k<m.cells.length:=by omega
 obtain ⟨x0,hx0⟩:=Ay hk0a
 refine zi<|zs<|Ah<|zr<|zm R R<|za R R<|znr<|zp (Aa R R Cx)<|zp (Ab R R G4 R R)<|zm R R<|zp (Og R R R (R) R J1 (Yi hk0a))<|zp (Ar R (by conv=>lhs;whnf))<|?_
 refine zn<|zs<|zs<|?_
 have hcl:=(hF.c x0 (List.mem_of_getElem? hx0)).clefs
 have hvl:=(hF.c x0 (List.mem_of_getElem? hx0)).voices
 refine Aj2 (i:=7402) (j:=7502) (k:=k) (m:=1) (l':=(mix Ce.u Ce.t ((m.cells.take k).map (Cn (plS m.h.m m.h.len) (plS t n))) (m.cells.drop k)).set k [.row 84 2 (((x0.clefs).map Cf.c).map (·.map T.d)), .own 7502]) [] (x0.voices.map Vo.t) R R R (Fw hx0) R (Vos.t_in [] _) (R)<|?_
 refine Rs (i:=7402) (j:=7501) (k:=k) (m:=0) (l':=(mix Ce.u Ce.t ((m.cells.take k).map (Cn (plS m.h.m m.h.len) (plS t n))) (m.cells.drop k)).set k [.own 7501, .own 7502]) ((x0.clefs).map Cf.c) R R R (Db (Fw hx0)) R (List.set_set ..)<|Ag (by kernel_rfl)<|zp (As R (by conv=>lhs;whnf))<|?_
 refine zp (Hy R R)<|zp (Aa R R Ep)<|zp (Ae (s':= .own 7502) (Ix R R Iz R (Db (Fw hx0)) R) R)<|zp (Ae (s':= .d (dI x0.voices.length)) (Tr R R R Tryz.underlying76) (sI (by rw [List.length_map])))<|zm R R<|zn<|Ah<|?_
 refine A0 (α:=Nat) (fun j=>j≤x0.voices.length∧In (plS m.h.m m.h.len) (plS t n) (x0.voices.drop j)=In (plS m.h.m m.h.len) (plS t n) x0.voices) (fun j=>mkF [(6, .ptr 6 0 0),(8, .d (.pt (Pl.c (plS m.h.m m.h.len)))),(10, .ptr 10 0 0),(11, .d (.pt (Pl.c (plS t n)))),(13, .ptr 7402 k 0),(47, .d (dI m.cells.length)),(48, .d (dI k)),(59, .d (dI x0.voices.length)),(60, .d (dI j))]) (fun j=>mkH [(6, .box [.d (dI 0), .d (dI 0), .d (dI 0), .d (dI 0), .d (dI 0), .d (dI 0), .d (dI 0), .d (dI 0), .d (dI 0), .d (dI 0), .d (dI 0), .d (dI 0), .d (dB false), .d (dI 0), .d (dI 0), .d (dI 0), .d (dI 0), .d (dI 0), .d (dI 0), .d (.v (.string ⟨#[]⟩)), .d (.v (.slice none 0 0)), .d (.v (.slice none 0 0))]),(10, .box [.d (dI (m.h.sh t n).site), .d (dI (m.h.sh t n).num), .d (dI (m.h.sh t n).m.count), .d (dI (m.h.sh t n).m.unit), .d (dI (m.h.sh t n).m.g0), .d (dI (m.h.sh t n).m.g1), .d (dI (m.h.sh t n).m.g2), .d (dI (m.h.sh t n).m.g3), .d (dI (m.h.sh t n).m.g4), .d (dI (m.h.sh t n).m.g5), .d (dI (m.h.sh t n).len), .d (dI (m.h.sh t n).fifths), .d (dB (m.h.sh t n).start), .d (dI (m.h.sh t n).fin), .d (dI (m.h.sh t n).ends), .d (dI (m.h.sh t n).jump), .d (dI (m.h.sh t n).labels), .d (dI (m.h.sh t n).swing), .d (dI (m.h.sh t n).brk), .d (.v (.string ⟨(m.h.sh t n).reh.toArray⟩)), .own 7401, .own 7402]),(7401, .row 119 3 ((m.tempi).map Tm.c)),(7402, .tree 78 2 [7501,7502] ((mix Ce.u Ce.t ((m.cells.take k).map (Cn (plS m.h.m m.h.len) (plS t n))) (m.cells.drop k)).set k [.own 7501, .own 7502])),(7501, .row 84 2 ((x0.clefs).map Cf.c)),(7502, .tree 82 2 [] (mix Vo.u Vo.t ((x0.voices.take j).map (fun v=>(D9 v (plS m.h.m m.h.len) (plS t n)).1)) (x0.voices.drop j)))]) (fun j=>x0.voices.length - j) (0) (⟨Nat.zero_le _,R⟩) ?_ ?_ ?_
 exact fz ⟨sr,sr,sr,sr,sr,sr,sr,sr,sr,trivial⟩
 exact gz ⟨R,R,R,R,R,R,trivial⟩
 intro j hk2
 obtain ⟨hj,hgv⟩:=hk2
 refine zr<|zp (Aq R R R)<|zn<|zs<|?_
 refine zd R (fun c61=> ?_) (fun c61=> ?_)
 have hk2a:j<x0.voices.length:=by omega
 obtain ⟨x2,hx2⟩:=Ay hk2a
 refine zi<|zs<|Ah<|zr<|zm R R<|za R R<|zn<|zs<|?_
 have hfv:=(hF.c x0 (List.mem_of_getElem? hx0)).v x2 (List.mem_of_getElem? hx2)
 have hEv:=hE x0 (List.mem_of_getElem? hx0) x2 (List.mem_of_getElem? hx2)
 have hfl:=hfv.evs
 refine Rs (i:=7502) (j:=7601) (k:=j) (m:=0) (l':=(mix Vo.u Vo.t ((x0.voices.take j).map (fun v=>(D9 v (plS m.h.m m.h.len) (plS t n)).1)) (x0.voices.drop j)).set j [.own 7601, .row 157 4 (((x2.tups).map Tp.c).map (·.map T.d))]) ((x2.evs).map Ev.c) R R R (Fw hx2) R (R)<|?_
 refine Rs (i:=7502) (j:=7602) (k:=j) (m:=1) (l':=(mix Vo.u Vo.t ((x0.voices.take j).map (fun v=>(D9 v (plS m.h.m m.h.len) (plS t n)).1)) (x0.voices.drop j)).set j [.own 7601, .own 7602]) ((x2.tups).map Tp.c) R R R (Db (Fw hx2)) R (List.set_set ..)<|O4 (i:=7602) R<|?_
 refine W9 (i:=7502) (l':=(mix Vo.u Vo.t ((x0.voices.take j).map (fun v=>(D9 v (plS m.h.m m.h.len) (plS t n)).1)) (x0.voices.drop j)).set j [.own 7601, .d (.sl 4 (x2.tups.map Tp.c))]) [7601] R (Tv (Qy [] _ _) R) (D8 (Qy [] _ _) (Gg (R) (R)) _)<|?_
 refine Adl 14 19 20 (S.kills [900001,7601,5003,5004,5005,5006,5029,900002,7001]) (mkH [(6, .box [.d (dI 0), .d (dI 0), .d (dI 0), .d (dI 0), .d (dI 0), .d (dI 0), .d (dI 0), .d (dI 0), .d (dI 0), .d (dI 0), .d (dI 0), .d (dI 0), .d (dB false), .d (dI 0), .d (dI 0), .d (dI 0), .d (dI 0), .d (dI 0), .d (dI 0), .d (.v (.string ⟨#[]⟩)), .d (.v (.slice none 0 0)), .d (.v (.slice none 0 0))]),(10, .box [.d (dI (m.h.sh t n).site), .d (dI (m.h.sh t n).num), .d (dI (m.h.sh t n).m.count), .d (dI (m.h.sh t n).m.unit), .d (dI (m.h.sh t n).m.g0), .d (dI (m.h.sh t n).m.g1), .d (dI (m.h.sh t n).m.g2), .d (dI (m.h.sh t n).m.g3), .d (dI (m.h.sh t n).m.g4), .d (dI (m.h.sh t n).m.g5), .d (dI (m.h.sh t n).len), .d (dI (m.h.sh t n).fifths), .d (dB (m.h.sh t n).start), .d (dI (m.h.sh t n).fin), .d (dI (m.h.sh t n).ends), .d (dI (m.h.sh t n).jump), .d (dI (m.h.sh t n).labels), .d (dI (m.h.sh t n).swing), .d (dI (m.h.sh t n).brk), .d (.v (.string ⟨(m.h.sh t n).reh.toArray⟩)), .own 7401, .own 7402]),(7401, .row 119 3 ((m.tempi).map Tm.c)),(7402, .tree 78 2 [7501,7502] ((mix Ce.u Ce.t ((m.cells.take k).map (Cn (plS m.h.m m.h.len) (plS t n))) (m.cells.drop k)).set k [.own 7501, .own 7502])),(7501, .row 84 2 ((x0.clefs).map Cf.c)),(7502, .tree 82 2 [] ((mix Vo.u Vo.t ((x0.voices.take j).map (fun v=>(D9 v (plS m.h.m m.h.len) (plS t n)).1)) (x0.voices.drop j)).set j [.any, .d (.sl 4 (x2.tups.map Tp.c))]))]) (mkH [(6, .box [.d (dI 0), .d (dI 0), .d (dI 0), .d (dI 0), .d (dI 0), .d (dI 0), .d (dI 0), .d (dI 0), .d (dI 0), .d (dI 0), .d (dI 0), .d (dI 0), .d (dB false), .d (dI 0), .d (dI 0), .d (dI 0), .d (dI 0), .d (dI 0), .d (dI 0), .d (.v (.string ⟨#[]⟩)), .d (.v (.slice none 0 0)), .d (.v (.slice none 0 0))]),(10, .box [.d (dI (m.h.sh t n).site), .d (dI (m.h.sh t n).num), .d (dI (m.h.sh t n).m.count), .d (dI (m.h.sh t n).m.unit), .d (dI (m.h.sh t n).m.g0), .d (dI (m.h.sh t n).m.g1), .d (dI (m.h.sh t n).m.g2), .d (dI (m.h.sh t n).m.g3), .d (dI (m.h.sh t n).m.g4), .d (dI (m.h.sh t n).m.g5), .d (dI (m.h.sh t n).len), .d (dI (m.h.sh t n).fifths), .d (dB (m.h.sh t n).start), .d (dI (m.h.sh t n).fin), .d (dI (m.h.sh t n).ends), .d (dI (m.h.sh t n).jump), .d (dI (m.h.sh t n).labels), .d (dI (m.h.sh t n).swing), .d (dI (m.h.sh t n).brk), .d (.v (.string ⟨(m.h.sh t n).reh.toArray⟩)), .own 7401, .own 7402]),(7401, .row 119 3 ((m.tempi).map Tm.c)),(7402, .tree 78 2 [7501,7502] ((mix Ce.u Ce.t ((m.cells.take k).map (Cn (plS m.h.m m.h.len) (plS t n))) (m.cells.drop k)).set k [.own 7501, .own 7502])),(7501, .row 84 2 ((x0.clefs).map Cf.c)),(7502, .tree 82 2 [] ((mix Vo.u Vo.t ((x0.voices.take j).map (fun v=>(D9 v (plS m.h.m m.h.len) (plS t n)).1)) (x0.voices.drop j)).set j [.d (.sl 13 (((D9 x2 (plS m.h.m m.h.len) (plS t n)).1).evs.map Ev.c)), .d (.sl 4 (((D9 x2 (plS m.h.m m.h.len) (plS t n)).1).tups.map Tp.c))]))]) (by kernel_rfl) (by kernel_rfl) (by kernel_rfl) (by kernel_rfl)<|?_
 refine ChFK.fr R R (CStep.pure (As R (by conv=>lhs;whnf))) (CStep.pure (As R (by conv=>lhs;whnf))) (by exact rfl)<|?_
 refine ChFK.fr R R (CStep.pure (Hy R R)) (CStep.pure (Hy R R)) (by exact rfl)<|ChFK.fr R R (CStep.pure (Aa R R Ep)) (CStep.pure (Aa R R Ep)) (by exact rfl)<|?_
 refine ChFK.fr R R (CStep.pure (Ae (s':= .own 7502) (Ix R R Iz R (Db (Fw hx0)) R) R)) (CStep.pure (Ae (s':= .own 7502) (Ix R R Iz R (Db (Fw hx0)) R) R)) (by exact rfl)<|ChFK.fr R R (CStep.pure (As R (by conv=>lhs;whnf))) (CStep.pure (As R (by conv=>lhs;whnf))) (by exact rfl)<|?_
 refine ChFK.bf R (CStep.pure (As R (by conv=>lhs;whnf))) (by conv=>lhs;whnf)<|?_
 refine ChFK.bf R (CStep.pure (Hy R R)) (by conv=>lhs;whnf)<|?_
 refine ChFK.bf R (CStep.pure (Aa R R Ep)) (by conv=>lhs;whnf)<|?_
 refine ChFK.bf R (CStep.pure (Ae (s':= .own 7502) (Ix R R Iz R (Db (Fw hx0)) R) R)) (by conv=>lhs;whnf)<|?_
 refine ChFK.bf R (CStep.pure (As R (by conv=>lhs;whnf))) (by conv=>lhs;whnf)<|?_
 refine ChFK.bf R (CStep.pure (Og R R R (R) R Q6 (Ahi (Yi hk2a)))) (by conv=>lhs;whnf)<|?_
 refine ChFK.bf R (CStep.pure (Ae (s':=(.agg [.own 7601, .d (.sl 4 (x2.tups.map Tp.c))])) (Yb R R At R (Db (Fw hx2)) lb) (by kernel_rfl))) (by conv=>lhs;whnf)<|?_
 refine ChFK.bf R (CStep.pure (Ae (s':= .d (.agg (Pl.c (plS m.h.m m.h.len)))) (Bc R R Gb lb) (by kernel_rfl))) (by conv=>lhs;whnf)<|?_
 refine ChFK.bf R (CStep.pure (Ae (s':= .d (.agg (Pl.c (plS t n)))) (Bc R R Gb lb) (by kernel_rfl))) (by conv=>lhs;whnf)<|?_
 refine ChFK.mu R (Ar8 900001 [7601,5003,5004,5005,5006,5029,900002,7001] (.d (.tup [.agg (Vo.c (D9 x2 (plS m.h.m m.h.len) (plS t n)).1),dI (D9 x2 (plS m.h.m m.h.len) (plS t n)).2])) (mkH [(6, .box [.d (dI 0), .d (dI 0), .d (dI 0), .d (dI 0), .d (dI 0), .d (dI 0), .d (dI 0), .d (dI 0), .d (dI 0), .d (dI 0), .d (dI 0), .d (dI 0), .d (dB false), .d (dI 0), .d (dI 0), .d (dI 0), .d (dI 0), .d (dI 0), .d (dI 0), .d (.v (.string ⟨#[]⟩)), .d (.v (.slice none 0 0)), .d (.v (.slice none 0 0))]),(10, .box [.d (dI (m.h.sh t n).site), .d (dI (m.h.sh t n).num), .d (dI (m.h.sh t n).m.count), .d (dI (m.h.sh t n).m.unit), .d (dI (m.h.sh t n).m.g0), .d (dI (m.h.sh t n).m.g1), .d (dI (m.h.sh t n).m.g2), .d (dI (m.h.sh t n).m.g3), .d (dI (m.h.sh t n).m.g4), .d (dI (m.h.sh t n).m.g5), .d (dI (m.h.sh t n).len), .d (dI (m.h.sh t n).fifths), .d (dB (m.h.sh t n).start), .d (dI (m.h.sh t n).fin), .d (dI (m.h.sh t n).ends), .d (dI (m.h.sh t n).jump), .d (dI (m.h.sh t n).labels), .d (dI (m.h.sh t n).swing), .d (dI (m.h.sh t n).brk), .d (.v (.string ⟨(m.h.sh t n).reh.toArray⟩)), .own 7401, .own 7402]),(7401, .row 119 3 ((m.tempi).map Tm.c)),(7402, .tree 78 2 [7501,7502] ((mix Ce.u Ce.t ((m.cells.take k).map (Cn (plS m.h.m m.h.len) (plS t n))) (m.cells.drop k)).set k [.own 7501, .own 7502])),(7501, .row 84 2 ((x0.clefs).map Cf.c)),(7502, .tree 82 2 [] ((mix Vo.u Vo.t ((x0.voices.take j).map (fun v=>(D9 v (plS m.h.m m.h.len) (plS t n)).1)) (x0.voices.drop j)).set j [.any, .d (.sl 4 (x2.tups.map Tp.c))]))]) R .d Acy Tryz.func63 R R lb (fun u1 fp1=> ?_)) ?_
 refine Aj5 (i:=7502) (k:=j) (m:=0) (l':=(mix Vo.u Vo.t ((x0.voices.take j).map (fun v=>(D9 v (plS m.h.m m.h.len) (plS t n)).1)) (x0.voices.drop j)).set j [.any, .d (.sl 4 (x2.tups.map Tp.c))]) [] R (Db (Fw hx2)) R (List.set_set ..) (D8 (Qy [] _ _) (Gg (R) (R)) _)<|zr<|XL.step R (Ap 5003 (l:= [.own 7601, .d (.sl 4 (x2.tups.map Tp.c))]) R R (by kernel_rfl))<|?_
 refine XL.step R (Ap 5004 (l:= [.d (dI (plS m.h.m m.h.len).m.count), .d (dI (plS m.h.m m.h.len).m.unit), .d (dI (plS m.h.m m.h.len).m.g0), .d (dI (plS m.h.m m.h.len).m.g1), .d (dI (plS m.h.m m.h.len).m.g2), .d (dI (plS m.h.m m.h.len).m.g3), .d (dI (plS m.h.m m.h.len).m.g4), .d (dI (plS m.h.m m.h.len).m.g5), .d (dI (plS m.h.m m.h.len).off), .d (dI (plS m.h.m m.h.len).len)]) R R (by kernel_rfl))<|?_
 refine XL.step R (Ap 5005 (l:= [.d (dI (plS t n).m.count), .d (dI (plS t n).m.unit), .d (dI (plS t n).m.g0), .d (dI (plS t n).m.g1), .d (dI (plS t n).m.g2), .d (dI (plS t n).m.g3), .d (dI (plS t n).m.g4), .d (dI (plS t n).m.g5), .d (dI (plS t n).off), .d (dI (plS t n).len)]) R R (by kernel_rfl))<|?_
 refine XL.step R (Al 5006 (l:= [.d (.v (.slice none 0 0)), .d (.v (.slice none 0 0))]) R Be (by kernel_rfl))<|za R R<|znr<|za R R<|zn<|zs<|Ah<|zr<|zp (Ac (Ad R R At R lb))<|?_
 refine XL.inl 900002 [(3, .ptr 5003 0 0),(4, .ptr 5004 0 0),(5, .ptr 5005 0 0),(6, .ptr 5006 0 0),(7, .d (dI 0)),(8, .d (dI 0))] R R .d Rm Tryz.func56 R R lb (by simp only [List.forall_mem_cons];exact ⟨⟨Nat.le_of_ble_eq_true rfl,rfl⟩,⟨⟨Nat.le_of_ble_eq_true rfl,rfl⟩,⟨⟨Nat.le_of_ble_eq_true rfl,rfl⟩,⟨⟨Nat.le_of_ble_eq_true rfl,rfl⟩,⟨⟨Nat.le_of_ble_eq_true rfl,rfl⟩,⟨⟨Nat.le_of_ble_eq_true rfl,rfl⟩,fun p hp=>(by cases hp)⟩⟩⟩⟩⟩⟩) fun u2=>?_
 refine zr<|XL.step R (Ap 7001 (l:= [.own 7601, .d (.sl 4 (x2.tups.map Tp.c))]) R R (by kernel_rfl))<|za R R<|znr<|zp (Aa R R Bw)<|zp (Ab R R C8 R R)<|zp (Bz R R R Tryz.underlying79)<|zp (A6 R R R)<|za R R<|zn<|zt<|?_
 refine (Dt (l:= [(3, .ptr 5003 0 0),(4, .ptr 5004 0 0),(5, .ptr 5005 0 0),(6, .ptr 5006 0 0),(7, .d (dI 0)),(8, .d (dI 0))]) (by kernel_rfl) (rs1 R (RV.tmp R R)) ?_).2
 refine zp (Fv R R)<|zm R R<|?_
 refine XL.dec 35 R (fun g35i=> ?_) (fun g35i=> ?_)
 refine zk 5 R<|zq R R R<|zm R R<|zk 12 R<|zq R R R<|za R R<|zn<|Aw (by kernel_rfl) R<|zr<|XL.freeze (i:=7601) R<|zp (Ae (s':= .d (.agg [.sl 13 (x2.evs.map Ev.c), .sl 4 (x2.tups.map Tp.c)])) (Ac (Ad R R At R lb)) (by kernel_rfl))<|XL.step R (Af (l':= [.d (.sl 13 (x2.evs.map Ev.c)), .d (.sl 4 (x2.tups.map Tp.c))]) R R R R Bo R lb (by kernel_rfl))<|za R R<|zn<|?_
 refine zt<|?_
 exact Ju R (by repeat (first|exact GL.z|refine GL.k ?_ rfl|refine GL.f ?_ rfl|refine GL.p ?_ rfl)) (Jl (rs2 R (RV.cells R R R At lb R) (RV.tmp R R)) (congrArg S.d (Mj (Alt (by unfold Vo.same;omega))))) (gz ⟨R,R,R,R,R,R,trivial⟩)
 refine zp (Aa R R Cp)<|zp (Ab R R Ai R R)<|zp (Aa R R Cp)<|zp (Ab R R Ai R R)<|zp (Ba R R R)<|zq R R R<|zm R R<|?_
 refine XL.dec 42 R (fun g42i=> ?_) (fun g42i=> ?_)
 refine zk 12 R<|zq R R R<|za R R<|zn<|Aw (by kernel_rfl) R<|zr<|XL.freeze (i:=7601) R<|zp (Ae (s':= .d (.agg [.sl 13 (x2.evs.map Ev.c), .sl 4 (x2.tups.map Tp.c)])) (Ac (Ad R R At R lb)) (by kernel_rfl))<|XL.step R (Af (l':= [.d (.sl 13 (x2.evs.map Ev.c)), .d (.sl 4 (x2.tups.map Tp.c))]) R R R R Bo R lb (by kernel_rfl))<|za R R<|zn<|zt<|?_
 exact Ju R (by repeat (first|exact GL.z|refine GL.k ?_ rfl|refine GL.f ?_ rfl|refine GL.p ?_ rfl)) (Jl (rs2 R (RV.cells R R R At lb R) (RV.tmp R R)) (congrArg S.d (Mj (Alt (by unfold Vo.same;omega))))) (gz ⟨R,R,R,R,R,R,trivial⟩)
 refine zp (Aa R R Bw)<|zp (Ab R R C8 R R)<|zp (Bz R R R Tryz.underlying79)<|zp (Ba R R R)<|zm R R<|?_
 refine XL.dec 47 R (fun g47i=> ?_) (fun g47i=> ?_)
 obtain ⟨e0,he0⟩:∃e,x2.evs[0]? =some e:=Ay (by omega)
 have hwh:=J4 he0
 refine zp (Aa R R Bw)<|zp (Ab R R C8 R R)<|zp (Cm R R R ((R:(0:Int)=((0:Nat):Int))) R Hr (by first|omega|(simp only [List.length_map];omega)))<|zp (Aa R R Dc)<|zp (Ii R R Ai R (C5 he0) R)<|zp (Ba R R R)<|zq R R R<|zq R R R<|za R R<|zn<|?_
 refine zd R (fun c31i=> ?_) (fun c31i=> ?_)
 refine zr<|XL.freeze (i:=7601) R<|zp (Ae (s':= .d (.agg [.sl 13 (x2.evs.map Ev.c), .sl 4 (x2.tups.map Tp.c)])) (Ac (Ad R R At R lb)) (by kernel_rfl))<|XL.step R (Af (l':= [.d (.sl 13 (x2.evs.map Ev.c)), .d (.sl 4 (x2.tups.map Tp.c))]) R R R R Bo R lb (by kernel_rfl))<|za R R<|zn<|zt<|?_
 exact Ju R (by repeat (first|exact GL.z|refine GL.k ?_ rfl|refine GL.f ?_ rfl|refine GL.p ?_ rfl)) (Jl (rs2 R (RV.cells R R R At lb R) (RV.tmp R R)) (congrArg S.d (Mj (Alt (.inr (.inr ⟨by omega,hwh.2 (by omega)⟩)))))) (gz ⟨rfl,rfl,rfl,rfl,rfl,rfl,trivial⟩)
 refine zr<|zp (Aa R R Cp)<|zp (Ab R R Ai R R)<|zp (Aa R R Cp)<|zp (Ab R R Ai R R)<|zp (Aq R R R)<|za R R<|zn<|?_
 refine zd R (fun c57i=> ?_) (fun c57i=> ?_)
 refine Ag (by kernel_rfl)<|XL.freeze (i:=7601) R<|zp (Ae (s':= .d (.agg (Vo.c x2))) (Ac (Ad R R At R lb)) (by kernel_rfl))<|zp (Ae (s':= .d (.agg (Pl.c (plS m.h.m m.h.len)))) (Ac (Ad R R Gb R lb)) (by kernel_rfl))<|zp (Aa R R Cp)<|zp (Ab R R Ai R R)<|XL.call1 R R (Ajm _ _ _ _ (by assumption) (by assumption)) R<|?_
 refine zm R R<|zp (Ao R R R)<|zp (Ao R R R)<|XL.step R (Af (l':= [.d (.sl 13 (((Ee x2 (plS m.h.m m.h.len) 0 ((plS t n).len)).1).evs.map Ev.c)), .d (.sl 4 (((Ee x2 (plS m.h.m m.h.len) 0 ((plS t n).len)).1).tups.map Tp.c))]) R R R R Bo R lb (by kernel_rfl))<|za R R<|zn<|zs<|zr<|zm R R<|zp (A5 R R R)<|zn<|?_
 refine zd R (fun c72i=> ?_) (fun c72i=> ?_)
 refine zr<|zp (Ae (s':= .d (.agg [.v (.slice none 0 0), .v (.slice none 0 0)])) (Ac (Az R Cv Be R)) (by kernel_rfl))<|zm R R<|XL.step R (Af (l':= [.d (.v (.slice none 0 0)), .d (.v (.slice none 0 0))]) R R R R Bo R lb (by kernel_rfl))<|za R R<|zn<|zt<|?_
 exact Ju R (by repeat (first|exact GL.z|refine GL.k ?_ rfl|refine GL.f ?_ rfl|refine GL.p ?_ rfl)) (Jl (rs2 R (RV.sub (RV.cells R R R At lb R) (.agg (.cons (.nil 13) (.cons (.nil 4) (.nil))))) (RV.tmp R R)) (congrArg S.d (Mj (Arg (by unfold Vo.same;rw [hwh];omega) c57i c72i)))) (gz ⟨R,R,R,R,R,R,trivial⟩)
 refine zi<|zs<|?_
 have hEc:=(Zd (v:=x2) (p:=(plS m.h.m m.h.len)) (a:=0) (b:=(plS t n).len) (by omega) hfv).1
 refine Ck 5 [] (by kernel_rfl) (by kernel_rfl) (by kernel_rfl) (by kernel_rfl) (by decide)<|yp (Ae (s':= .d (.agg (Vo.c (Ee x2 (plS m.h.m m.h.len) 0 ((plS t n).len)).1))) (Ac (Ad R R At R lb)) (by kernel_rfl))<|yp (Ae (s':= .d (.agg (Vo.c (Ee x2 (plS m.h.m m.h.len) 0 ((plS t n).len)).1))) (Ac (Ad R R At R lb)) (by kernel_rfl))<|?_
 refine yp (Aa R R Cp)<|yp (Ab R R Ai R R)<|ChK.cons R (CStep.call R (Mq _ _ (by assumption)) R)<|?_
 refine ChK.nil ⟨by kernel_rfl, ?_⟩
 refine XL.step R (Af (l':= [.d (.sl 13 (((Ee x2 (plS m.h.m m.h.len) 0 ((plS t n).len)).1).evs.map Ev.c)), .d (.sl 4 (((Ee x2 (plS m.h.m m.h.len) 0 ((plS t n).len)).1).tups.map Tp.c))]) R R R R Bo R lb (by kernel_rfl))<|za R R<|zn<|zt<|?_
 exact Ju R (by repeat (first|exact GL.z|refine GL.k ?_ rfl|refine GL.f ?_ rfl|refine GL.p ?_ rfl)) (Jl (rs2 R (RV.cells R R R At lb R) (RV.tmp R R)) (congrArg S.d (Mj (Arf (by unfold Vo.same;rw [hwh];omega) c57i c72i)))) (gz ⟨R,R,R,R,R,R,trivial⟩)
 refine zr<|za R R<|zn<|zs<|?_
 have hrl:=Vk (plS t n).m ((plS t n).off+(plS m.h.m m.h.len).len) ((plS t n).off+(plS t n).len)
 refine Ag (by kernel_rfl)<|zp (Aa R R Ml)<|zp (Ae (s':= .d (.agg (Me.c (plS t n).m))) (Ac (Ad R R Bk R lb)) (by kernel_rfl))<|zp (Aa R R Gk)<|zp (Ab R R Ai R R)<|zp (Aa R R Cp)<|zp (Ab R R Ai R R)<|zp (Am R R R (by omega) (by omega))<|zp (Aa R R Gk)<|zp (Ab R R Ai R R)<|?_
 refine zp (Aa R R Cp)<|zp (Ab R R Ai R R)<|zp (Am R R R (by omega) (by omega))<|XL.call1 R R (X4 _ _ _) R<|zm R R<|zp (Ao R R R)<|zp (Ao R R R)<|za R R<|za R R<|zng<|zp (Aa R R Bw)<|zp (Ab R R C8 R R)<|zm R R<|XL.step R (A4 R F9 (.own R) (Src.sl (by omega)) (by unfold maxLen;simp;omega) (by simp;omega))<|?_
 refine XL.rowq (i:=7601) (l':=(x2.evs++Hv (plS t n).m ((plS t n).off+(plS m.h.m m.h.len).len) ((plS t n).off+(plS t n).len)).map Ev.c) R (Q0)<|zp (Aa R R Bw)<|XL.step R (Af (l':= [.own 7601, .d (.sl 4 (x2.tups.map Tp.c))]) R R R R Qq R lb (by kernel_rfl))<|zn<|zs<|zr<|zm R R<|zp (A5 R R R)<|zn<|?_
 refine zd R (fun c72i=> ?_) (fun c72i=> ?_)
 refine zr<|zp (Ae (s':= .d (.agg [.v (.slice none 0 0), .v (.slice none 0 0)])) (Ac (Az R Cv Be R)) (by kernel_rfl))<|zm R R<|XL.step R (Af (l':= [.d (.v (.slice none 0 0)), .d (.v (.slice none 0 0))]) R R R R Bo R lb (by kernel_rfl))<|za R R<|zn<|zt<|?_
 exact Ju R (by repeat (first|exact GL.z|refine GL.k ?_ rfl|refine GL.f ?_ rfl|refine GL.p ?_ rfl)) (Jl (rs2 R (RV.sub (RV.cells R R R At lb R) (.agg (.cons (.nil 13) (.cons (.nil 4) (.nil))))) (RV.tmp R R)) (congrArg S.d (Mj (Are (by unfold Vo.same;rw [hwh];omega) c57i c72i)))) (gz ⟨R,R,R,R,R,R,trivial⟩)
 refine zi<|zs<|?_
 have hEc:=Aeh hEv (Vl (plS t n).m ((plS t n).off+(plS m.h.m m.h.len).len) ((plS t n).off+(plS t n).len))
 refine O4 (i:=7601) R<|Ck 5 [] (by kernel_rfl) (by kernel_rfl) (by kernel_rfl) (by kernel_rfl) (by decide)<|yp (Ae (s':= .d (.agg (Vo.c (K6 x2 (plS m.h.m m.h.len) (plS t n))))) (Ac (Ad R R At R lb)) (by kernel_rfl))<|yp (Ae (s':= .d (.agg (Vo.c (K6 x2 (plS m.h.m m.h.len) (plS t n))))) (Ac (Ad R R At R lb)) (by kernel_rfl))<|?_
 refine yp (Aa R R Cp)<|yp (Ab R R Ai R R)<|ChK.cons R (CStep.call R (Mq _ _ (by assumption)) R)<|?_
 refine ChK.nil ⟨by kernel_rfl, ?_⟩
 refine XL.step R (Af (l':= [.d (.sl 13 ((K6 x2 (plS m.h.m m.h.len) (plS t n)).evs.map Ev.c)), .d (.sl 4 ((K6 x2 (plS m.h.m m.h.len) (plS t n)).tups.map Tp.c))]) R R R R Bo R lb (by kernel_rfl))<|za R R<|zn<|zt<|?_
 exact Ju R (by repeat (first|exact GL.z|refine GL.k ?_ rfl|refine GL.f ?_ rfl|refine GL.p ?_ rfl)) (Jl (rs2 R (RV.cells R R R At lb R) (RV.tmp R R)) (congrArg S.d (Mj (Ard (by unfold Vo.same;rw [hwh];omega) c57i c72i)))) (gz ⟨R,R,R,R,R,R,trivial⟩)
 refine zk 6 R<|zq R R R<|zq R R R<|za R R<|zn<|A1 (by kernel_rfl) R<|zr<|zp (Aa R R Cp)<|zp (Ab R R Ai R R)<|zp (Aa R R Cp)<|zp (Ab R R Ai R R)<|zp (Aq R R R)<|za R R<|zn<|?_
 refine zd R (fun c57i=> ?_) (fun c57i=> ?_)
 refine Ag (by kernel_rfl)<|XL.freeze (i:=7601) R<|zp (Ae (s':= .d (.agg (Vo.c x2))) (Ac (Ad R R At R lb)) (by kernel_rfl))<|zp (Ae (s':= .d (.agg (Pl.c (plS m.h.m m.h.len)))) (Ac (Ad R R Gb R lb)) (by kernel_rfl))<|zp (Aa R R Cp)<|zp (Ab R R Ai R R)<|XL.call1 R R (Ajm _ _ _ _ (by assumption) (by assumption)) R<|?_
 refine zm R R<|zp (Ao R R R)<|zp (Ao R R R)<|XL.step R (Af (l':= [.d (.sl 13 (((Ee x2 (plS m.h.m m.h.len) 0 ((plS t n).len)).1).evs.map Ev.c)), .d (.sl 4 (((Ee x2 (plS m.h.m m.h.len) 0 ((plS t n).len)).1).tups.map Tp.c))]) R R R R Bo R lb (by kernel_rfl))<|za R R<|zn<|zs<|zr<|zm R R<|zp (A5 R R R)<|zn<|?_
 refine zd R (fun c72i=> ?_) (fun c72i=> ?_)
 refine zr<|zp (Ae (s':= .d (.agg [.v (.slice none 0 0), .v (.slice none 0 0)])) (Ac (Az R Cv Be R)) (by kernel_rfl))<|zm R R<|XL.step R (Af (l':= [.d (.v (.slice none 0 0)), .d (.v (.slice none 0 0))]) R R R R Bo R lb (by kernel_rfl))<|za R R<|zn<|zt<|?_
 exact Ju R (by repeat (first|exact GL.z|refine GL.k ?_ rfl|refine GL.f ?_ rfl|refine GL.p ?_ rfl)) (Jl (rs2 R (RV.sub (RV.cells R R R At lb R) (.agg (.cons (.nil 13) (.cons (.nil 4) (.nil))))) (RV.tmp R R)) (congrArg S.d (Mj (Arg (by unfold Vo.same;omega) c57i c72i)))) (gz ⟨R,R,R,R,R,R,trivial⟩)
 refine zi<|zs<|?_
 have hEc:=(Zd (v:=x2) (p:=(plS m.h.m m.h.len)) (a:=0) (b:=(plS t n).len) (by omega) hfv).1
 refine Ck 5 [] (by kernel_rfl) (by kernel_rfl) (by kernel_rfl) (by kernel_rfl) (by decide)<|yp (Ae (s':= .d (.agg (Vo.c (Ee x2 (plS m.h.m m.h.len) 0 ((plS t n).len)).1))) (Ac (Ad R R At R lb)) (by kernel_rfl))<|yp (Ae (s':= .d (.agg (Vo.c (Ee x2 (plS m.h.m m.h.len) 0 ((plS t n).len)).1))) (Ac (Ad R R At R lb)) (by kernel_rfl))<|?_
 refine yp (Aa R R Cp)<|yp (Ab R R Ai R R)<|ChK.cons R (CStep.call R (Mq _ _ (by assumption)) R)<|?_
 refine ChK.nil ⟨by kernel_rfl, ?_⟩
 refine XL.step R (Af (l':= [.d (.sl 13 (((Ee x2 (plS m.h.m m.h.len) 0 ((plS t n).len)).1).evs.map Ev.c)), .d (.sl 4 (((Ee x2 (plS m.h.m m.h.len) 0 ((plS t n).len)).1).tups.map Tp.c))]) R R R R Bo R lb (by kernel_rfl))<|za R R<|zn<|zt<|?_
 exact Ju R (by repeat (first|exact GL.z|refine GL.k ?_ rfl|refine GL.f ?_ rfl|refine GL.p ?_ rfl)) (Jl (rs2 R (RV.cells R R R At lb R) (RV.tmp R R)) (congrArg S.d (Mj (Arf (by unfold Vo.same;omega) c57i c72i)))) (gz ⟨R,R,R,R,R,R,trivial⟩)
 refine zr<|za R R<|zn<|zs<|?_
 have hrl:=Vk (plS t n).m ((plS t n).off+(plS m.h.m m.h.len).len) ((plS t n).off+(plS t n).len)
 refine Ag (by kernel_rfl)<|zp (Aa R R Ml)<|zp (Ae (s':= .d (.agg (Me.c (plS t n).m))) (Ac (Ad R R Bk R lb)) (by kernel_rfl))<|zp (Aa R R Gk)<|zp (Ab R R Ai R R)<|zp (Aa R R Cp)<|zp (Ab R R Ai R R)<|zp (Am R R R (by omega) (by omega))<|zp (Aa R R Gk)<|zp (Ab R R Ai R R)<|?_
 refine zp (Aa R R Cp)<|zp (Ab R R Ai R R)<|zp (Am R R R (by omega) (by omega))<|XL.call1 R R (X4 _ _ _) R<|zm R R<|zp (Ao R R R)<|zp (Ao R R R)<|za R R<|za R R<|zng<|zp (Aa R R Bw)<|zp (Ab R R C8 R R)<|zm R R<|XL.step R (A4 R F9 (.own R) (Src.sl (by omega)) (by unfold maxLen;simp;omega) (by simp;omega))<|?_
 refine XL.rowq (i:=7601) (l':=(x2.evs++Hv (plS t n).m ((plS t n).off+(plS m.h.m m.h.len).len) ((plS t n).off+(plS t n).len)).map Ev.c) R (Q0)<|zp (Aa R R Bw)<|XL.step R (Af (l':= [.own 7601, .d (.sl 4 (x2.tups.map Tp.c))]) R R R R Qq R lb (by kernel_rfl))<|zn<|zs<|zr<|zm R R<|zp (A5 R R R)<|zn<|?_
 refine zd R (fun c72i=> ?_) (fun c72i=> ?_)
 refine zr<|zp (Ae (s':= .d (.agg [.v (.slice none 0 0), .v (.slice none 0 0)])) (Ac (Az R Cv Be R)) (by kernel_rfl))<|zm R R<|XL.step R (Af (l':= [.d (.v (.slice none 0 0)), .d (.v (.slice none 0 0))]) R R R R Bo R lb (by kernel_rfl))<|za R R<|zn<|zt<|?_
 exact Ju R (by repeat (first|exact GL.z|refine GL.k ?_ rfl|refine GL.f ?_ rfl|refine GL.p ?_ rfl)) (Jl (rs2 R (RV.sub (RV.cells R R R At lb R) (.agg (.cons (.nil 13) (.cons (.nil 4) (.nil))))) (RV.tmp R R)) (congrArg S.d (Mj (Are (by unfold Vo.same;omega) c57i c72i)))) (gz ⟨R,R,R,R,R,R,trivial⟩)
 refine zi<|zs<|?_
 have hEc:=Aeh hEv (Vl (plS t n).m ((plS t n).off+(plS m.h.m m.h.len).len) ((plS t n).off+(plS t n).len))
 refine O4 (i:=7601) R<|Ck 5 [] (by kernel_rfl) (by kernel_rfl) (by kernel_rfl) (by kernel_rfl) (by decide)<|yp (Ae (s':= .d (.agg (Vo.c (K6 x2 (plS m.h.m m.h.len) (plS t n))))) (Ac (Ad R R At R lb)) (by kernel_rfl))<|yp (Ae (s':= .d (.agg (Vo.c (K6 x2 (plS m.h.m m.h.len) (plS t n))))) (Ac (Ad R R At R lb)) (by kernel_rfl))<|?_
 refine yp (Aa R R Cp)<|yp (Ab R R Ai R R)<|ChK.cons R (CStep.call R (Mq _ _ (by assumption)) R)<|?_
 refine ChK.nil ⟨by kernel_rfl, ?_⟩
 refine XL.step R (Af (l':= [.d (.sl 13 ((K6 x2 (plS m.h.m m.h.len) (plS t n)).evs.map Ev.c)), .d (.sl 4 ((K6 x2 (plS m.h.m m.h.len) (plS t n)).tups.map Tp.c))]) R R R R Bo R lb (by kernel_rfl))<|za R R<|zn<|zt<|?_
 exact Ju R (by repeat (first|exact GL.z|refine GL.k ?_ rfl|refine GL.f ?_ rfl|refine GL.p ?_ rfl)) (Jl (rs2 R (RV.cells R R R At lb R) (RV.tmp R R)) (congrArg S.d (Mj (Ard (by unfold Vo.same;omega) c57i c72i)))) (gz ⟨R,R,R,R,R,R,trivial⟩)
 refine ChFK.af R (CStep.pure (As R (by conv=>lhs;whnf)))<|?_
 refine ChFK.af R (CStep.pure (Ao R R R))<|ChFK.fl R (CStep.pure (Ao R R R)) (CStep.pure (Ao R R R))<|ChFK.af R (CStep.pure (Og R R R (R) R Q6 (Ahi (Yi hk2a))))<|?_
 refine ChFK.st R (Y4 [] (l':=(mix Vo.u Vo.t ((x0.voices.take j).map (fun v=>(D9 v (plS m.h.m m.h.len) (plS t n)).1)) (x0.voices.drop j)).set j [.d (.sl 13 (((D9 x2 (plS m.h.m m.h.len) (plS t n)).1).evs.map Ev.c)), .d (.sl 4 (((D9 x2 (plS m.h.m m.h.len) (plS t n)).1).tups.map Tp.c))]) R R R (Db (Fw hx2)) R Bo R lb R R (List.set_set ..) (gz ⟨R,R,R,R,R,R,trivial⟩))<|?_
 refine ChFK.nil ⟨⟨by kernel_rfl,by kernel_rfl,by kernel_rfl⟩, ?_⟩
 refine XL.rowqT (i:=7502) (l':=mix Vo.u Vo.t ((x0.voices.take (j+1)).map (fun v=>(D9 v (plS m.h.m m.h.len) (plS t n)).1)) (x0.voices.drop (j+1))) [] R (R4 hx2) (Qy [] _ _)<|za R R<|znr<|zm R R<|zp (A5 R R R)<|zn<|?_
 refine zd R (fun c83=> ?_) (fun c83=> ?_)
 refine zr<|zp (Ae (s':= .d (.agg [dI 0,dI 0,dI 0,dI 0,dI 0,dI 0,dI 0,dI 0,dI 0,dI 0,dI 0,dI 0,dB false,dI 0,dI 0,dI 0,dI 0,dI 0,dI 0, .v (.string ⟨#[]⟩), .v (.slice none 0 0), .v (.slice none 0 0)])) (Ac (Az R Pc F3 R)) (by kernel_rfl))<|zm R R<|?_
 refine XL.step R (Af (l':= [.d (dI 0), .d (dI 0), .d (dI 0), .d (dI 0), .d (dI 0), .d (dI 0), .d (dI 0), .d (dI 0), .d (dI 0), .d (dI 0), .d (dI 0), .d (dI 0), .d (dB false), .d (dI 0), .d (dI 0), .d (dI 0), .d (dI 0), .d (dI 0), .d (dI 0), .d (.v (.string ⟨#[]⟩)), .d (.v (.slice none 0 0)), .d (.v (.slice none 0 0))]) R R R R Gl R lb (by kernel_rfl))<|za R R<|zn<|zt<|?_
 exact Ax R (RV.sub (RV.cells R R R Co lb R) (.agg (.cons (.same R) (.cons (.same R) (.cons (.same R) (.cons (.same R) (.cons (.same R) (.cons (.same R) (.cons (.same R) (.cons (.same R) (.cons (.same R) (.cons (.same R) (.cons (.same R) (.cons (.same R) (.cons (.same R) (.cons (.same R) (.cons (.same R) (.cons (.same R) (.cons (.same R) (.cons (.same R) (.cons (.same R) (.cons (.same R) (.cons (.nil 3) (.cons (.nil 2) (.nil))))))))))))))))))))))))) (RV.tmp R R) (Uz (Atj c21 c33 (by first|exact hgo.symm.trans ((Al0 hx0 (by rw [←hgv,Y2 hx2 (by omega)];omega)).trans (by rw [←hgv,Y2 hx2 (by omega)]))) (by omega)))
 refine zi<|Ag (by kernel_rfl)<|zp (Am R R R (by omega) (by omega))<|zm R R<|zn<|?_
 exact An (j+1) (⟨by omega,by rw [←Alz hx2 (by omega)];exact hgv⟩) (by omega) (fz ⟨sr,sr,sr,sr,sr,sr,sr,sr,sr,trivial⟩) (gz ⟨rfl,rfl,rfl,rfl,rfl,rfl,trivial⟩)
 have hk2b:j=x0.voices.length:=by omega
 refine Av<|Aev (i:=7502) R (Aoq _ _) (by rw [Aq2,hk2b,List.take_length,List.drop_length,List.append_nil])<|?_
 refine W9 (i:=7402) (l':=(mix Ce.u Ce.t ((m.cells.take k).map (Cn (plS m.h.m m.h.len) (plS t n))) (m.cells.drop k)).set k [.own 7501, .d (.sl 2 (((Cn (plS m.h.m m.h.len) (plS t n)) x0).voices.map Vo.c))]) [7501] R (Tv (Ik [] _ _) R) (D8 (Ik [] _ _) (Gg (R) (R)) _)<|Ag (by kernel_rfl)<|zp (As R (by conv=>lhs;whnf))<|?_
 refine zp (As R (by conv=>lhs;whnf))<|?_
 refine zp (Hy R R)<|zp (Aa R R Gi)<|zp (Ae (s':= .own 7501) (Ix R R Ob R (Db (Fw hx0)) R) R)<|?_
 refine XL.blurT (i:=7402) (k:=k) (m:=0) (l':=(mix Ce.u Ce.t ((m.cells.take k).map (Cn (plS m.h.m m.h.len) (plS t n))) (m.cells.drop k)).set k [.any, .d (.sl 2 (((Cn (plS m.h.m m.h.len) (plS t n)) x0).voices.map Vo.c))]) [] R (Db (Fw hx0)) R (List.set_set ..) (D8 (Ik [] _ _) (Gg (R) (R)) _)<|zp (Oh (pd:= []) (cd:= [_]) R R R)<|?_
 refine XL.inl 900003 [(6, .ptr 6 0 0),(8, .d (.pt (Pl.c (plS m.h.m m.h.len)))),(10, .ptr 10 0 0),(11, .d (.pt (Pl.c (plS t n)))),(47, .d (dI m.cells.length)),(48, .d (dI k)),(87, .ptr 7402 k 0)] R R .d Acx Tryz.func64 R R lb (by simp only [List.forall_mem_cons];exact ⟨⟨Nat.le_of_ble_eq_true rfl,rfl⟩,⟨⟨Nat.le_of_ble_eq_true rfl,rfl⟩,⟨⟨Nat.le_of_ble_eq_true rfl,rfl⟩,⟨⟨Nat.le_of_ble_eq_true rfl,rfl⟩,⟨⟨Nat.le_of_ble_eq_true rfl,rfl⟩,⟨⟨Nat.le_of_ble_eq_true rfl,rfl⟩,⟨⟨Nat.le_of_ble_eq_true rfl,rfl⟩,fun p hp=>(by cases hp)⟩⟩⟩⟩⟩⟩⟩) fun u3=>?_
 refine zr<|za R R<|znr<|zp (As R (by conv=>lhs;whnf))<|?_
 refine zm R R<|XL.inl 900004 [(0, .own 7501),(1, .d (.fn 65 [] [.pt (Pl.c (plS t n))])),(4, .d (.v (.slice none 0 0)))] R R .d Ach Tryz.func99 R R lb (by simp only [List.forall_mem_cons];exact ⟨⟨Nat.le_of_ble_eq_true rfl,rfl⟩,⟨⟨Nat.le_of_ble_eq_true rfl,rfl⟩,⟨⟨Nat.le_of_ble_eq_true rfl,rfl⟩,fun p hp=>(by cases hp)⟩⟩⟩) fun u4=>zr<|za R R<|zn<|zs<|zr<|?_
 refine zp (As R (by conv=>lhs;whnf))<|?_
 refine zp (Bz R R R Tryz.underlying75)<|zm R R<|zn<|Ah<|?_
 refine A0 (α:=Nat) (fun q=>q≤(x0.clefs).length∧((x0.clefs).take q).filter (cfK (plS t n).len)=(x0.clefs).take q) (fun q=>mkF [(0, .own 7501),(1, .d (.fn 65 [] [.pt (Pl.c (plS t n))])),(7, .d (dI x0.clefs.length)),(8, .d (dI q))]) (fun q=>mkH [(6, .box [.d (dI 0), .d (dI 0), .d (dI 0), .d (dI 0), .d (dI 0), .d (dI 0), .d (dI 0), .d (dI 0), .d (dI 0), .d (dI 0), .d (dI 0), .d (dI 0), .d (dB false), .d (dI 0), .d (dI 0), .d (dI 0), .d (dI 0), .d (dI 0), .d (dI 0), .d (.v (.string ⟨#[]⟩)), .d (.v (.slice none 0 0)), .d (.v (.slice none 0 0))]),(10, .box [.d (dI (m.h.sh t n).site), .d (dI (m.h.sh t n).num), .d (dI (m.h.sh t n).m.count), .d (dI (m.h.sh t n).m.unit), .d (dI (m.h.sh t n).m.g0), .d (dI (m.h.sh t n).m.g1), .d (dI (m.h.sh t n).m.g2), .d (dI (m.h.sh t n).m.g3), .d (dI (m.h.sh t n).m.g4), .d (dI (m.h.sh t n).m.g5), .d (dI (m.h.sh t n).len), .d (dI (m.h.sh t n).fifths), .d (dB (m.h.sh t n).start), .d (dI (m.h.sh t n).fin), .d (dI (m.h.sh t n).ends), .d (dI (m.h.sh t n).jump), .d (dI (m.h.sh t n).labels), .d (dI (m.h.sh t n).swing), .d (dI (m.h.sh t n).brk), .d (.v (.string ⟨(m.h.sh t n).reh.toArray⟩)), .own 7401, .own 7402]),(7401, .row 119 3 ((m.tempi).map Tm.c)),(7402, .tree 78 2 [] ((mix Ce.u Ce.t ((m.cells.take k).map (Cn (plS m.h.m m.h.len) (plS t n))) (m.cells.drop k)).set k [.any, .d (.sl 2 (((Cn (plS m.h.m m.h.len) (plS t n)) x0).voices.map Vo.c))])),(7501, .row 84 2 ((x0.clefs).map Cf.c)),(900003, .ghost u3 [(6, .ptr 6 0 0),(8, .d (.pt (Pl.c (plS m.h.m m.h.len)))),(10, .ptr 10 0 0),(11, .d (.pt (Pl.c (plS t n)))),(47, .d (dI m.cells.length)),(48, .d (dI k)),(87, .ptr 7402 k 0)]),(900004, .ghost u4 [(0, .own 7501),(1, .d (.fn 65 [] [.pt (Pl.c (plS t n))])),(4, .d (.v (.slice none 0 0)))])]) (fun q=>(x0.clefs).length - q) (0) (⟨Nat.zero_le _,R⟩) ?_ ?_ ?_
 exact fz ⟨sr,sr,sr,sr,trivial⟩
 exact gz ⟨R,R,R,R,R,R,R,trivial⟩
 intro q hk0x
 obtain ⟨hk,hfk⟩:=hk0x
 refine zr<|zp (Aq R R R)<|zn<|zs<|?_
 refine zd R (fun c9x=> ?_) (fun c9x=> ?_)
 obtain ⟨y,hy⟩:∃y,(x0.clefs)[q]? =some y:=Ay (by omega)
 refine zi<|zs<|Ah<|zr<|zm R R<|za R R<|znr<|zm R R<|zp (As R (by conv=>lhs;whnf))<|?_
 refine zm R R<|zp (Cm R R R (R) R Lg (by omega))<|zp (Ae (s':= .d (.agg (Cf.c y))) (Eh R R Qm R (C5 (hy)) lb) (by kernel_rfl))<|XL.callv1 (ds:= [_]) R R R (Aed _ _) R<|zn<|?_
 refine zd R (fun c16x=> ?_) (fun c16x=> ?_)
 refine zr<|zm R R<|za R R<|zn<|zt<|?_
 refine (Dt (l:= [(0, .own 7501),(1, .d (.fn 65 [] [.pt (Pl.c (plS t n))])),(4, .d (.v (.slice none 0 0)))]) (by kernel_rfl) (rs1 R (RV.tmp R R)) ?_).2
 refine za R R<|zn<|zs<|zr<|zm R R<|zp (Ba R R R)<|zn<|?_
 refine zd R (fun c12d=> ?_) (fun c12d=> ?_)
 exfalso;omega
 refine zi<|zs<|zr<|zm R R<|zp (Am R R R (by omega) (by omega))<|za R R<|zn<|Ah<|?_
 refine A0 (α:=Nat × Nat × List Cf) (fun p=>DelG (cfK (plS t n).len) (x0.clefs) p.1 p.2.1 p.2.2) (fun p=>mkF [(0, .own 7501),(1, .d (.fn 65 [] [.pt (Pl.c (plS t n))])),(4, .d (.v (.slice none 0 0))),(5, .d (dI p.2.1)),(6, .d (dI p.1))]) (fun p=>mkH [(6, .box [.d (dI 0), .d (dI 0), .d (dI 0), .d (dI 0), .d (dI 0), .d (dI 0), .d (dI 0), .d (dI 0), .d (dI 0), .d (dI 0), .d (dI 0), .d (dI 0), .d (dB false), .d (dI 0), .d (dI 0), .d (dI 0), .d (dI 0), .d (dI 0), .d (dI 0), .d (.v (.string ⟨#[]⟩)), .d (.v (.slice none 0 0)), .d (.v (.slice none 0 0))]),(10, .box [.d (dI (m.h.sh t n).site), .d (dI (m.h.sh t n).num), .d (dI (m.h.sh t n).m.count), .d (dI (m.h.sh t n).m.unit), .d (dI (m.h.sh t n).m.g0), .d (dI (m.h.sh t n).m.g1), .d (dI (m.h.sh t n).m.g2), .d (dI (m.h.sh t n).m.g3), .d (dI (m.h.sh t n).m.g4), .d (dI (m.h.sh t n).m.g5), .d (dI (m.h.sh t n).len), .d (dI (m.h.sh t n).fifths), .d (dB (m.h.sh t n).start), .d (dI (m.h.sh t n).fin), .d (dI (m.h.sh t n).ends), .d (dI (m.h.sh t n).jump), .d (dI (m.h.sh t n).labels), .d (dI (m.h.sh t n).swing), .d (dI (m.h.sh t n).brk), .d (.v (.string ⟨(m.h.sh t n).reh.toArray⟩)), .own 7401, .own 7402]),(7401, .row 119 3 ((m.tempi).map Tm.c)),(7402, .tree 78 2 [] ((mix Ce.u Ce.t ((m.cells.take k).map (Cn (plS m.h.m m.h.len) (plS t n))) (m.cells.drop k)).set k [.any, .d (.sl 2 (((Cn (plS m.h.m m.h.len) (plS t n)) x0).voices.map Vo.c))])),(7501, .row 84 2 (p.2.2.map Cf.c)),(900003, .ghost u3 [(6, .ptr 6 0 0),(8, .d (.pt (Pl.c (plS m.h.m m.h.len)))),(10, .ptr 10 0 0),(11, .d (.pt (Pl.c (plS t n)))),(47, .d (dI m.cells.length)),(48, .d (dI k)),(87, .ptr 7402 k 0)])]) (fun p=>(x0.clefs).length - p.1) ((q+1,q,x0.clefs)) (DelG.start hy (Ajs c16x) hfk) ?_ ?_ ?_
 exact fz ⟨sr,sr,sr,sr,sr,trivial⟩
 exact gz ⟨R,R,R,R,R,R,trivial⟩
 intro p hk0d
 have hD:=hk0d
 have hlt:=hD.lt
 have hle:=hD.le
 have hlen:=hD.len
 refine zs<|zr<|zm R R<|zp (As R (by conv=>lhs;whnf))<|?_
 refine zp (Bz R R R Tryz.underlying75)<|zp (Aq R R R)<|zn<|?_
 refine zd R (fun c19d=> ?_) (fun c19d=> ?_)
 obtain ⟨z,hz⟩:∃z,(x0.clefs)[p.1]? =some z:=Ay (by omega)
 obtain ⟨w,hw⟩:∃w,p.2.2[p.2.1]? =some w:=Ay (by omega)
 refine zi<|zs<|Ah<|zr<|zp (As R (by conv=>lhs;whnf))<|?_
 refine zm R R<|zp (Cm R R R (R) R Lg (by have:=hD.len;omega))<|zp (Ae (s':= .d (.agg (Cf.c z))) (Eh R R Qm R (C5 (hD.get hz)) lb) (by kernel_rfl))<|XL.step R (Al 3007 (l:= [.d (dI 0), .d (dI 0)]) R Qn (by kernel_rfl))<|XL.step R (Af (l':= [.d (dI z.tk), .d (dI z.clef)]) R R R R Wu R lb (by kernel_rfl))<|znr<|zm R R<|?_
 refine zp (Ae (s':= .d (.agg (Cf.c z))) (Ac (Ad R R Qm R lb)) (by kernel_rfl))<|XL.callv1 (ds:= [_]) R R R (Aed _ _) R<|zp (Fv R R)<|zn<|?_
 refine zd R (fun c29d=> ?_) (fun c29d=> ?_)
 refine zr<|zp (As R (by conv=>lhs;whnf))<|?_
 refine zm R R<|zp (Ae (s':= .d (.agg (Cf.c z))) (Ac (Ad R R Qm R lb)) (by kernel_rfl))<|zp (Cm R R R (R) R Lg (by have:=hD.lt;have:=hD.len;omega))<|XL.step R (E8 R R R (C5 hw) R R Wu R lb)<|zng<|zm R R<|zp (Am R R R (by omega) (by omega))<|za R R<|zn<|Ag (by kernel_rfl)<|zm R R<|zp (Am R R R (by omega) (by omega))<|za R R<|zn<|?_
 exact An ((p.1+1,p.2.1+1,p.2.2.set p.2.1 z)) (hD.put hz (Aer c29d)) (by show (x0.clefs).length - (p.1+1)<(x0.clefs).length - p.1;omega) (fz ⟨sr,sr,sr,sr,sr,trivial⟩) (gz ⟨R,R,R,R,Pk R R,R,trivial⟩)
 refine zi<|Ag (by kernel_rfl)<|zm R R<|zp (Am R R R (by omega) (by omega))<|za R R<|zn<|?_
 exact An ((p.1+1,p.2.1,p.2.2)) (hD.keep hz (Ajs (Decidable.not_not.1 c29d))) (by show (x0.clefs).length - (p.1+1)<(x0.clefs).length - p.1;omega) (fz ⟨sr,sr,sr,sr,sr,trivial⟩) (gz ⟨R,R,R,R,R,R,trivial⟩)
 have hfin:=hD.fin (by omega)
 refine Av<|zr<|zp (As R (by conv=>lhs;whnf))<|?_
 refine zm R R<|zp (Kr R R R Lg (Bd.at R) Bd.no (by rw [List.length_map];have:=hD.lt;have:=hD.le;have:=hD.len;omega) (Nat.le_refl _))<|XL.step R (Ru (l2:=(p.2.2.take p.2.1++List.replicate (p.2.2.length - p.2.1) (⟨0,0⟩:Cf)).map Cf.c) (zs:= [dI 0,dI 0]) R (.sub R) Tryz.underlying75 Qn (by kernel_rfl) (by kernel_rfl) (by decide) (by omega) (hD.clr R))<|znr<|?_
 refine zp (As R (by conv=>lhs;whnf))<|?_
 refine zm R R<|XL.step R (Nx R R R Lg (.at R) (by rw [List.length_map,List.length_append,List.length_take,List.length_replicate];have:=hD.lt;have:=hD.le;have:=hD.len;omega))<|zp (Ar R (by conv=>lhs;whnf))<|?_
 refine zn<|zt<|?_
 refine (Dt (l:= [(6, .ptr 6 0 0),(8, .d (.pt (Pl.c (plS m.h.m m.h.len)))),(10, .ptr 10 0 0),(11, .d (.pt (Pl.c (plS t n)))),(47, .d (dI m.cells.length)),(48, .d (dI k)),(87, .ptr 7402 k 0)]) (by kernel_rfl) (Ci R (RVS.tmp R R)) ?_).2
 refine zp (Hy R R)<|zp (Aa R R Gi)<|XL.step R (Kz [7501] (l':=(mix Ce.u Ce.t ((m.cells.take k).map (Cn (plS m.h.m m.h.len) (plS t n))) (m.cells.drop k)).set k [.own 7501, .d (.sl 2 (((Cn (plS m.h.m m.h.len) (plS t n)) x0).voices.map Vo.c))]) R R R (Db (Fw hx0)) R Ae7 R lb R R (List.set_set ..))<|zn<|Ag (by kernel_rfl)<|?_
 refine XL.rowq (i:=7501) (l':=(((Cn (plS m.h.m m.h.len) (plS t n)) x0).clefs).map Cf.c) R (by first|exact hD.cut.trans (congrArg (List.map Cf.c) hfin)|exact congrArg (List.map Cf.c) hfx.symm)<|XL.freeze (i:=7501) R<|?_
 refine XL.rowqT (i:=7402) (l':=(mix Ce.u Ce.t ((m.cells.take k).map (Cn (plS m.h.m m.h.len) (plS t n))) (m.cells.drop k)).set k [.d (.sl 2 ((((Cn (plS m.h.m m.h.len) (plS t n)) x0).clefs).map Cf.c)), .d (.sl 2 (((Cn (plS m.h.m m.h.len) (plS t n)) x0).voices.map Vo.c))]) [] R (Tv (Ik [] _ _) R) (D8 (Ik [] _ _) (Gg (R) (R)) _)<|?_
 refine XL.rowqT (i:=7402) (l':=mix Ce.u Ce.t ((m.cells.take (k+1)).map (Cn (plS m.h.m m.h.len) (plS t n))) (m.cells.drop (k+1))) [] R (R4 hx0) (Ik [] _ _)<|zp (Am R R R (by omega) (by omega))<|zm R R<|zn<|?_
 exact An (k+1) (⟨by omega,by rw [←Y3 hx0 (by rw [←hgv,hk2b,List.drop_length];rfl)];exact hgo⟩) (by omega) (fz ⟨sr,sr,sr,sr,sr,sr,trivial⟩) (gz ⟨rfl,rfl,rfl,rfl,trivial⟩)
 refine zi<|Ag (by kernel_rfl)<|zp (Am R R R (by omega) (by omega))<|zm R R<|zn<|?_
 exact An (q+1) (⟨by omega,by rw [S0 hy (Aer c16x),hfk, ←Bl hy]⟩) (by omega) (fz ⟨sr,sr,sr,sr,trivial⟩) (gz ⟨rfl,rfl,rfl,rfl,rfl,rfl,rfl,trivial⟩)
 have hfx:(x0.clefs).filter (cfK (plS t n).len)=x0.clefs:=by rw [show q=(x0.clefs).length by omega,List.take_length] at hfk;exact hfk
 refine Av<|zr<|za R R<|zn<|zt<|?_
 refine (Dt (l:= [(0, .own 7501),(1, .d (.fn 65 [] [.pt (Pl.c (plS t n))])),(4, .d (.v (.slice none 0 0)))]) (by kernel_rfl) (rs1 R (RV.tmp R R)) ?_).2
 refine za R R<|zn<|zs<|zr<|zm R R<|zp (D3 (Ba R R R) (by decide))<|zn<|Aw (by kernel_rfl) R<|zr<|zp (As R (by conv=>lhs;whnf))<|?_
 refine zp (Ar R (by conv=>lhs;whnf))<|?_
 refine zn<|zt<|?_
 refine (Dt (l:= [(6, .ptr 6 0 0),(8, .d (.pt (Pl.c (plS m.h.m m.h.len)))),(10, .ptr 10 0 0),(11, .d (.pt (Pl.c (plS t n)))),(47, .d (dI m.cells.length)),(48, .d (dI k)),(87, .ptr 7402 k 0)]) (by kernel_rfl) (Ci R (RVS.tmp R R)) ?_).2
 refine zp (Hy R R)<|zp (Aa R R Gi)<|XL.step R (Kz [7501] (l':=(mix Ce.u Ce.t ((m.cells.take k).map (Cn (plS m.h.m m.h.len) (plS t n))) (m.cells.drop k)).set k [.own 7501, .d (.sl 2 (((Cn (plS m.h.m m.h.len) (plS t n)) x0).voices.map Vo.c))]) R R R (Db (Fw hx0)) R Ae7 R lb R R (List.set_set ..))<|zn<|Ag (by kernel_rfl)<|?_
 refine XL.rowq (i:=7501) (l':=(((Cn (plS m.h.m m.h.len) (plS t n)) x0).clefs).map Cf.c) R (by first|exact hD.cut.trans (congrArg (List.map Cf.c) hfin)|exact congrArg (List.map Cf.c) hfx.symm)<|XL.freeze (i:=7501) R<|?_
 refine XL.rowqT (i:=7402) (l':=(mix Ce.u Ce.t ((m.cells.take k).map (Cn (plS m.h.m m.h.len) (plS t n))) (m.cells.drop k)).set k [.d (.sl 2 ((((Cn (plS m.h.m m.h.len) (plS t n)) x0).clefs).map Cf.c)), .d (.sl 2 (((Cn (plS m.h.m m.h.len) (plS t n)) x0).voices.map Vo.c))]) [] R (Tv (Ik [] _ _) R) (D8 (Ik [] _ _) (Gg (R) (R)) _)<|?_
 refine XL.rowqT (i:=7402) (l':=mix Ce.u Ce.t ((m.cells.take (k+1)).map (Cn (plS m.h.m m.h.len) (plS t n))) (m.cells.drop (k+1))) [] R (R4 hx0) (Ik [] _ _)<|zp (Am R R R (by omega) (by omega))<|zm R R<|zn<|?_
 exact An (k+1) (⟨by omega,by rw [←Y3 hx0 (by rw [←hgv,hk2b,List.drop_length];rfl)];exact hgo⟩) (by omega) (fz ⟨sr,sr,sr,sr,sr,sr,trivial⟩) (gz ⟨rfl,rfl,rfl,rfl,trivial⟩)
 have hk0b:k=m.cells.length:=by omega
 refine Av<|zr<|zp (Aa R R Fb)<|zp (Ab R R Qt R R)<|zp (Oh (pd:= []) (cd:= [_]) R R R)<|XL.inl 900005 [(6, .ptr 6 0 0),(10, .ptr 10 0 0)] R R .d Acv Tryz.func66 R R lb (by simp only [List.forall_mem_cons];exact ⟨⟨Nat.le_of_ble_eq_true rfl,rfl⟩,⟨⟨Nat.le_of_ble_eq_true rfl,rfl⟩,fun p hp=>(by cases hp)⟩⟩) fun u5=>zr<|za R R<|znr<|?_
 refine zp (As R (by conv=>lhs;whnf))<|?_
 refine zm R R<|XL.inl 900006 [(0, .own 7401),(1, .d (.fn 67 [] [.pt (Pl.c (plS t n))])),(4, .d (.v (.slice none 0 0)))] R R .d Abo Tryz.func100 R R lb (by simp only [List.forall_mem_cons];exact ⟨⟨Nat.le_of_ble_eq_true rfl,rfl⟩,⟨⟨Nat.le_of_ble_eq_true rfl,rfl⟩,⟨⟨Nat.le_of_ble_eq_true rfl,rfl⟩,fun p hp=>(by cases hp)⟩⟩⟩) fun u6=>zr<|za R R<|zn<|zs<|zr<|?_
 refine zp (As R (by conv=>lhs;whnf))<|?_
 refine zp (Bz R R R Tryz.underlying27)<|zm R R<|zn<|Ah<|?_
 refine A0 (α:=Nat) (fun q=>q≤(m.tempi).length∧((m.tempi).take q).filter (tmK (plS t n).len)=(m.tempi).take q) (fun q=>mkF [(0, .own 7401),(1, .d (.fn 67 [] [.pt (Pl.c (plS t n))])),(7, .d (dI m.tempi.length)),(8, .d (dI q))]) (fun q=>mkH [(6, .box [.d (dI 0), .d (dI 0), .d (dI 0), .d (dI 0), .d (dI 0), .d (dI 0), .d (dI 0), .d (dI 0), .d (dI 0), .d (dI 0), .d (dI 0), .d (dI 0), .d (dB false), .d (dI 0), .d (dI 0), .d (dI 0), .d (dI 0), .d (dI 0), .d (dI 0), .d (.v (.string ⟨#[]⟩)), .d (.v (.slice none 0 0)), .d (.v (.slice none 0 0))]),(10, .box [.d (dI (m.h.sh t n).site), .d (dI (m.h.sh t n).num), .d (dI (m.h.sh t n).m.count), .d (dI (m.h.sh t n).m.unit), .d (dI (m.h.sh t n).m.g0), .d (dI (m.h.sh t n).m.g1), .d (dI (m.h.sh t n).m.g2), .d (dI (m.h.sh t n).m.g3), .d (dI (m.h.sh t n).m.g4), .d (dI (m.h.sh t n).m.g5), .d (dI (m.h.sh t n).len), .d (dI (m.h.sh t n).fifths), .d (dB (m.h.sh t n).start), .d (dI (m.h.sh t n).fin), .d (dI (m.h.sh t n).ends), .d (dI (m.h.sh t n).jump), .d (dI (m.h.sh t n).labels), .d (dI (m.h.sh t n).swing), .d (dI (m.h.sh t n).brk), .d (.v (.string ⟨(m.h.sh t n).reh.toArray⟩)), .own 7401, .own 7402]),(7401, .row 119 3 ((m.tempi).map Tm.c)),(7402, .tree 78 2 [] (mix Ce.u Ce.t ((m.cells.take k).map (Cn (plS m.h.m m.h.len) (plS t n))) (m.cells.drop k))),(900005, .ghost u5 [(6, .ptr 6 0 0),(10, .ptr 10 0 0)]),(900006, .ghost u6 [(0, .own 7401),(1, .d (.fn 67 [] [.pt (Pl.c (plS t n))])),(4, .d (.v (.slice none 0 0)))])]) (fun q=>(m.tempi).length - q) (0) (⟨Nat.zero_le _,R⟩) ?_ ?_ ?_
 exact fz ⟨sr,sr,sr,sr,trivial⟩
 exact gz ⟨R,R,R,R,R,R,trivial⟩
 intro q hk0x
 obtain ⟨hk,hfk⟩:=hk0x
 refine zr<|zp (Aq R R R)<|zn<|zs<|?_
 refine zd R (fun c9x=> ?_) (fun c9x=> ?_)
 obtain ⟨y,hy⟩:∃y,(m.tempi)[q]? =some y:=Ay (by omega)
 refine zi<|zs<|Ah<|zr<|zm R R<|za R R<|znr<|zm R R<|zp (As R (by conv=>lhs;whnf))<|?_
 refine zm R R<|zp (Cm R R R (R) R Ou (by omega))<|zp (Ae (s':= .d (.agg (Tm.c y))) (Eh R R Rb R (C5 (hy)) lb) (by kernel_rfl))<|XL.callv1 (ds:= [_]) R R R (Aec _ _) R<|zn<|?_
 refine zd R (fun c16x=> ?_) (fun c16x=> ?_)
 refine zr<|zm R R<|za R R<|zn<|zt<|?_
 refine (Dt (l:= [(0, .own 7401),(1, .d (.fn 67 [] [.pt (Pl.c (plS t n))])),(4, .d (.v (.slice none 0 0)))]) (by kernel_rfl) (rs1 R (RV.tmp R R)) ?_).2
 refine za R R<|zn<|zs<|zr<|zm R R<|zp (Ba R R R)<|zn<|?_
 refine zd R (fun c12d=> ?_) (fun c12d=> ?_)
 exfalso;omega
 refine zi<|zs<|zr<|zm R R<|zp (Am R R R (by omega) (by omega))<|za R R<|zn<|Ah<|?_
 refine A0 (α:=Nat × Nat × List Tm) (fun p=>DelG (tmK (plS t n).len) (m.tempi) p.1 p.2.1 p.2.2) (fun p=>mkF [(0, .own 7401),(1, .d (.fn 67 [] [.pt (Pl.c (plS t n))])),(4, .d (.v (.slice none 0 0))),(5, .d (dI p.2.1)),(6, .d (dI p.1))]) (fun p=>mkH [(6, .box [.d (dI 0), .d (dI 0), .d (dI 0), .d (dI 0), .d (dI 0), .d (dI 0), .d (dI 0), .d (dI 0), .d (dI 0), .d (dI 0), .d (dI 0), .d (dI 0), .d (dB false), .d (dI 0), .d (dI 0), .d (dI 0), .d (dI 0), .d (dI 0), .d (dI 0), .d (.v (.string ⟨#[]⟩)), .d (.v (.slice none 0 0)), .d (.v (.slice none 0 0))]),(10, .box [.d (dI (m.h.sh t n).site), .d (dI (m.h.sh t n).num), .d (dI (m.h.sh t n).m.count), .d (dI (m.h.sh t n).m.unit), .d (dI (m.h.sh t n).m.g0), .d (dI (m.h.sh t n).m.g1), .d (dI (m.h.sh t n).m.g2), .d (dI (m.h.sh t n).m.g3), .d (dI (m.h.sh t n).m.g4), .d (dI (m.h.sh t n).m.g5), .d (dI (m.h.sh t n).len), .d (dI (m.h.sh t n).fifths), .d (dB (m.h.sh t n).start), .d (dI (m.h.sh t n).fin), .d (dI (m.h.sh t n).ends), .d (dI (m.h.sh t n).jump), .d (dI (m.h.sh t n).labels), .d (dI (m.h.sh t n).swing), .d (dI (m.h.sh t n).brk), .d (.v (.string ⟨(m.h.sh t n).reh.toArray⟩)), .own 7401, .own 7402]),(7401, .row 119 3 (p.2.2.map Tm.c)),(7402, .tree 78 2 [] (mix Ce.u Ce.t ((m.cells.take k).map (Cn (plS m.h.m m.h.len) (plS t n))) (m.cells.drop k))),(900005, .ghost u5 [(6, .ptr 6 0 0),(10, .ptr 10 0 0)])]) (fun p=>(m.tempi).length - p.1) ((q+1,q,m.tempi)) (DelG.start hy (Ag8 c16x) hfk) ?_ ?_ ?_
 exact fz ⟨sr,sr,sr,sr,sr,trivial⟩
 exact gz ⟨R,R,R,R,R,trivial⟩
 intro p hk0d
 have hD:=hk0d
 have hlt:=hD.lt
 have hle:=hD.le
 have hlen:=hD.len
 refine zs<|zr<|zm R R<|zp (As R (by conv=>lhs;whnf))<|?_
 refine zp (Bz R R R Tryz.underlying27)<|zp (Aq R R R)<|zn<|?_
 refine zd R (fun c19d=> ?_) (fun c19d=> ?_)
 obtain ⟨z,hz⟩:∃z,(m.tempi)[p.1]? =some z:=Ay (by omega)
 obtain ⟨w,hw⟩:∃w,p.2.2[p.2.1]? =some w:=Ay (by omega)
 refine zi<|zs<|Ah<|zr<|zp (As R (by conv=>lhs;whnf))<|?_
 refine zm R R<|zp (Cm R R R (R) R Ou (by have:=hD.len;omega))<|zp (Ae (s':= .d (.agg (Tm.c z))) (Eh R R Rb R (C5 (hD.get hz)) lb) (by kernel_rfl))<|XL.step R (Al 5007 (l:= [.d (dI 0), .d (dI 0), .d (dB false)]) R Lu (by kernel_rfl))<|XL.step R (Af (l':= [.d (dI z.tk), .d (dI z.micros), .d (dB z.ramp)]) R R R R Pa R lb (by kernel_rfl))<|?_
 refine znr<|zm R R<|zp (Ae (s':= .d (.agg (Tm.c z))) (Ac (Ad R R Rb R lb)) (by kernel_rfl))<|XL.callv1 (ds:= [_]) R R R (Aec _ _) R<|zp (Fv R R)<|zn<|?_
 refine zd R (fun c29d=> ?_) (fun c29d=> ?_)
 refine zr<|zp (As R (by conv=>lhs;whnf))<|?_
 refine zm R R<|zp (Ae (s':= .d (.agg (Tm.c z))) (Ac (Ad R R Rb R lb)) (by kernel_rfl))<|zp (Cm R R R (R) R Ou (by have:=hD.lt;have:=hD.len;omega))<|XL.step R (E8 R R R (C5 hw) R R Pa R lb)<|zng<|zm R R<|zp (Am R R R (by omega) (by omega))<|za R R<|zn<|Ag (by kernel_rfl)<|zm R R<|zp (Am R R R (by omega) (by omega))<|za R R<|zn<|?_
 exact An ((p.1+1,p.2.1+1,p.2.2.set p.2.1 z)) (hD.put hz (Adp c29d)) (by show (m.tempi).length - (p.1+1)<(m.tempi).length - p.1;omega) (fz ⟨sr,sr,sr,sr,sr,trivial⟩) (gz ⟨R,R,Pk R R,R,R,trivial⟩)
 refine zi<|Ag (by kernel_rfl)<|zm R R<|zp (Am R R R (by omega) (by omega))<|za R R<|zn<|?_
 exact An ((p.1+1,p.2.1,p.2.2)) (hD.keep hz (Ag8 (Decidable.not_not.1 c29d))) (by show (m.tempi).length - (p.1+1)<(m.tempi).length - p.1;omega) (fz ⟨sr,sr,sr,sr,sr,trivial⟩) (gz ⟨R,R,R,R,R,trivial⟩)
 have hfin:=hD.fin (by omega)
 refine Av<|zr<|zp (As R (by conv=>lhs;whnf))<|?_
 refine zm R R<|zp (Kr R R R Ou (Bd.at R) Bd.no (by rw [List.length_map];have:=hD.lt;have:=hD.le;have:=hD.len;omega) (Nat.le_refl _))<|XL.step R (Ru (l2:=(p.2.2.take p.2.1++List.replicate (p.2.2.length - p.2.1) (⟨0,0,false⟩:Tm)).map Tm.c) (zs:= [dI 0,dI 0,dB false]) R (.sub R) Tryz.underlying27 Lu (by kernel_rfl) (by kernel_rfl) (by decide) (by omega) (hD.clr R))<|?_
 refine znr<|zp (As R (by conv=>lhs;whnf))<|?_
 refine zm R R<|XL.step R (Nx R R R Ou (.at R) (by rw [List.length_map,List.length_append,List.length_take,List.length_replicate];have:=hD.lt;have:=hD.le;have:=hD.len;omega))<|zp (Ar R (by conv=>lhs;whnf))<|?_
 refine zn<|zt<|?_
 refine (Dt (l:= [(6, .ptr 6 0 0),(10, .ptr 10 0 0)]) (by kernel_rfl) (Ci R (RVS.tmp R R)) ?_).2
 refine zp (Aa R R Fb)<|?_
 refine XL.step R (Af (l':= [.d (dI (m.h.sh t n).site), .d (dI (m.h.sh t n).num), .d (dI (m.h.sh t n).m.count), .d (dI (m.h.sh t n).m.unit), .d (dI (m.h.sh t n).m.g0), .d (dI (m.h.sh t n).m.g1), .d (dI (m.h.sh t n).m.g2), .d (dI (m.h.sh t n).m.g3), .d (dI (m.h.sh t n).m.g4), .d (dI (m.h.sh t n).m.g5), .d (dI (m.h.sh t n).len), .d (dI (m.h.sh t n).fifths), .d (dB (m.h.sh t n).start), .d (dI (m.h.sh t n).fin), .d (dI (m.h.sh t n).ends), .d (dI (m.h.sh t n).jump), .d (dI (m.h.sh t n).labels), .d (dI (m.h.sh t n).swing), .d (dI (m.h.sh t n).brk), .d (.v (.string ⟨(m.h.sh t n).reh.toArray⟩)), .own 7401, .own 7402]) R R R R Tg R lb (by kernel_rfl))<|?_
 refine znr<|XL.rowq (i:=7401) (l':=(m.tempi.filter (tmK (plS t n).len)).map Tm.c) R (by first|exact hD.cut.trans (congrArg (List.map Tm.c) hfin)|exact congrArg (List.map Tm.c) hfx.symm)<|XL.freeze (i:=7401) R<|XL.freezeT (i:=7402) R (Ad6 _ _) (by rw [Aic,hk0b,List.take_length,List.drop_length,List.append_nil])<|?_
 refine zp (Ae (s':= .d (.agg [dI (m.h.sh t n).site,dI (m.h.sh t n).num,dI (m.h.sh t n).m.count,dI (m.h.sh t n).m.unit,dI (m.h.sh t n).m.g0,dI (m.h.sh t n).m.g1,dI (m.h.sh t n).m.g2,dI (m.h.sh t n).m.g3,dI (m.h.sh t n).m.g4,dI (m.h.sh t n).m.g5,dI (m.h.sh t n).len,dI (m.h.sh t n).fifths,dB (m.h.sh t n).start,dI (m.h.sh t n).fin,dI (m.h.sh t n).ends,dI (m.h.sh t n).jump,dI (m.h.sh t n).labels,dI (m.h.sh t n).swing,dI (m.h.sh t n).brk, .v (.string ⟨(m.h.sh t n).reh.toArray⟩), .sl 3 ((m.tempi.filter (tmK (plS t n).len)).map Tm.c), .sl 2 ((m.cells.map (Cn (plS m.h.m m.h.len) (plS t n))).map Ce.c)])) (Ac (Ad R R Co R lb)) (by kernel_rfl))<|?_
 refine XL.step R (Af (l':= [.d (dI (m.h.sh t n).site), .d (dI (m.h.sh t n).num), .d (dI (m.h.sh t n).m.count), .d (dI (m.h.sh t n).m.unit), .d (dI (m.h.sh t n).m.g0), .d (dI (m.h.sh t n).m.g1), .d (dI (m.h.sh t n).m.g2), .d (dI (m.h.sh t n).m.g3), .d (dI (m.h.sh t n).m.g4), .d (dI (m.h.sh t n).m.g5), .d (dI (m.h.sh t n).len), .d (dI (m.h.sh t n).fifths), .d (dB (m.h.sh t n).start), .d (dI (m.h.sh t n).fin), .d (dI (m.h.sh t n).ends), .d (dI (m.h.sh t n).jump), .d (dI (m.h.sh t n).labels), .d (dI (m.h.sh t n).swing), .d (dI (m.h.sh t n).brk), .d (.v (.string ⟨(m.h.sh t n).reh.toArray⟩)), .d (.sl 3 ((m.tempi.filter (tmK (plS t n).len)).map Tm.c)), .d (.sl 2 ((m.cells.map (Cn (plS m.h.m m.h.len) (plS t n))).map Ce.c))]) R R R R Gl R lb (by kernel_rfl))<|?_
 refine za R R<|zn<|zt<|?_
 exact Ax R (RV.cells R R R Co lb R) (RV.tmp R R) (Uz (Arh c21 c33 (by rw [←hgo,hk0b,List.drop_length];rfl)))
 refine zi<|Ag (by kernel_rfl)<|zp (Am R R R (by omega) (by omega))<|zm R R<|zn<|?_
 exact An (q+1) (⟨by omega,by rw [S0 hy (Adp c16x),hfk, ←Bl hy]⟩) (by omega) (fz ⟨sr,sr,sr,sr,trivial⟩) (gz ⟨rfl,rfl,rfl,rfl,rfl,rfl,trivial⟩)
 have hfx:(m.tempi).filter (tmK (plS t n).len)=m.tempi:=by rw [show q=(m.tempi).length by omega,List.take_length] at hfk;exact hfk
 refine Av<|zr<|za R R<|zn<|zt<|?_
 refine (Dt (l:= [(0, .own 7401),(1, .d (.fn 67 [] [.pt (Pl.c (plS t n))])),(4, .d (.v (.slice none 0 0)))]) (by kernel_rfl) (rs1 R (RV.tmp R R)) ?_).2
 refine za R R<|zn<|zs<|zr<|zm R R<|zp (D3 (Ba R R R) (by decide))<|zn<|Aw (by kernel_rfl) R<|zr<|zp (As R (by conv=>lhs;whnf))<|?_
 refine zp (Ar R (by conv=>lhs;whnf))<|?_
 refine zn<|zt<|?_
 refine (Dt (l:= [(6, .ptr 6 0 0),(10, .ptr 10 0 0)]) (by kernel_rfl) (Ci R (RVS.tmp R R)) ?_).2
 refine zp (Aa R R Fb)<|?_
 refine XL.step R (Af (l':= [.d (dI (m.h.sh t n).site), .d (dI (m.h.sh t n).num), .d (dI (m.h.sh t n).m.count), .d (dI (m.h.sh t n).m.unit), .d (dI (m.h.sh t n).m.g0), .d (dI (m.h.sh t n).m.g1), .d (dI (m.h.sh t n).m.g2), .d (dI (m.h.sh t n).m.g3), .d (dI (m.h.sh t n).m.g4), .d (dI (m.h.sh t n).m.g5), .d (dI (m.h.sh t n).len), .d (dI (m.h.sh t n).fifths), .d (dB (m.h.sh t n).start), .d (dI (m.h.sh t n).fin), .d (dI (m.h.sh t n).ends), .d (dI (m.h.sh t n).jump), .d (dI (m.h.sh t n).labels), .d (dI (m.h.sh t n).swing), .d (dI (m.h.sh t n).brk), .d (.v (.string ⟨(m.h.sh t n).reh.toArray⟩)), .own 7401, .own 7402]) R R R R Tg R lb (by kernel_rfl))<|?_
 refine znr<|XL.rowq (i:=7401) (l':=(m.tempi.filter (tmK (plS t n).len)).map Tm.c) R (by first|exact hD.cut.trans (congrArg (List.map Tm.c) hfin)|exact congrArg (List.map Tm.c) hfx.symm)<|XL.freeze (i:=7401) R<|XL.freezeT (i:=7402) R (Ad6 _ _) (by rw [Aic,hk0b,List.take_length,List.drop_length,List.append_nil])<|?_
 refine zp (Ae (s':= .d (.agg [dI (m.h.sh t n).site,dI (m.h.sh t n).num,dI (m.h.sh t n).m.count,dI (m.h.sh t n).m.unit,dI (m.h.sh t n).m.g0,dI (m.h.sh t n).m.g1,dI (m.h.sh t n).m.g2,dI (m.h.sh t n).m.g3,dI (m.h.sh t n).m.g4,dI (m.h.sh t n).m.g5,dI (m.h.sh t n).len,dI (m.h.sh t n).fifths,dB (m.h.sh t n).start,dI (m.h.sh t n).fin,dI (m.h.sh t n).ends,dI (m.h.sh t n).jump,dI (m.h.sh t n).labels,dI (m.h.sh t n).swing,dI (m.h.sh t n).brk, .v (.string ⟨(m.h.sh t n).reh.toArray⟩), .sl 3 ((m.tempi.filter (tmK (plS t n).len)).map Tm.c), .sl 2 ((m.cells.map (Cn (plS m.h.m m.h.len) (plS t n))).map Ce.c)])) (Ac (Ad R R Co R lb)) (by kernel_rfl))<|?_
 refine XL.step R (Af (l':= [.d (dI (m.h.sh t n).site), .d (dI (m.h.sh t n).num), .d (dI (m.h.sh t n).m.count), .d (dI (m.h.sh t n).m.unit), .d (dI (m.h.sh t n).m.g0), .d (dI (m.h.sh t n).m.g1), .d (dI (m.h.sh t n).m.g2), .d (dI (m.h.sh t n).m.g3), .d (dI (m.h.sh t n).m.g4), .d (dI (m.h.sh t n).m.g5), .d (dI (m.h.sh t n).len), .d (dI (m.h.sh t n).fifths), .d (dB (m.h.sh t n).start), .d (dI (m.h.sh t n).fin), .d (dI (m.h.sh t n).ends), .d (dI (m.h.sh t n).jump), .d (dI (m.h.sh t n).labels), .d (dI (m.h.sh t n).swing), .d (dI (m.h.sh t n).brk), .d (.v (.string ⟨(m.h.sh t n).reh.toArray⟩)), .d (.sl 3 ((m.tempi.filter (tmK (plS t n).len)).map Tm.c)), .d (.sl 2 ((m.cells.map (Cn (plS m.h.m m.h.len) (plS t n))).map Ce.c))]) R R R R Gl R lb (by kernel_rfl))<|?_
 refine za R R<|zn<|zt<|?_
 exact Ax R (RV.cells R R R Co lb R) (RV.tmp R R) (Uz (Arh c21 c33 (by rw [←hgo,hk0b,List.drop_length];rfl)))
end Go.Proofs.YtaafemnkamfgnaaGreat
namespace Go.Proofs.YtaafemnkamfgnaaGreat
open Go.RowKit
def kR (n:Int) (v:Val):Ev:=⟨1,n,2,v, [], [],0,0,0, [],0,0⟩
def Ux:Vo:=⟨[kR 1 ⟨1,0⟩,kR 2 ⟨2,0⟩], []⟩
def Uw:Vo:=⟨[kR 3 ⟨1,1⟩], []⟩
def kCe:Ce:=⟨[], [Ux,Uw]⟩
def kMe:Me:=⟨3,4,0,0,0,0,0,0⟩
def Jv:Me:=⟨4,4,0,0,0,0,0,0⟩
def kM:Ms:=⟨⟨0,0,kMe,0,0,false,0,0,0,0,0,0, []⟩, [], [kCe]⟩
def kSl:List Slt:= [⟨0,0,0,0,967680⟩,⟨0,0,1,967680,1451520⟩,⟨0,1,0,0,1451520⟩]
theorem Air (n:Int) (v:Val):(kR n v).fit:=⟨Nat.zero_le _,Nat.zero_le _,Nat.zero_le _⟩
theorem Yq : kM.fit := ⟨by decide, by decide, fun c hc => by
 have:=List.mem_singleton.1 hc;subst this
 refine ⟨by decide,by decide,fun v hv=> ?_⟩
 simp only [kCe,List.mem_cons,List.not_mem_nil,or_false] at hv
 rcases hv with rfl|rfl
 ·exact ⟨by decide,by decide,fun e he=>by simp only [Ux,List.mem_cons,List.not_mem_nil,or_false] at he;rcases he with rfl|rfl<;>exact Air _ _⟩
 ·exact ⟨by decide, by decide, fun e he => by simp only [Uw, List.mem_cons, List.not_mem_nil, or_false] at he; rcases he with rfl; exact Air _ _⟩⟩
theorem Yr:kM.evs:=fun c hc v hv e he=>by
 have:=List.mem_singleton.1 hc;subst this
 simp only [kCe,List.mem_cons,List.not_mem_nil,or_false] at hv
 rcases hv with rfl|rfl
 ·simp only [Ux,List.mem_cons,List.not_mem_nil,or_false] at he;rcases he with rfl|rfl<;>decide
 ·simp only [Uw,List.mem_cons,List.not_mem_nil,or_false] at he;rcases he with rfl;decide
theorem Aip:slE kM=0:=by decide+kernel
theorem Aio:slL kM=kSl:=by decide+kernel
theorem Aq8:mlE kMe 0=0:=by decide+kernel
theorem Aq7:mlV kMe 0=1451520:=by decide+kernel
theorem Aq9:Zg kM= [0,967680]:=by
 unfold Zg
 rw [Aio,show kSl.map (·.on)= [0,967680,0] from rfl]
 have h1:srt [0,967680,0]= [0,0,967680]:=by
  have hp:([0,967680,0]:List Int).Perm [0,0,967680]:=by decide
  have e1:srt [0,967680,0]=srt [0,0,967680]:=by
   refine List.Perm.eq_of_pairwise (le:=fun a b=>decide (a≤b)=true) (fun a b _ _ h1 h2=>by simp at h1 h2;omega) (List.pairwise_mergeSort (fun a b c h1 h2=>by simp at h1 h2 ⊢;omega) (fun a b=>by simp;omega) _) (List.pairwise_mergeSort (fun a b c h1 h2=>by simp at h1 h2 ⊢;omega) (fun a b=>by simp;omega) _) ?_
   exact ((List.mergeSort_perm _ _).trans hp).trans (List.mergeSort_perm _ _).symm
  rw [e1]
  exact List.mergeSort_of_pairwise (by decide)
 rw [h1]
 decide+kernel
theorem Am3:I9 kM Jv 0=0:=by decide+kernel
theorem Asd:Mm kM Jv 0=Aga kM Jv 0 (plS kMe 0) (plS Jv 0):=by rw [Mm,Am3];rfl
theorem Aiq:(Cn (plS kMe 0) (plS Jv 0) kCe).voices.length=2:=by decide+kernel
theorem Ase : ∃ y, (Cn (plS kMe 0) (plS Jv 0) kCe).voices[1]? = some y ∧ y.evs.length = 2 := ⟨(Cn (plS kMe 0) (plS Jv 0) kCe).voices[1]'(by rw [Aiq]; decide), List.getElem?_eq_getElem _, by decide +kernel⟩
theorem Us (n:Int) (v:Val):XC Tryz.prog 94 [.agg [dI 1,dI n], .agg (Val.c v)] (fun r=>r= .agg (Ev.c (kR n v))):=by
 refine Ak Ack Tryz.func94 R R lb<|zr<|XL.step R (Ap 2 (l:= [.d (dI 1), .d (dI n)]) R R (by kernel_rfl))<|XL.step R (Ap 3 (l:= [.d (dI v.log), .d (dI v.dots)]) R R (by kernel_rfl))<|?_
 refine XL.step R (Al 4 (l:= [.d (dI 0), .d (dI 0), .d (dI 0), .d (dI 0), .d (dI 0), .d (.v (.slice none 0 0)), .d (.v (.slice none 0 0)), .d (dI 0), .d (dI 0), .d (dI 0), .d (.v (.slice none 0 0)), .d (dI 0), .d (dI 0)]) R B9 (by kernel_rfl))<|znr<|zp (Ae (s':= .d (.agg [dI 1,dI n])) (Ac (Ad R R Ajy R lb)) (by kernel_rfl))<|?_
 refine zp (Ae (s':= .d (.agg (Val.c v))) (Ac (Ad R R Eb R lb)) (by kernel_rfl))<|zp (Ae (s':= .d (.agg [dI 1,dI n,dI 2,dI v.log,dI v.dots, .v (.slice none 0 0), .v (.slice none 0 0),dI 0,dI 0,dI 0, .v (.slice none 0 0),dI 0,dI 0])) (Ac (Az R Pb B9 R)) (by kernel_rfl))<|?_
 refine XL.step R (Af (l':= [.d (dI 1), .d (dI n), .d (dI 2), .d (dI v.log), .d (dI v.dots), .d (.v (.slice none 0 0)), .d (.v (.slice none 0 0)), .d (dI 0), .d (dI 0), .d (dI 0), .d (.v (.slice none 0 0)), .d (dI 0), .d (dI 0)]) R R R R Cz R lb (by kernel_rfl))<|zn<|zt<|?_
 exact Jn R (RV.sub (RV.cells R R R Bu lb R) (.agg (.cons (.same R) (.cons (.same R) (.cons (.same R) (.cons (.same R) (.cons (.same R) (.cons (.nil 5) (.cons (.nil 5) (.cons (.same R) (.cons (.same R) (.cons (.same R) (.cons (.nil 2) (.cons (.same R) (.cons (.same R) (.nil)))))))))))))))) (R)
theorem Lf  :XC Tryz.prog 55 [] (fun r=>r= .agg (Ms.c kM)):=by
 refine Ak Ac4 Tryz.func55 R R lb<|zr<|XL.step R (Al 0 (l:= [.d (dI 0), .d (dI 0), .d (dI 0), .d (dI 0), .d (dI 0), .d (dI 0), .d (dI 0), .d (dI 0), .d (dI 0), .d (dI 0), .d (dI 0), .d (dI 0), .d (dB false), .d (dI 0), .d (dI 0), .d (dI 0), .d (dI 0), .d (dI 0), .d (dI 0), .d (.v (.string ⟨#[]⟩)), .d (.v (.slice none 0 0)), .d (.v (.slice none 0 0))]) R F3 (by kernel_rfl))<|znr<|?_
 refine zp (Ae (s':= .d (.agg [dI 1,dI 1])) (Ac (Az R Xq Uj R)) (by kernel_rfl))<|zp (Ae (s':= .d (.agg [dI 1,dI 0])) (Ac (Az R Xo Fe R)) (by kernel_rfl))<|XL.call1 R R (Us 1 ⟨1,0⟩) R<|zp (Ae (s':= .d (.agg [dI 1,dI 2])) (Ac (Az R Xq Uj R)) (by kernel_rfl))<|?_
 refine zp (Ae (s':= .d (.agg [dI 2,dI 0])) (Ac (Az R Xo Fe R)) (by kernel_rfl))<|XL.call1 R R (Us 2 ⟨2,0⟩) R<|XL.step R (Al 1 (l:= [.d (dI 0), .d (dI 0), .d (dI 0), .d (dI 0), .d (dI 0), .d (.v (.slice none 0 0)), .d (.v (.slice none 0 0)), .d (dI 0), .d (dI 0), .d (dI 0), .d (.v (.slice none 0 0)), .d (dI 0), .d (dI 0)]) R B9 (by kernel_rfl))<|?_
 refine XL.step R (Al 2 (l:= [.d (dI 0), .d (dI 0), .d (dI 0), .d (dI 0), .d (dI 0), .d (.v (.slice none 0 0)), .d (.v (.slice none 0 0)), .d (dI 0), .d (dI 0), .d (dI 0), .d (.v (.slice none 0 0)), .d (dI 0), .d (dI 0)]) R B9 (by kernel_rfl))<|?_
 refine XL.step R (Af (l':= [.d (dI (kR 1 ⟨1,0⟩).site), .d (dI (kR 1 ⟨1,0⟩).num), .d (dI (kR 1 ⟨1,0⟩).kind), .d (dI (kR 1 ⟨1,0⟩).v.log), .d (dI (kR 1 ⟨1,0⟩).v.dots), .d (.sl 5 ((kR 1 ⟨1,0⟩).heads.map Hd.c)), .d (.sl 5 ((kR 1 ⟨1,0⟩).graces.map Gr.c)), .d (dI (kR 1 ⟨1,0⟩).art), .d (dI (kR 1 ⟨1,0⟩).orn), .d (dI (kR 1 ⟨1,0⟩).dyn), .d (.sl 2 ((kR 1 ⟨1,0⟩).lyr.map Sy.c)), .d (dI (kR 1 ⟨1,0⟩).stem), .d (dI (kR 1 ⟨1,0⟩).beam)]) R R R R Cz R lb (by kernel_rfl))<|?_
 refine XL.step R (Af (l':= [.d (dI (kR 2 ⟨2,0⟩).site), .d (dI (kR 2 ⟨2,0⟩).num), .d (dI (kR 2 ⟨2,0⟩).kind), .d (dI (kR 2 ⟨2,0⟩).v.log), .d (dI (kR 2 ⟨2,0⟩).v.dots), .d (.sl 5 ((kR 2 ⟨2,0⟩).heads.map Hd.c)), .d (.sl 5 ((kR 2 ⟨2,0⟩).graces.map Gr.c)), .d (dI (kR 2 ⟨2,0⟩).art), .d (dI (kR 2 ⟨2,0⟩).orn), .d (dI (kR 2 ⟨2,0⟩).dyn), .d (.sl 2 ((kR 2 ⟨2,0⟩).lyr.map Sy.c)), .d (dI (kR 2 ⟨2,0⟩).stem), .d (dI (kR 2 ⟨2,0⟩).beam)]) R R R R Cz R lb (by kernel_rfl))<|?_
 refine znr<|zp (Ae (s':= .d (.agg [dI 1,dI 3])) (Ac (Az R Xq Uj R)) (by kernel_rfl))<|zp (Ae (s':= .d (.agg [dI 1,dI 1])) (Ac (Az R Xo Fe R)) (by kernel_rfl))<|XL.call1 R R (Us 3 ⟨1,1⟩) R<|?_
 refine XL.step R (Al 3 (l:= [.d (dI 0), .d (dI 0), .d (dI 0), .d (dI 0), .d (dI 0), .d (.v (.slice none 0 0)), .d (.v (.slice none 0 0)), .d (dI 0), .d (dI 0), .d (dI 0), .d (.v (.slice none 0 0)), .d (dI 0), .d (dI 0)]) R B9 (by kernel_rfl))<|?_
 refine XL.step R (Af (l':= [.d (dI (kR 3 ⟨1,1⟩).site), .d (dI (kR 3 ⟨1,1⟩).num), .d (dI (kR 3 ⟨1,1⟩).kind), .d (dI (kR 3 ⟨1,1⟩).v.log), .d (dI (kR 3 ⟨1,1⟩).v.dots), .d (.sl 5 ((kR 3 ⟨1,1⟩).heads.map Hd.c)), .d (.sl 5 ((kR 3 ⟨1,1⟩).graces.map Gr.c)), .d (dI (kR 3 ⟨1,1⟩).art), .d (dI (kR 3 ⟨1,1⟩).orn), .d (dI (kR 3 ⟨1,1⟩).dyn), .d (.sl 2 ((kR 3 ⟨1,1⟩).lyr.map Sy.c)), .d (dI (kR 3 ⟨1,1⟩).stem), .d (dI (kR 3 ⟨1,1⟩).beam)]) R R R R Cz R lb (by kernel_rfl))<|?_
 refine znr<|zp (Ae (s':= .d (.agg [dI 3,dI 4,dI 0,dI 0,dI 0,dI 0,dI 0,dI 0])) (Ac (Az R Ahd Adj R)) (by kernel_rfl))<|zp (Ae (s':= .d (.agg (Ev.c (kR 1 ⟨1,0⟩)))) (Ac (Ad R R Bu R lb)) (by kernel_rfl))<|zp (Ae (s':= .d (.agg (Ev.c (kR 2 ⟨2,0⟩)))) (Ac (Ad R R Bu R lb)) (by kernel_rfl))<|?_
 refine XL.step R (Gu (l:= [kR 1 ⟨1,0⟩,kR 2 ⟨2,0⟩].map Ev.c) R Tryz.underlying79 Cz B9 (by kernel_rfl) R (by omega) (by omega))<|zp (Oe (.agg (Vo.c Ux)) (Ae (s':= .d (.agg [.sl 13 ([kR 1 ⟨1,0⟩,kR 2 ⟨2,0⟩].map Ev.c), .v (.slice none 0 0)])) (Ac (Az R Cv Be R)) (by kernel_rfl)) (.agg (.cons (.same R) (.cons (.nil 4) (.nil)))))<|?_
 refine zp (Ae (s':= .d (.agg (Ev.c (kR 3 ⟨1,1⟩)))) (Ac (Ad R R Bu R lb)) (by kernel_rfl))<|XL.step R (Gu (l:= [kR 3 ⟨1,1⟩].map Ev.c) R Tryz.underlying79 Cz B9 (by kernel_rfl) R (by omega) (by omega))<|?_
 refine zp (Oe (.agg (Vo.c Uw)) (Ae (s':= .d (.agg [.sl 13 ([kR 3 ⟨1,1⟩].map Ev.c), .v (.slice none 0 0)])) (Ac (Az R Cv Be R)) (by kernel_rfl)) (.agg (.cons (.same R) (.cons (.nil 4) (.nil)))))<|XL.step R (Gu (l:= [Ux,Uw].map Vo.c) R Tryz.underlying76 Bo Be (by kernel_rfl) R (by omega) (by omega))<|?_
 refine zp (Oe (.agg (Ce.c kCe)) (Ae (s':= .d (.agg [.v (.slice none 0 0), .sl 2 ([Ux,Uw].map Vo.c)])) (Ac (Az R Ahc Gm R)) (by kernel_rfl)) (.agg (.cons (.nil 2) (.cons (.same R) (.nil)))))<|XL.step R (Gu (l:= [kCe].map Ce.c) R Tryz.underlying28 Mw Gm (by kernel_rfl) R (by omega) (by omega))<|?_
 refine zp (Oe (.agg (Ms.c kM)) (Ae (s':= .d (.agg [dI 0,dI 0,dI 3,dI 4,dI 0,dI 0,dI 0,dI 0,dI 0,dI 0,dI 0,dI 0,dB false,dI 0,dI 0,dI 0,dI 0,dI 0,dI 0, .v (.string ⟨#[]⟩), .v (.slice none 0 0), .sl 2 ([kCe].map Ce.c)])) (Ac (Az R Pc F3 R)) (by kernel_rfl)) (.agg (.cons (.same R) (.cons (.same R) (.cons (.same R) (.cons (.same R) (.cons (.same R) (.cons (.same R) (.cons (.same R) (.cons (.same R) (.cons (.same R) (.cons (.same R) (.cons (.same R) (.cons (.same R) (.cons (.same R) (.cons (.same R) (.cons (.same R) (.cons (.same R) (.cons (.same R) (.cons (.same R) (.cons (.same R) (.cons (.same R) (.cons (.nil 3) (.cons (.same R) (.nil)))))))))))))))))))))))))<|?_
 refine XL.step R (Af (l':= [.d (dI kM.h.site), .d (dI kM.h.num), .d (dI kM.h.m.count), .d (dI kM.h.m.unit), .d (dI kM.h.m.g0), .d (dI kM.h.m.g1), .d (dI kM.h.m.g2), .d (dI kM.h.m.g3), .d (dI kM.h.m.g4), .d (dI kM.h.m.g5), .d (dI kM.h.len), .d (dI kM.h.fifths), .d (dB kM.h.start), .d (dI kM.h.fin), .d (dI kM.h.ends), .d (dI kM.h.jump), .d (dI kM.h.labels), .d (dI kM.h.swing), .d (dI kM.h.brk), .d (.v (.string ⟨kM.h.reh.toArray⟩)), .d (.sl 3 (kM.tempi.map Tm.c)), .d (.sl 2 (kM.cells.map Ce.c))]) R R R R Gl R lb (by kernel_rfl))<|?_
 refine zn<|zt<|?_
 exact Jn R (RV.cells R R R Co lb R) (R)
theorem Ain:XC Tryz.prog 20 [.agg (Ms.c kM)] (fun r=>r= .tup [.sl 5 (kSl.map Slt.c),dI 0]):=by
 have:=Xu kM Yq Yr
 rw [Aio,Aip] at this;exact this
theorem Aoz:XC Tryz.prog 21 [.agg (Ms.c kM)] (fun r=>r= .tup [.sl 1 (([0,967680]:List Int).map iv),dI 0]):=by
 have:=Agj kM Yq Yr
 rw [Aq9,Aip] at this;exact this
def kF:Ms:=Aga kM Jv 0 (plS kMe 0) (plS Jv 0)
theorem Aoy:XC Tryz.prog 28 [.agg (Ms.c kM), .agg (Me.c Jv),dI 0] (fun r=>r= .tup [.agg (Ms.c kF),dI 0]):=by
 have:=Aor kM Jv 0 Yq Yr
 rw [Asd,Am3] at this;exact this
theorem Aox:XC Tryz.prog 15 [.agg (Ms.c kM)] (fun r=>r= .tup [dI 1451520,dI 0]):=by
 have:=Px kM.h kM.tempi kM.cells
 rw [show mlV kM.h.m kM.h.len=1451520 from Aq7,show mlE kM.h.m kM.h.len=0 from Aq8] at this;exact this
theorem Alk  :XC Tryz.prog 19 [] (fun r=>r=dB true):=by
 obtain ⟨y,hy,hyl⟩:=Ase
 refine Ak Adg Tryz.func19 R R lb<|zr<|za R R<|znr<|XL.call1 R R (Lf) R<|XL.call1 R R (Ain) R<|zm R R<|zp (Ao R R R)<|zp (Ao R R R)<|za R R<|za R R<|znr<|XL.call1 R R (Lf) R<|XL.call1 R R (Aoz) R<|?_
 refine zm R R<|zp (Ao R R R)<|zp (Ao R R R)<|za R R<|za R R<|znr<|XL.call1 R R (Lf) R<|zp (Ae (s':= .d (.agg (Me.c Jv))) (Ac (Az R Ahd Adj R)) (by kernel_rfl))<|XL.call1 R R (Aoy) R<|zm R R<|zp (Ao R R R)<|zp (Ao R R R)<|?_
 refine XL.step R (Al 5 (l:= [.d (dI 0), .d (dI 0), .d (dI 0), .d (dI 0), .d (dI 0), .d (dI 0), .d (dI 0), .d (dI 0), .d (dI 0), .d (dI 0), .d (dI 0), .d (dI 0), .d (dB false), .d (dI 0), .d (dI 0), .d (dI 0), .d (dI 0), .d (dI 0), .d (dI 0), .d (.v (.string ⟨#[]⟩)), .d (.v (.slice none 0 0)), .d (.v (.slice none 0 0))]) R F3 (by kernel_rfl))<|?_
 refine XL.step R (Af (l':= [.d (dI kF.h.site), .d (dI kF.h.num), .d (dI kF.h.m.count), .d (dI kF.h.m.unit), .d (dI kF.h.m.g0), .d (dI kF.h.m.g1), .d (dI kF.h.m.g2), .d (dI kF.h.m.g3), .d (dI kF.h.m.g4), .d (dI kF.h.m.g5), .d (dI kF.h.len), .d (dI kF.h.fifths), .d (dB kF.h.start), .d (dI kF.h.fin), .d (dI kF.h.ends), .d (dI kF.h.jump), .d (dI kF.h.labels), .d (dI kF.h.swing), .d (dI kF.h.brk), .d (.v (.string ⟨kF.h.reh.toArray⟩)), .d (.sl 3 (kF.tempi.map Tm.c)), .d (.sl 2 (kF.cells.map Ce.c))]) R R R R Gl R lb (by kernel_rfl))<|?_
 refine za R R<|znr<|XL.call1 R R (Lf) R<|XL.call1 R R (Aox) R<|zm R R<|zp (Ao R R R)<|zp (Ao R R R)<|za R R<|za R R<|znr<|zm R R<|zp (D3 (Ba R R R) (R))<|zm R R<|zm R R<|?_
 refine XL.len R R R Tryz.underlying42 fun hl34=>zp (D3 (Ba R R R) (by decide))<|zq R R R<|zm R R<|zm R R<|zp (Au (k:=1) R R R Ana ((R:kSl[1]? =some ⟨0,0,1,967680,1451520⟩)))<|zp (Ae (s':= .d (.agg (Slt.c (⟨0,0,1,967680,1451520⟩)))) (Bc R R Ajx lb) (by kernel_rfl))<|?_
 refine zp (Ae (s':= .d (.agg [dI 0,dI 0,dI 1,dI 967680,dI 1451520])) (Ac (Az R Xp Ll R)) (by kernel_rfl))<|zp (Ae (s':= .d (dB true)) (Aky R R R) (by kernel_rfl))<|zq R R R<|zm R R<|zm R R<|zp (D3 (Ba R R R) (R))<|zq R R R<|zm R R<|zm R R<|XL.len R R R Tryz.underlying45 fun hl50=>zp (D3 (Ba R R R) (by decide))<|zq R R R<|zm R R<|zm R R<|?_
 refine zp (Au (k:=1) R R R Dj ((R:([0,967680]:List Int)[1]? =some 967680)))<|zp (A8 R R Ai)<|zp (D3 (Ba R R R) (R))<|zq R R R<|zm R R<|zm R R<|zp (D3 (Ba R R R) (R))<|zq R R R<|zm R R<|zp (Aa R R Cx)<|zp (Ab R R G4 R R)<|XL.len R R R Tryz.underlying28 fun hl66=>zp (D3 (Ba R R R) (by decide))<|zq R R R<|?_
 refine zm R R<|zp (Aa R R Cx)<|zp (Ab R R G4 R R)<|zp (Au (k:=0) R R R J1 ((R:kF.cells[0]? =some (Cn (plS kMe 0) (plS Jv 0) kCe))))<|zp (El R R Ep)<|zp (A8 R R Iz)<|XL.len R R R Tryz.underlying76 fun hl75=>zp (D3 (Ba R R R) (by rw [Aiq];rfl))<|zq R R R<|zm R R<|zp (Aa R R Cx)<|zp (Ab R R G4 R R)<|?_
 refine zp (Au (k:=0) R R R J1 ((R:kF.cells[0]? =some (Cn (plS kMe 0) (plS Jv 0) kCe))))<|zp (El R R Ep)<|zp (A8 R R Iz)<|zp (Au (k:=1) R R R Q6 (hy))<|zp (El R R Bw)<|zp (A8 R R C8)<|XL.len R R R Tryz.underlying79 fun hl87=>zp (D3 (Ba R R R) (by rw [hyl];rfl))<|zq R R R<|zm R R<|zm R R<|zp (D3 (Ba R R R) (R))<|?_
 exact zq R R R<|zm R R<|zm R R<|zp (D3 (Ba R R R) (R))<|zq R R R<|za R R<|zn<|zt<|z1 R R (R)
end Go.Proofs.YtaafemnkamfgnaaGreat
namespace Go.Proofs.YtaafemnkamfgnaaGreat
open Go.RowKit
theorem Ap1:sizeB Tryz.prog 195 63=true:=by kernel_rfl
theorem W8:zeroB Tryz.prog 195 (.agg #[.string ⟨#[]⟩, .int .u8 0, .int .i64 0, .int .i64 0, .int .i64 0, .int .i64 0, .int .i64 0, .string ⟨#[]⟩, .int .u8 0, .int .i64 0, .int .i64 0, .int .i64 0, .int .i64 0, .int .i64 0, .string ⟨#[]⟩, .int .u8 0, .int .i64 0, .int .i64 0, .int .i64 0, .int .i64 0, .int .i64 0, .string ⟨#[]⟩, .int .u8 0, .int .i64 0, .int .i64 0, .int .i64 0, .int .i64 0, .int .i64 0, .string ⟨#[]⟩, .int .u8 0, .int .i64 0, .int .i64 0, .int .i64 0, .int .i64 0, .int .i64 0, .string ⟨#[]⟩, .int .u8 0, .int .i64 0, .int .i64 0, .int .i64 0, .int .i64 0, .int .i64 0, .string ⟨#[]⟩, .int .u8 0, .int .i64 0, .int .i64 0, .int .i64 0, .int .i64 0, .int .i64 0, .string ⟨#[]⟩, .int .u8 0, .int .i64 0, .int .i64 0, .int .i64 0, .int .i64 0, .int .i64 0, .string ⟨#[]⟩, .int .u8 0, .int .i64 0, .int .i64 0, .int .i64 0, .int .i64 0, .int .i64 0]):=by unfold zeroB;kernel_rfl
theorem App:aggB Tryz.prog 195 63=true:=by kernel_rfl
theorem G7 {P:Program} {o:Oper} {e:Operand→S} {h:Xh} {t m k sz:Nat} {x y:Operand} {l:List D} {el:TypeId} {ik:IntKind} {a:Int} (ho:o.op= .index t x y) (hx:e x= .d (.agg l)) (hy:e y= .d (.v (.int ik a))) (ha:a=(k:Int)) (hu:P.underlying t=some (.array m el)) (hs:aggB P el sz=true) (h1:sizeB P el sz=true) (hk:k<m) (hl:k*sz+sz≤l.length):Bb P o e h (.d (.agg ((l.drop (k*sz)).take sz))):=fun E H β ρ w _ hop=>by
 subst ha
 have g:=hop x (by rw [ho];simp [Op.operands])
 have g2:=hop y (by rw [ho];simp [Op.operands])
 rw [hx] at g
 rw [hy] at g2
 obtain ⟨cs,e1,e2,e3⟩:=Ns (Dx g)
 have hlt:(0:Int)≤(k:Int)∧(k:Int)<(m:Int):=⟨by omega,by omega⟩
 refine ⟨.agg (cs.extract (k*sz) (k*sz+sz)), ?_, .d (.agg _ _ (by simp;omega) fun i v d hv hd=> ?_)⟩
 ·unfold execOp
  simp only [ho,e1,Da g2,Instr.index,asIntOf,Sem.run_bind,run_underlying hu,Result.andThen_ok,Sem.run_pure,hlt,and_self,if_true,sizeB.run h1,Int.toNat_natCast,part,(aggB.isAgg hs w).1,show k*sz+sz≤cs.size by omega,decide_true]
 ·rw [List.getElem?_take] at hd
  split at hd
  ·rw [List.getElem?_drop] at hd
   rw [Array.getElem?_extract] at hv
   split at hv
   ·exact e3 _ v d hv hd
   ·cases hv
  ·cases hd
def cfE (c:Int):Int:=if c<1∨9<c then 11 else 0
theorem Ato {c:Int} (h:c<1∨9<c):11=cfE c:=by rw [cfE,if_pos h]
theorem Hb  :XC Tryz.prog 137 [] (fun r=>r= .agg [.v (.string ⟨#[116,114,101,98,108,101]⟩), .v (.int .u8 71),dI (-2),dI 0,dI 34,dI (-1),dI (-3), .v (.string ⟨#[98,97,115,115]⟩), .v (.int .u8 70),dI 2,dI 0,dI 22,dI (-3),dI (-5), .v (.string ⟨#[97,108,116,111]⟩), .v (.int .u8 67),dI 0,dI 0,dI 28,dI (-2),dI (-4), .v (.string ⟨#[116,101,110,111,114]⟩), .v (.int .u8 67),dI 2,dI 0,dI 26,dI (-2),dI (-2), .v (.string ⟨#[115,111,112,114,97,110,111]⟩), .v (.int .u8 67),dI (-4),dI 0,dI 32,dI (-2),dI (-3), .v (.string ⟨#[109,101,122,122,111,115,111,112,114,97,110,111]⟩), .v (.int .u8 67),dI (-2),dI 0,dI 30,dI (-2),dI (-3), .v (.string ⟨#[98,97,114,105,116,111,110,101]⟩), .v (.int .u8 70),dI 0,dI 0,dI 24,dI (-2),dI (-3), .v (.string ⟨#[116,114,101,98,108,101,56]⟩), .v (.int .u8 71),dI (-2),dI (-1),dI 27,dI (-1),dI (-3), .v (.string ⟨#[98,97,115,115,56]⟩), .v (.int .u8 70),dI 2,dI (-1),dI 15,dI (-3),dI (-5)]):=by
 refine Ak Aa8 Tryz.func137 R R lb<|zr<|?_
 refine XL.step R (Al 0 (l:= [.d (.v (.string ⟨#[]⟩)), .d (.v (.int .u8 0)), .d (dI 0), .d (dI 0), .d (dI 0), .d (dI 0), .d (dI 0), .d (.v (.string ⟨#[]⟩)), .d (.v (.int .u8 0)), .d (dI 0), .d (dI 0), .d (dI 0), .d (dI 0), .d (dI 0), .d (.v (.string ⟨#[]⟩)), .d (.v (.int .u8 0)), .d (dI 0), .d (dI 0), .d (dI 0), .d (dI 0), .d (dI 0), .d (.v (.string ⟨#[]⟩)), .d (.v (.int .u8 0)), .d (dI 0), .d (dI 0), .d (dI 0), .d (dI 0), .d (dI 0), .d (.v (.string ⟨#[]⟩)), .d (.v (.int .u8 0)), .d (dI 0), .d (dI 0), .d (dI 0), .d (dI 0), .d (dI 0), .d (.v (.string ⟨#[]⟩)), .d (.v (.int .u8 0)), .d (dI 0), .d (dI 0), .d (dI 0), .d (dI 0), .d (dI 0), .d (.v (.string ⟨#[]⟩)), .d (.v (.int .u8 0)), .d (dI 0), .d (dI 0), .d (dI 0), .d (dI 0), .d (dI 0), .d (.v (.string ⟨#[]⟩)), .d (.v (.int .u8 0)), .d (dI 0), .d (dI 0), .d (dI 0), .d (dI 0), .d (dI 0), .d (.v (.string ⟨#[]⟩)), .d (.v (.int .u8 0)), .d (dI 0), .d (dI 0), .d (dI 0), .d (dI 0), .d (dI 0)]) R W8 (by kernel_rfl))<|?_
 refine znr<|zp (Ae (s':= .d (.agg [.v (.string ⟨#[116,114,101,98,108,101]⟩), .v (.int .u8 71),dI (-2),dI 0,dI 34,dI (-1),dI (-3)])) (Ac (Az R Gp B5 R)) (by kernel_rfl))<|zp (Ae (s':= .d (.agg [.v (.string ⟨#[98,97,115,115]⟩), .v (.int .u8 70),dI 2,dI 0,dI 22,dI (-3),dI (-5)])) (Ac (Az R Gp B5 R)) (by kernel_rfl))<|?_
 refine zp (Ae (s':= .d (.agg [.v (.string ⟨#[97,108,116,111]⟩), .v (.int .u8 67),dI 0,dI 0,dI 28,dI (-2),dI (-4)])) (Ac (Az R Gp B5 R)) (by kernel_rfl))<|zp (Ae (s':= .d (.agg [.v (.string ⟨#[116,101,110,111,114]⟩), .v (.int .u8 67),dI 2,dI 0,dI 26,dI (-2),dI (-2)])) (Ac (Az R Gp B5 R)) (by kernel_rfl))<|?_
 refine zp (Ae (s':= .d (.agg [.v (.string ⟨#[115,111,112,114,97,110,111]⟩), .v (.int .u8 67),dI (-4),dI 0,dI 32,dI (-2),dI (-3)])) (Ac (Az R Gp B5 R)) (by kernel_rfl))<|?_
 refine zp (Ae (s':= .d (.agg [.v (.string ⟨#[109,101,122,122,111,115,111,112,114,97,110,111]⟩), .v (.int .u8 67),dI (-2),dI 0,dI 30,dI (-2),dI (-3)])) (Ac (Az R Gp B5 R)) (by kernel_rfl))<|?_
 refine zp (Ae (s':= .d (.agg [.v (.string ⟨#[98,97,114,105,116,111,110,101]⟩), .v (.int .u8 70),dI 0,dI 0,dI 24,dI (-2),dI (-3)])) (Ac (Az R Gp B5 R)) (by kernel_rfl))<|?_
 refine zp (Ae (s':= .d (.agg [.v (.string ⟨#[116,114,101,98,108,101,56]⟩), .v (.int .u8 71),dI (-2),dI (-1),dI 27,dI (-1),dI (-3)])) (Ac (Az R Gp B5 R)) (by kernel_rfl))<|zp (Ae (s':= .d (.agg [.v (.string ⟨#[98,97,115,115,56]⟩), .v (.int .u8 70),dI 2,dI (-1),dI 15,dI (-3),dI (-5)])) (Ac (Az R Gp B5 R)) (by kernel_rfl))<|?_
 refine zp (Ae (s':= .d (.agg [.v (.string ⟨#[116,114,101,98,108,101]⟩), .v (.int .u8 71),dI (-2),dI 0,dI 34,dI (-1),dI (-3), .v (.string ⟨#[98,97,115,115]⟩), .v (.int .u8 70),dI 2,dI 0,dI 22,dI (-3),dI (-5), .v (.string ⟨#[97,108,116,111]⟩), .v (.int .u8 67),dI 0,dI 0,dI 28,dI (-2),dI (-4), .v (.string ⟨#[116,101,110,111,114]⟩), .v (.int .u8 67),dI 2,dI 0,dI 26,dI (-2),dI (-2), .v (.string ⟨#[115,111,112,114,97,110,111]⟩), .v (.int .u8 67),dI (-4),dI 0,dI 32,dI (-2),dI (-3), .v (.string ⟨#[109,101,122,122,111,115,111,112,114,97,110,111]⟩), .v (.int .u8 67),dI (-2),dI 0,dI 30,dI (-2),dI (-3), .v (.string ⟨#[98,97,114,105,116,111,110,101]⟩), .v (.int .u8 70),dI 0,dI 0,dI 24,dI (-2),dI (-3), .v (.string ⟨#[116,114,101,98,108,101,56]⟩), .v (.int .u8 71),dI (-2),dI (-1),dI 27,dI (-1),dI (-3), .v (.string ⟨#[98,97,115,115,56]⟩), .v (.int .u8 70),dI 2,dI (-1),dI 15,dI (-3),dI (-5)])) (Ac (K9 R Tryz.underlying195 Cu W8 R)) (by kernel_rfl))<|?_
 refine XL.step R (Af (l':= [.d (.v (.string ⟨#[116,114,101,98,108,101]⟩)), .d (.v (.int .u8 71)), .d (dI (-2)), .d (dI 0), .d (dI 34), .d (dI (-1)), .d (dI (-3)), .d (.v (.string ⟨#[98,97,115,115]⟩)), .d (.v (.int .u8 70)), .d (dI 2), .d (dI 0), .d (dI 22), .d (dI (-3)), .d (dI (-5)), .d (.v (.string ⟨#[97,108,116,111]⟩)), .d (.v (.int .u8 67)), .d (dI 0), .d (dI 0), .d (dI 28), .d (dI (-2)), .d (dI (-4)), .d (.v (.string ⟨#[116,101,110,111,114]⟩)), .d (.v (.int .u8 67)), .d (dI 2), .d (dI 0), .d (dI 26), .d (dI (-2)), .d (dI (-2)), .d (.v (.string ⟨#[115,111,112,114,97,110,111]⟩)), .d (.v (.int .u8 67)), .d (dI (-4)), .d (dI 0), .d (dI 32), .d (dI (-2)), .d (dI (-3)), .d (.v (.string ⟨#[109,101,122,122,111,115,111,112,114,97,110,111]⟩)), .d (.v (.int .u8 67)), .d (dI (-2)), .d (dI 0), .d (dI 30), .d (dI (-2)), .d (dI (-3)), .d (.v (.string ⟨#[98,97,114,105,116,111,110,101]⟩)), .d (.v (.int .u8 70)), .d (dI 0), .d (dI 0), .d (dI 24), .d (dI (-2)), .d (dI (-3)), .d (.v (.string ⟨#[116,114,101,98,108,101,56]⟩)), .d (.v (.int .u8 71)), .d (dI (-2)), .d (dI (-1)), .d (dI 27), .d (dI (-1)), .d (dI (-3)), .d (.v (.string ⟨#[98,97,115,115,56]⟩)), .d (.v (.int .u8 70)), .d (dI 2), .d (dI (-1)), .d (dI 15), .d (dI (-3)), .d (dI (-5))]) R R R R Ap1 R lb (by kernel_rfl))<|?_
 refine zn<|zt<|?_
 exact Jn R (RV.cells R R R App lb R) (R)
theorem Aqv  :XC Tryz.prog 106 [.v (.int .i64 1)] (fun r=>r= .tup [.agg [.v (.string ⟨#[116,114,101,98,108,101]⟩), .v (.int .u8 71),dI (-2),dI 0,dI 34,dI (-1),dI (-3)],dI 0]):=by
 refine Ak Ea Tryz.func106 R R lb<|zr<|XL.step R (Al 2 (l:= [.d (.v (.string ⟨#[]⟩)), .d (.v (.int .u8 0)), .d (dI 0), .d (dI 0), .d (dI 0), .d (dI 0), .d (dI 0)]) R B5 (by kernel_rfl))<|za R R<|zn<|zs<|zr<|zm R R<|zp (D2 (Aq R R R) (by decide))<|zm R R<|zm R R<|zp (D2 (A6 R R R) (by decide))<|zq R R R<|zn<|?_
 refine A1 (by kernel_rfl) R<|zi<|zr<|XL.call1 R R (Hb) R<|zm R R<|zp (Dm R R R (by decide) (by decide))<|zp (Ae (s':= .d (.agg ([.v (.string ⟨#[116,114,101,98,108,101]⟩), .v (.int .u8 71),dI (-2),dI 0,dI 34,dI (-1),dI (-3)]))) (G7 (k:=0) R R R R Tryz.underlying195 Dv Cu (by decide) (by decide)) (by kernel_rfl))<|?_
 refine XL.step R (Af (l':= [.d (.v (.string ⟨#[116,114,101,98,108,101]⟩)), .d (.v (.int .u8 71)), .d (dI (-2)), .d (dI 0), .d (dI 34), .d (dI (-1)), .d (dI (-3))]) R R R R Cu R lb (by kernel_rfl))<|za R R<|zn<|zt<|?_
 exact Ax R (RV.cells R R R Dv lb R) (RV.tmp R R) (R)
theorem Amj  :XC Tryz.prog 75 [.v (.int .i64 1)] (fun r=>r=dI 0):=by
 refine Ak Ei Tryz.func75 R R lb<|zr<|za R R<|znr<|zm R R<|XL.call1 R R (Aqv) R<|zm R R<|zp (Ao R R R)<|zp (Ao R R R)<|XL.step R (Al 3 (l:= [.d (.v (.string ⟨#[]⟩)), .d (.v (.int .u8 0)), .d (dI 0), .d (dI 0), .d (dI 0), .d (dI 0), .d (dI 0)]) R B5 (by kernel_rfl))<|?_
 exact XL.step R (Af (l':= [.d (.v (.string ⟨#[116,114,101,98,108,101]⟩)), .d (.v (.int .u8 71)), .d (dI (-2)), .d (dI 0), .d (dI 34), .d (dI (-1)), .d (dI (-3))]) R R R R Cu R lb (by kernel_rfl))<|za R R<|znr<|zm R R<|za R R<|zn<|zt<|z1 R R (R)
theorem Aqu  :XC Tryz.prog 106 [.v (.int .i64 2)] (fun r=>r= .tup [.agg [.v (.string ⟨#[98,97,115,115]⟩), .v (.int .u8 70),dI 2,dI 0,dI 22,dI (-3),dI (-5)],dI 0]):=by
 refine Ak Ea Tryz.func106 R R lb<|zr<|XL.step R (Al 2 (l:= [.d (.v (.string ⟨#[]⟩)), .d (.v (.int .u8 0)), .d (dI 0), .d (dI 0), .d (dI 0), .d (dI 0), .d (dI 0)]) R B5 (by kernel_rfl))<|za R R<|zn<|zs<|zr<|zm R R<|zp (D2 (Aq R R R) (by decide))<|zm R R<|zm R R<|zp (D2 (A6 R R R) (by decide))<|zq R R R<|zn<|?_
 refine A1 (by kernel_rfl) R<|zi<|zr<|XL.call1 R R (Hb) R<|zm R R<|zp (Dm R R R (by decide) (by decide))<|zp (Ae (s':= .d (.agg ([.v (.string ⟨#[98,97,115,115]⟩), .v (.int .u8 70),dI 2,dI 0,dI 22,dI (-3),dI (-5)]))) (G7 (k:=1) R R R R Tryz.underlying195 Dv Cu (by decide) (by decide)) (by kernel_rfl))<|?_
 refine XL.step R (Af (l':= [.d (.v (.string ⟨#[98,97,115,115]⟩)), .d (.v (.int .u8 70)), .d (dI 2), .d (dI 0), .d (dI 22), .d (dI (-3)), .d (dI (-5))]) R R R R Cu R lb (by kernel_rfl))<|za R R<|zn<|zt<|?_
 exact Ax R (RV.cells R R R Dv lb R) (RV.tmp R R) (R)
theorem Ami  :XC Tryz.prog 75 [.v (.int .i64 2)] (fun r=>r=dI 0):=by
 refine Ak Ei Tryz.func75 R R lb<|zr<|za R R<|znr<|zm R R<|XL.call1 R R (Aqu) R<|zm R R<|zp (Ao R R R)<|zp (Ao R R R)<|XL.step R (Al 3 (l:= [.d (.v (.string ⟨#[]⟩)), .d (.v (.int .u8 0)), .d (dI 0), .d (dI 0), .d (dI 0), .d (dI 0), .d (dI 0)]) R B5 (by kernel_rfl))<|?_
 exact XL.step R (Af (l':= [.d (.v (.string ⟨#[98,97,115,115]⟩)), .d (.v (.int .u8 70)), .d (dI 2), .d (dI 0), .d (dI 22), .d (dI (-3)), .d (dI (-5))]) R R R R Cu R lb (by kernel_rfl))<|za R R<|znr<|zm R R<|za R R<|zn<|zt<|z1 R R (R)
theorem Aqt  :XC Tryz.prog 106 [.v (.int .i64 3)] (fun r=>r= .tup [.agg [.v (.string ⟨#[97,108,116,111]⟩), .v (.int .u8 67),dI 0,dI 0,dI 28,dI (-2),dI (-4)],dI 0]):=by
 refine Ak Ea Tryz.func106 R R lb<|zr<|XL.step R (Al 2 (l:= [.d (.v (.string ⟨#[]⟩)), .d (.v (.int .u8 0)), .d (dI 0), .d (dI 0), .d (dI 0), .d (dI 0), .d (dI 0)]) R B5 (by kernel_rfl))<|za R R<|zn<|zs<|zr<|zm R R<|zp (D2 (Aq R R R) (by decide))<|zm R R<|zm R R<|zp (D2 (A6 R R R) (by decide))<|zq R R R<|zn<|?_
 refine A1 (by kernel_rfl) R<|zi<|zr<|XL.call1 R R (Hb) R<|zm R R<|zp (Dm R R R (by decide) (by decide))<|zp (Ae (s':= .d (.agg ([.v (.string ⟨#[97,108,116,111]⟩), .v (.int .u8 67),dI 0,dI 0,dI 28,dI (-2),dI (-4)]))) (G7 (k:=2) R R R R Tryz.underlying195 Dv Cu (by decide) (by decide)) (by kernel_rfl))<|?_
 refine XL.step R (Af (l':= [.d (.v (.string ⟨#[97,108,116,111]⟩)), .d (.v (.int .u8 67)), .d (dI 0), .d (dI 0), .d (dI 28), .d (dI (-2)), .d (dI (-4))]) R R R R Cu R lb (by kernel_rfl))<|za R R<|zn<|zt<|?_
 exact Ax R (RV.cells R R R Dv lb R) (RV.tmp R R) (R)
theorem Amh  :XC Tryz.prog 75 [.v (.int .i64 3)] (fun r=>r=dI 0):=by
 refine Ak Ei Tryz.func75 R R lb<|zr<|za R R<|znr<|zm R R<|XL.call1 R R (Aqt) R<|zm R R<|zp (Ao R R R)<|zp (Ao R R R)<|XL.step R (Al 3 (l:= [.d (.v (.string ⟨#[]⟩)), .d (.v (.int .u8 0)), .d (dI 0), .d (dI 0), .d (dI 0), .d (dI 0), .d (dI 0)]) R B5 (by kernel_rfl))<|?_
 exact XL.step R (Af (l':= [.d (.v (.string ⟨#[97,108,116,111]⟩)), .d (.v (.int .u8 67)), .d (dI 0), .d (dI 0), .d (dI 28), .d (dI (-2)), .d (dI (-4))]) R R R R Cu R lb (by kernel_rfl))<|za R R<|znr<|zm R R<|za R R<|zn<|zt<|z1 R R (R)
theorem Aqs  :XC Tryz.prog 106 [.v (.int .i64 4)] (fun r=>r= .tup [.agg [.v (.string ⟨#[116,101,110,111,114]⟩), .v (.int .u8 67),dI 2,dI 0,dI 26,dI (-2),dI (-2)],dI 0]):=by
 refine Ak Ea Tryz.func106 R R lb<|zr<|XL.step R (Al 2 (l:= [.d (.v (.string ⟨#[]⟩)), .d (.v (.int .u8 0)), .d (dI 0), .d (dI 0), .d (dI 0), .d (dI 0), .d (dI 0)]) R B5 (by kernel_rfl))<|za R R<|zn<|zs<|zr<|zm R R<|zp (D2 (Aq R R R) (by decide))<|zm R R<|zm R R<|zp (D2 (A6 R R R) (by decide))<|zq R R R<|zn<|?_
 refine A1 (by kernel_rfl) R<|zi<|zr<|XL.call1 R R (Hb) R<|zm R R<|zp (Dm R R R (by decide) (by decide))<|zp (Ae (s':= .d (.agg ([.v (.string ⟨#[116,101,110,111,114]⟩), .v (.int .u8 67),dI 2,dI 0,dI 26,dI (-2),dI (-2)]))) (G7 (k:=3) R R R R Tryz.underlying195 Dv Cu (by decide) (by decide)) (by kernel_rfl))<|?_
 refine XL.step R (Af (l':= [.d (.v (.string ⟨#[116,101,110,111,114]⟩)), .d (.v (.int .u8 67)), .d (dI 2), .d (dI 0), .d (dI 26), .d (dI (-2)), .d (dI (-2))]) R R R R Cu R lb (by kernel_rfl))<|za R R<|zn<|zt<|?_
 exact Ax R (RV.cells R R R Dv lb R) (RV.tmp R R) (R)
theorem Amg  :XC Tryz.prog 75 [.v (.int .i64 4)] (fun r=>r=dI 0):=by
 refine Ak Ei Tryz.func75 R R lb<|zr<|za R R<|znr<|zm R R<|XL.call1 R R (Aqs) R<|zm R R<|zp (Ao R R R)<|zp (Ao R R R)<|XL.step R (Al 3 (l:= [.d (.v (.string ⟨#[]⟩)), .d (.v (.int .u8 0)), .d (dI 0), .d (dI 0), .d (dI 0), .d (dI 0), .d (dI 0)]) R B5 (by kernel_rfl))<|?_
 exact XL.step R (Af (l':= [.d (.v (.string ⟨#[116,101,110,111,114]⟩)), .d (.v (.int .u8 67)), .d (dI 2), .d (dI 0), .d (dI 26), .d (dI (-2)), .d (dI (-2))]) R R R R Cu R lb (by kernel_rfl))<|za R R<|znr<|zm R R<|za R R<|zn<|zt<|z1 R R (R)
theorem Aqr  :XC Tryz.prog 106 [.v (.int .i64 5)] (fun r=>r= .tup [.agg [.v (.string ⟨#[115,111,112,114,97,110,111]⟩), .v (.int .u8 67),dI (-4),dI 0,dI 32,dI (-2),dI (-3)],dI 0]):=by
 refine Ak Ea Tryz.func106 R R lb<|zr<|XL.step R (Al 2 (l:= [.d (.v (.string ⟨#[]⟩)), .d (.v (.int .u8 0)), .d (dI 0), .d (dI 0), .d (dI 0), .d (dI 0), .d (dI 0)]) R B5 (by kernel_rfl))<|za R R<|zn<|zs<|zr<|zm R R<|zp (D2 (Aq R R R) (by decide))<|zm R R<|zm R R<|zp (D2 (A6 R R R) (by decide))<|zq R R R<|zn<|?_
 refine A1 (by kernel_rfl) R<|zi<|zr<|XL.call1 R R (Hb) R<|zm R R<|zp (Dm R R R (by decide) (by decide))<|zp (Ae (s':= .d (.agg ([.v (.string ⟨#[115,111,112,114,97,110,111]⟩), .v (.int .u8 67),dI (-4),dI 0,dI 32,dI (-2),dI (-3)]))) (G7 (k:=4) R R R R Tryz.underlying195 Dv Cu (by decide) (by decide)) (by kernel_rfl))<|?_
 refine XL.step R (Af (l':= [.d (.v (.string ⟨#[115,111,112,114,97,110,111]⟩)), .d (.v (.int .u8 67)), .d (dI (-4)), .d (dI 0), .d (dI 32), .d (dI (-2)), .d (dI (-3))]) R R R R Cu R lb (by kernel_rfl))<|za R R<|zn<|zt<|?_
 exact Ax R (RV.cells R R R Dv lb R) (RV.tmp R R) (R)
theorem Amf  :XC Tryz.prog 75 [.v (.int .i64 5)] (fun r=>r=dI 0):=by
 refine Ak Ei Tryz.func75 R R lb<|zr<|za R R<|znr<|zm R R<|XL.call1 R R (Aqr) R<|zm R R<|zp (Ao R R R)<|zp (Ao R R R)<|XL.step R (Al 3 (l:= [.d (.v (.string ⟨#[]⟩)), .d (.v (.int .u8 0)), .d (dI 0), .d (dI 0), .d (dI 0), .d (dI 0), .d (dI 0)]) R B5 (by kernel_rfl))<|?_
 exact XL.step R (Af (l':= [.d (.v (.string ⟨#[115,111,112,114,97,110,111]⟩)), .d (.v (.int .u8 67)), .d (dI (-4)), .d (dI 0), .d (dI 32), .d (dI (-2)), .d (dI (-3))]) R R R R Cu R lb (by kernel_rfl))<|za R R<|znr<|zm R R<|za R R<|zn<|zt<|z1 R R (R)
theorem Aqq  :XC Tryz.prog 106 [.v (.int .i64 6)] (fun r=>r= .tup [.agg [.v (.string ⟨#[109,101,122,122,111,115,111,112,114,97,110,111]⟩), .v (.int .u8 67),dI (-2),dI 0,dI 30,dI (-2),dI (-3)],dI 0]):=by
 refine Ak Ea Tryz.func106 R R lb<|zr<|XL.step R (Al 2 (l:= [.d (.v (.string ⟨#[]⟩)), .d (.v (.int .u8 0)), .d (dI 0), .d (dI 0), .d (dI 0), .d (dI 0), .d (dI 0)]) R B5 (by kernel_rfl))<|za R R<|zn<|zs<|zr<|zm R R<|zp (D2 (Aq R R R) (by decide))<|zm R R<|zm R R<|zp (D2 (A6 R R R) (by decide))<|zq R R R<|zn<|?_
 refine A1 (by kernel_rfl) R<|zi<|zr<|XL.call1 R R (Hb) R<|zm R R<|zp (Dm R R R (by decide) (by decide))<|zp (Ae (s':= .d (.agg ([.v (.string ⟨#[109,101,122,122,111,115,111,112,114,97,110,111]⟩), .v (.int .u8 67),dI (-2),dI 0,dI 30,dI (-2),dI (-3)]))) (G7 (k:=5) R R R R Tryz.underlying195 Dv Cu (by decide) (by decide)) (by kernel_rfl))<|?_
 refine XL.step R (Af (l':= [.d (.v (.string ⟨#[109,101,122,122,111,115,111,112,114,97,110,111]⟩)), .d (.v (.int .u8 67)), .d (dI (-2)), .d (dI 0), .d (dI 30), .d (dI (-2)), .d (dI (-3))]) R R R R Cu R lb (by kernel_rfl))<|za R R<|zn<|zt<|?_
 exact Ax R (RV.cells R R R Dv lb R) (RV.tmp R R) (R)
theorem Ame  :XC Tryz.prog 75 [.v (.int .i64 6)] (fun r=>r=dI 0):=by
 refine Ak Ei Tryz.func75 R R lb<|zr<|za R R<|znr<|zm R R<|XL.call1 R R (Aqq) R<|zm R R<|zp (Ao R R R)<|zp (Ao R R R)<|XL.step R (Al 3 (l:= [.d (.v (.string ⟨#[]⟩)), .d (.v (.int .u8 0)), .d (dI 0), .d (dI 0), .d (dI 0), .d (dI 0), .d (dI 0)]) R B5 (by kernel_rfl))<|?_
 exact XL.step R (Af (l':= [.d (.v (.string ⟨#[109,101,122,122,111,115,111,112,114,97,110,111]⟩)), .d (.v (.int .u8 67)), .d (dI (-2)), .d (dI 0), .d (dI 30), .d (dI (-2)), .d (dI (-3))]) R R R R Cu R lb (by kernel_rfl))<|za R R<|znr<|zm R R<|za R R<|zn<|zt<|z1 R R (R)
theorem Aqp  :XC Tryz.prog 106 [.v (.int .i64 7)] (fun r=>r= .tup [.agg [.v (.string ⟨#[98,97,114,105,116,111,110,101]⟩), .v (.int .u8 70),dI 0,dI 0,dI 24,dI (-2),dI (-3)],dI 0]):=by
 refine Ak Ea Tryz.func106 R R lb<|zr<|XL.step R (Al 2 (l:= [.d (.v (.string ⟨#[]⟩)), .d (.v (.int .u8 0)), .d (dI 0), .d (dI 0), .d (dI 0), .d (dI 0), .d (dI 0)]) R B5 (by kernel_rfl))<|za R R<|zn<|zs<|zr<|zm R R<|zp (D2 (Aq R R R) (by decide))<|zm R R<|zm R R<|zp (D2 (A6 R R R) (by decide))<|zq R R R<|zn<|?_
 refine A1 (by kernel_rfl) R<|zi<|zr<|XL.call1 R R (Hb) R<|zm R R<|zp (Dm R R R (by decide) (by decide))<|zp (Ae (s':= .d (.agg ([.v (.string ⟨#[98,97,114,105,116,111,110,101]⟩), .v (.int .u8 70),dI 0,dI 0,dI 24,dI (-2),dI (-3)]))) (G7 (k:=6) R R R R Tryz.underlying195 Dv Cu (by decide) (by decide)) (by kernel_rfl))<|?_
 refine XL.step R (Af (l':= [.d (.v (.string ⟨#[98,97,114,105,116,111,110,101]⟩)), .d (.v (.int .u8 70)), .d (dI 0), .d (dI 0), .d (dI 24), .d (dI (-2)), .d (dI (-3))]) R R R R Cu R lb (by kernel_rfl))<|za R R<|zn<|zt<|?_
 exact Ax R (RV.cells R R R Dv lb R) (RV.tmp R R) (R)
theorem Amd  :XC Tryz.prog 75 [.v (.int .i64 7)] (fun r=>r=dI 0):=by
 refine Ak Ei Tryz.func75 R R lb<|zr<|za R R<|znr<|zm R R<|XL.call1 R R (Aqp) R<|zm R R<|zp (Ao R R R)<|zp (Ao R R R)<|XL.step R (Al 3 (l:= [.d (.v (.string ⟨#[]⟩)), .d (.v (.int .u8 0)), .d (dI 0), .d (dI 0), .d (dI 0), .d (dI 0), .d (dI 0)]) R B5 (by kernel_rfl))<|?_
 exact XL.step R (Af (l':= [.d (.v (.string ⟨#[98,97,114,105,116,111,110,101]⟩)), .d (.v (.int .u8 70)), .d (dI 0), .d (dI 0), .d (dI 24), .d (dI (-2)), .d (dI (-3))]) R R R R Cu R lb (by kernel_rfl))<|za R R<|znr<|zm R R<|za R R<|zn<|zt<|z1 R R (R)
theorem Aqo  :XC Tryz.prog 106 [.v (.int .i64 8)] (fun r=>r= .tup [.agg [.v (.string ⟨#[116,114,101,98,108,101,56]⟩), .v (.int .u8 71),dI (-2),dI (-1),dI 27,dI (-1),dI (-3)],dI 0]):=by
 refine Ak Ea Tryz.func106 R R lb<|zr<|XL.step R (Al 2 (l:= [.d (.v (.string ⟨#[]⟩)), .d (.v (.int .u8 0)), .d (dI 0), .d (dI 0), .d (dI 0), .d (dI 0), .d (dI 0)]) R B5 (by kernel_rfl))<|za R R<|zn<|zs<|zr<|zm R R<|zp (D2 (Aq R R R) (by decide))<|zm R R<|zm R R<|zp (D2 (A6 R R R) (by decide))<|zq R R R<|zn<|?_
 refine A1 (by kernel_rfl) R<|zi<|zr<|XL.call1 R R (Hb) R<|zm R R<|zp (Dm R R R (by decide) (by decide))<|zp (Ae (s':= .d (.agg ([.v (.string ⟨#[116,114,101,98,108,101,56]⟩), .v (.int .u8 71),dI (-2),dI (-1),dI 27,dI (-1),dI (-3)]))) (G7 (k:=7) R R R R Tryz.underlying195 Dv Cu (by decide) (by decide)) (by kernel_rfl))<|?_
 refine XL.step R (Af (l':= [.d (.v (.string ⟨#[116,114,101,98,108,101,56]⟩)), .d (.v (.int .u8 71)), .d (dI (-2)), .d (dI (-1)), .d (dI 27), .d (dI (-1)), .d (dI (-3))]) R R R R Cu R lb (by kernel_rfl))<|za R R<|zn<|zt<|?_
 exact Ax R (RV.cells R R R Dv lb R) (RV.tmp R R) (R)
theorem Amc  :XC Tryz.prog 75 [.v (.int .i64 8)] (fun r=>r=dI 0):=by
 refine Ak Ei Tryz.func75 R R lb<|zr<|za R R<|znr<|zm R R<|XL.call1 R R (Aqo) R<|zm R R<|zp (Ao R R R)<|zp (Ao R R R)<|XL.step R (Al 3 (l:= [.d (.v (.string ⟨#[]⟩)), .d (.v (.int .u8 0)), .d (dI 0), .d (dI 0), .d (dI 0), .d (dI 0), .d (dI 0)]) R B5 (by kernel_rfl))<|?_
 exact XL.step R (Af (l':= [.d (.v (.string ⟨#[116,114,101,98,108,101,56]⟩)), .d (.v (.int .u8 71)), .d (dI (-2)), .d (dI (-1)), .d (dI 27), .d (dI (-1)), .d (dI (-3))]) R R R R Cu R lb (by kernel_rfl))<|za R R<|znr<|zm R R<|za R R<|zn<|zt<|z1 R R (R)
theorem Aqn  :XC Tryz.prog 106 [.v (.int .i64 9)] (fun r=>r= .tup [.agg [.v (.string ⟨#[98,97,115,115,56]⟩), .v (.int .u8 70),dI 2,dI (-1),dI 15,dI (-3),dI (-5)],dI 0]):=by
 refine Ak Ea Tryz.func106 R R lb<|zr<|XL.step R (Al 2 (l:= [.d (.v (.string ⟨#[]⟩)), .d (.v (.int .u8 0)), .d (dI 0), .d (dI 0), .d (dI 0), .d (dI 0), .d (dI 0)]) R B5 (by kernel_rfl))<|za R R<|zn<|zs<|zr<|zm R R<|zp (D2 (Aq R R R) (by decide))<|zm R R<|zm R R<|zp (D2 (A6 R R R) (by decide))<|zq R R R<|zn<|?_
 refine A1 (by kernel_rfl) R<|zi<|zr<|XL.call1 R R (Hb) R<|zm R R<|zp (Dm R R R (by decide) (by decide))<|zp (Ae (s':= .d (.agg ([.v (.string ⟨#[98,97,115,115,56]⟩), .v (.int .u8 70),dI 2,dI (-1),dI 15,dI (-3),dI (-5)]))) (G7 (k:=8) R R R R Tryz.underlying195 Dv Cu (by decide) (by decide)) (by kernel_rfl))<|?_
 refine XL.step R (Af (l':= [.d (.v (.string ⟨#[98,97,115,115,56]⟩)), .d (.v (.int .u8 70)), .d (dI 2), .d (dI (-1)), .d (dI 15), .d (dI (-3)), .d (dI (-5))]) R R R R Cu R lb (by kernel_rfl))<|za R R<|zn<|zt<|?_
 exact Ax R (RV.cells R R R Dv lb R) (RV.tmp R R) (R)
theorem Amb  :XC Tryz.prog 75 [.v (.int .i64 9)] (fun r=>r=dI 0):=by
 refine Ak Ei Tryz.func75 R R lb<|zr<|za R R<|znr<|zm R R<|XL.call1 R R (Aqn) R<|zm R R<|zp (Ao R R R)<|zp (Ao R R R)<|XL.step R (Al 3 (l:= [.d (.v (.string ⟨#[]⟩)), .d (.v (.int .u8 0)), .d (dI 0), .d (dI 0), .d (dI 0), .d (dI 0), .d (dI 0)]) R B5 (by kernel_rfl))<|?_
 exact XL.step R (Af (l':= [.d (.v (.string ⟨#[98,97,115,115,56]⟩)), .d (.v (.int .u8 70)), .d (dI 2), .d (dI (-1)), .d (dI 15), .d (dI (-3)), .d (dI (-5))]) R R R R Cu R lb (by kernel_rfl))<|za R R<|znr<|zm R R<|za R R<|zn<|zt<|z1 R R (R)
theorem Aqm (c:Int) (h:c<1∨9<c):XC Tryz.prog 106 [.v (.int .i64 c)] (fun r=>r= .tup [.agg [.v (.string ⟨#[]⟩), .v (.int .u8 0),dI 0,dI 0,dI 0,dI 0,dI 0],dI 11]):=by
 refine Ak Ea Tryz.func106 R R lb<|zr<|XL.step R (Al 2 (l:= [.d (.v (.string ⟨#[]⟩)), .d (.v (.int .u8 0)), .d (dI 0), .d (dI 0), .d (dI 0), .d (dI 0), .d (dI 0)]) R B5 (by kernel_rfl))<|za R R<|zn<|zs<|zr<|zm R R<|zp (Aq R R R)<|zm R R<|?_
 refine XL.dec 6 R (fun g6=> ?_) (fun g6=> ?_)
 refine zk 2 R<|zq R R R<|zn<|Aw (by kernel_rfl) R<|zr<|zp (Ae (s':= .d (.agg [.v (.string ⟨#[]⟩), .v (.int .u8 0),dI 0,dI 0,dI 0,dI 0,dI 0])) (Ac (Az R Gp B5 R)) (by kernel_rfl))<|XL.step R (Af (l':= [.d (.v (.string ⟨#[]⟩)), .d (.v (.int .u8 0)), .d (dI 0), .d (dI 0), .d (dI 0), .d (dI 0), .d (dI 0)]) R R R R Cu R lb (by kernel_rfl))<|za R R<|zn<|zt<|?_
 exact Ax R (RV.cells R R R Dv lb R) (RV.tmp R R) (R)
 refine zm R R<|zp (A6 R R R)<|zq R R R<|zn<|?_
 refine zd R (fun c9=> ?_) (fun c9=> ?_)
 refine zr<|zp (Ae (s':= .d (.agg [.v (.string ⟨#[]⟩), .v (.int .u8 0),dI 0,dI 0,dI 0,dI 0,dI 0])) (Ac (Az R Gp B5 R)) (by kernel_rfl))<|XL.step R (Af (l':= [.d (.v (.string ⟨#[]⟩)), .d (.v (.int .u8 0)), .d (dI 0), .d (dI 0), .d (dI 0), .d (dI 0), .d (dI 0)]) R R R R Cu R lb (by kernel_rfl))<|za R R<|zn<|zt<|?_
 exact Ax R (RV.cells R R R Dv lb R) (RV.tmp R R) (R)
 exfalso;omega
theorem Ama (c:Int) (h:c<1∨9<c):XC Tryz.prog 75 [.v (.int .i64 c)] (fun r=>r=dI 11):=by
 refine Ak Ei Tryz.func75 R R lb<|zr<|za R R<|znr<|zm R R<|XL.call1 R R (Aqm _ h) R<|zm R R<|zp (Ao R R R)<|zp (Ao R R R)<|XL.step R (Al 3 (l:= [.d (.v (.string ⟨#[]⟩)), .d (.v (.int .u8 0)), .d (dI 0), .d (dI 0), .d (dI 0), .d (dI 0), .d (dI 0)]) R B5 (by kernel_rfl))<|?_
 exact XL.step R (Af (l':= [.d (.v (.string ⟨#[]⟩)), .d (.v (.int .u8 0)), .d (dI 0), .d (dI 0), .d (dI 0), .d (dI 0), .d (dI 0)]) R R R R Cu R lb (by kernel_rfl))<|za R R<|znr<|zm R R<|za R R<|zn<|zt<|z1 R R (R)
theorem Aen (c:Int):XC Tryz.prog 75 [dI c] (fun r=>r=dI (cfE c)):=by
 by_cases h:c<1∨9<c
 ·rw [←Ato h];exact Ama c h
 ·rw [show cfE c=0 by rw [cfE,if_neg h]]
  have h':c=1∨c=2∨c=3∨c=4∨c=5∨c=6∨c=7∨c=8∨c=9:=by omega
  rcases h' with rfl|rfl|rfl|rfl|rfl|rfl|rfl|rfl|rfl
  ·exact Amj
  ·exact Ami
  ·exact Amh
  ·exact Amg
  ·exact Amf
  ·exact Ame
  ·exact Amd
  ·exact Amc
  ·exact Amb
end Go.Proofs.YtaafemnkamfgnaaGreat
namespace Go.Proofs.YtaafemnkamfgnaaGreat
open Go.RowKit
def clF (l:List Cf) (b t:Int):Int:=l.foldl (fun b c=>if c.tk≤t then c.clef else b) b
theorem Zi {l:List Cf} {k:Nat} {x:Cf} {b t:Int} (h:l[k]? =some x):clF (l.take (k+1)) b t=if x.tk≤t then x.clef else clF (l.take k) b t:=by rw [clF,Bl h,List.foldl_append];rfl
theorem Aeo {l:List Cf} {k:Nat} {x:Cf} {b t:Int} (h:l[k]? =some x) (h2:x.tk≤t):x.clef=clF (l.take (k+1)) b t:=by rw [Zi h,if_pos h2]
theorem Ajr {l:List Cf} {k:Nat} {x:Cf} {b t:Int} (h:l[k]? =some x) (h2:¬x.tk≤t):clF (l.take k) b t=clF (l.take (k+1)) b t:=by rw [Zi h,if_neg h2]
def Ms.cell (m:Ms) (s:Int):Ce:=(m.cells[s.toNat]?).getD ⟨[], []⟩
def clA (m:Ms) (s b t:Int):Int × Int:=if s<0∨(m.cells.length:Int)≤s then (0,2) else if cfE b≠0 then (0,cfE b) else (clF (m.cell s).clefs b t,0)
theorem W6 {m:Ms} {s b t:Int} (h:s<0∨(m.cells.length:Int)≤s):clA m s b t=(0,2):=by rw [clA,if_pos h]
theorem And {m:Ms} {s b t:Int} (h:¬(s<0∨(m.cells.length:Int)≤s)) (h2:cfE b≠0):clA m s b t=(0,cfE b):=by rw [clA,if_neg h,if_pos h2]
theorem Anc {m:Ms} {s b t:Int} (h:¬(s<0∨(m.cells.length:Int)≤s)) (h2:¬cfE b≠0):clA m s b t=(clF (m.cell s).clefs b t,0):=by rw [clA,if_neg h,if_neg h2]
theorem r2q {p:Int × Int} {a b:Int} (h:p=(a,b)):D.tup [dI a,dI b]= .tup [dI p.1,dI p.2]:=by rw [h]
theorem Aes {m:Ms} {s:Int} (h:0≤s) (h2:s<m.cells.length):∃i:Nat,s=(i:Int)∧m.cells[i]? =some (m.cell s):=by
 refine ⟨s.toNat,by omega, ?_⟩
 rw [Ms.cell,List.getElem?_eq_getElem (by omega)];rfl
theorem Ajb {α:Type} {l:List α} {k:Nat} (h:k=l.length):l.take k=l:=by subst h;exact List.take_length
theorem Ajq (m:Ms) (s b t:Int):XC Tryz.prog 31 [.agg (Ms.c m), .v (.int .i64 s), .v (.int .i64 b), .v (.int .i64 t)] (fun r=>r= .tup [dI (clA m s b t).1,dI (clA m s b t).2]):=by
 refine Ak Adc Tryz.func31 R R lb<|zr<|?_
 refine XL.step R (Ap 4 (l:= [.d (dI m.h.site), .d (dI m.h.num), .d (dI m.h.m.count), .d (dI m.h.m.unit), .d (dI m.h.m.g0), .d (dI m.h.m.g1), .d (dI m.h.m.g2), .d (dI m.h.m.g3), .d (dI m.h.m.g4), .d (dI m.h.m.g5), .d (dI m.h.len), .d (dI m.h.fifths), .d (dB m.h.start), .d (dI m.h.fin), .d (dI m.h.ends), .d (dI m.h.jump), .d (dI m.h.labels), .d (dI m.h.swing), .d (dI m.h.brk), .d (.v (.string ⟨m.h.reh.toArray⟩)), .d (.sl 3 (m.tempi.map Tm.c)), .d (.sl 2 (m.cells.map Ce.c))]) R R (by kernel_rfl))<|?_
 refine za R R<|za R R<|zn<|zs<|zr<|zm R R<|zp (Aq R R R)<|zm R R<|?_
 refine XL.dec 15 R (fun g15=> ?_) (fun g15=> ?_)
 refine zk 5 R<|zq R R R<|zn<|Aw (by kernel_rfl) R<|zr<|za R R<|za R R<|zn<|zt<|?_
 exact Ax R (RV.tmp R R) (RV.tmp R R) (r2q (W6 (by omega)))
 refine zm R R<|zp (Aa R R Cx)<|zp (Ab R R G4 R R)<|XL.len R R R Tryz.underlying28 fun hl19=>zp (Fg R R R)<|zq R R R<|zn<|?_
 refine zd R (fun c21=> ?_) (fun c21=> ?_)
 refine zr<|za R R<|za R R<|zn<|zt<|?_
 exact Ax R (RV.tmp R R) (RV.tmp R R) (r2q (W6 (by omega)))
 refine zi<|zs<|zr<|zm R R<|XL.call1 R R (Aen _) R<|za R R<|znr<|zm R R<|zp (A5 R R R)<|zn<|?_
 refine zd R (fun c25=> ?_) (fun c25=> ?_)
 refine zr<|zm R R<|za R R<|za R R<|zn<|zt<|?_
 exact Ax R (RV.tmp R R) (RV.tmp R R) (r2q (And (by omega) (by assumption)))
 refine zi<|zs<|zs<|?_
 have hs0:0≤s:=by omega
 have hs1:s<m.cells.length:=by omega
 obtain ⟨i,hi,hc⟩:=Aes hs0 hs1
 refine Ag (by kernel_rfl)<|zp (Aa R R Cx)<|zp (Ab R R G4 R R)<|zm R R<|zp (Ij R R R (hi) J1 (hc))<|zp (El R R Gi)<|zp (A8 R R Ob)<|XL.len R R R Tryz.underlying75 fun hl33=>zm R R<|zn<|Ah<|?_
 refine A0 (α:=Nat) (fun k=>k≤(m.cell s).clefs.length) (fun k=>mkF [(2, .d (dI (clF ((m.cell s).clefs.take k) b t))),(3, .d (dI t)),(8, .d (dI 0)),(9, .d (dI 0)),(32, .d (.sl 2 ((m.cell s).clefs.map Cf.c))),(33, .d (dI ((m.cell s).clefs).length)),(34, .d (dI k))]) (fun k=>mkH []) (fun k=>((m.cell s).clefs).length - k) (0) (Nat.zero_le _) ?_ ?_ ?_
 exact fz ⟨sr,sr,sr,sr,sr,sr,sr,trivial⟩
 exact HSub.nil
 intro k hk0
 refine zr<|zp (Aq R R R)<|zn<|zs<|?_
 refine zd R (fun c35=> ?_) (fun c35=> ?_)
 have hk0a:k<((m.cell s).clefs).length:=by omega
 obtain ⟨x0,hx0⟩:=Ay hk0a
 refine zi<|zs<|Ah<|zr<|zp (Au R R R Lg hx0)<|zp (Ae (s':= .d (.agg (Cf.c x0))) (Bc R R Qm lb) (by kernel_rfl))<|XL.step R (Al 12 (l:= [.d (dI 0), .d (dI 0)]) R Qn (by kernel_rfl))<|XL.step R (Af (l':= [.d (dI x0.tk), .d (dI x0.clef)]) R R R R Wu R lb (by kernel_rfl))<|znr<|zp (Aa R R Sw)<|zp (Ab R R Ai R R)<|zm R R<|?_
 refine zp (Kg R R R)<|zn<|?_
 refine zd R (fun c41=> ?_) (fun c41=> ?_)
 refine Ag (by kernel_rfl)<|zp (Aa R R Y0)<|zp (Ab R R Ai R R)<|za R R<|zn<|Ag (by kernel_rfl)<|zp (Am R R R (by omega) (by omega))<|zm R R<|zn<|?_
 exact An (k+1) (by omega) (by omega) (fz ⟨.same (sI (Aeo hx0 c41)),sr,sr,sr,sr,sr,sr,trivial⟩) (HSub.nil)
 refine zi<|Ag (by kernel_rfl)<|zp (Am R R R (by omega) (by omega))<|zm R R<|zn<|?_
 exact An (k+1) (by omega) (by omega) (fz ⟨.same (sI (Ajr hx0 c41)),sr,sr,sr,sr,sr,sr,trivial⟩) (HSub.nil)
 have hk0b:k=((m.cell s).clefs).length:=by omega
 refine Av<|zr<|zm R R<|za R R<|za R R<|zn<|zt<|?_
 exact Ax R (RV.tmp R R) (RV.tmp R R) (r2q (by rw [Ajb (by omega)];exact Anc (by omega) (by assumption)))
theorem Af4 (m:Ms) (s b t:Int):XC Tryz.prog 32 [.agg (Ms.c m), .v (.int .i64 s), .v (.int .i64 b), .v (.int .i64 t)] (fun r=>r= .tup [dI (clA m s b t).1,dI (clA m s b t).2]):=by
 refine Ak Adb Tryz.func32 R R lb<|zr<|?_
 refine XL.step R (Ap 4 (l:= [.d (dI m.h.site), .d (dI m.h.num), .d (dI m.h.m.count), .d (dI m.h.m.unit), .d (dI m.h.m.g0), .d (dI m.h.m.g1), .d (dI m.h.m.g2), .d (dI m.h.m.g3), .d (dI m.h.m.g4), .d (dI m.h.m.g5), .d (dI m.h.len), .d (dI m.h.fifths), .d (dB m.h.start), .d (dI m.h.fin), .d (dI m.h.ends), .d (dI m.h.jump), .d (dI m.h.labels), .d (dI m.h.swing), .d (dI m.h.brk), .d (.v (.string ⟨m.h.reh.toArray⟩)), .d (.sl 3 (m.tempi.map Tm.c)), .d (.sl 2 (m.cells.map Ce.c))]) R R (by kernel_rfl))<|?_
 refine za R R<|za R R<|zn<|zs<|zr<|zm R R<|zp (Aq R R R)<|zm R R<|?_
 refine XL.dec 16 R (fun g16=> ?_) (fun g16=> ?_)
 refine zk 5 R<|zq R R R<|zn<|Aw (by kernel_rfl) R<|zr<|za R R<|za R R<|zn<|zt<|?_
 exact Ax R (RV.tmp R R) (RV.tmp R R) (r2q (W6 (by omega)))
 refine zm R R<|zp (Aa R R Cx)<|zp (Ab R R G4 R R)<|XL.len R R R Tryz.underlying28 fun hl20=>zp (Fg R R R)<|zq R R R<|zn<|?_
 refine zd R (fun c22=> ?_) (fun c22=> ?_)
 refine zr<|za R R<|za R R<|zn<|zt<|?_
 exact Ax R (RV.tmp R R) (RV.tmp R R) (r2q (W6 (by omega)))
 refine zi<|zs<|zr<|zm R R<|XL.call1 R R (Aen _) R<|za R R<|znr<|zm R R<|zp (A5 R R R)<|zn<|?_
 refine zd R (fun c26=> ?_) (fun c26=> ?_)
 refine zr<|zm R R<|za R R<|za R R<|zn<|zt<|?_
 exact Ax R (RV.tmp R R) (RV.tmp R R) (r2q (And (by omega) (by assumption)))
 refine zi<|zr<|zm R R<|za R R<|zn<|zs<|?_
 have hs0:0≤s:=by omega
 have hs1:s<m.cells.length:=by omega
 obtain ⟨i,hi,hc⟩:=Aes hs0 hs1
 refine Ag (by kernel_rfl)<|zp (Aa R R Cx)<|zp (Ab R R G4 R R)<|zm R R<|zp (Ij R R R (hi) J1 (hc))<|zp (El R R Gi)<|zp (A8 R R Ob)<|za R R<|zn<|zs<|zr<|za R R<|zn<|Ah<|?_
 refine A0 (α:=Nat) (fun k=>k≤(m.cell s).clefs.length) (fun k=>mkF [(3, .d (dI t)),(8, .d (dI 0)),(9, .d (dI 0)),(11, .d (dI (clF ((m.cell s).clefs.take k) b t))),(12, .d (.sl 2 ((m.cell s).clefs.map Cf.c))),(13, .d (dI k))]) (fun k=>mkH []) (fun k=>(m.cell s).clefs.length - k) (0) (Nat.zero_le _) ?_ ?_ ?_
 exact fz ⟨sr,sr,sr,sr,sr,sr,trivial⟩
 exact HSub.nil
 intro k hk0
 refine zs<|zr<|zm R R<|zm R R<|XL.len R R R Tryz.underlying75 fun hl37=>zp (Aq R R R)<|zn<|?_
 refine zd R (fun c38=> ?_) (fun c38=> ?_)
 have hkl:k<(m.cell s).clefs.length:=by omega
 obtain ⟨x0,hx0⟩:=Ay hkl
 refine zi<|zs<|Ah<|zr<|zm R R<|zm R R<|zp (Au R R R Lg (hx0))<|zp (El R R Sw)<|zp (A8 R R Ai)<|zm R R<|zp (Kg R R R)<|zn<|?_
 refine zd R (fun c47=> ?_) (fun c47=> ?_)
 refine Ag (by kernel_rfl)<|zm R R<|zm R R<|zp (Au R R R Lg (hx0))<|zp (El R R Y0)<|zp (A8 R R Ai)<|za R R<|zn<|Ag (by kernel_rfl)<|zm R R<|zp (Am R R R (by omega) (by omega))<|za R R<|zn<|?_
 exact An (k+1) (by omega) (by omega) (fz ⟨sr,sr,sr, .same (sI (Aeo hx0 c47)),sr,sr,trivial⟩) (HSub.nil)
 refine zi<|Ag (by kernel_rfl)<|zm R R<|zp (Am R R R (by omega) (by omega))<|za R R<|zn<|?_
 exact An (k+1) (by omega) (by omega) (fz ⟨sr,sr,sr, .same (sI (Ajr hx0 c47)),sr,sr,trivial⟩) (HSub.nil)
 refine Av<|zr<|zm R R<|za R R<|za R R<|zn<|zt<|?_
 exact Ax R (RV.tmp R R) (RV.tmp R R) (r2q (by rw [Ajb (by omega)];exact Anc (by omega) (by assumption)))
theorem Ab8 (m:Ms) (s a b:Int) (hR:m.room):XC Tryz.prog 8 [.agg (Ms.c m), .v (.int .i64 s), .agg [dI a,dI b]] (fun r=>r=dB true):=by
 refine Ak Ago Tryz.func8 R R lb<|zr<|?_
 refine XL.step R (Ap 3 (l:= [.d (dI m.h.site), .d (dI m.h.num), .d (dI m.h.m.count), .d (dI m.h.m.unit), .d (dI m.h.m.g0), .d (dI m.h.m.g1), .d (dI m.h.m.g2), .d (dI m.h.m.g3), .d (dI m.h.m.g4), .d (dI m.h.m.g5), .d (dI m.h.len), .d (dI m.h.fifths), .d (dB m.h.start), .d (dI m.h.fin), .d (dI m.h.ends), .d (dI m.h.jump), .d (dI m.h.labels), .d (dI m.h.swing), .d (dI m.h.brk), .d (.v (.string ⟨m.h.reh.toArray⟩)), .d (.sl 3 (m.tempi.map Tm.c)), .d (.sl 2 (m.cells.map Ce.c))]) R R (by kernel_rfl))<|?_
 refine XL.step R (Ap 5 (l:= [.d (dI a), .d (dI b)]) R R (by kernel_rfl))<|za R R<|znr<|zp (Ae (s':= .d (.agg (Ms.c m))) (Ac (Ad R R Co R lb)) (by kernel_rfl))<|XL.call1 R R (Akl _ (by assumption)) R<|?_
 refine XL.step R (Af (l':= [.d (dI (E1 m).h.site), .d (dI (E1 m).h.num), .d (dI (E1 m).h.m.count), .d (dI (E1 m).h.m.unit), .d (dI (E1 m).h.m.g0), .d (dI (E1 m).h.m.g1), .d (dI (E1 m).h.m.g2), .d (dI (E1 m).h.m.g3), .d (dI (E1 m).h.m.g4), .d (dI (E1 m).h.m.g5), .d (dI (E1 m).h.len), .d (dI (E1 m).h.fifths), .d (dB (E1 m).h.start), .d (dI (E1 m).h.fin), .d (dI (E1 m).h.ends), .d (dI (E1 m).h.jump), .d (dI (E1 m).h.labels), .d (dI (E1 m).h.swing), .d (dI (E1 m).h.brk), .d (.v (.string ⟨(E1 m).h.reh.toArray⟩)), .d (.sl 3 ((E1 m).tempi.map Tm.c)), .d (.sl 2 ((E1 m).cells.map Ce.c))]) R R R R Gl R lb (by kernel_rfl))<|?_
 refine znr<|zp (Ae (s':= .d (.agg (Ms.c (E1 m)))) (Ac (Ad R R Co R lb)) (by kernel_rfl))<|zm R R<|zp (M5 (k:=0) R R R Tryz.underlying72 D6 (by omega))<|zp (Ab R R Ai R R)<|zp (M5 (k:=1) R R R Tryz.underlying72 D6 (by omega))<|zp (Ab R R Ai R R)<|XL.call1 R R (Ajq _ _ _ _) R<|zm R R<|zp (Ao R R R)<|zp (Ao R R R)<|za R R<|?_
 refine za R R<|znr<|zp (Ae (s':= .d (.agg (Ms.c (E1 m)))) (Ac (Ad R R Co R lb)) (by kernel_rfl))<|zm R R<|zp (M5 (k:=0) R R R Tryz.underlying72 D6 (by omega))<|zp (Ab R R Ai R R)<|zp (M5 (k:=1) R R R Tryz.underlying72 D6 (by omega))<|zp (Ab R R Ai R R)<|XL.call1 R R (Af4 _ _ _ _) R<|zm R R<|zp (Ao R R R)<|zp (Ao R R R)<|?_
 refine za R R<|za R R<|znr<|XL.call1 R R (Alk) R<|zm R R<|zm R R<|zm R R<|zp (D3 (Ba R R R) (R))<|zq R R R<|zm R R<|zm R R<|zm R R<|zp (D3 (Ba R R R) (R))<|zq R R R<|?_
 exact za R R<|zn<|zt<|z1 R R (R)
end Go.Proofs.YtaafemnkamfgnaaGreat
