/- Part 8 of what the statements need: lemmas and walks. -/
import Derived.RangeFuncNested
import Derived.RangeFuncBound
import Derived.RangeFuncCalls
import Derived.RangeFuncLeaves
import Derived.Shelf.Abstract
import Derived.Shelf.RegionOpen
import Derived.OwnWalkIn
import Derived.TacticsInMore
import Derived.LoopNIn
import Derived.LoopIn
import Derived.Test.YtaafemnkamfgnaaGreatQu7
set_option linter.unusedVariables false
set_option linter.unusedSimpArgs false
set_option linter.unusedSectionVars false
set_option maxRecDepth 20000
set_option maxHeartbeats 8000000
namespace Go.Proofs.YtaafemnkamfgnaaGreat
open Go.RowKit Go.Shelf
attribute [local go_sem] Oper.semAt_some
def E8 (q:Nat):Val:=⟨(q / 4:Nat) - 1,(q % 4:Nat)⟩
def allQ:List (Fin 40):=List.ofFn fun q=>q
def V4:List Val:=allQ.map fun q=>E8 q.1
def Yd (q:Fin 40):Array Value:= #[.agg #[.int .i64 (E8 q.1).log, .int .i64 (E8 q.1).dots]]
theorem An2 {q:Nat} (h:q<40):allQ[q]? =some ⟨q,h⟩:=by rw [allQ,List.getElem?_ofFn,dif_pos h]
theorem Alf {q:Nat} (h:q<40):allQ.take q++ [⟨q,h⟩]=allQ.take (q+1):=(B3 (An2 h)).symm
theorem Ac3:allQ.length=40:=by rw [allQ,List.length_ofFn]
theorem Ye {q:Nat} (h:q<40): -1≤(E8 q).log∧(E8 q).log≤8∧0≤(E8 q).dots∧(E8 q).dots≤3:=by simp only [E8];omega
set_option maxRecDepth 100000 in
set_option maxHeartbeats 4000000 in
theorem Ao2 (F:Fence) (n:Nat) (h6:F.fn 198) (hro:F.round=none) (hn:1≤n) (l n₀:Nat) (J Jx:List (Fin 40)→World→Prop)
    (hY : ∀ pre x W, J pre W → pre.length < 40 → YieldAt F (n - 1) Tryz.prog l (Yd x) W fun e W' =>
      (e = .returned (.bool true) ∧ J (pre ++ [x]) W' ∧ Below n₀ W W') ∨ (e = .returned (.bool false) ∧ Jx (pre ++ [x]) W'))
    (W:World) (h0:J [] W):
    CallsIn F n Tryz.prog 198 #[.func (.yield l) #[] #[]] W fun e W'=>(∃v,e= .returned v)∧
      ((∃ys,ys=allQ∧J ys W')∨(∃pre,pre<+:allQ∧Jx pre W')):=by
  refine callsIn_of_wp Tryz.func198 rfl h6 ?_ hro
  simp only [Tryz.ntmps198,List.size_toArray,List.length_cons,List.length_nil,Nat.reduceAdd,Nat.reduceSub,Array.replicate_succ,Array.replicate_zero,List.push_toArray,List.append_toArray,List.nil_append,List.cons_append]
  gi_wp2
  gi_loopw [2] (fun p wr=>∃k:Nat,p= .int .i64 ((k:Int) - 1)∧k≤10∧J (allQ.take (4*k)) wr) (fun p _=>10 - (intOf p+1).toNat)
  case atStart=>exact ⟨0,by simp,by omega,h0⟩
  case round=>
    obtain ⟨k,rfl,hk,hJ⟩:=hrel
    rcases Nat.lt_or_ge k 10 with hk10|hk10
    · have hlt:(k:Int) - 1≤8:=by omega
      gi_wp2
      gi_loopw [8] (fun p wr=>∃j:Nat,p= .int .i64 (j:Int)∧j≤4∧J (allQ.take (4*k+j)) wr) (fun p _=>4 - (intOf p).toNat)
      case atStart=>exact ⟨0,rfl,by omega,hJ⟩
      case round=>
        obtain ⟨j,rfl,hj,hJ2⟩:=hrel
        rcases Nat.lt_or_ge j 4 with hj4|hj4
        · have hlt2:(j:Int)<4:=by omega
          have hq:4*k+j<40:=by omega
          obtain ⟨fn,tmps,assign,body,hy,hR⟩:=hY _ ⟨4*k+j,hq⟩ _ hJ2 (by rw [List.length_take,Ac3];omega)
          have he:Yd ⟨4*k+j,hq⟩= #[.agg #[.int .i64 ((k:Int) - 1), .int .i64 (j:Int)]]:=by
            have e1:(4*k+j) / 4=k:=by omega
            have e2:(4*k+j) % 4=j:=by omega
            simp only [Yd,E8,e1,e2]
          rw [he] at hy
          rw [Alf hq] at hR
          gi_wp2
          refine hR.mono ?_
          rintro e W1 (⟨rfl,hJ1,_⟩|⟨rfl,hx1⟩)
          · gi_wp2
            go_roundw
            case rel=>exact ⟨j+1,by congr 1,by omega,hJ1⟩
            case measure=>simp only [intOf];omega
          · gi_wp2
            refine bodyPost_ret (results_none rfl _ _ _) rfl ?_
            exact ⟨⟨_,rfl⟩, .inr ⟨_,List.take_prefix _ _,hx1⟩⟩
        · have hj':j=4:=by omega
          subst hj'
          gi_wp2
          go_roundw
          case rel=>exact ⟨k+1,by congr 1;omega,by omega,hJ2⟩
          case measure=>simp only [intOf];omega
    · have hk':k=10:=by omega
      subst hk'
      gi_wp2
      go_end0
      exact ⟨⟨_,rfl⟩, .inl ⟨_,by rw [List.take_of_length_le (by rw [Ac3];exact Nat.le_refl _)],hJ⟩⟩
theorem Agm (F:Fence) (n:Nat) (h6:F.fn 198) (hro:F.round=none) (hn:1≤n) (n₀:Nat) (w:World):
    SeqStopsK F n Tryz.prog 198 #[] Yd (Below n₀) (fun ys=>ys=allQ) (fun pre=>pre<+:allQ) 40 w:=fun l J Jx W _ _ _ hY h0=>
  Ao2 F n h6 hro hn l n₀ J Jx hY W h0
set_option maxHeartbeats 1000000 in
theorem Ain (F:Fence) (n:Nat) (h5:F.fn 178) (hro:F.round=none) (w:World):
    CallsIn F n Tryz.prog 178 #[] w fun e w'=>e= .returned (.func (.func 198) #[] #[])∧w'=w:=by
  refine callsIn_of_wp Tryz.func178 rfl h5 ?_ hro
  simp only [Tryz.ntmps178,List.size_toArray,List.length_nil,Nat.reduceSub,Array.replicate_succ,Array.replicate_zero,List.push_toArray,List.append_toArray,List.nil_append]
  gi_wp2
  go_ret
  exact ⟨rfl,rfl⟩
theorem Adb (v:Val) (hv: -1≤v.log∧v.log≤8∧0≤v.dots∧v.dots≤3) (w:World):
    Calls Tryz.prog 179 #[.agg #[.int .i64 v.log, .int .i64 v.dots]] w fun e w'=>e= .returned (.int .i64 (C5 v))∧Below w.heap.size w w':=by
  refine ((Xl v hv).calls (fun _ _=>none) w _ (fun b o u e=>by cases e) rfl fun i x d hx hd=> ?_).mono ?_
  · match i with
    |0=>
      cases hx;cases hd
      refine .agg _ _ rfl fun j y d hy hd=> ?_
      match j with
      |0=>cases hy;cases hd;exact .v _
      |1=>cases hy;cases hd;exact .v _
      |j+2=>cases hd
    |i+1=>cases hd
  · rintro e w' ⟨H',u,r,rfl,rfl,_,_,_,hb,hu⟩
    rw [O8 hu]
    exact ⟨rfl,hb⟩
def I5 (n:Int) (l:List Val):Option Val:=l.find? fun v=>decide (C5 v=n)
def Eh (n:Int):Val:=(I5 n V4).getD ⟨0,0⟩
def Ko (n:Int):Int:=if I5 n V4=none then 17 else 0
theorem Akp {n:Int} {pre:List Val} {x:Val} (h:I5 n pre=none) (hx:C5 x=n):I5 n (pre++ [x])=some x:=by
  unfold I5 at*;rw [List.find?_append,h];simp [hx]
theorem Ahx {n:Int} {pre:List Val} {x:Val} (h:I5 n pre=none) (hx:¬C5 x=n):I5 n (pre++ [x])=none:=by
  unfold I5 at*;rw [List.find?_append,h];simp [hx]
def fnd (n:Int) (l:List (Fin 40)):Option Val:=I5 n (l.map fun q=>E8 q.1)
theorem Aqn {n:Int} {pre:List (Fin 40)} {x:Fin 40} (h:fnd n pre=none) (hx:C5 (E8 x.1)=n):fnd n (pre++ [x])=some (E8 x.1):=by
  unfold fnd at*;rw [List.map_append];exact Akp h hx
theorem Ane {n:Int} {pre:List (Fin 40)} {x:Fin 40} (h:fnd n pre=none) (hx:¬C5 (E8 x.1)=n):fnd n (pre++ [x])=none:=by
  unfold fnd at*;rw [List.map_append];exact Ahx h hx
theorem Aqm {n:Int} {pre:List (Fin 40)} {v:Val} (h:pre<+:allQ) (hf:fnd n pre=some v):I5 n V4=some v:=by
  obtain ⟨r,hr⟩:=h
  unfold fnd I5 at*
  rw [V4, ←hr,List.map_append,List.find?_append,hf];rfl
def Blk (W:World) (B:Nat) (cs:Array Value) (t:TypeId):Prop:=W.heap[B]? =some (.cells cs t (0,0))
theorem Blk.lt {W:World} {B:Nat} {cs:Array Value} {t:TypeId} (h:Blk W B cs t):B<W.heap.size:=(Array.getElem?_eq_some_iff.1 h).1
theorem Blk.cell {W:World} {B:Nat} {cs:Array Value} {t:TypeId} (h:Blk W B cs t) (o:Nat):W.cell? ⟨B,o,none⟩=cs[o]? :=by simp [World.cell?,show W.heap[B]? =_ from h]
theorem Blk.frozen {W:World} {B:Nat} {cs:Array Value} {t:TypeId} (h:Blk W B cs t) (o:Nat):W.frozen? ⟨B,o,none⟩=false:=by simp [World.frozen?,show W.heap[B]? =_ from h]
theorem Blk.new (W:World) (cs:Array Value) (t:TypeId):Blk (W.alloc (.cells cs t)) W.heap.size cs t:=World.alloc_heap_new W _
theorem Blk.below {N:Nat} {W W':World} {B:Nat} {cs:Array Value} {t:TypeId} (h:Blk W B cs t) (hb:Below N W W') (hN:B<N):Blk W' B cs t:=(hb.block B hN).trans h
theorem Blk.alloc {W:World} {B:Nat} {cs:Array Value} {t:TypeId} (h:Blk W B cs t) (o:Obj):Blk (W.alloc o) B cs t:=(Below.heap_alloc W o B h.lt).trans h
theorem Mp {β:Type} (B:Nat) (cs:Array Value) (t:TypeId):Own (fun (_:β) W=>Blk W B cs t):=fun _ X Y row hs hg hrow=>(grownBy_keeps_cells hg hrow hs rfl).trans hs
theorem Blk.set {W:World} {B:Nat} {cs:Array Value} {t:TypeId} (h:Blk W B cs t) (o:Nat) (v:Value):Blk (W.setCell ⟨B,o,none⟩ v) B (cs.setIfInBounds o v) t:=heap_setCell_same W B o cs t v h
theorem Blk.other {W:World} {B B':Nat} {cs:Array Value} {t:TypeId} (h:Blk W B cs t) (o:Nat) (v:Value) (hne:B≠B'):Blk (W.setCell ⟨B',o,none⟩ v) B cs t:=(Below.heap_setCell _ _ _ _ (fun e=>hne e)).trans h
theorem Blk.put {W:World} {B D:Nat} {cs:Array Value} {t:TypeId} (h:Blk W B cs t) (o:Obj) (hne:B≠D):Blk (W.putObj D o) B cs t:=(World.putObj_heap_other (fun e=>hne (by first|exact e|exact e.symm))).trans h
theorem Sv {N:Nat} {W W':World} (h:Below W.heap.size W W') (hN:N≤W.heap.size):KeepsFrom N W W':=KeepsOthers.from ⟨h.size,fun k o hk _=>(h.block k (Array.getElem?_eq_some_iff.1 hk).1).trans hk⟩ N
set_option maxRecDepth 100000 in
set_option maxHeartbeats 4000000 in
theorem Aqp (n:Int) (w:World):Calls Tryz.prog 155 #[.int .i64 n] w fun e w'=>e= .returned (.tuple #[.agg #[.int .i64 (Eh n).log, .int .i64 (Eh n).dots], .int .i64 (Ko n)])∧Below w.heap.size w w':=by
  refine (callsIn_wide (n:=5)).1 ?_
  refine callsIn_of_wp_marks Tryz.func155 rfl trivial ?_ rfl
  simp only [Tryz.ntmps155,List.size_toArray,List.length_cons,List.length_nil,Nat.reduceAdd,Nat.reduceSub,Array.replicate_succ,Array.replicate_zero,List.push_toArray,List.append_toArray,List.nil_append,List.cons_append]
  gi_wp2_with (refine ⟨trivial, ?_⟩;gi_at_call 178;refine (Ain Fence.wide _ trivial rfl _).mono ?_;rintro e w' ⟨rfl,rfl⟩)
  have b1:=((Blk.new w #[.int .i64 n] 3).alloc (.cells #[.int .i64 0, .int .i64 0] 54)).alloc (.cells #[.int .i64 0] 32)
  have b2:=(Blk.new (w.alloc (.cells #[.int .i64 n] 3)) #[.int .i64 0, .int .i64 0] 54).alloc (.cells #[.int .i64 0] 32)
  have b3:=Blk.new ((w.alloc (.cells #[.int .i64 n] 3)).alloc (.cells #[.int .i64 0, .int .i64 0] 54)) #[.int .i64 0] 32
  simp only [World.size_alloc] at b2 b3
  have hB0:Below w.heap.size w (((w.alloc (.cells #[.int .i64 n] 3)).alloc (.cells #[.int .i64 0, .int .i64 0] 54)).alloc (.cells #[.int .i64 0] 32)):=(((Below.refl _ w).alloc (Nat.le_refl _) _).alloc (by simp) _).alloc (by simp;omega) _
  have hsz:(((w.alloc (.cells #[.int .i64 n] 3)).alloc (.cells #[.int .i64 0, .int .i64 0] 54)).alloc (.cells #[.int .i64 0] 32)).heap.size=w.heap.size+3:=by simp
  obtain ⟨W0,hW0⟩:∃W0,((w.alloc (.cells #[.int .i64 n] 3)).alloc (.cells #[.int .i64 0, .int .i64 0] 54)).alloc (.cells #[.int .i64 0] 32)=W0:=⟨_,rfl⟩
  rw [hW0] at b1 b2 b3 hB0 hsz ⊢
  clear hW0
  refine wpIn_rangeFunc_ownH rfl (by omega) (gf:=198) (lb:= #[]) rfl trivial (enters_of Tryz.func198 (by kernel_rfl) rfl)
    (Agm Fence.wide _ trivial rfl (by omega) w.heap.size W0) belowK_t (belowK_b (by omega)) (Below.refl _ _) (fun _=>rfl)
    (fun pre W=>(((fnd n pre=none∧Blk W w.heap.size #[.int .i64 n] 3)∧Blk W (w.heap.size+1) #[.int .i64 0, .int .i64 0] 54)∧Blk W (w.heap.size+1+1) #[.int .i64 0] 32)∧Below w.heap.size w W)
    (fun c pre W=>((c= .ret∧∃v,fnd n pre=some v∧Blk W (w.heap.size+1) #[.int .i64 v.log, .int .i64 v.dots] 54)∧Blk W (w.heap.size+1+1) #[.int .i64 0] 32)∧Below w.heap.size w W)
    (OwnFrom.and (OwnFrom.and (OwnFrom.and (OwnFrom.and (ownFrom_pure _ _) (Own.from (Mp _ _ _) _)) (Own.from (Mp _ _ _) _)) (Own.from (Mp _ _ _) _)) (ownFrom_below (Nat.le_refl _) (by omega)))
    (fun c=>OwnFrom.and (OwnFrom.and (fun s X Y row hs hg hr=>by obtain ⟨h1,v,h2,h3⟩:=hs;exact ⟨h1,v,h2,Mp _ _ _ s X Y row h3 hg (fun r e=>(hr r e).2)⟩) (Own.from (Mp _ _ _) _)) (ownFrom_below (Nat.le_refl _) (by omega)))
    ⟨⟨⟨⟨rfl,b1⟩,b2⟩,b3⟩,hB0⟩
    (fun x a' W=>∃Bx,w.heap.size+1+1<Bx∧Blk W Bx #[.int .i64 (E8 x.1).log, .int .i64 (E8 x.1).dots] 54∧a'={tmps:= #[.int .i64 n, .pointer (some ⟨w.heap.size,0,none⟩), .pointer (some ⟨w.heap.size+1,0,none⟩), .pointer (some ⟨w.heap.size+1+1,0,none⟩), .pointer (some ⟨Bx,0,none⟩), .func (.func 198) #[] #[], .agg #[.int .i64 (E8 x.1).log, .int .i64 (E8 x.1).dots],undef,undef,undef,undef,undef,undef],defers:= []})
    (fun x a' _ X Y row hs hg hr=>by obtain ⟨Bx,h1,h2,h3⟩:=hs;exact ⟨Bx,h1,Mp Bx _ _ () X Y row h2 hg (fun r e=>(hr r e).2),h3⟩)
    ?assign ?body ?done ?stop
  case assign=>
    rintro l pre x W K ⟨⟨⟨⟨hf,b1⟩,b2⟩,b3⟩,hB⟩ hK
    simp only [Yd]
    gi_wp2
    exact hK _ _ ((KeepsOthers.alloc _ _).from _) ((Below.refl _ W).alloc hB.size _) ⟨⟨⟨⟨hf,b1.alloc _⟩,b2.alloc _⟩,b3.alloc _⟩,hB.alloc hB.size _⟩ ⟨W.heap.size,b3.lt,Blk.new W _ _,rfl⟩
  case body=>
    rintro l pre x a' W hl ⟨r,hr⟩ ⟨⟨⟨⟨hf,b1⟩,b2⟩,b3⟩,hB⟩ ⟨Bx,hBx,bX,rfl⟩ hlt
    have hmx:Tryz.prog.follows .mixedOrders=true:=by kernel_rfl
    have c1:=b1.cell 0
    have c2:=bX.cell 0
    have c3:=bX.cell 1
    have c4:=b2.cell 0
    have c5:=b2.cell 1
    have c6:=b3.cell 0
    have f1:=b2.frozen 0
    have f2:=b2.frozen 1
    have f3:=b3.frozen 0
    simp only [List.getElem?_toArray,List.getElem?_cons_zero,List.getElem?_cons_succ] at c1 c2 c3 c4 c5 c6
    gi_wp2
    gi_region_with_o (refine ⟨trivial, ?_⟩;gi_at_call 179;refine (CallsIn.inRound l (callsIn_wide.2 (Adb (E8 x.1) (Ye x.2) _))).mono ?_;rintro e w' ⟨rfl,hbw⟩;have k1:=(hbw.cell (p:=⟨w.heap.size,0,none⟩) (by simpa using b1.lt)).trans c1)
    all_goals have hB':Below W.heap.size W w':=(Below.drew (Below.refl _ W)).trans hbw
    all_goals have a1:=b1.below hB' b1.lt
    all_goals have a2:=b2.below hB' b2.lt
    all_goals have a3:=b3.below hB' b3.lt
    all_goals have aX:=bX.below hB' bX.lt
    all_goals have c2:=aX.cell 0
    all_goals have c3:=aX.cell 1
    all_goals have c4:=a2.cell 0
    all_goals have c5:=a2.cell 1
    all_goals have c6:=a3.cell 0
    all_goals have f1:=a2.frozen 0
    all_goals have f2:=a2.frozen 1
    all_goals have f3:=a3.frozen 0
    all_goals simp only [List.getElem?_toArray,List.getElem?_cons_zero,List.getElem?_cons_succ] at c2 c3 c4 c5 c6
    all_goals have hsW:=hB.size
    all_goals have hl3:=b3.lt
    all_goals by_cases hx:C5 (E8 x.1)=n
    all_goals first
      | (have hxb : (C5 (E8 ↑x) == n) = true := by simp [hx]
         rw [hxb]
         gi_wp2
         exact ⟨(Sv hB' (by omega)).trans (((KeepsOthers.setCell _ _ _).trans ((KeepsOthers.setCell _ _ _).trans (KeepsOthers.setCell _ _ _))).from _),
           ⟨⟨rfl,E8 x.1,Aqn hf hx,((a2.set 0 _).set 1 _).other 0 _ (by omega)⟩,((a3.other 0 _ (by omega)).other 1 _ (by omega)).set 0 _⟩,
           (((hB.trans (hB'.mono (by omega))).setCell (p := ⟨w.heap.size + 1, 0, none⟩) (by simp) _).setCell (p := ⟨w.heap.size + 1, 1, none⟩) (by simp) _).setCell (p := ⟨w.heap.size + 1 + 1, 0, none⟩) (by simp; omega) _⟩)
      | (have hxb : (C5 (E8 ↑x) == n) = false := by simp [hx]
         rw [hxb]
         gi_wp2
         exact ⟨Sv hB' (by omega), hB'.mono (by omega), ⟨⟨⟨Ane hf hx, a1⟩, a2⟩, a3⟩, hB.trans (hB'.mono (by omega))⟩)
  case done=>
    rintro D ys W hD rfl ⟨⟨⟨⟨hf,b1⟩,b2⟩,b3⟩,hB⟩ hK
    have c4:=b2.cell 0
    have c5:=b2.cell 1
    have c6:=b3.cell 0
    have f1:=b2.frozen 0
    have f2:=b2.frozen 1
    have f3:=b3.frozen 0
    simp only [List.getElem?_toArray,List.getElem?_cons_zero,List.getElem?_cons_succ] at c4 c5 c6
    gi_wp2
    have g2:=((b2.set 0 (.int .i64 0)).set 1 (.int .i64 0)).other (B':=w.heap.size+1+1) 0 (.int .i64 17) (by omega)
    have g3:=((b3.other (B':=w.heap.size+1) 0 (.int .i64 0) (by omega)).other (B':=w.heap.size+1) 1 (.int .i64 0) (by omega)).set 0 (.int .i64 17)
    have hK':=((KeepsOthers.setCell W ⟨w.heap.size+1,0,none⟩ (.int .i64 0)).trans ((KeepsOthers.setCell _ ⟨w.heap.size+1,1,none⟩ (.int .i64 0)).trans (KeepsOthers.setCell _ ⟨w.heap.size+1+1,0,none⟩ (.int .i64 17)))).same D _ hK rfl
    have hB2:=((hB.setCell (p:=⟨w.heap.size+1,0,none⟩) (by simp) (.int .i64 0)).setCell (p:=⟨w.heap.size+1,1,none⟩) (by simp) (.int .i64 0)).setCell (p:=⟨w.heap.size+1+1,0,none⟩) (by simp;omega) (.int .i64 17)
    have hv0:Eh n=⟨0,0⟩∧Ko n=17:=by
      have:I5 n V4=none:=hf
      exact ⟨by rw [Eh,this];rfl,by rw [Ko,if_pos this]⟩
    rw [hv0.1,hv0.2]
    generalize (((W.setCell ⟨w.heap.size+1,0,none⟩ (.int .i64 0)).setCell ⟨w.heap.size+1,1,none⟩ (.int .i64 0)).setCell ⟨w.heap.size+1+1,0,none⟩ (.int .i64 17))=W2 at*
    refine ⟨by simp, .inl ⟨_,_,rfl,run_takeDeferred hK', ?_⟩⟩
    have d0:=(g2.put (.deferred none) (by omega:w.heap.size+1≠D)).cell 0
    have d1:=(g2.put (.deferred none) (by omega:w.heap.size+1≠D)).cell 1
    have d2:=(g3.put (.deferred none) (by omega:w.heap.size+1+1≠D)).cell 0
    refine ⟨_,by simp [results,Tryz.f155,go_sem,d0,d1,d2],rfl,hB2.trans (belowK_b (w:=w) (Nat.le_refl _) _ D _ _ (by omega) hK' rfl rfl)⟩
  case stop=>
    rintro D c pre W hD hp ⟨⟨⟨rfl,v,hv,b2⟩,b3⟩,hB⟩ hK
    gi_wp2
    have hv0:Eh n=v∧Ko n=0:=by
      have:=Aqm hp hv
      exact ⟨by rw [Eh,this];rfl,by rw [Ko,this];rfl⟩
    rw [hv0.1,hv0.2]
    refine ⟨by simp, .inl ⟨_,_,rfl,run_takeDeferred hK, ?_⟩⟩
    have d0:=(b2.put (.deferred none) (by omega:w.heap.size+1≠D)).cell 0
    have d1:=(b2.put (.deferred none) (by omega:w.heap.size+1≠D)).cell 1
    have d2:=(b3.put (.deferred none) (by omega:w.heap.size+1+1≠D)).cell 0
    refine ⟨_,by simp [results,Tryz.f155,go_sem,d0,d1,d2],rfl,hB.trans (belowK_b (w:=w) (Nat.le_refl _) _ D _ _ (by omega) hK rfl rfl)⟩
theorem Ao0 (n:Int):XC Tryz.prog 155 [dI n] (fun r=>r= .tup [.agg (Val.c (Eh n)),dI (Ko n)]):=by
  refine ⟨Ab8,fun H w vs him hsz hvs=> ?_⟩
  have:vs= #[.int .i64 n]:=by
    have h1:vs.size=1:=hsz
    have h0:=hvs 0 vs[0] (dI n) (Array.getElem?_eq_getElem (by omega)) rfl
    apply Array.ext
    · simpa using h1
    · intro i h2 h3
      have:i=0:=by omega
      subst this
      exact O8 h0
  subst this
  refine (Aqp n w).mono<|?_
  rintro e w' ⟨rfl,hb⟩
  refine ⟨H,_,_,R,R,Hp.le.refl _,fun b o u e=> .inl e,him.below hb,hb, .tup _ _ R fun i x d hx hd=> ?_⟩
  match i with
  |0=>
    cases hx;cases hd
    refine .agg _ _ R fun j y d hy hd=> ?_
    match j with
    |0=>cases hy;cases hd;exact .v _
    |1=>cases hy;cases hd;exact .v _
    |j+2=>cases hd
  |1=>cases hx;cases hd;exact .v _
  |i+2=>cases hd
end Go.Proofs.YtaafemnkamfgnaaGreat
namespace Go.Proofs.YtaafemnkamfgnaaGreat
open Go.RowKit
def Me.simp (m:Me) (a b:Int):Prop:=Ko (b - a)=0∧(Eh (b - a)).dots≤2∧((m.strong a b).2.2=true→m.level a≤(m.strong a b).2.1∧(0<(Eh (b - a)).dots∨m.level b≤(m.strong a b).2.1))
instance (m:Me) (a b:Int):Decidable (m.simp a b):=by unfold Me.simp;exact inferInstance
def Ef (m:Me):Nat→Int→Int→List Val
 |0,_,_=> []
 |f+1,a,b=>if a=b then [] else if m.simp a b∨(m.strong a b).2.2=false then [Eh (b - a)] else Ef m f a (m.strong a b).1++Ef m f (m.strong a b).1 b
def SpP (f:Nat) (a b:Int):Prop:=0≤a∧a≤b∧b≤4398046511104∧b - a≤15482880∧Dz a b+1≤f
theorem Afg {m:Me} {a:Int}:∀k,(Ez m a k).2.2=true→∃j:Nat,j<k∧(Ez m a k).1=a+7560*(j+1)
 |0,h=>by cases h
 |k+1,h=>by
  by_cases c:(Ez m a k).2.2=false∨m.level (a+7560*(k+1))<(Ez m a k).2.1
  ·rw [Ih c];exact ⟨k,by omega,rfl⟩
  ·have e:Ez m a (k+1)=Ez m a k:=by rw [Ez,if_neg c]
   rw [e] at h ⊢
   obtain ⟨j,h1,h2⟩:=Afg k h
   exact ⟨j,by omega,h2⟩
theorem Wc {m:Me} {a b:Int} (h:(m.strong a b).2.2=true):∃j:Nat,j<Dz a b∧(m.strong a b).1=a+7560*(j+1):=Afg _ h
theorem Hh {m:Me} {f:Nat} {a b:Int} (h:SpP (f+1) a b) (hw:(m.strong a b).2.2=true):SpP f a (m.strong a b).1∧SpP f (m.strong a b).1 b∧Dz a (m.strong a b).1+Dz (m.strong a b).1 b+1≤Dz a b:=by
 obtain ⟨j,h1,h2⟩:=Wc hw
 obtain ⟨g1,g2,g3,g4,g5⟩:=h
 unfold SpP
 rw [h2]
 unfold Dz at*
 refine ⟨⟨by omega,by omega,by omega,by omega,by omega⟩,⟨by omega,by omega,by omega,by omega,by omega⟩,by omega⟩
theorem Dp {m:Me}:∀(f:Nat) (a b:Int),SpP f a b→(Ef m f a b).length≤Dz a b+1
 |0,a,b,h=>by rw [Ef];simp
 |f+1,a,b,h=>by
  rw [Ef]
  split
  ·simp
  ·split
   ·simp
   ·rename_i hs
    have hw:(m.strong a b).2.2=true:=by
     cases e:(m.strong a b).2.2 with
     |true=>rfl
     |false=>exact absurd (.inr e) hs
    obtain ⟨h1,h2,h3⟩:=Hh h hw
    have:=Dp (m:=m) f _ _ h1
    have:=Dp (m:=m) f _ _ h2
    rw [List.length_append]
    omega
theorem Dc {m:Me} {f:Nat} {a b:Int} (h:a=b):Ef m (f+1) a b= []:=by rw [Ef,if_pos h]
theorem Db {m:Me} {f:Nat} {a b:Int} (h:¬a=b) (h2:m.simp a b∨(m.strong a b).2.2=false):Ef m (f+1) a b= [Eh (b - a)]:=by rw [Ef,if_neg h,if_pos h2]
theorem Dd {m:Me} {f:Nat} {a b:Int} (h:¬a=b) (h2:¬m.simp a b) (hw:(m.strong a b).2.2=true):Ef m (f+1) a b=Ef m f a (m.strong a b).1++Ef m f (m.strong a b).1 b:=by
 rw [Ef,if_neg h,if_neg (fun k=>k.elim h2 fun k=>by rw [hw] at k;cases k)]
theorem Ei {e:TypeId} {sz:Nat} {l l':List (List D)} (h:l=l'):some (XO.row e sz l)=some (.row e sz l'):=by rw [h]
theorem Adk (m:Me) (h:Mok m) (f:Nat) (ih:∀a b,SpP f a b→XS Tryz.prog 134 [.agg (Me.c m),dI a,dI b] (.own 7001) [(7001, .row 54 2 ((Ef m f a b).map Val.c))]) (a b:Int) (hp:SpP (f+1) a b):XS Tryz.prog 134 [.agg (Me.c m), .v (.int .i64 a), .v (.int .i64 b)] (.own 7001) [(7001, .row 54 2 ((Ef m (f+1) a b).map Val.c))]:=by
 obtain ⟨ha,hab,hb,hd,hf⟩:=id hp
 refine D4 Acj Tryz.func134 R R lb (by kernel_rfl) (by kernel_rfl)<|zr<|XL.step R (Ap 3 (l:= [.d (dI m.count), .d (dI m.unit), .d (dI m.g0), .d (dI m.g1), .d (dI m.g2), .d (dI m.g3), .d (dI m.g4), .d (dI m.g5)]) R R (by kernel_rfl))<|za R R<|zn<|zs<|zr<|zm R R<|zm R R<|zp (Bi R R R)<|zn<|?_
 refine zd R (fun c15=> ?_) (fun c15=> ?_)
 refine zr<|za R R<|zn<|Dx 7001 6 54 2 R<|zt<|?_
 exact ⟨Cs R (RVS.tmp R R),HSub.cons (by first|exact Ei (by rw [Dc c15];rfl)|exact Ei (by rw [Db c15 (by first|exact .inr (E5 c63)|exact .inr (by assumption)|exact .inl ⟨by omega,by omega,fun _=>⟨by omega,by omega⟩⟩)];rfl)|exact Gn (Dd c15 (fun k=>by obtain ⟨k1,k2,k3⟩:=k;have k4:=k3 hw;first|omega|(rw [hw] at c38;cases c38)) hw)) (HSub.nil)⟩
 refine zi<|zr<|zp (Ae (s':= .d (.agg (Me.c m))) (Ac (Ad R R Bn R lb)) (by kernel_rfl))<|zm R R<|zm R R<|XL.call1 R R (Ahg _ _ _ (by assumption) (by omega) (by omega)) R<|zm R R<|zp (A0 R R R)<|zp (A0 R R R)<|zp (A0 R R R)<|za R R<|za R R<|za R R<|znr<|?_
 refine zm R R<|zm R R<|zp (Fk R R R (by omega) (by omega))<|XL.call1 R R (Ao0 _) R<|zm R R<|zp (A0 R R R)<|zp (A0 R R R)<|XL.step R (Aq 10 (l:= [.d (dI 0), .d (dI 0)]) R Ft (by kernel_rfl))<|XL.step R (Af (l':= [.d (dI (Eh (b - a)).log), .d (dI (Eh (b - a)).dots)]) R R R R Hq R lb (by kernel_rfl))<|za R R<|znr<|zm R R<|zp (Bi R R R)<|zm R R<|?_
 refine XL.dec 33 R (fun g33=> ?_) (fun g33=> ?_)
 refine zp (Aa R R Nh)<|zp (Ab R R Ai R R)<|zp (N1 R R R)<|zq R R R<|za R R<|zn<|zs<|zr<|zm R R<|zn<|?_
 refine Ff (by kernel_rfl) R (fun c38=> ?_) (fun c38=> ?_)
 refine Ag (by kernel_rfl)<|zm R R<|zm R R<|?_
 refine XL.dec 40 R (fun g40=> ?_) (fun g40=> ?_)
 refine zm R R<|zp (Ae (s':= .d (.agg (Me.c m))) (Ac (Ad R R Bn R lb)) (by kernel_rfl))<|zm R R<|XL.call1 R R (Qm _ _ (by assumption) (by omega)) R<|zp (Gg R R R)<|zq R R R<|zm R R<|?_
 refine XL.dec 47 R (fun g47=> ?_) (fun g47=> ?_)
 refine zp (Aa R R Nh)<|zp (Ab R R Ai R R)<|zp (Bb R R R)<|zm R R<|?_
 refine XL.dec 51 R (fun g51=> ?_) (fun g51=> ?_)
 refine zk 5 R<|zq R R R<|zq R R R<|za R R<|zn<|zs<|zr<|zm R R<|zm R R<|zk 2 R<|zq R R R<|zn<|Av (by kernel_rfl) R<|zr<|?_
 refine zp (Ae (s':= .d (.agg (Val.c (Eh (b - a))))) (Ac (Ad R R El R lb)) (by kernel_rfl))<|XL.step R (Br 7001 R Tryz.underlying159 Hq Ft R R (by omega) (by omega))<|zp (Aw R (by conv=>lhs;whnf))<|?_
 refine zn<|zt<|?_
 exact ⟨Cs R (RVS.tmp R R),HSub.cons (by first|exact Ei (by rw [Dc c15];rfl)|exact Ei (by rw [Db c15 (by first|exact .inr (E5 c63)|exact .inr (by assumption)|exact .inl ⟨by omega,by omega,fun _=>⟨by omega,by omega⟩⟩)];rfl)|exact Gn (Dd c15 (fun k=>by obtain ⟨k1,k2,k3⟩:=k;have k4:=k3 hw;first|omega|(rw [hw] at c38;cases c38)) hw)) (HSub.nil)⟩
 refine zm R R<|zp (Ae (s':= .d (.agg (Me.c m))) (Ac (Ad R R Bn R lb)) (by kernel_rfl))<|zm R R<|XL.call1 R R (Qm _ _ (by assumption) (by omega)) R<|zp (Gg R R R)<|zq R R R<|zq R R R<|za R R<|zn<|zs<|zr<|zm R R<|zm R R<|?_
 refine XL.dec 60 R (fun g60=> ?_) (fun g60=> ?_)
 refine zk 2 R<|zq R R R<|zn<|Av (by kernel_rfl) R<|zr<|zp (Ae (s':= .d (.agg (Val.c (Eh (b - a))))) (Ac (Ad R R El R lb)) (by kernel_rfl))<|XL.step R (Br 7001 R Tryz.underlying159 Hq Ft R R (by omega) (by omega))<|zp (Aw R (by conv=>lhs;whnf))<|?_
 refine zn<|zt<|?_
 exact ⟨Cs R (RVS.tmp R R),HSub.cons (by first|exact Ei (by rw [Dc c15];rfl)|exact Ei (by rw [Db c15 (by first|exact .inr (E5 c63)|exact .inr (by assumption)|exact .inl ⟨by omega,by omega,fun _=>⟨by omega,by omega⟩⟩)];rfl)|exact Gn (Dd c15 (fun k=>by obtain ⟨k1,k2,k3⟩:=k;have k4:=k3 hw;first|omega|(rw [hw] at c38;cases c38)) hw)) (HSub.nil)⟩
 refine zm R R<|zp (D2 R R)<|zq R R R<|zn<|?_
 refine Ff (by kernel_rfl) R (fun c63=> ?_) (fun c63=> ?_)
 refine zr<|zp (Ae (s':= .d (.agg (Val.c (Eh (b - a))))) (Ac (Ad R R El R lb)) (by kernel_rfl))<|XL.step R (Br 7001 R Tryz.underlying159 Hq Ft R R (by omega) (by omega))<|zp (Aw R (by conv=>lhs;whnf))<|?_
 refine zn<|zt<|?_
 exact ⟨Cs R (RVS.tmp R R),HSub.cons (by first|exact Ei (by rw [Dc c15];rfl)|exact Ei (by rw [Db c15 (by first|exact .inr (E5 c63)|exact .inr (by assumption)|exact .inl ⟨by omega,by omega,fun _=>⟨by omega,by omega⟩⟩)];rfl)|exact Gn (Dd c15 (fun k=>by obtain ⟨k1,k2,k3⟩:=k;have k4:=k3 hw;first|omega|(rw [hw] at c38;cases c38)) hw)) (HSub.nil)⟩
 have hw:=Ks c63
 obtain ⟨hp1,hp2,hp3⟩:=Hh hp hw
 have hl1:=Dp (m:=m) f _ _ hp1
 have hl2:=Dp (m:=m) f _ _ hp2
 have hN:Dz a b≤2048:=by unfold Dz;omega
 refine zi<|zs<|Cq 7 [7001] (by kernel_rfl) (by kernel_rfl) (by kernel_rfl) (by kernel_rfl) (by decide)<|yp (Ae (s':= .d (.agg (Me.c m))) (Ac (Ad R R Bn R lb)) (by kernel_rfl))<|ym R R<|ym R R<|ChK.cons R (CStep.callS R ((ih _ _ hp1).lab 7001) R (Gt (by kernel_rfl)))<|yp (Ae (s':= .d (.agg (Me.c m))) (Ac (Ad R R Bn R lb)) (by kernel_rfl))<|?_
 refine ym R R<|ym R R<|?_
 refine ChK.nil ⟨by kernel_rfl, ?_⟩
 refine XL.callS R R ((ih _ _ hp2).lab 7002) R<|XL.step R (A5 R Mo (.own R) (Src.own R) (by simp only [List.length_map];unfold maxLen;omega) (by simp only [List.length_map];omega))<|zp (Aw R (by conv=>lhs;whnf))<|?_
 refine zn<|zt<|?_
 exact ⟨Cs R (RVS.tmp R R),HSub.cons (by first|exact Ei (by rw [Dc c15];rfl)|exact Ei (by rw [Db c15 (by first|exact .inr (E5 c63)|exact .inr (by assumption)|exact .inl ⟨by omega,by omega,fun _=>⟨by omega,by omega⟩⟩)];rfl)|exact Gn (Dd c15 (fun k=>by obtain ⟨k1,k2,k3⟩:=k;have k4:=k3 hw;first|omega|(rw [hw] at c38;cases c38)) hw)) (HSub.nil)⟩
 refine zk 10 R<|zq R R R<|za R R<|zn<|zs<|zr<|zm R R<|zm R R<|zm R R<|zp (D2 R R)<|zq R R R<|zn<|?_
 refine Ff (by kernel_rfl) R (fun c63=> ?_) (fun c63=> ?_)
 refine zr<|zp (Ae (s':= .d (.agg (Val.c (Eh (b - a))))) (Ac (Ad R R El R lb)) (by kernel_rfl))<|XL.step R (Br 7001 R Tryz.underlying159 Hq Ft R R (by omega) (by omega))<|zp (Aw R (by conv=>lhs;whnf))<|?_
 refine zn<|zt<|?_
 exact ⟨Cs R (RVS.tmp R R),HSub.cons (by first|exact Ei (by rw [Dc c15];rfl)|exact Ei (by rw [Db c15 (by first|exact .inr (E5 c63)|exact .inr (by assumption)|exact .inl ⟨by omega,by omega,fun _=>⟨by omega,by omega⟩⟩)];rfl)|exact Gn (Dd c15 (fun k=>by obtain ⟨k1,k2,k3⟩:=k;have k4:=k3 hw;first|omega|(rw [hw] at c38;cases c38)) hw)) (HSub.nil)⟩
 have hw:=Ks c63
 obtain ⟨hp1,hp2,hp3⟩:=Hh hp hw
 have hl1:=Dp (m:=m) f _ _ hp1
 have hl2:=Dp (m:=m) f _ _ hp2
 have hN:Dz a b≤2048:=by unfold Dz;omega
 refine zi<|zs<|Cq 7 [7001] (by kernel_rfl) (by kernel_rfl) (by kernel_rfl) (by kernel_rfl) (by decide)<|yp (Ae (s':= .d (.agg (Me.c m))) (Ac (Ad R R Bn R lb)) (by kernel_rfl))<|ym R R<|ym R R<|ChK.cons R (CStep.callS R ((ih _ _ hp1).lab 7001) R (Gt (by kernel_rfl)))<|yp (Ae (s':= .d (.agg (Me.c m))) (Ac (Ad R R Bn R lb)) (by kernel_rfl))<|?_
 refine ym R R<|ym R R<|?_
 refine ChK.nil ⟨by kernel_rfl, ?_⟩
 refine XL.callS R R ((ih _ _ hp2).lab 7003) R<|XL.step R (A5 R Mo (.own R) (Src.own R) (by simp only [List.length_map];unfold maxLen;omega) (by simp only [List.length_map];omega))<|zp (Aw R (by conv=>lhs;whnf))<|?_
 refine zn<|zt<|?_
 exact ⟨Cs R (RVS.tmp R R),HSub.cons (by first|exact Ei (by rw [Dc c15];rfl)|exact Ei (by rw [Db c15 (by first|exact .inr (E5 c63)|exact .inr (by assumption)|exact .inl ⟨by omega,by omega,fun _=>⟨by omega,by omega⟩⟩)];rfl)|exact Gn (Dd c15 (fun k=>by obtain ⟨k1,k2,k3⟩:=k;have k4:=k3 hw;first|omega|(rw [hw] at c38;cases c38)) hw)) (HSub.nil)⟩
 refine zk 5 R<|zq R R R<|zm R R<|zk 10 R<|zq R R R<|za R R<|zn<|zs<|zr<|zm R R<|zm R R<|zm R R<|zp (D2 R R)<|zq R R R<|?_
 refine zn<|?_
 refine Ff (by kernel_rfl) R (fun c63=> ?_) (fun c63=> ?_)
 refine zr<|zp (Ae (s':= .d (.agg (Val.c (Eh (b - a))))) (Ac (Ad R R El R lb)) (by kernel_rfl))<|XL.step R (Br 7001 R Tryz.underlying159 Hq Ft R R (by omega) (by omega))<|zp (Aw R (by conv=>lhs;whnf))<|?_
 refine zn<|zt<|?_
 exact ⟨Cs R (RVS.tmp R R),HSub.cons (by first|exact Ei (by rw [Dc c15];rfl)|exact Ei (by rw [Db c15 (by first|exact .inr (E5 c63)|exact .inr (by assumption)|exact .inl ⟨by omega,by omega,fun _=>⟨by omega,by omega⟩⟩)];rfl)|exact Gn (Dd c15 (fun k=>by obtain ⟨k1,k2,k3⟩:=k;have k4:=k3 hw;first|omega|(rw [hw] at c38;cases c38)) hw)) (HSub.nil)⟩
 have hw:=Ks c63
 obtain ⟨hp1,hp2,hp3⟩:=Hh hp hw
 have hl1:=Dp (m:=m) f _ _ hp1
 have hl2:=Dp (m:=m) f _ _ hp2
 have hN:Dz a b≤2048:=by unfold Dz;omega
 refine zi<|zs<|Cq 7 [7001] (by kernel_rfl) (by kernel_rfl) (by kernel_rfl) (by kernel_rfl) (by decide)<|yp (Ae (s':= .d (.agg (Me.c m))) (Ac (Ad R R Bn R lb)) (by kernel_rfl))<|ym R R<|ym R R<|ChK.cons R (CStep.callS R ((ih _ _ hp1).lab 7001) R (Gt (by kernel_rfl)))<|yp (Ae (s':= .d (.agg (Me.c m))) (Ac (Ad R R Bn R lb)) (by kernel_rfl))<|?_
 refine ym R R<|ym R R<|?_
 refine ChK.nil ⟨by kernel_rfl, ?_⟩
 refine XL.callS R R ((ih _ _ hp2).lab 7004) R<|XL.step R (A5 R Mo (.own R) (Src.own R) (by simp only [List.length_map];unfold maxLen;omega) (by simp only [List.length_map];omega))<|zp (Aw R (by conv=>lhs;whnf))<|?_
 refine zn<|zt<|?_
 exact ⟨Cs R (RVS.tmp R R),HSub.cons (by first|exact Ei (by rw [Dc c15];rfl)|exact Ei (by rw [Db c15 (by first|exact .inr (E5 c63)|exact .inr (by assumption)|exact .inl ⟨by omega,by omega,fun _=>⟨by omega,by omega⟩⟩)];rfl)|exact Gn (Dd c15 (fun k=>by obtain ⟨k1,k2,k3⟩:=k;have k4:=k3 hw;first|omega|(rw [hw] at c38;cases c38)) hw)) (HSub.nil)⟩
 refine zi<|zs<|zr<|zm R R<|zm R R<|?_
 refine XL.dec 60 R (fun g60=> ?_) (fun g60=> ?_)
 refine zk 2 R<|zq R R R<|zn<|Av (by kernel_rfl) R<|zr<|zp (Ae (s':= .d (.agg (Val.c (Eh (b - a))))) (Ac (Ad R R El R lb)) (by kernel_rfl))<|XL.step R (Br 7001 R Tryz.underlying159 Hq Ft R R (by omega) (by omega))<|zp (Aw R (by conv=>lhs;whnf))<|?_
 refine zn<|zt<|?_
 exact ⟨Cs R (RVS.tmp R R),HSub.cons (by first|exact Ei (by rw [Dc c15];rfl)|exact Ei (by rw [Db c15 (by first|exact .inr (E5 c63)|exact .inr (by assumption)|exact .inl ⟨by omega,by omega,fun _=>⟨by omega,by omega⟩⟩)];rfl)|exact Gn (Dd c15 (fun k=>by obtain ⟨k1,k2,k3⟩:=k;have k4:=k3 hw;first|omega|(rw [hw] at c38;cases c38)) hw)) (HSub.nil)⟩
 refine zm R R<|zp (D2 R R)<|zq R R R<|zn<|?_
 refine Ff (by kernel_rfl) R (fun c63=> ?_) (fun c63=> ?_)
 refine zr<|zp (Ae (s':= .d (.agg (Val.c (Eh (b - a))))) (Ac (Ad R R El R lb)) (by kernel_rfl))<|XL.step R (Br 7001 R Tryz.underlying159 Hq Ft R R (by omega) (by omega))<|zp (Aw R (by conv=>lhs;whnf))<|?_
 refine zn<|zt<|?_
 exact ⟨Cs R (RVS.tmp R R),HSub.cons (by first|exact Ei (by rw [Dc c15];rfl)|exact Ei (by rw [Db c15 (by first|exact .inr (E5 c63)|exact .inr (by assumption)|exact .inl ⟨by omega,by omega,fun _=>⟨by omega,by omega⟩⟩)];rfl)|exact Gn (Dd c15 (fun k=>by obtain ⟨k1,k2,k3⟩:=k;have k4:=k3 hw;first|omega|(rw [hw] at c38;cases c38)) hw)) (HSub.nil)⟩
 have hw:=Ks c63
 obtain ⟨hp1,hp2,hp3⟩:=Hh hp hw
 have hl1:=Dp (m:=m) f _ _ hp1
 have hl2:=Dp (m:=m) f _ _ hp2
 have hN:Dz a b≤2048:=by unfold Dz;omega
 refine zi<|zs<|Cq 7 [7001] (by kernel_rfl) (by kernel_rfl) (by kernel_rfl) (by kernel_rfl) (by decide)<|yp (Ae (s':= .d (.agg (Me.c m))) (Ac (Ad R R Bn R lb)) (by kernel_rfl))<|ym R R<|ym R R<|ChK.cons R (CStep.callS R ((ih _ _ hp1).lab 7001) R (Gt (by kernel_rfl)))<|yp (Ae (s':= .d (.agg (Me.c m))) (Ac (Ad R R Bn R lb)) (by kernel_rfl))<|?_
 refine ym R R<|ym R R<|?_
 refine ChK.nil ⟨by kernel_rfl, ?_⟩
 refine XL.callS R R ((ih _ _ hp2).lab 7005) R<|XL.step R (A5 R Mo (.own R) (Src.own R) (by simp only [List.length_map];unfold maxLen;omega) (by simp only [List.length_map];omega))<|zp (Aw R (by conv=>lhs;whnf))<|?_
 refine zn<|zt<|?_
 exact ⟨Cs R (RVS.tmp R R),HSub.cons (by first|exact Ei (by rw [Dc c15];rfl)|exact Ei (by rw [Db c15 (by first|exact .inr (E5 c63)|exact .inr (by assumption)|exact .inl ⟨by omega,by omega,fun _=>⟨by omega,by omega⟩⟩)];rfl)|exact Gn (Dd c15 (fun k=>by obtain ⟨k1,k2,k3⟩:=k;have k4:=k3 hw;first|omega|(rw [hw] at c38;cases c38)) hw)) (HSub.nil)⟩
 refine zk 3 R<|zq R R R<|za R R<|zn<|zs<|zr<|zm R R<|zn<|?_
 refine Ff (by kernel_rfl) R (fun c38=> ?_) (fun c38=> ?_)
 refine Ag (by kernel_rfl)<|zm R R<|zm R R<|zk 5 R<|zq R R R<|zm R R<|zk 10 R<|zq R R R<|za R R<|zn<|zs<|zr<|zm R R<|zm R R<|?_
 refine zm R R<|zp (D2 R R)<|zq R R R<|zn<|?_
 refine Ff (by kernel_rfl) R (fun c63=> ?_) (fun c63=> ?_)
 refine zr<|zp (Ae (s':= .d (.agg (Val.c (Eh (b - a))))) (Ac (Ad R R El R lb)) (by kernel_rfl))<|XL.step R (Br 7001 R Tryz.underlying159 Hq Ft R R (by omega) (by omega))<|zp (Aw R (by conv=>lhs;whnf))<|?_
 refine zn<|zt<|?_
 exact ⟨Cs R (RVS.tmp R R),HSub.cons (by first|exact Ei (by rw [Dc c15];rfl)|exact Ei (by rw [Db c15 (by first|exact .inr (E5 c63)|exact .inr (by assumption)|exact .inl ⟨by omega,by omega,fun _=>⟨by omega,by omega⟩⟩)];rfl)|exact Gn (Dd c15 (fun k=>by obtain ⟨k1,k2,k3⟩:=k;have k4:=k3 hw;first|omega|(rw [hw] at c38;cases c38)) hw)) (HSub.nil)⟩
 have hw:=Ks c63
 obtain ⟨hp1,hp2,hp3⟩:=Hh hp hw
 have hl1:=Dp (m:=m) f _ _ hp1
 have hl2:=Dp (m:=m) f _ _ hp2
 have hN:Dz a b≤2048:=by unfold Dz;omega
 refine zi<|zs<|Cq 7 [7001] (by kernel_rfl) (by kernel_rfl) (by kernel_rfl) (by kernel_rfl) (by decide)<|yp (Ae (s':= .d (.agg (Me.c m))) (Ac (Ad R R Bn R lb)) (by kernel_rfl))<|ym R R<|ym R R<|ChK.cons R (CStep.callS R ((ih _ _ hp1).lab 7001) R (Gt (by kernel_rfl)))<|yp (Ae (s':= .d (.agg (Me.c m))) (Ac (Ad R R Bn R lb)) (by kernel_rfl))<|?_
 refine ym R R<|ym R R<|?_
 refine ChK.nil ⟨by kernel_rfl, ?_⟩
 refine XL.callS R R ((ih _ _ hp2).lab 7006) R<|XL.step R (A5 R Mo (.own R) (Src.own R) (by simp only [List.length_map];unfold maxLen;omega) (by simp only [List.length_map];omega))<|zp (Aw R (by conv=>lhs;whnf))<|?_
 refine zn<|zt<|?_
 exact ⟨Cs R (RVS.tmp R R),HSub.cons (by first|exact Ei (by rw [Dc c15];rfl)|exact Ei (by rw [Db c15 (by first|exact .inr (E5 c63)|exact .inr (by assumption)|exact .inl ⟨by omega,by omega,fun _=>⟨by omega,by omega⟩⟩)];rfl)|exact Gn (Dd c15 (fun k=>by obtain ⟨k1,k2,k3⟩:=k;have k4:=k3 hw;first|omega|(rw [hw] at c38;cases c38)) hw)) (HSub.nil)⟩
 refine zi<|zs<|zr<|zm R R<|zm R R<|zm R R<|zp (D2 R R)<|zq R R R<|zn<|?_
 refine Ff (by kernel_rfl) R (fun c63=> ?_) (fun c63=> ?_)
 refine zr<|zp (Ae (s':= .d (.agg (Val.c (Eh (b - a))))) (Ac (Ad R R El R lb)) (by kernel_rfl))<|XL.step R (Br 7001 R Tryz.underlying159 Hq Ft R R (by omega) (by omega))<|zp (Aw R (by conv=>lhs;whnf))<|?_
 refine zn<|zt<|?_
 exact ⟨Cs R (RVS.tmp R R),HSub.cons (by first|exact Ei (by rw [Dc c15];rfl)|exact Ei (by rw [Db c15 (by first|exact .inr (E5 c63)|exact .inr (by assumption)|exact .inl ⟨by omega,by omega,fun _=>⟨by omega,by omega⟩⟩)];rfl)|exact Gn (Dd c15 (fun k=>by obtain ⟨k1,k2,k3⟩:=k;have k4:=k3 hw;first|omega|(rw [hw] at c38;cases c38)) hw)) (HSub.nil)⟩
 have hw:=Ks c63
 obtain ⟨hp1,hp2,hp3⟩:=Hh hp hw
 have hl1:=Dp (m:=m) f _ _ hp1
 have hl2:=Dp (m:=m) f _ _ hp2
 have hN:Dz a b≤2048:=by unfold Dz;omega
 refine zi<|zs<|Cq 7 [7001] (by kernel_rfl) (by kernel_rfl) (by kernel_rfl) (by kernel_rfl) (by decide)<|yp (Ae (s':= .d (.agg (Me.c m))) (Ac (Ad R R Bn R lb)) (by kernel_rfl))<|ym R R<|ym R R<|ChK.cons R (CStep.callS R ((ih _ _ hp1).lab 7001) R (Gt (by kernel_rfl)))<|yp (Ae (s':= .d (.agg (Me.c m))) (Ac (Ad R R Bn R lb)) (by kernel_rfl))<|?_
 refine ym R R<|ym R R<|?_
 refine ChK.nil ⟨by kernel_rfl, ?_⟩
 refine XL.callS R R ((ih _ _ hp2).lab 7007) R<|XL.step R (A5 R Mo (.own R) (Src.own R) (by simp only [List.length_map];unfold maxLen;omega) (by simp only [List.length_map];omega))<|zp (Aw R (by conv=>lhs;whnf))<|?_
 refine zn<|zt<|?_
 exact ⟨Cs R (RVS.tmp R R),HSub.cons (by first|exact Ei (by rw [Dc c15];rfl)|exact Ei (by rw [Db c15 (by first|exact .inr (E5 c63)|exact .inr (by assumption)|exact .inl ⟨by omega,by omega,fun _=>⟨by omega,by omega⟩⟩)];rfl)|exact Gn (Dd c15 (fun k=>by obtain ⟨k1,k2,k3⟩:=k;have k4:=k3 hw;first|omega|(rw [hw] at c38;cases c38)) hw)) (HSub.nil)⟩
theorem Wz (m:Me) (h:Mok m):∀(f:Nat) (a b:Int),SpP f a b→XS Tryz.prog 134 [.agg (Me.c m),dI a,dI b] (.own 7001) [(7001, .row 54 2 ((Ef m f a b).map Val.c))]
 |0,a,b,hp=>by have:=hp.2.2.2.2;omega
 |f+1,a,b,hp=>Adk m h f (Wz m h f) a b hp
def Me.splitE (m:Me) (a b:Int):Int:=if m.err≠0 then m.err else if a<0∨b<a∨4398046511104<b then 2 else if a % 7560≠0∨b % 7560≠0 then 16 else if 15482880<b - a then 5 else 0
def Me.split (m:Me) (a b:Int):List Val:=if m.splitE a b=0 then Ef m (Dz a b+1) a b else []
theorem Qh {m:Me} {a b:Int} (h:m.err≠0):m.splitE a b=m.err∧m.split a b= []:=by
 have:m.splitE a b=m.err:=by rw [Me.splitE,if_pos h]
 exact ⟨this,by rw [Me.split,if_neg (by rw [this];exact h)]⟩
theorem Qg {m:Me} {a b:Int} (h:¬m.err≠0) (h2:a<0∨b<a∨4398046511104<b):m.splitE a b=2∧m.split a b= []:=by
 have:m.splitE a b=2:=by rw [Me.splitE,if_neg h,if_pos h2]
 exact ⟨this,by rw [Me.split,if_neg (by rw [this];decide)]⟩
theorem Qf {m:Me} {a b:Int} (h:¬m.err≠0) (h2:¬(a<0∨b<a∨4398046511104<b)) (h3:a % 7560≠0∨b % 7560≠0):m.splitE a b=16∧m.split a b= []:=by
 have:m.splitE a b=16:=by rw [Me.splitE,if_neg h,if_neg h2,if_pos h3]
 exact ⟨this,by rw [Me.split,if_neg (by rw [this];decide)]⟩
theorem Qe {m:Me} {a b:Int} (h:¬m.err≠0) (h2:¬(a<0∨b<a∨4398046511104<b)) (h3:¬(a % 7560≠0∨b % 7560≠0)) (h4:15482880<b - a):m.splitE a b=5∧m.split a b= []:=by
 have:m.splitE a b=5:=by rw [Me.splitE,if_neg h,if_neg h2,if_neg h3,if_pos h4]
 exact ⟨this,by rw [Me.split,if_neg (by rw [this];decide)]⟩
theorem Qd {m:Me} {a b:Int} (h:¬m.err≠0) (h2:¬(a<0∨b<a∨4398046511104<b)) (h3:¬(a % 7560≠0∨b % 7560≠0)) (h4:¬15482880<b - a):m.splitE a b=0∧m.split a b=Ef m (Dz a b+1) a b:=by
 have:m.splitE a b=0:=by rw [Me.splitE,if_neg h,if_neg h2,if_neg h3,if_neg h4]
 exact ⟨this,by rw [Me.split,if_pos this]⟩
theorem Dk {m:Me} {a b:Int} {l:List Val} {e:Int} (h:m.splitE a b=e∧m.split a b=l):D.tup [.sl 2 (l.map Val.c),dI e]= .tup [.sl 2 ((m.split a b).map Val.c),dI (m.splitE a b)]:=by rw [h.1,h.2]
theorem Qp (m:Me) (a b:Int):XC Tryz.prog 104 [.agg (Me.c m), .v (.int .i64 a), .v (.int .i64 b)] (fun r=>r= .tup [.sl 2 ((m.split a b).map Val.c),dI (m.splitE a b)]):=by
 refine An Acx Tryz.func104 R R lb<|zr<|XL.step R (Ap 3 (l:= [.d (dI m.count), .d (dI m.unit), .d (dI m.g0), .d (dI m.g1), .d (dI m.g2), .d (dI m.g3), .d (dI m.g4), .d (dI m.g5)]) R R (by kernel_rfl))<|za R R<|za R R<|zn<|zs<|zr<|zp (Ae (s':= .d (.agg (Me.c m))) (Ac (Ad R R Bn R lb)) (by kernel_rfl))<|XL.call1 R R (N4 _) R<|za R R<|znr<|zm R R<|?_
 refine zp (A1 R R R)<|zn<|?_
 refine zd R (fun c12=> ?_) (fun c12=> ?_)
 refine zr<|zm R R<|za R R<|za R R<|zn<|zt<|?_
 exact A6 R (RV.nil (sz:=2) R R) (RV.tmp R R) (by first|exact Dk (Qh c12)|exact Dk (Qg c12 (by omega))|exact Dk (Qf c12 (by omega) (by omega))|exact Dk (Qe c12 (by omega) (by omega) (by omega))|exact Dk (Qd c12 (by omega) (by omega) (by omega)))
 refine zi<|zs<|Ah<|zr<|zm R R<|zp (Au R R R)<|zm R R<|?_
 refine XL.dec 17 R (fun g17=> ?_) (fun g17=> ?_)
 refine zk 3 R<|zq R R R<|zm R R<|zk 2 R<|zq R R R<|za R R<|zn<|Av (by kernel_rfl) R<|zr<|za R R<|za R R<|zn<|zt<|?_
 exact A6 R (RV.nil (sz:=2) R R) (RV.tmp R R) (by first|exact Dk (Qh c12)|exact Dk (Qg c12 (by omega))|exact Dk (Qf c12 (by omega) (by omega))|exact Dk (Qe c12 (by omega) (by omega) (by omega))|exact Dk (Qd c12 (by omega) (by omega) (by omega)))
 refine zm R R<|zm R R<|zp (Au R R R)<|zq R R R<|zm R R<|?_
 refine XL.dec 22 R (fun g22=> ?_) (fun g22=> ?_)
 refine zk 2 R<|zq R R R<|za R R<|zn<|Av (by kernel_rfl) R<|zr<|za R R<|za R R<|zn<|zt<|?_
 exact A6 R (RV.nil (sz:=2) R R) (RV.tmp R R) (by first|exact Dk (Qh c12)|exact Dk (Qg c12 (by omega))|exact Dk (Qf c12 (by omega) (by omega))|exact Dk (Qe c12 (by omega) (by omega) (by omega))|exact Dk (Qd c12 (by omega) (by omega) (by omega)))
 refine zm R R<|zp (Bb R R R)<|zq R R R<|za R R<|zn<|?_
 refine zd R (fun c14=> ?_) (fun c14=> ?_)
 refine zr<|za R R<|za R R<|zn<|zt<|?_
 exact A6 R (RV.nil (sz:=2) R R) (RV.tmp R R) (by first|exact Dk (Qh c12)|exact Dk (Qg c12 (by omega))|exact Dk (Qf c12 (by omega) (by omega))|exact Dk (Qe c12 (by omega) (by omega) (by omega))|exact Dk (Qd c12 (by omega) (by omega) (by omega)))
 refine zs<|?_
 have hab:¬(a<0∨b<a∨4398046511104<b):=by omega
 refine Ag (by kernel_rfl)<|zm R R<|zp (Fu R R R (by omega) (by omega))<|zp (A1 R R R)<|zm R R<|?_
 refine XL.dec 30 R (fun g30=> ?_) (fun g30=> ?_)
 refine zk 3 R<|zq R R R<|za R R<|zn<|Av (by kernel_rfl) R<|zr<|za R R<|za R R<|zn<|zt<|?_
 exact A6 R (RV.nil (sz:=2) R R) (RV.tmp R R) (by first|exact Dk (Qh c12)|exact Dk (Qg c12 (by omega))|exact Dk (Qf c12 (by omega) (by omega))|exact Dk (Qe c12 (by omega) (by omega) (by omega))|exact Dk (Qd c12 (by omega) (by omega) (by omega)))
 refine zm R R<|zp (Fu R R R (by omega) (by omega))<|zp (A1 R R R)<|zq R R R<|za R R<|zn<|?_
 refine zd R (fun c26=> ?_) (fun c26=> ?_)
 refine zr<|za R R<|za R R<|zn<|zt<|?_
 exact A6 R (RV.nil (sz:=2) R R) (RV.tmp R R) (by first|exact Dk (Qh c12)|exact Dk (Qg c12 (by omega))|exact Dk (Qf c12 (by omega) (by omega))|exact Dk (Qe c12 (by omega) (by omega) (by omega))|exact Dk (Qd c12 (by omega) (by omega) (by omega)))
 refine zr<|zm R R<|zm R R<|zp (Fk R R R (by omega) (by omega))<|zp (Bb R R R)<|za R R<|zn<|?_
 refine zd R (fun c35=> ?_) (fun c35=> ?_)
 refine zr<|za R R<|za R R<|zn<|zt<|?_
 exact A6 R (RV.nil (sz:=2) R R) (RV.tmp R R) (by first|exact Dk (Qh c12)|exact Dk (Qg c12 (by omega))|exact Dk (Qf c12 (by omega) (by omega))|exact Dk (Qe c12 (by omega) (by omega) (by omega))|exact Dk (Qd c12 (by omega) (by omega) (by omega)))
 refine zi<|zs<|?_
 have hok:=Ln c12
 have hsp:SpP (Dz a b+1) a b:=⟨by omega,by omega,by omega,by omega,Nat.le_refl _⟩
 refine Ag (by kernel_rfl)<|zp (Ae (s':= .d (.agg (Me.c m))) (Ac (Ad R R Bn R lb)) (by kernel_rfl))<|zm R R<|zm R R<|XL.callS R R ((Wz _ (by assumption) _ _ _ hsp).lab 7001) R<|zp (Aw R (by conv=>lhs;whnf))<|?_
 refine za R R<|zn<|zt<|Cd (i:=7001) R<|?_
 exact A6 R (RV.tmp R R) (RV.tmp R R) (by first|exact Dk (Qh c12)|exact Dk (Qg c12 (by omega))|exact Dk (Qf c12 (by omega) (by omega))|exact Dk (Qe c12 (by omega) (by omega) (by omega))|exact Dk (Qd c12 (by omega) (by omega) (by omega)))
end Go.Proofs.YtaafemnkamfgnaaGreat
namespace Go.Proofs.YtaafemnkamfgnaaGreat
open Go.RowKit
def Tp.mv (by_:Int) (t:Tp):Tp:={t with first:=t.first+by_}
def Cn (p:Tp→Bool) (by_:Int) (l:List Tp):List Tp:=(l.filter p).map (Tp.mv by_)
theorem Ajv {p:Tp→Bool} {b:Int} {l:List Tp} {k:Nat} {t:Tp} (h:l[k]? =some t) (hp:p t=true):Cn p b (l.take (k+1))=Cn p b (l.take k)++ [t.mv b]:=by
 rw [B3 h,Cn,List.filter_append,List.filter_cons_of_pos hp,List.filter_nil,List.map_append];rfl
theorem Ahh {p:Tp→Bool} {b:Int} {l:List Tp} {k:Nat} {t:Tp} (h:l[k]? =some t) (hp:¬p t=true):Cn p b (l.take (k+1))=Cn p b (l.take k):=by
 rw [B3 h,Cn,List.filter_append,List.filter_cons_of_neg hp,List.filter_nil,List.append_nil];rfl
theorem Io (p:Tp→Bool) (b:Int) (l:List Tp):(Cn p b l).length≤l.length:=by rw [Cn,List.length_map];exact List.length_filter_le _ _
theorem Aq0 {b:Bool} (h:b=false):¬b=true:=by rw [h];exact Bool.false_ne_true
theorem Pn (l:List Tp) (F:Nat) (cs:List D) (p:Tp→Bool) (b:Int) (hF:∀t∈l,XC Tryz.prog F (.agg (Tp.c t)::cs) (fun r=>r=dB (p t))) (hl:l.length≤1000) (hb:∀t∈l,p t=true→ -1000000≤t.first+b∧t.first+b≤1000000):XC Tryz.prog 102 [.sl 4 (l.map Tp.c), .fn F [] cs, .v (.int .i64 b)] (fun r=>r= .sl 4 ((Cn p b l).map Tp.c)):=by
 refine An Acz Tryz.func102 R R lb<|zr<|za R R<|znr<|za R R<|zn<|zs<|zr<|zm R R<|XL.len R R R Tryz.underlying80 fun hl11=>zm R R<|zn<|Ah<|Dx 900 7 157 4 R<|?_
 refine Az (α:=Nat) (fun k=>k≤l.length) (fun k=>mkF [(1, .d (.fn F [] cs)),(2, .d (dI b)),(6, .d (.v (.slice none 0 0))),(7, .own 900),(10, .d (.sl 4 (l.map Tp.c))),(11, .d (dI l.length)),(12, .d (dI k))]) (fun k=>mkH [(900, .row 157 4 ((Cn p b (l.take k)).map Tp.c))]) (fun k=>l.length - k) (0) (Nat.zero_le _) ?_ ?_ ?_
 exact fz ⟨sr,sr,sr,sr,sr,sr,sr,trivial⟩
 exact gz ⟨R,trivial⟩
 intro k hk0
 refine zr<|zp (Au R R R)<|zn<|zs<|?_
 refine zd R (fun c13=> ?_) (fun c13=> ?_)
 have hk0a:k<l.length:=by omega
 obtain ⟨x0,hx0⟩:=Ar hk0a
 have hml:=Io p b (l.take k)
 have htl:(l.take k).length≤l.length:=List.length_take_le' _ _
 refine zi<|zs<|Ah<|zr<|zp (Ao R R R E3 hx0)<|zp (Ae (s':= .d (.agg (Tp.c x0))) (Ay R R B9 lb) (by kernel_rfl))<|XL.step R (Aq 9 (l:= [.d (dI 0), .d (dI 0), .d (dI 0), .d (dI 0)]) R Dy (by kernel_rfl))<|XL.step R (Af (l':= [.d (dI x0.first), .d (dI x0.count), .d (dI x0.actual), .d (dI x0.normal)]) R R R R Fc R lb (by kernel_rfl))<|znr<|zm R R<|?_
 refine zp (Ae (s':= .d (.agg (Tp.c x0))) (Ac (Ad R R B9 R lb)) (by kernel_rfl))<|XL.callv1 (ds:= [_]) R R R (hF x0 (List.mem_of_getElem? hx0)) R<|zn<|?_
 refine Ff (by kernel_rfl) R (fun c18=> ?_) (fun c18=> ?_)
 have hb0:=hb x0 (List.mem_of_getElem? hx0) c18
 refine zr<|zp (Aa R R Bw)<|zp (Ab R R Ai R R)<|zm R R<|zp (Al R R R (by omega) (by omega))<|zp (Aa R R Bw)<|XL.step R (Af (l':= [.d (dI (x0.first+b)), .d (dI x0.count), .d (dI x0.actual), .d (dI x0.normal)]) R R R R Ey R lb (by kernel_rfl))<|zng<|zp (As R (by conv=>lhs;whnf))<|?_
 refine zp (Ae (s':= .d (.agg [dI (x0.first+b),dI x0.count,dI x0.actual,dI x0.normal])) (Ac (Ad R R B9 R lb)) (by kernel_rfl))<|XL.step R (Br 26 R Tryz.underlying80 Fc Dy R R (by omega) (by omega))<|XL.step R (A5 R F1 (.own R) (Src.own R) (by unfold maxLen;simp;omega) (by simp;omega))<|zp (Aw R (by conv=>lhs;whnf))<|?_
 refine zn<|Ag (by kernel_rfl)<|zp (Al R R R (by omega) (by omega))<|zm R R<|zn<|?_
 exact Am (k+1) (by omega) (by omega) (fz ⟨sr,sr,sr,sr,sr,sr,sr,trivial⟩) (gz ⟨Jn R (Ajv hx0 c18),trivial⟩)
 refine zi<|Ag (by kernel_rfl)<|zp (Al R R R (by omega) (by omega))<|zm R R<|zn<|?_
 exact Am (k+1) (by omega) (by omega) (fz ⟨sr,sr,sr,sr,sr,sr,sr,trivial⟩) (gz ⟨Oe (Ahh hx0 (Aq0 c18)).symm,trivial⟩)
 have hk0b:k=l.length:=by omega
 have ht:l.take k=l:=by rw [hk0b,List.take_length]
 refine At<|zr<|zp (As R (by conv=>lhs;whnf))<|?_
 refine zp (Aw R (by conv=>lhs;whnf))<|?_
 exact zn<|zt<|Cd (i:=900) R<|z1 R R (rSl (by rw [ht]))
theorem Aqh (n:Nat) (h:n≤100000):XS Tryz.prog 197 [.v (.slice none 0 0), .v (.int .i64 (n:Nat))] (.own 7001) [(7001, .row 59 13 ((([]:List Ev)).map Ev.c))]:=by
 refine D4 Aa5 Tryz.func197 R R lb (by kernel_rfl) (by kernel_rfl)<|zr<|za R R<|zn<|zs<|zr<|zm R R<|zp (Au R R R)<|zn<|?_
 refine zd R (fun c6=> ?_) (fun c6=> ?_)
 exfalso;omega
 refine zi<|zs<|zr<|zm R R<|zm R R<|zp (Wp R R Tryz.underlying79)<|zm R R<|zp (Wn R R Tryz.underlying79)<|zp (Fk R R R (by omega) (by omega))<|zp (Ae (s':= .d (dI (n:Nat))) (Fk R R R (by omega) (by omega)) (sI (by omega)))<|za R R<|znr<|zm R R<|zp (Bb R R R)<|?_
 refine zn<|?_
 refine zd R (fun c16=> ?_) (fun c16=> ?_)
 refine Ag (by kernel_rfl)<|zm R R<|zm R R<|zp (Wp R R Tryz.underlying79)<|zp (Adh R R R F5)<|zm R R<|?_
 refine XL.step R (Agy 7001 (z:=(.agg #[.int .i64 0, .int .i64 0, .int .i64 0, .int .i64 0, .int .i64 0, .slice none 0 0, .slice none 0 0, .int .i64 0, .int .i64 0, .int .i64 0, .slice none 0 0, .int .i64 0, .int .i64 0])) (zs:= [dI 0,dI 0,dI 0,dI 0,dI 0, .v (.slice none 0 0), .v (.slice none 0 0),dI 0,dI 0,dI 0, .v (.slice none 0 0),dI 0,dI 0]) (sz:=13) (bytes:=152) R R R Tryz.underlying79 Tryz.underlying3 (by kernel_rfl) (by kernel_rfl) (by kernel_rfl) (by decide) (by decide) (by omega) (by unfold maxLen;omega) (by omega))<|?_
 refine zm R R<|zp (Wn R R Tryz.underlying79)<|XL.step R (Ox R R R F5 (.at R) (Nat.zero_le _))<|zp (Aw R (by conv=>lhs;whnf))<|?_
 refine znr<|zp (As R (by conv=>lhs;whnf))<|?_
 refine zp (Aw R (by conv=>lhs;whnf))<|?_
 refine zn<|zt<|?_
 exact ⟨Cs R (RVS.tmp R R),HSub.cons (R) (HSub.nil)⟩
 refine zi<|zr<|zm R R<|za R R<|zn<|Dx 7001 4 59 13 R<|zt<|?_
 exact ⟨Cs R (RVS.tmp R R),HSub.cons (R) (HSub.nil)⟩
def Aae (l:List Ev):List D:= [.sl 13 (l.map Ev.c)]
theorem Ud {ls:List (List Ev)} {k:Nat} {x:List Ev} (h:ls[k]? =some x):(ls.take (k+1)).flatten=(ls.take k).flatten++x:=by rw [B3 h,List.flatten_append,List.flatten_singleton]
theorem Aar {ls:List (List Ev)} (k:Nat):(ls.take k).flatten.length≤ls.flatten.length:=by
 have:ls.flatten=(ls.take k).flatten++(ls.drop k).flatten:=by rw [←List.flatten_append,List.take_append_drop]
 rw [this,List.length_append];omega
theorem Ala (ls:List (List Ev)) (h:ls.flatten.length≤100000):XS Tryz.prog 174 [.sl 1 (ls.map Aae)] (.own 7001) [(7001, .row 59 13 ((ls.flatten).map Ev.c))]:=by
 refine D4 Abq Tryz.func174 R R lb (by kernel_rfl) (by kernel_rfl)<|zr<|za R R<|znr<|za R R<|zn<|zs<|zr<|zm R R<|XL.len R R R Tryz.underlying254 fun hl10=>zm R R<|zn<|Ah<|?_
 refine Az (α:=Nat) (fun k=>k≤ls.length) (fun k=>mkF [(0, .d (.sl 1 (ls.map Aae))),(2, .d (.v (.slice none 0 0))),(3, .d (dI ((ls.take k).flatten.length:Nat))),(9, .d (.sl 1 (ls.map Aae))),(10, .d (dI ls.length)),(11, .d (dI k))]) (fun k=>mkH []) (fun k=>ls.length - k) (0) (Nat.zero_le _) ?_ ?_ ?_
 exact fz ⟨sr,sr,sr,sr,sr,sr,trivial⟩
 exact HSub.nil
 intro k hk0
 refine zr<|zp (Au R R R)<|zn<|zs<|?_
 refine zd R (fun c12=> ?_) (fun c12=> ?_)
 have hk0a:k<ls.length:=by omega
 obtain ⟨x0,hx0⟩:=Ar hk0a
 have h1:=Aar (ls:=ls) (k+1)
 have h2:(ls.take (k+1)).flatten.length=(ls.take k).flatten.length+x0.length:=by rw [Ud hx0,List.length_append]
 refine zi<|zs<|Ah<|zr<|zp (Ao R R R Ak2 hx0)<|zp (Bg R R Cz)<|za R R<|znr<|zm R R<|zm R R<|XL.len R R R Tryz.underlying79 fun hl17=>zp (Al R R R (by omega) (by omega))<|za R R<|znr<|?_
 refine zm R R<|zp (Au R R R)<|zn<|?_
 refine zd R (fun c20=> ?_) (fun c20=> ?_)
 exfalso;omega
 refine zi<|Ag (by kernel_rfl)<|zp (Al R R R (by omega) (by omega))<|zm R R<|zn<|?_
 exact Am (k+1) (by omega) (by omega) (fz ⟨sr,sr, .same (sI (by rw [h2];omega)),sr,sr,sr,trivial⟩) (HSub.nil)
 have hk0b:k=ls.length:=by omega
 have h3:=Aar (ls:=ls) k
 refine At<|zr<|zm R R<|XL.callS R R ((Aqh _ (by omega)).lab 7001) R<|zp (Aw R (by conv=>lhs;whnf))<|?_
 refine zn<|zs<|zr<|zm R R<|XL.len R R R Tryz.underlying254 fun hl26=>zm R R<|zn<|Ah<|?_
 refine Az (α:=Nat) (fun j=>j≤ls.length) (fun j=>mkF [(2, .d (.v (.slice none 0 0))),(6, .own 7001),(25, .d (.sl 1 (ls.map Aae))),(26, .d (dI ls.length)),(27, .d (dI j))]) (fun j=>mkH [(7001, .row 59 13 (((ls.take j).flatten).map Ev.c))]) (fun j=>ls.length - j) (0) (Nat.zero_le _) ?_ ?_ ?_
 exact fz ⟨sr,sr,sr,sr,sr,trivial⟩
 exact gz ⟨R,trivial⟩
 intro j hk2
 refine zr<|zp (Au R R R)<|zn<|zs<|?_
 refine zd R (fun c28=> ?_) (fun c28=> ?_)
 have hk2a:j<ls.length:=by omega
 obtain ⟨x2,hx2⟩:=Ar hk2a
 have h4:=Aar (ls:=ls) (j+1)
 have h5:(ls.take (j+1)).flatten.length=(ls.take j).flatten.length+x2.length:=by rw [Ud hx2,List.length_append]
 refine zi<|zs<|Ah<|zr<|zp (Ao R R R Ak2 hx2)<|zp (Bg R R Cz)<|za R R<|zng<|zp (As R (by conv=>lhs;whnf))<|?_
 refine zm R R<|XL.step R (A5 R Gv (.own R) (Src.sl (by omega)) (by simp only [List.length_map];unfold maxLen;omega) (by simp only [List.length_map];omega))<|zp (Aw R (by conv=>lhs;whnf))<|?_
 refine zn<|Ag (by kernel_rfl)<|zp (Al R R R (by omega) (by omega))<|zm R R<|zn<|?_
 exact Am (j+1) (by omega) (by omega) (fz ⟨sr,sr,sr,sr,sr,trivial⟩) (gz ⟨Gn (Ud hx2),trivial⟩)
 have hk2b:j=ls.length:=by omega
 have ht:ls.take j=ls:=by rw [hk2b,List.take_length]
 refine At<|zr<|zp (As R (by conv=>lhs;whnf))<|?_
 refine zp (Aw R (by conv=>lhs;whnf))<|?_
 refine zn<|zt<|?_
 exact ⟨Cs R (RVS.tmp R R),HSub.cons (by rw [ht];rfl) (HSub.nil)⟩
def Co (v:Vo) (a n:Nat) (x:Vo):Vo:=
 ⟨v.evs.take a++x.evs++v.evs.drop (a+n),Cn (fun t=>decide (t.first<a)) 0 v.tups++Cn (fun _=>true) a x.tups++Cn (fun t=>decide ((a:Int)+n≤t.first)) (x.evs.length - n) v.tups⟩
structure Sml (v:Vo):Prop where
 evs:v.evs.length≤10000
 tups:v.tups.length≤100
 bd:∀t∈v.tups, -10000≤t.first∧t.first≤10000
theorem Al7 (v:Vo) (a n:Nat) (x:Vo): [(v.evs.take a).drop 0,x.evs,(v.evs.take v.evs.length).drop (a+n)].flatten=(Co v a n x).evs:=by
 simp [Co,List.flatten_cons]
theorem Ag2 (v:Vo) (a n:Nat) (x:Vo) (hv:Sml v) (hx:Sml x) (h:a+n≤v.evs.length):XS Tryz.prog 153 [.agg (Vo.c v), .v (.int .i64 (a:Nat)), .v (.int .i64 (n:Nat)), .agg (Vo.c x)] (.agg [.own 7001, .d (.sl 4 ((Co v a n x).tups.map Tp.c))]) [(7001, .row 59 13 (((Co v a n x).evs).map Ev.c))]:=by
 have hve:=hv.evs
 have hxe:=hx.evs
 have hvt:=hv.tups
 have hxt:=hx.tups
 have m1:=Io (fun t=>decide (t.first<(a:Int))) 0 v.tups
 have m2:=Io (fun _=>true) a x.tups
 have m3:=Io (fun t=>decide ((a:Int)+n≤t.first)) (x.evs.length - n) v.tups
 refine D4 Aca Tryz.func153 R R lb (by kernel_rfl) (by kernel_rfl)<|zr<|XL.step R (Ap 4 (l:= [.d (.sl 13 (v.evs.map Ev.c)), .d (.sl 4 (v.tups.map Tp.c))]) R R (by kernel_rfl))<|XL.step R (Ap 5 (l:= [.d (dI (a:Nat))]) R R (by kernel_rfl))<|XL.step R (Ap 6 (l:= [.d (dI (n:Nat))]) R R (by kernel_rfl))<|?_
 refine XL.step R (Ap 7 (l:= [.d (.sl 13 (x.evs.map Ev.c)), .d (.sl 4 (x.tups.map Tp.c))]) R R (by kernel_rfl))<|XL.step R (Aq 8 (l:= [.d (.v (.slice none 0 0)), .d (.v (.slice none 0 0))]) R Bf (by kernel_rfl))<|zn<|zs<|Cq 16 [7001,9] (by kernel_rfl) (by kernel_rfl) (by kernel_rfl) (by kernel_rfl) (by decide)<|yp (Aa R R Bo)<|yp (Ab R R Cz R R)<|?_
 refine yp (Ab R R Ai R R)<|yp (Je R R F5 Bd.no (Bd.at R) (Nat.zero_le _) (by omega))<|yp (Aa R R Bo)<|yp (Ab R R Cz R R)<|yp (Aa R R Bo)<|yp (Ab R R Cz R R)<|yp (Ab R R Ai R R)<|yp (Ab R R Ai R R)<|yp (Ae (s':= .d (dI (a+n:Nat))) (Al R R R (by omega) (by omega)) (sI (by omega)))<|?_
 refine yp (Je R R F5 (Bd.at R) Bd.no (by omega) (Nat.le_refl _))<|ChK.cons R (CStep.slice (l:= [((v.evs.take (a:Nat)).drop 0),x.evs,((v.evs.take v.evs.length).drop (a+n:Nat))].map Aae) R Tryz.underlying254 Rm Aot (by kernel_rfl) R (by omega) (by omega))<|?_
 refine ChK.cons R (CStep.callS R ((Ala _ (by simp only [List.flatten_cons,List.flatten_nil,List.length_append,List.length_nil,List.length_take,List.length_drop];omega)).lab 7001) R (Gt (by kernel_rfl)))<|yp (Ac (A4 R C6 Bf R))<|ChK.cons R (CStep.allocN 9 (l:= [.d (.v (.slice none 0 0)), .d (.v (.slice none 0 0))]) R Bf R R)<|?_
 refine ChK.nil ⟨by kernel_rfl, ?_⟩
 refine XL.step R (Af (l':= [.own 7001, .d (.v (.slice none 0 0))]) R R R R Bu R lb (by kernel_rfl))<|znr<|XL.freezeP 5 (ds:= [dI (a:Nat)]) R (by kernel_rfl) (by kernel_rfl)<|zp (Ph (pd:= []) (cd:= [_]) R R R)<|za R R<|znr<|XL.freezeP 6 (ds:= [dI (n:Nat)]) R (by kernel_rfl) (by kernel_rfl)<|zp (Ph (pd:= []) (cd:= [_,_]) R R R)<|za R R<|zn<|zs<|?_
 refine Cq 6 [] (by kernel_rfl) (by kernel_rfl) (by kernel_rfl) (by kernel_rfl) (by decide)<|yp (Aa R R B6)<|yp (Ab R R B7 R R)<|yp (Aa R R B6)<|yp (Ab R R B7 R R)<|ym R R<|?_
 refine ChK.cons R (CStep.call R (Pn v.tups 175 [.pt [dI a]] (fun t=>decide (t.first<(a:Int))) (0) (fun t _=>Apt t a) (by omega) (fun t ht _=>by have:=hv.bd t ht;omega)) rfl)<|?_
 refine ChK.nil ⟨by kernel_rfl, ?_⟩
 refine XL.step R (A5 R F1 (.nil 35 _ _) (Src.sl (by omega)) (by simp only [List.length_map,List.length_nil];unfold maxLen;omega) (by simp only [List.length_map,List.length_nil];omega))<|zp (Aa R R B6)<|XL.step R (Af (l':= [.own 7001, .own 35]) R R R R Ge R lb (by kernel_rfl))<|zn<|zs<|?_
 refine Cq 6 [] (by kernel_rfl) (by kernel_rfl) (by kernel_rfl) (by kernel_rfl) (by decide)<|yp (Aa R R B6)<|yp (Ab R R B7 R R)<|yp (Aa R R B6)<|yp (Ab R R B7 R R)<|yp (Bg R R Ai)<|ChK.cons R (CStep.call R (Pn x.tups 177 [] (fun _=>true) (a) (fun t _=>Apr t) (by omega) (fun t ht _=>by have:=hx.bd t ht;omega)) rfl)<|?_
 refine ChK.nil ⟨by kernel_rfl, ?_⟩
 refine XL.step R (A5 R F1 (.own R) (Src.sl (by omega)) (by simp only [List.length_append,List.length_map,List.length_nil];unfold maxLen;omega) (by simp only [List.length_append,List.length_map,List.length_nil];omega))<|zp (Aa R R B6)<|XL.step R (Af (l':= [.own 7001, .own 35]) R R R R Ge R lb (by kernel_rfl))<|zn<|zs<|?_
 refine Cq 11 [] (by kernel_rfl) (by kernel_rfl) (by kernel_rfl) (by kernel_rfl) (by decide)<|yp (Aa R R B6)<|yp (Ab R R B7 R R)<|yp (Aa R R B6)<|yp (Ab R R B7 R R)<|ym R R<|yp (Aa R R Bo)<|yp (Ab R R Cz R R)<|yp (M7 R R Tryz.underlying79)<|yp (Bg R R Ai)<|yp (Fk R R R (by omega) (by omega))<|?_
 refine ChK.cons R (CStep.call R (Pn v.tups 176 [.pt [dI a], .pt [dI n]] (fun t=>decide ((a:Int)+n≤t.first)) (x.evs.length - n) (fun t _=>Aps t a n (by omega) (by omega)) (by omega) (fun t ht _=>by have:=hv.bd t ht;omega)) rfl)<|?_
 refine ChK.nil ⟨by kernel_rfl, ?_⟩
 refine XL.step R (A5 R F1 (.own R) (Src.sl (by omega)) (by simp only [List.length_append,List.length_map,List.length_nil];unfold maxLen;omega) (by simp only [List.length_append,List.length_map,List.length_nil];omega))<|?_
 refine XL.rowq (i:=35) (l':=(Cn (fun t=>decide (t.first<(a:Int))) 0 v.tups++Cn (fun _=>true) a x.tups++Cn (fun t=>decide ((a:Int)+n≤t.first)) (x.evs.length - n) v.tups).map Tp.c) R (by simp only [List.map_append,List.nil_append])<|zp (Aa R R B6)<|XL.step R (Af (l':= [.own 7001, .own 35]) R R R R Ge R lb (by kernel_rfl))<|znr<|?_
 refine XL.freeze (i:=35) R<|zp (Ac (Ad R R Ax R lb))<|XL.step R (Af (l':= [.own 7001, .d (.sl 4 ((Cn (fun t=>decide (t.first<(a:Int))) 0 v.tups++Cn (fun _=>true) a x.tups++Cn (fun t=>decide ((a:Int)+n≤t.first)) (x.evs.length - n) v.tups).map Tp.c))]) R R R R Bu R lb (by kernel_rfl))<|zn<|zt<|?_
 exact ⟨Cs R (RVS.eq (RVS.cells (i:=8) R R R Ax lb) R),HSub.cons (by rw [Al7];rfl) (HSub.nil)⟩
theorem Ur (v:Vo) (a n:Nat) (x:Vo) (hv:Sml v) (hx:Sml x) (h:a+n≤v.evs.length):XC Tryz.prog 153 [.agg (Vo.c v),dI (a:Nat),dI (n:Nat), .agg (Vo.c x)] (fun r=>r= .agg (Vo.c (Co v a n x))):=(Ag2 v a n x hv hx h).xc rfl
end Go.Proofs.YtaafemnkamfgnaaGreat
namespace Go.Proofs.YtaafemnkamfgnaaGreat
def Tp.bef (a b:Tp):Prop:=a.first<b.first∨(a.first=b.first∧b.count≤a.count)
instance (a b:Tp):Decidable (a.bef b):=by unfold Tp.bef;exact inferInstance
theorem Aq1 (a b:Tp):a.bef b↔¬0<Kd a b:=by
 unfold Tp.bef Kd
 split
 ·split<;>omega
 ·split
  ·split<;>omega
  ·omega
theorem Tp.bef.trans {a b c:Tp} (h1:a.bef b) (h2:b.bef c):a.bef c:=by unfold Tp.bef at*;omega
theorem Tp.bef.first {a b:Tp} (h1:a.bef b):a.first≤b.first:=by unfold Tp.bef at*;omega
structure TV (l:List Tp) (n:Int):Prop where
 inR:∀t∈l,t.inR n
 ord:l.Pairwise Tp.bef
 nest:l.Pairwise (fun a b=>b.first<a.e→b.e≤a.e)
 dep:∀e,hits l e≤3
theorem Nf (A B:List Tp) (e:Int):hits (A++B) e=hits A e+hits B e:=by unfold hits;rw [List.filter_append,List.length_append]
theorem TV.nil (n:Int):TV [] n:=⟨fun t h=>(by cases h),List.Pairwise.nil,List.Pairwise.nil,fun e=>Nat.zero_le _⟩
theorem TV.snoc {P:List Tp} {t:Tp} {n:Int}:TV (P++ [t]) n↔TV P n∧t.inR n∧(∀a∈P,a.bef t)∧(∀a∈P,t.first<a.e→t.e≤a.e)∧∀e,t.has e→hits P e≤2:=by
 constructor
 ·intro h
  have ho:=List.pairwise_append.1 h.ord
  have hn:=List.pairwise_append.1 h.nest
  refine ⟨⟨fun x hx=>h.inR x (List.mem_append_left _ hx),ho.1,hn.1,fun e=> ?_⟩,h.inR t (List.mem_append_right _ (List.mem_singleton.2 rfl)),fun a ha=>ho.2.2 a ha t (List.mem_singleton.2 rfl),fun a ha=>hn.2.2 a ha t (List.mem_singleton.2 rfl),fun e he=> ?_⟩
  ·have:=h.dep e;rw [Nf] at this;omega
  ·have:=h.dep e;rw [Ir,if_pos he] at this;omega
 ·rintro ⟨h,h1,h2,h3,h4⟩
  refine ⟨fun x hx=> ?_,List.pairwise_append.2 ⟨h.ord,List.pairwise_singleton _ _,fun a ha b hb=>by rw [List.mem_singleton.1 hb];exact h2 a ha⟩,List.pairwise_append.2 ⟨h.nest,List.pairwise_singleton _ _,fun a ha b hb=>by rw [List.mem_singleton.1 hb];exact h3 a ha⟩,fun e=> ?_⟩
  ·rcases List.mem_append.1 hx with k|k
   ·exact h.inR x k
   ·rw [List.mem_singleton.1 k];exact h1
  ·rw [Ir]
   have:=h.dep e
   split
   ·rename_i k;have:=h4 e k;omega
   ·omega
def Gf (x:Int) (P:List Tp):List Tp:=P.filter fun o=>decide (x<o.e)
structure Rep (P s:List Tp):Prop where
 fil:∀x,(∀q∈P,q.first≤x)→Gf x s=(Gf x P).reverse
 mono:s.Pairwise fun a b=>a.e≤b.e
theorem M5 {t:Tp}:∀{s:List Tp},(s.Pairwise fun a b=>a.e≤b.e)→Cp t s=Gf t.first s
 | [],_=>rfl
 |o::r,h=>by
  have h2:=List.pairwise_cons.1 h
  rw [Cp]
  split
  ·rename_i k
   rw [M5 h2.2,Gf,Gf,List.filter_cons_of_neg (by simp;omega)]
  ·rename_i k
   refine (List.filter_eq_self.2 fun a ha=> ?_).symm
   rcases List.mem_cons.1 ha with e|e
   ·rw [e];simp;omega
   ·have:=h2.1 a e;simp;omega
theorem Us {x:Int} {s:List Tp} (h:s.Pairwise fun a b=>a.e≤b.e):(Gf x s).Pairwise fun a b=>a.e≤b.e:=h.sublist List.filter_sublist
theorem Wq {t:Tp} {s:List Tp} (h:s.Pairwise fun a b=>a.e≤b.e):D3 t s↔s.length=3∨∃o∈s,o.e<t.e:=by
 unfold D3
 cases s with
 |nil=>simp
 |cons o r=>
  have h2:=List.pairwise_cons.1 h
  constructor
  ·rintro (k|k)
   ·exact .inl k
   ·exact .inr ⟨o,List.mem_cons_self,k⟩
  ·rintro (k|⟨a,ha,k⟩)
   ·exact .inl k
   ·rcases List.mem_cons.1 ha with e|e
    ·exact .inr (e ▸ k)
    ·have:=h2.1 a e;exact .inr (by show o.e<t.e;omega)
theorem Rep.pop {P s:List Tp} {t:Tp} (h:Rep P s) (hb:∀a∈P,a.first≤t.first):Cp t s=(Gf t.first P).reverse:=by rw [M5 h.mono,h.fil _ hb]
theorem Ag3 {x:Int} {P:List Tp} (hb:∀a∈P,a.first≤x):(Gf x P).length=hits P x:=by
 unfold Gf hits
 congr 1
 refine List.filter_congr fun o ho=> ?_
 have:=hb o ho
 rw [decide_eq_decide]
 unfold Tp.e Tp.has
 omega
theorem Rep.over {P s:List Tp} {t:Tp} {n:Int} (h:Rep P s) (hv:TV P n) (hb:∀a∈P,a.first≤t.first):D3 t (Cp t s)↔(∃o∈P,t.first<o.e∧o.e<t.e)∨3≤hits P t.first:=by
 rw [Wq (by rw [M5 h.mono];exact Us h.mono),h.pop hb,List.length_reverse,Ag3 hb]
 have:=hv.dep t.first
 constructor
 ·rintro (k|⟨o,ho,k⟩)
  ·exact .inr (by omega)
  ·have:=List.mem_filter.1 (List.mem_reverse.1 ho)
   exact .inl ⟨o,this.1,by simpa using this.2,k⟩
 ·rintro (⟨o,ho,k1,k2⟩|k)
  ·exact .inr ⟨o,List.mem_reverse.2 (List.mem_filter.2 ⟨ho,by simpa using k1⟩),k2⟩
  ·exact .inl (by omega)
theorem Rep.nil:Rep [] []:=⟨fun x _=>rfl,List.Pairwise.nil⟩
theorem Rep.snoc {P s:List Tp} {t:Tp} (h:Rep P s) (hb:∀a∈P,a.first≤t.first) (hno:¬D3 t (Cp t s)):Rep (P++ [t]) (t::Cp t s):=by
 have hm:(Cp t s).Pairwise fun a b=>a.e≤b.e:=by rw [M5 h.mono];exact Us h.mono
 rw [Wq hm] at hno
 refine ⟨fun x hx=> ?_,List.pairwise_cons.2 ⟨fun a ha=>Int.not_lt.1 fun k=>hno (.inr ⟨a,ha,k⟩),hm⟩⟩
 have hx1:t.first≤x:=hx t (List.mem_append_right _ (List.mem_singleton.2 rfl))
 have h1:Gf x (Cp t s)=(Gf x P).reverse:=by
  rw [M5 h.mono, ←h.fil x (fun q hq=>hx q (List.mem_append_left _ hq)),Gf,Gf,List.filter_filter]
  refine List.filter_congr fun o _=> ?_
  by_cases k:x<o.e
  ·simp [k];omega
  ·simp [k]
 have h2:Gf x (P++ [t])=Gf x P++Gf x [t]:=List.filter_append _ _
 rw [h2,List.reverse_append, ←h1]
 show List.filter _ (t::Cp t s)=_
 rw [List.filter_cons]
 by_cases k:x<t.e
 ·have h3:Gf x [t]= [t]:=List.filter_cons_of_pos (by simpa using k)
  rw [if_pos (by simpa using k),h3];rfl
 ·have h3:Gf x [t]= []:=List.filter_cons_of_neg (by simpa using k)
  rw [if_neg (by simpa using k),h3];rfl
theorem TV.pre {A B:List Tp} {n:Int} (h:TV (A++B) n):TV A n:=
 ⟨fun t ht=>h.inR t (List.mem_append_left _ ht),(List.pairwise_append.1 h.ord).1,(List.pairwise_append.1 h.nest).1,fun e=>by have:=h.dep e;rw [Nf] at this;omega⟩
theorem Vc {P:List Tp} {t:Tp} (ho:P.Pairwise Tp.bef):Iy P.getLast? t↔¬ ∀a∈P,a.bef t:=by
 rcases List.eq_nil_or_concat P with e|⟨Q,q,e⟩
 ·subst e;simp [Iy]
 ·rw [List.concat_eq_append] at e;subst e
  rw [List.getLast?_concat]
  show 0<Kd q t↔_
  rw [←Decidable.not_not (p:=0<Kd q t), ←Aq1]
  refine not_congr ⟨fun k a ha=> ?_,fun k=>k q (List.mem_append_right _ (List.mem_singleton.2 rfl))⟩
  rcases List.mem_append.1 ha with j|j
  ·exact ((List.pairwise_append.1 ho).2.2 a j q (List.mem_singleton.2 rfl)).trans k
  ·rw [List.mem_singleton.1 j];exact k
theorem TV.step {P:List Tp} {t:Tp} {n:Int} (h:TV P n) (hi:t.inR n) (hb:∀a∈P,a.bef t):TV (P++ [t]) n↔¬((∃o∈P,t.first<o.e∧o.e<t.e)∨3≤hits P t.first):=by
 rw [TV.snoc]
 constructor
 ·rintro ⟨_,_,_,h3,h4⟩ (⟨o,ho,k1,k2⟩|k)
  ·have:=h3 o ho k1;omega
  ·have:=h4 t.first (by unfold Tp.inR at hi;unfold Tp.has;omega);omega
 ·intro k
  refine ⟨h,hi,hb,fun a ha k1=>Int.not_lt.1 fun k2=>k (.inl ⟨a,ha,k1,k2⟩),fun e he=> ?_⟩
  have h5:¬3≤hits P t.first:=fun j=>k (.inr j)
  have h6:hits P e≤hits P t.first:=by
   unfold hits
   rw [←List.countP_eq_length_filter, ←List.countP_eq_length_filter]
   refine List.countP_mono_left fun o ho hh=> ?_
   have h7:=(hb o ho).first
   simp only [decide_eq_true_eq] at hh ⊢
   unfold Tp.has at hh he ⊢
   omega
  omega
theorem Aiq (n:Int) (l:List Tp):∀(P s:List Tp),TV P n→Rep P s→(Ex n P.getLast? s l=0↔TV (P++l) n):=by
 induction l with
 |nil=>intro P s h _;rw [List.append_nil];exact ⟨fun _=>h,fun _=>rfl⟩
 |cons t l ih=>
  intro P s h hr
  have ha:P++t::l=(P++ [t])++l:=by simp
  rw [Ex]
  split
  ·rename_i k
   exact ⟨fun e=>by omega,fun e=>absurd (e.inR t (by simp)) k⟩
  ·rename_i hi
   have hi:=Decidable.not_not.1 hi
   split
   ·rename_i k
    refine ⟨fun e=>by omega,fun e=>absurd ?_ ((Vc h.ord).1 k)⟩
    rw [ha] at e
    exact (TV.snoc.1 e.pre).2.2.1
   ·rename_i k
    have hb:∀a∈P,a.bef t:=Decidable.not_not.1 fun j=>k ((Vc h.ord).2 j)
    have hb1:∀a∈P,a.first≤t.first:=fun a ha=>(hb a ha).first
    split
    ·rename_i k2
     refine ⟨fun e=>by omega,fun e=> ?_⟩
     rw [ha] at e
     exact absurd ((hr.over h hb1).1 k2) ((h.step hi hb).1 e.pre)
    ·rename_i k2
     have h2:TV (P++ [t]) n:=(h.step hi hb).2 fun j=>k2 ((hr.over h hb1).2 j)
     have:=ih (P++ [t]) (t::Cp t s) h2 (hr.snoc hb1 k2)
     rw [List.getLast?_concat] at this
     rw [ha];exact this
theorem tupErr_iff {l:List Tp} {n:Int}:D6 l n=0↔0≤n∧n≤128∧l.length≤16∧TV l n:=by
 have:=Aiq n l [] [] (TV.nil n) Rep.nil
 rw [List.nil_append] at this
 rw [←this]
 unfold D6
 split
 ·omega
 ·split
  ·omega
  ·show Ex n none [] l=0↔_∧_∧_∧Ex n none [] l=0
   omega
theorem Wh {T:List Tp}:∀{ws:List Int} {i:Nat},Ja T i ws=0↔∀j w,ws[j]? =some w→D1 T ((i+j:Nat):Int) w=0
 | [],i=>⟨fun _ j w h=>by simp at h,fun _=>rfl⟩
 |w::r,i=>by
  rw [Ja]
  split
  ·rename_i k
   exact ⟨fun h=>absurd h k,fun h=>absurd (h 0 w rfl) k⟩
  ·rename_i k
   rw [Wh]
   constructor
   ·intro h j x hj
    cases j with
    |zero=>cases hj;exact Decidable.not_not.1 k
    |succ j=>have:=h j x hj;rwa [show i+1+j=i+(j+1) by omega] at this
   ·intro h j x hj
    have:=h (j+1) x hj;rwa [show i+(j+1)=i+1+j by omega] at this
structure TL (T:List Tp) (ws ls:List Int):Prop where
 wl:ws.length≤128
 tl:T.length≤16
 tv:TV T ws.length
 sc:∀(i:Nat) w,ws[i]? =some w→D1 T i w=0
 un:∀(k:Nat) t,T[k]? =some t→(Gc (T.drop (k+1)) t ws).isSome=true
 ls:ls=C1 T 0 ws
theorem Yk (l:List Tp) (i:Nat):Nt l i=l.drop (i+1):=by unfold Nt;rw [List.take_length]
theorem unitAll_iff {T:List Tp} {ws:List Int}:Ml T ws↔∀(k:Nat) t,T[k]? =some t→(Gc (T.drop (k+1)) t ws).isSome=true:=by
 constructor
 ·intro h k t ht
  have:=h k (List.getElem?_eq_some_iff.1 ht).1
  rwa [Mt ht,Yk] at this
 ·intro h k hk
  have ht:T[k]? =some T[k]:=List.getElem?_eq_getElem hk
  rw [Mt ht,Yk]
  exact h k _ ht
theorem TL_iff {T:List Tp} {ws ls:List Int}:TL T ws ls↔C9 T ws=0∧Fb T ws=0∧ls=Ho T ws:=by
 have hsc:Ja T 0 ws=0↔∀(i:Nat) w,ws[i]? =some w→D1 T i w=0:=by
  rw [Wh]
  exact ⟨fun h i w hw=>by have:=h i w hw;rwa [Nat.zero_add] at this,fun h i w hw=>by rw [Nat.zero_add];exact h i w hw⟩
 constructor
 ·intro h
  have h1:D6 T ws.length=0:=tupErr_iff.2 ⟨by omega,by have:=h.wl;omega,h.tl,h.tv⟩
  have h2:C9 T ws=0:=by rw [C9,if_neg (by omega)];exact hsc.2 h.sc
  refine ⟨h2, ?_, ?_⟩
  ·rw [Fb,if_neg (by omega),if_pos (unitAll_iff.2 h.un)]
  ·rw [Ho,if_pos h2];exact h.ls
 ·rintro ⟨h1,h2,h3⟩
  have h4:D6 T ws.length=0∧Ja T 0 ws=0:=by
   rw [C9] at h1
   split at h1
   ·rename_i k;exact absurd h1 k
   ·rename_i k;exact ⟨by omega,h1⟩
  obtain ⟨_,h5,h6,h7⟩:=tupErr_iff.1 h4.1
  refine ⟨by omega,h6,h7,hsc.1 h4.2, ?_, ?_⟩
  ·rw [Fb,if_neg (by omega)] at h2
   split at h2
   ·rename_i k;exact unitAll_iff.1 k
   ·omega
  ·rw [h3,Ho,if_pos h1]
theorem Pr {i:Int}:∀{B:List Tp} (p:Int × Int),(∀t∈B,¬t.has i)→B.foldl (Fy i) p=p
 | [],p,_=>rfl
 |t::B,p,h=>by
  rw [List.foldl_cons,Fy,if_neg (h t List.mem_cons_self)]
  exact Pr p fun x hx=>h x (List.mem_cons_of_mem _ hx)
theorem Ag5 {A B:List Tp} {i:Int} (h:∀t∈B,¬t.has i):Bk (A++B) i=Bk A i:=by
 unfold Bk;rw [List.foldl_append,Pr _ h]
theorem Adg {A B:List Tp} {i:Int} (h:∀t∈A,¬t.has i):Bk (A++B) i=Bk B i:=by
 unfold Bk;rw [List.foldl_append,Pr _ h]
theorem Zk (t:Tp) (d i:Int):(t.mv d).has (i+d)↔t.has i:=by unfold Tp.has Tp.mv;simp only;omega
theorem Y8 (B:List Tp) (d i:Int):Bk (B.map (Tp.mv d)) (i+d)=Bk B i:=by
 unfold Bk
 rw [List.foldl_map]
 congr 1
 funext p t
 unfold Fy
 by_cases h:t.has i
 ·rw [if_pos h,if_pos ((Zk t d i).2 h)];rfl
 ·rw [if_neg h,if_neg (fun k=>h ((Zk t d i).1 k))]
theorem Ii {A B:List Tp} {i j w:Int} (h:Bk A i=Bk B j):D1 A i w=D1 B j w:=by unfold D1;rw [h]
theorem Qi {A B:List Tp} {i j w:Int} (h:Bk A i=Bk B j):D9 A i w=D9 B j w:=by unfold D9;rw [h]
theorem Oc {A B:List Tp}:∀{seg:List Int} {i i':Nat} {acc:Int},(∀j,j<seg.length→Bk A ((i+j:Nat):Int)=Bk B ((i'+j:Nat):Int))→Gd A i seg acc=Gd B i' seg acc
 | [],i,i',acc,h=>rfl
 |w::r,i,i',acc,h=>by
  have h0:=h 0 (by simp)
  rw [Nat.add_zero,Nat.add_zero] at h0
  rw [Gd,Gd,Ii h0,Qi h0]
  split
  ·rfl
  ·refine Oc fun j hj=> ?_
   have:=h (j+1) (by simp;omega)
   rwa [show i+(j+1)=i+1+j by omega,show i'+(j+1)=i'+1+j by omega] at this
theorem Na {A B:List Tp}:∀{ws:List Int} {i i':Nat},(∀j,j<ws.length→Bk A ((i+j:Nat):Int)=Bk B ((i'+j:Nat):Int))→C1 A i ws=C1 B i' ws
 | [],i,i',h=>rfl
 |w::r,i,i',h=>by
  have h0:=h 0 (by simp)
  rw [Nat.add_zero,Nat.add_zero] at h0
  rw [C1,C1,Qi h0,Na (i':=i'+1)]
  intro j hj
  have:=h (j+1) (by simp;omega)
  rwa [show i+(j+1)=i+1+j by omega,show i'+(j+1)=i'+1+j by omega] at this
theorem St (T:List Tp) (b:List Int):∀(a:List Int) (i:Nat),C1 T i (a++b)=C1 T i a++C1 T (i+a.length) b
 | [],i=>rfl
 |w::a,i=>by rw [List.cons_append,C1,C1,St T b a (i+1),List.cons_append,List.length_cons,show i+1+a.length=i+(a.length+1) by omega]
theorem Af0 (B:List Tp) (d e:Int):hits (B.map (Tp.mv d)) (e+d)=hits B e:=by
 unfold hits
 rw [List.filter_map,List.length_map]
 congr 1
 refine List.filter_congr fun t _=> ?_
 show decide ((t.mv d).has (e+d))=decide (t.has e)
 rw [decide_eq_decide];exact Zk t d e
theorem Xa {B:List Tp} {e:Int} (h:∀t∈B,¬t.has e):hits B e=0:=by
 unfold hits
 rw [List.filter_eq_nil_iff.2 fun t ht=>by simpa using h t ht];rfl
theorem Ahf (t:Tp) (d:Int):(t.mv d).e=t.e+d:=by unfold Tp.mv Tp.e;simp only;omega
theorem Jq (t:Tp) (d:Int):(t.mv d).first=t.first+d:=rfl
theorem mv_bef {a b:Tp} {d:Int}:(a.mv d).bef (b.mv d)↔a.bef b:=by unfold Tp.bef Tp.mv;simp only;omega
theorem Ahe (t:Tp) (a b:Int):(t.mv a).mv b=t.mv (a+b):=by unfold Tp.mv;simp only [Int.add_assoc]
theorem Aft (t:Tp):t.mv 0=t:=by unfold Tp.mv;simp
theorem Wy {A:List Tp} {n i:Int} (h:∀t∈A,t.e≤n) (hi:n≤i):∀t∈A,¬t.has i:=fun t ht k=>by have:=h t ht;unfold Tp.e at this;unfold Tp.has at k;omega
theorem Uy {B:List Tp} {n i:Int} (h:∀t∈B,0≤t.first) (hi:i<n):∀t∈B.map (Tp.mv n),¬t.has i:=fun t ht k=>by
 obtain ⟨b,hb,rfl⟩:=List.mem_map.1 ht
 have:=h b hb;unfold Tp.has Tp.mv at k;simp only at k;omega
theorem Ali {A B:List Tp} {n1 n2:Int} (h1:0≤n1) (h2:0≤n2) (hA:∀t∈A,t.e≤n1) (hB:∀t∈B,0≤t.first):TV (A++B.map (Tp.mv n1)) (n1+n2)↔TV A n1∧TV B n2:=by
 constructor
 ·intro h
  have ho:=List.pairwise_append.1 h.ord
  have hn:=List.pairwise_append.1 h.nest
  refine ⟨⟨fun t ht=> ?_,ho.1,hn.1,fun e=>by have:=h.dep e;rw [Nf] at this;omega⟩,⟨fun t ht=> ?_, ?_, ?_,fun e=> ?_⟩⟩
  ·have k1:=h.inR t (List.mem_append_left _ ht);have k2:=hA t ht;unfold Tp.inR at*;unfold Tp.e at k2;omega
  ·have k1:=h.inR (t.mv n1) (List.mem_append_right _ (List.mem_map.2 ⟨t,ht,rfl⟩));have k2:=hB t ht;unfold Tp.inR Tp.mv at k1;unfold Tp.inR;simp only at k1;omega
  ·exact (List.pairwise_map.1 ho.2.1).imp fun k=>mv_bef.1 k
  ·refine (List.pairwise_map.1 hn.2.1).imp fun {a b} k k2=> ?_
   rw [Ahf,Ahf,Jq] at k;omega
  ·have:=h.dep (e+n1);rw [Nf,Af0] at this;omega
 ·rintro ⟨a,b⟩
  refine ⟨fun t ht=> ?_,List.pairwise_append.2 ⟨a.ord,List.pairwise_map.2 (b.ord.imp fun k=>mv_bef.2 k),fun x hx y hy=> ?_⟩,List.pairwise_append.2 ⟨a.nest,List.pairwise_map.2 (b.nest.imp fun {x y} k=> ?_),fun x hx y hy k=> ?_⟩,fun e=> ?_⟩
  ·rcases List.mem_append.1 ht with k|k
   ·have k1:=a.inR t k;unfold Tp.inR at*;omega
   ·obtain ⟨s,hs,rfl⟩:=List.mem_map.1 k
    have k1:=b.inR s hs;unfold Tp.inR at k1;unfold Tp.inR Tp.mv;simp only;omega
  ·obtain ⟨s,hs,rfl⟩:=List.mem_map.1 hy
   have k1:=a.inR x hx;have k2:=hA x hx;have k3:=hB s hs
   left;unfold Tp.inR at k1;unfold Tp.e at k2;rw [Jq];omega
  ·rw [Ahf,Ahf,Jq];omega
  ·obtain ⟨s,hs,rfl⟩:=List.mem_map.1 hy
   have k2:=hA x hx;have k3:=hB s hs
   rw [Jq] at k;omega
  ·rw [Nf]
   by_cases k:e<n1
   ·rw [Xa (Uy hB k)];exact a.dep e
   ·rw [Xa (Wy hA (by omega)),Nat.zero_add]
    have:=b.dep (e - n1)
    have k2:=Af0 B n1 (e - n1)
    rw [Int.sub_add_cancel] at k2
    omega
theorem X2 {A B:List Tp} {n1:Nat} (hB:∀t∈B,0≤t.first) {i:Nat} (hi:i<n1):Bk (A++B.map (Tp.mv n1)) i=Bk A i:=Ag5 (Uy hB (by omega))
theorem Ag6 {A B:List Tp} {n1:Nat} (hA:∀t∈A,t.e≤n1) (i:Nat):Bk (A++B.map (Tp.mv n1)) ((n1+i:Nat):Int)=Bk B i:=by
 rw [Adg (Wy hA (by omega))]
 have:=Y8 B n1 i
 rwa [show (i:Int)+(n1:Int)=((n1+i:Nat):Int) by omega] at this
theorem Zt {A B:List Tp} {w1 w2:List Int} (hA:∀t∈A,t.e≤w1.length) (hB:∀t∈B,0≤t.first):C1 (A++B.map (Tp.mv w1.length)) 0 (w1++w2)=C1 A 0 w1++C1 B 0 w2:=by
 rw [St]
 congr 1
 ·exact Na fun j hj=>by rw [Nat.zero_add];exact X2 hB hj
 ·refine Na fun j hj=> ?_
  rw [Nat.zero_add,Nat.zero_add];exact Ag6 hA j
theorem Al4 {t:Tp} {w1 w2:List Int} (h0:0≤t.first) (h:t.e≤w1.length) (hc:1≤t.count):Hr t (w1++w2)=Hr t w1:=by
 unfold Hr
 unfold Tp.e at h
 rw [List.drop_append_of_le_length (by omega),List.take_append_of_le_length (by rw [List.length_drop];omega)]
theorem Ai5 {t:Tp} {w1 w2:List Int} (h0:0≤t.first):Hr (t.mv w1.length) (w1++w2)=Hr t w2:=by
 unfold Hr
 rw [Jq,show (t.first+(w1.length:Int)).toNat=w1.length+t.first.toNat by omega, ←List.drop_drop,List.drop_left]
 rfl
theorem Wa {A B:List Tp} {t:Tp} {w1 w2:List Int} (h0:0≤t.first) (h:t.e≤w1.length) (hc:1≤t.count) (hB:∀t∈B,0≤t.first):Gc (A++B.map (Tp.mv w1.length)) t (w1++w2)=Gc A t w1:=by
 unfold Gc
 rw [Al4 h0 h hc,Oc (B:=A) (i':=t.first.toNat)]
 intro j hj
 have:(Hr t w1).length≤t.count.toNat:=by unfold Hr;rw [List.length_take];omega
 unfold Tp.e at h
 exact X2 hB (by omega)
theorem Uj {B:List Tp} {t:Tp} {w1 w2:List Int} (h0:0≤t.first):Gc (B.map (Tp.mv w1.length)) (t.mv w1.length) (w1++w2)=Gc B t w2:=by
 unfold Gc
 rw [Ai5 h0,Oc (B:=B) (i':=t.first.toNat)]
 ·rfl
 ·intro j hj
  have:=Y8 B w1.length ((t.first.toNat+j:Nat):Int)
  rw [←this]
  congr 1
  rw [Jq]
  omega
theorem TL.app {A B:List Tp} {w1 w2 l1 l2:List Int} (h1:TL A w1 l1) (h2:TL B w2 l2) (hw:w1.length+w2.length≤128) (ht:A.length+B.length≤16):TL (A++B.map (Tp.mv w1.length)) (w1++w2) (l1++l2):=by
 have hA:∀t∈A,t.e≤w1.length:=fun t ht=>by have:=h1.tv.inR t ht;unfold Tp.inR at this;unfold Tp.e;omega
 have hB:∀t∈B,0≤t.first:=fun t ht=>by have:=h2.tv.inR t ht;unfold Tp.inR at this;omega
 refine ⟨by rw [List.length_append];exact hw,by rw [List.length_append,List.length_map];exact ht, ?_,fun i w hi=> ?_,fun k t hk=> ?_, ?_⟩
 ·rw [List.length_append,Int.natCast_add];exact (Ali (by omega) (by omega) hA hB).2 ⟨h1.tv,h2.tv⟩
 ·by_cases c:i<w1.length
  ·rw [List.getElem?_append_left c] at hi
   rw [Ii (X2 hB c)];exact h1.sc i w hi
  ·rw [List.getElem?_append_right (by omega)] at hi
   have:=Ag6 (B:=B) hA (i - w1.length)
   rw [show w1.length+(i - w1.length)=i by omega] at this
   rw [Ii this];exact h2.sc _ w hi
 ·by_cases c:k<A.length
  ·rw [List.getElem?_append_left c] at hk
   have hm:=List.mem_of_getElem? hk
   have:=h1.tv.inR t hm
   rw [List.drop_append_of_le_length (by omega),Wa (by unfold Tp.inR at this;omega) (hA t hm) (by unfold Tp.inR at this;omega) hB]
   exact h1.un k t hk
  ·rw [List.getElem?_append_right (by omega),List.getElem?_map] at hk
   cases hb:B[k - A.length]? with
   |none=>rw [hb] at hk;cases hk
   |some s=>
    rw [hb] at hk;cases hk
    have hd:(A++B.map (Tp.mv w1.length)).drop (k+1)=(B.drop (k - A.length+1)).map (Tp.mv w1.length):=by
     rw [List.drop_append,List.drop_eq_nil_of_le (by omega),List.nil_append,List.map_drop,show k+1 - A.length=k - A.length+1 by omega]
    rw [hd,Uj (hB s (List.mem_of_getElem? hb))]
    exact h2.un _ s hb
 ·rw [Zt hA hB,h1.ls,h2.ls]
theorem TL.split {A B:List Tp} {w1 w2 ls:List Int} (h:TL (A++B.map (Tp.mv w1.length)) (w1++w2) ls) (hA:∀t∈A,t.e≤w1.length) (hB:∀t∈B,0≤t.first):TL A w1 (ls.take w1.length)∧TL B w2 (ls.drop w1.length):=by
 have hl:=h.wl
 have ht:=h.tl
 rw [List.length_append] at hl ht
 rw [List.length_map] at ht
 have hv:TV A w1.length∧TV B w2.length:=by
  have:=h.tv
  rw [List.length_append,Int.natCast_add] at this
  exact (Ali (by omega) (by omega) hA hB).1 this
 have hls:=h.ls
 rw [Zt hA hB] at hls
 have hlg:=I2 A w1 0
 refine ⟨⟨by omega,by omega,hv.1,fun i w hi=> ?_,fun k t hk=> ?_, ?_⟩,⟨by omega,by omega,hv.2,fun i w hi=> ?_,fun k t hk=> ?_, ?_⟩⟩
 ·have c:=(List.getElem?_eq_some_iff.1 hi).1
  have:=h.sc i w (by rw [List.getElem?_append_left c];exact hi)
  rwa [Ii (X2 hB c)] at this
 ·have c:=(List.getElem?_eq_some_iff.1 hk).1
  have hm:=List.mem_of_getElem? hk
  have hr:=hv.1.inR t hm
  have:=h.un k t (by rw [List.getElem?_append_left c];exact hk)
  rwa [List.drop_append_of_le_length (by omega),Wa (by unfold Tp.inR at hr;omega) (hA t hm) (by unfold Tp.inR at hr;omega) hB] at this
 ·rw [hls,List.take_left' hlg]
 ·have:=h.sc (w1.length+i) w (by rw [List.getElem?_append_right (by omega),Nat.add_sub_cancel_left];exact hi)
  rwa [Ii (Ag6 hA i)] at this
 ·have:=h.un (A.length+k) (t.mv w1.length) (by rw [List.getElem?_append_right (by omega),Nat.add_sub_cancel_left,List.getElem?_map,hk];rfl)
  have hd:(A++B.map (Tp.mv w1.length)).drop (A.length+k+1)=(B.drop (k+1)).map (Tp.mv w1.length):=by
   rw [List.drop_append,List.drop_eq_nil_of_le (by omega),List.nil_append,List.map_drop,show A.length+k+1 - A.length=k+1 by omega]
  rwa [hd,Uj (hB t (List.mem_of_getElem? hk))] at this
 ·rw [hls,List.drop_left' hlg]
theorem U2:∀(ws:List Int) (i:Nat),(∀w∈ws,0≤w∧w≤7741440)→C1 [] i ws=ws
 | [],i,_=>rfl
 |w::r,i,h=>by
  have:=h w List.mem_cons_self
  rw [C1,U2 r (i+1) fun x hx=>h x (List.mem_cons_of_mem _ hx),D9,if_neg (by omega)]
  simp [Bk]
theorem TL.nil {ws:List Int} (hl:ws.length≤128) (h:∀w∈ws,0≤w∧w≤7741440):TL [] ws ws:=
 ⟨hl,Nat.zero_le _,TV.nil _,fun i w hi=>by have:=h w (List.mem_of_getElem? hi);rw [D1,if_neg (by omega)];simp [Bk],fun k t hk=>by simp at hk,(U2 ws 0 h).symm⟩
theorem Ys {l:List Tp} (h:l.Pairwise Tp.bef) (a:Int):l=l.filter (fun t=>decide (t.first<a))++l.filter (fun t=>decide (a≤t.first)):=by
 induction l with
 |nil=>rfl
 |cons t l ih=>
  have h2:=List.pairwise_cons.1 h
  have ih:=ih h2.2
  by_cases c:t.first<a
  ·rw [List.filter_cons_of_pos (by simpa using c),List.filter_cons_of_neg (by simp;omega),List.cons_append, ←ih]
  ·have:l.filter (fun t=>decide (t.first<a))= []:=List.filter_eq_nil_iff.2 fun x hx=>by have:=(h2.1 x hx).first;simp;omega
   rw [this,List.nil_append] at ih
   rw [List.filter_cons_of_neg (by simpa using c),List.filter_cons_of_pos (by simp;omega),this,List.nil_append, ←ih]
def Ue (l:List Tp) (a:Int):Prop:=∀t∈l,t.e≤a∨a≤t.first
theorem TL.cut {T:List Tp} {ws ls:List Int} (h:TL T ws ls) {a:Nat} (ha:a≤ws.length) (hf:Ue T a):
  TL (T.filter fun t=>decide (t.first<(a:Int))) (ws.take a) (ls.take a)∧TL ((T.filter fun t=>decide ((a:Int)≤t.first)).map (Tp.mv (-a))) (ws.drop a) (ls.drop a):=by
 have hl:(ws.take a).length=a:=by rw [List.length_take];omega
 have e1:T=(T.filter fun t=>decide (t.first<(a:Int)))++(((T.filter fun t=>decide ((a:Int)≤t.first)).map (Tp.mv (-a))).map (Tp.mv (ws.take a).length)):=by
  rw [List.map_map,hl]
  have:(Tp.mv (a:Int))∘(Tp.mv (-(a:Int)))=id:=by funext t;show (t.mv _).mv _=t;rw [Ahe,Int.add_left_neg,Aft]
  rw [this,List.map_id];exact Ys h.tv.ord a
 have h':TL ((T.filter fun t=>decide (t.first<(a:Int)))++(((T.filter fun t=>decide ((a:Int)≤t.first)).map (Tp.mv (-a))).map (Tp.mv (ws.take a).length))) (ws.take a++ws.drop a) ls:=by
  rw [←e1,List.take_append_drop];exact h
 have:=h'.split (fun t ht=> ?_) (fun t ht=> ?_)
 ·rw [hl] at this;exact this
 ·have k:=List.mem_filter.1 ht
  have k2:=k.2
  simp only [decide_eq_true_eq] at k2
  rcases hf t k.1 with j|j
  ·rw [hl];exact j
  ·omega
 ·obtain ⟨s,hs,rfl⟩:=List.mem_map.1 ht
  have k:=(List.mem_filter.1 hs).2
  simp only [decide_eq_true_eq] at k
  rw [Jq];omega
end Go.Proofs.YtaafemnkamfgnaaGreat
namespace Go.Proofs.YtaafemnkamfgnaaGreat
open Go.RowKit
def restE:Ev:=⟨0,0,2,⟨0,0⟩, [], [],0,0,0, [],0,0⟩
theorem Ai9:restE.fit:=⟨Nat.zero_le _,Nat.zero_le _,Nat.zero_le _⟩
theorem Ny (m:Me) (a b:Int):(m.split a b).length≤2049:=by
 unfold Me.split
 split
 ·rename_i h
  unfold Me.splitE at h
  split at h
  ·rename_i h1;exact absurd h h1
  ·split at h
   ·cases h
   ·split at h
    ·cases h
    ·split at h
     ·cases h
     ·have:=Dp (m:=m) (Dz a b+1) a b ⟨by omega,by omega,by omega,by omega,Nat.le_refl _⟩
      unfold Dz at*
      omega
 ·exact Nat.zero_le _
theorem Agz {m:Me} {a b:Int} (h:m.splitE a b≠0):m.split a b= []:=by rw [Me.split,if_neg h]
def Ij (m:Me) (a b:Int):List Ev:=By restE (m.split a b) false
def Asa (x:Ev) (m:Me) (a b:Int):Int:=if x.err≠0 then x.err else if x.kind=3 then 11 else m.splitE a b
def notesL (x:Ev) (m:Me) (a b:Int):List Ev:=if Asa x m a b=0 then By x (m.split a b) false else []
theorem r2e {l l':List Ev} {a b:Int} (h:l=l') (h2:a=b):D.tup [.sl 13 (l.map Ev.c),dI a]= .tup [.sl 13 (l'.map Ev.c),dI b]:=by rw [h,h2]
theorem Al5 {m:Me} {a b:Int} (h:m.splitE a b≠0):([]:List Ev)=Ij m a b:=by rw [Ij,Agz h];rfl
theorem Y5 (m:Me) (a b:Int):XC Tryz.prog 70 [.agg (Me.c m), .v (.int .i64 a), .v (.int .i64 b)] (fun r=>r= .tup [.sl 13 ((Ij m a b).map Ev.c),dI (m.splitE a b)]):=by
 have hsl:=Ny m a b
 refine An Aec Tryz.func70 R R lb<|zr<|XL.step R (Ap 3 (l:= [.d (dI m.count), .d (dI m.unit), .d (dI m.g0), .d (dI m.g1), .d (dI m.g2), .d (dI m.g3), .d (dI m.g4), .d (dI m.g5)]) R R (by kernel_rfl))<|za R R<|za R R<|znr<|zp (Ae (s':= .d (.agg (Me.c m))) (Ac (Ad R R Bn R lb)) (by kernel_rfl))<|zm R R<|zm R R<|XL.call1 R R (Qp _ _ _) R<|zm R R<|?_
 refine zp (A0 R R R)<|zp (A0 R R R)<|za R R<|za R R<|zn<|zs<|zr<|zm R R<|zp (A1 R R R)<|zn<|?_
 refine zd R (fun c18=> ?_) (fun c18=> ?_)
 refine zr<|zm R R<|za R R<|za R R<|zn<|zt<|?_
 exact A6 R (RV.nil (sz:=13) R R) (RV.tmp R R) (r2e (Al5 c18) R)
 refine zi<|zr<|zp (Ae (s':= .d (.agg [dI 0,dI 0,dI 2,dI 0,dI 0, .v (.slice none 0 0), .v (.slice none 0 0),dI 0,dI 0,dI 0, .v (.slice none 0 0),dI 0,dI 0])) (Ac (A4 R Qb Cc R)) (by kernel_rfl))<|zm R R<|?_
 refine XL.callS R R (((M9 restE _ false Ai9 (by omega)).sub (.cons (.agg (.cons (.same R) (.cons (.same R) (.cons (.same R) (.cons (.same R) (.cons (.same R) (.cons (.nil 5) (.cons (.nil 5) (.cons (.same R) (.cons (.same R) (.cons (.same R) (.cons (.nil 2) (.cons (.same R) (.cons (.same R) (.nil))))))))))))))) (.cons (.same R) (.cons (.same R) (.nil))))).lab 7001) R<|?_
 refine zp (Aw R (by conv=>lhs;whnf))<|?_
 refine za R R<|zn<|zt<|Cd (i:=7001) R<|?_
 exact A6 R (RV.tmp R R) (RV.tmp R R) (r2e R (by omega))
end Go.Proofs.YtaafemnkamfgnaaGreat
namespace Go.Proofs.YtaafemnkamfgnaaGreat
open Go.RowKit
theorem O0 {v:Vo} {L:Int} (h:ckE v L=0):Dq v L=0∧ckL v L=E0 v L:=by
 have h1:Dq v L=0:=by
  unfold ckE at h
  split at h
  ·cases h
  ·exact h
 exact ⟨h1,by rw [ckL,h,if_neg (by decide)]⟩
theorem Afy {v:Vo} (h:Fp v=0):(G2 v).length=v.evs.length∧C9 v.tups (wrS v.evs)=0:=by
 have h1:C9 v.tups (wrS v.evs)=0:=by
  unfold Fp at h
  split at h
  ·rename_i k;exact absurd h k
  ·split at h
   ·rename_i k;exact absurd h k
   ·rename_i k;exact Decidable.not_not.1 k
 refine ⟨?_,h1⟩
 rw [G2,if_pos h,Ho,if_pos h1,I2,wrS,List.length_map]
theorem Ap9 {v:Vo} {L:Int} (h:Dq v L=0):(E0 v L).length=v.evs.length:=by
 rw [E0,if_neg (by rw [h];decide)]
 split
 ·rename_i k;rw [k.2];rfl
 ·rename_i k
  have:Fp v=0:=by
   by_cases c1:L<1∨15482880<L
   ·rw [Dq,if_pos c1] at h;cases h
   ·by_cases c2:128<v.evs.length
    ·rw [Dq,if_neg c1,if_pos c2] at h;cases h
    ·rw [Dq,if_neg c1,if_neg c2,if_neg k] at h;exact h
  exact (Afy this).1
theorem V0 {v:Vo} {L:Int} (h:ckE v L=0):(ckL v L).length=v.evs.length:=by
 obtain ⟨h1,h2⟩:=O0 h
 rw [h2];exact Ap9 h1
theorem Agi (l:List Int) (t:Int):∀n,∃k:Nat,atS l t n=((k:Int),tot (l.take k))∧(k<n∨k=0)
 |0=>⟨0,rfl, .inr rfl⟩
 |n+1=>by
  obtain ⟨k,h1,h2⟩:=Agi l t n
  cases hl:l[n]? with
  |none=>exact ⟨k,by simp only [atS,hl];exact h1,by omega⟩
  |some x=>
   by_cases c:tot (l.take n)≤t∧0<x
   ·exact ⟨n,Ac2 hl c.1 c.2,by omega⟩
   ·exact ⟨k,by rw [O1 hl c];exact h1,by omega⟩
theorem Agh (v:Vo) (L t:Int):∃(k:Nat) (a:Int),atV v L t=((k:Int),a)∧0≤a∧a≤32469952757760∧(atE v L t=0→k<(ckL v L).length∧a=tot ((ckL v L).take k)):=by
 have hN:=Jp v L
 by_cases h:atE v L t≠0
 ·exact ⟨0,0,by rw [atV,if_pos h];rfl,by omega,by omega,fun k=>absurd k h⟩
 ·obtain ⟨k,h1,h2⟩:=Agi (ckL v L) t (ckL v L).length
  have hb:=(hN.take k).tot
  refine ⟨k,_,by rw [atV,if_neg h];exact h1,hb.1,hb.2,fun h0=>⟨?_,rfl⟩⟩
  have:(ckL v L).length≠0:=fun e=>by
   by_cases c:ckE v L≠0
   ·rw [Aic c] at h0;exact c h0
   ·rw [Aib c (by omega)] at h0;cases h0
  omega
theorem An0 {v:Vo} {L t:Int} (h:atE v L t=0):ckE v L=0∧0≤t∧t<L:=by
 unfold atE at h
 split at h
 ·rename_i c;exact absurd h c
 ·rename_i c
  split at h
  ·cases h
  ·split at h
   ·cases h
   ·omega
theorem Aug {v:Vo} {L t a:Int} {k:Nat} (hE:Evs v.evs) (h:atV v L t=((k:Int),a)):XC Tryz.prog 61 [.agg (Vo.c v),dI L,dI t] (fun r=>r= .tup [dI k,dI a,dI (atE v L t)]):=by
 have:=Aui v L t hE
 rw [h] at this
 exact this
theorem He {p:Pl} {v:Vo} (h:p.chk v=0):p.m.err=0∧¬p.bad∧ckE v p.len=0:=by
 unfold Pl.chk at h
 split at h
 ·rename_i c;exact absurd h c
 ·rename_i c
  split at h
  ·cases h
  ·exact ⟨Decidable.not_not.1 c,by assumption,h⟩
theorem len_ok {v:Vo} {L:Int} (h:Dq v L=0):v.evs.length≤128∧(v.tups.length=0∨C9 v.tups (wrS v.evs)=0)∧1≤L∧L≤15482880:=by
 by_cases c1:L<1∨15482880<L
 ·rw [Dq,if_pos c1] at h;cases h
 ·by_cases c2:128<v.evs.length
  ·rw [Dq,if_neg c1,if_pos c2] at h;cases h
  ·refine ⟨by omega, ?_,by omega,by omega⟩
   by_cases k:v.whole∧v.evs.length=1
   ·left
    obtain ⟨e,he⟩:∃e,v.evs[0]? =some e:=Ar (by omega)
    have:=Aho (L:=L) (by omega) (by omega) (by omega) k.1 (by omega) he
    rw [h] at this
    by_cases c3:e.err≠0
    ·rw [if_pos c3] at this;exact absurd this.symm c3
    ·rw [if_neg c3] at this
     by_cases c4:0<v.tups.length
     ·rw [if_pos c4] at this;cases this
     ·omega
   ·rw [Dq,if_neg c1,if_neg c2,if_neg k] at h
    exact .inr (Afy h).2
theorem U9 {v:Vo} {L:Int} (h:ckE v L=0):Sml v∧v.evs.length≤128:=by
 obtain ⟨h1,_⟩:=O0 h
 obtain ⟨h2,h3,_⟩:=len_ok h1
 refine ⟨⟨by omega, ?_, ?_⟩,h2⟩
 ·rcases h3 with h3|h3
  ·omega
  ·have:=(Ns (fun k=>k h3)).len;omega
 ·rcases h3 with h3|h3
  ·have:v.tups= []:=List.eq_nil_of_length_eq_zero h3
   rw [this];exact fun t ht=>by cases ht
  ·intro t ht
   have:=(Ns (fun k=>k h3)).ok t ht
   unfold Tp.ok at this
   omega
theorem Hv (x:Ev) (vs:List Val) (f:Bool):(By x vs f).length=vs.length:=by rw [By,List.length_mapIdx]
def Ev.asRest (x:Ev):Ev:=⟨x.site,x.num,2,x.v,x.heads,x.graces,x.art,x.orn,x.dyn,x.lyr,x.stem,x.beam⟩
def Ev.unrest (x:Ev):Ev:=if x.kind=3 then x.asRest else x
def Ev.tiedE (x:Ev):Ev:=⟨x.site,x.num,x.kind,x.v,x.heads.map Hd.tie,x.graces,x.art,x.orn,x.dyn,x.lyr,x.stem,x.beam⟩
theorem Ev.fit.rest {x:Ev} (h:x.fit):x.asRest.fit:=h
theorem Ev.fit.tied {x:Ev} (h:x.fit):x.tiedE.fit:=⟨by show (x.heads.map Hd.tie).length≤1000;rw [List.length_map];exact h.1,h.2⟩
theorem Ev.fit.put {x:Ev} (h:x.fit) (v:Val) (t:Bool):(x.put v t).fit:=⟨by cases t<;>simp only [Ev.put,if_true,Bool.false_eq_true,if_false,List.length_map]<;>exact h.1,h.2⟩
theorem Ev.fit.further {x:Ev} (h:x.fit):x.further.fit:=⟨by show (x.heads.map Hd.plain).length≤1000;rw [List.length_map];exact h.1,Nat.zero_le _,Nat.zero_le _⟩
theorem Ux {x:Ev} (h:x.fit) (vs:List Val) (f:Bool):∀e∈By x vs f,e.fit:=by
 intro e he
 obtain ⟨i,hi⟩:=List.getElem?_of_mem he
 rw [By,List.getElem?_mapIdx] at hi
 cases hv:vs[i]? with
 |none=>rw [hv] at hi;cases hi
 |some v=>
  rw [hv] at hi;cases hi
  unfold Fo
  split
  ·exact h.further.put _ _
  ·exact h.put _ _
theorem Afj {l:List Ev} (h:l.length≤10000):Sml ⟨l, []⟩:=⟨h,Nat.zero_le _,fun t ht=>by cases ht⟩
def E4 (p:Pl) (t:Int) (a w:Int) (x:Ev):List Ev:=By x.unrest.tiedE (p.m.split (p.off+a) (p.off+t)) false++By x.unrest (p.m.split (p.off+t) (p.off+(a+w))) true
def K7 (v:Vo) (p:Pl) (t:Int) (k:Nat) (a w:Int) (x:Ev):Vo × Int:=
 if 0<H4 v.tups k then (⟨[], []⟩,27) else if p.m.splitE (p.off+a) (p.off+t)≠0 then (⟨[], []⟩,p.m.splitE (p.off+a) (p.off+t)) else if p.m.splitE (p.off+t) (p.off+(a+w))≠0 then (⟨[], []⟩,p.m.splitE (p.off+t) (p.off+(a+w))) else
 if 128<(Co v k 1 ⟨E4 p t a w x, []⟩).evs.length then (⟨[], []⟩,9) else (Co v k 1 ⟨E4 p t a w x, []⟩,0)
def Ak (v:Vo) (p:Pl) (t:Int):Vo × Int:=
 if atE v p.len t≠0∨(atV v p.len t).2=t then (v,0) else
 match v.evs[(atV v p.len t).1.toNat]?,(ckL v p.len)[(atV v p.len t).1.toNat]? with
 |some x,some w=>K7 v p t (atV v p.len t).1.toNat (atV v p.len t).2 w x
 |_,_=>(⟨[], []⟩,0)
theorem Q9 {v:Vo} {p:Pl} {t a:Int} {k:Nat} (hat:atV v p.len t=((k:Int),a)) (h:atE v p.len t≠0∨a=t):Ak v p t=(v,0):=by rw [Ak,hat,if_pos h]
theorem J5 {v:Vo} {p:Pl} {t a w:Int} {k:Nat} {x:Ev} (hat:atV v p.len t=((k:Int),a)) (h:¬(atE v p.len t≠0∨a=t)) (hx:v.evs[k]? =some x) (hw:(ckL v p.len)[k]? =some w):Ak v p t=K7 v p t k a w x:=by
 rw [Ak,hat,if_neg h]
 simp only [Int.toNat_natCast,hx,hw]
theorem Au9 {v:Vo} {p:Pl} {t a w:Int} {k:Nat} {x:Ev} (h:0<H4 v.tups k):K7 v p t k a w x=(⟨[], []⟩,27):=by rw [K7,if_pos h]
theorem Au8 {v:Vo} {p:Pl} {t a w:Int} {k:Nat} {x:Ev} (h:¬0<H4 v.tups k) (h2:p.m.splitE (p.off+a) (p.off+t)≠0):K7 v p t k a w x=(⟨[], []⟩,p.m.splitE (p.off+a) (p.off+t)):=by rw [K7,if_neg h,if_pos h2]
theorem Au7 {v:Vo} {p:Pl} {t a w:Int} {k:Nat} {x:Ev} (h:¬0<H4 v.tups k) (h2:¬p.m.splitE (p.off+a) (p.off+t)≠0) (h3:p.m.splitE (p.off+t) (p.off+(a+w))≠0):K7 v p t k a w x=(⟨[], []⟩,p.m.splitE (p.off+t) (p.off+(a+w))):=by rw [K7,if_neg h,if_neg h2,if_pos h3]
theorem As3 {v:Vo} {p:Pl} {t a w:Int} {k:Nat} {x:Ev} {l:List Ev} (h:¬0<H4 v.tups k) (h2:¬p.m.splitE (p.off+a) (p.off+t)≠0) (h3:¬p.m.splitE (p.off+t) (p.off+(a+w))≠0) (hl:l=E4 p t a w x) (h4:128<((Co v k 1 ⟨l, []⟩).evs.length:Int)):K7 v p t k a w x=(⟨[], []⟩,9):=by
 subst hl;rw [K7,if_neg h,if_neg h2,if_neg h3,if_pos (by omega)]
theorem As2 {v:Vo} {p:Pl} {t a w:Int} {k:Nat} {x:Ev} {l:List Ev} (h:¬0<H4 v.tups k) (h2:¬p.m.splitE (p.off+a) (p.off+t)≠0) (h3:¬p.m.splitE (p.off+t) (p.off+(a+w))≠0) (hl:l=E4 p t a w x) (h4:¬128<((Co v k 1 ⟨l, []⟩).evs.length:Int)):K7 v p t k a w x=(Co v k 1 ⟨l, []⟩,0):=by
 subst hl;rw [K7,if_neg h,if_neg h2,if_neg h3,if_neg (by omega)]
theorem Q7 {p:Pl} {t a w:Int} {x:Ev} (h:x.kind=3):By x.asRest.tiedE (p.m.split (p.off+a) (p.off+t)) false++By x.asRest (p.m.split (p.off+t) (p.off+(a+w))) true=E4 p t a w x:=by rw [E4,Ev.unrest,if_pos h]
theorem Q8 {p:Pl} {t a w:Int} {x:Ev} (h:¬x.kind=3):By x.tiedE (p.m.split (p.off+a) (p.off+t)) false++By x (p.m.split (p.off+t) (p.off+(a+w))) true=E4 p t a w x:=by rw [E4,Ev.unrest,if_neg h]
theorem Ui {x:Ev} (h:x.fit):x.unrest.fit:=by unfold Ev.unrest;split<;>exact h
theorem Tf {v:Vo} {k:Nat} {l:List Ev} (hv:v.fit) (hl:∀e∈l,e.fit) (hs:Sml v) (h:¬128<((Co v k 1 ⟨l, []⟩).evs.length:Int)):(Co v k 1 ⟨l, []⟩).fit:=by
 refine ⟨by omega, ?_,fun e he=> ?_⟩
 ·have h1:=Io (fun t=>decide (t.first<(k:Int))) 0 v.tups
  have h2:=Io (fun t=>decide ((k:Int)+(1:Nat)≤t.first)) ((l.length:Int) - (1:Nat)) v.tups
  have h3:=hs.tups
  simp only [Co,List.length_append]
  have h4:(Cn (fun _=>true) (k:Int) []).length=0:=rfl
  omega
 ·simp only [Co] at he
  rcases List.mem_append.1 he with he|he
  ·rcases List.mem_append.1 he with he|he
   ·exact hv.ev e (List.mem_of_mem_take he)
   ·exact hl e he
  ·exact hv.ev e (List.mem_of_mem_drop he)
theorem Ua {p:Pl} {t a w:Int} {x:Ev} (h:x.fit):∀e∈E4 p t a w x,e.fit:=by
 intro e he
 rcases List.mem_append.1 he with he|he
 ·exact Ux (Ui h).tied _ _ e he
 ·exact Ux (Ui h) _ _ e he
theorem r2v {v:Vo} {a:Int} {q:Vo × Int} (h:q=(v,a)):D.tup [.agg (Vo.c v),dI a]= .tup [.agg (Vo.c q.1),dI q.2]:=by rw [h]
theorem Xm (v:Vo) (p:Pl) (t:Int) (hE:Evs v.evs) (hF:v.fit) (hc:p.chk v=0):XC Tryz.prog 130 [.agg (Vo.c v), .agg (Pl.c p), .v (.int .i64 t)] (fun r=>r= .tup [.agg (Vo.c (Ak v p t).1),dI (Ak v p t).2]):=by
 obtain ⟨k,a,hat,ha0,ha1,hak⟩:=Agh v p.len t
 obtain ⟨hme,hpb,hck⟩:=He hc
 obtain ⟨hsv,hev⟩:=U9 hck
 have hcl:=V0 hck
 have hN:=Jp v p.len
 unfold Pl.bad at hpb
 refine An Acm Tryz.func130 R R lb<|zr<|XL.step R (Ap 3 (l:= [.d (.sl 13 (v.evs.map Ev.c)), .d (.sl 4 (v.tups.map Tp.c))]) R R (by kernel_rfl))<|XL.step R (Ap 4 (l:= [.d (dI p.m.count), .d (dI p.m.unit), .d (dI p.m.g0), .d (dI p.m.g1), .d (dI p.m.g2), .d (dI p.m.g3), .d (dI p.m.g4), .d (dI p.m.g5), .d (dI p.off), .d (dI p.len)]) R R (by kernel_rfl))<|?_
 refine XL.step R (Aq 6 (l:= [.d (.v (.slice none 0 0)), .d (.v (.slice none 0 0))]) R Bf (by kernel_rfl))<|za R R<|znr<|zp (Ae (s':= .d (.agg (Vo.c v))) (Ac (Ad R R Ax R lb)) (by kernel_rfl))<|zp (Aa R R Cx)<|zp (Ab R R Ai R R)<|XL.call1 R R (Mi _ _ (by assumption)) R<|zm R R<|zp (A0 R R R)<|zp (A0 R R R)<|za R R<|za R R<|znr<|?_
 refine zp (Ae (s':= .d (.agg (Vo.c v))) (Ac (Ad R R Ax R lb)) (by kernel_rfl))<|zp (Aa R R Cx)<|zp (Ab R R Ai R R)<|zm R R<|XL.call1 R R (Aug hE hat) R<|zm R R<|zp (A0 R R R)<|zp (A0 R R R)<|zp (A0 R R R)<|za R R<|za R R<|za R R<|zn<|zs<|?_
 refine zr<|zm R R<|zp (A1 R R R)<|zm R R<|?_
 refine XL.dec 37 R (fun g37=> ?_) (fun g37=> ?_)
 refine zk 3 R<|zq R R R<|zn<|Av (by kernel_rfl) R<|zr<|zp (Ae (s':= .d (.agg (Vo.c v))) (Ac (Ad R R Ax R lb)) (by kernel_rfl))<|XL.call1 R R (Lg _ (by assumption)) R<|XL.step R (Af (l':= [.d (.sl 13 (v.evs.map Ev.c)), .d (.sl 4 (v.tups.map Tp.c))]) R R R R Bu R lb (by kernel_rfl))<|za R R<|zn<|zt<|?_
 exact A6 R (RV.cells R R R Ax lb R) (RV.tmp R R) (r2v (Q9 hat (by omega)))
 refine zm R R<|zm R R<|zp (Bi R R R)<|zq R R R<|zn<|?_
 refine zd R (fun c41=> ?_) (fun c41=> ?_)
 refine zr<|zp (Ae (s':= .d (.agg (Vo.c v))) (Ac (Ad R R Ax R lb)) (by kernel_rfl))<|XL.call1 R R (Lg _ (by assumption)) R<|XL.step R (Af (l':= [.d (.sl 13 (v.evs.map Ev.c)), .d (.sl 4 (v.tups.map Tp.c))]) R R R R Bu R lb (by kernel_rfl))<|za R R<|zn<|zt<|?_
 exact A6 R (RV.cells R R R Ax lb R) (RV.tmp R R) (r2v (Q9 hat (by omega)))
 refine zi<|zs<|?_
 have hne:¬(atE v p.len t≠0∨a=t):=by omega
 have he0:atE v p.len t=0:=by omega
 obtain ⟨hk,hak2⟩:=hak he0
 obtain ⟨w,hw⟩:∃w,(ckL v p.len)[k]? =some w:=Ar hk
 obtain ⟨x,hx⟩:∃x,v.evs[k]? =some x:=Ar (by omega)
 have hwb:=hN.bd w (List.mem_of_getElem? hw)
 obtain ⟨_,ht0,ht1⟩:=An0 he0
 have hxf:x.fit:=hF.ev x (List.mem_of_getElem? hx)
 have hs1:=Ny p.m (p.off+a) (p.off+t)
 have hs2:=Ny p.m (p.off+t) (p.off+(a+w))
 have hxh:=hxf.1
 refine Ag (by kernel_rfl)<|zm R R<|zm R R<|zm R R<|zp (Ao R R R Dt (hw))<|zp (Bg R R Ai)<|zp (Al R R R (by omega) (by omega))<|za R R<|zn<|zs<|zr<|zp (Aa R R B6)<|zp (Ab R R B7 R R)<|zm R R<|?_
 refine XL.call1 R R (Anw _ _ (by omega) (by omega)) R<|zp (Bb R R R)<|zn<|?_
 refine zd R (fun c54=> ?_) (fun c54=> ?_)
 refine zr<|zp (Ae (s':= .d (.agg [.v (.slice none 0 0), .v (.slice none 0 0)])) (Ac (A4 R C6 Bf R)) (by kernel_rfl))<|XL.step R (Af (l':= [.d (.v (.slice none 0 0)), .d (.v (.slice none 0 0))]) R R R R Bu R lb (by kernel_rfl))<|za R R<|zn<|zt<|?_
 exact A6 R (RV.sub (RV.cells R R R Ax lb R) (.agg (.cons (.nil 13) (.cons (.nil 4) (.nil))))) (RV.tmp R R) (r2v ((J5 hat hne hx hw).trans (Au9 c54)))
 refine zi<|zr<|zp (Aa R R Ni)<|zp (Ae (s':= .d (.agg (Me.c p.m))) (Ac (Ad R R Bn R lb)) (by kernel_rfl))<|zp (Aa R R G5)<|zp (Ab R R Ai R R)<|zm R R<|zp (Al R R R (by omega) (by omega))<|zp (Aa R R G5)<|zp (Ab R R Ai R R)<|zm R R<|zp (Al R R R (by omega) (by omega))<|XL.call1 R R (Qp _ _ _) R<|zm R R<|?_
 refine zp (A0 R R R)<|zp (A0 R R R)<|za R R<|za R R<|zn<|zs<|zr<|zm R R<|zp (A1 R R R)<|zn<|?_
 refine zd R (fun c71=> ?_) (fun c71=> ?_)
 refine zr<|zp (Ae (s':= .d (.agg [.v (.slice none 0 0), .v (.slice none 0 0)])) (Ac (A4 R C6 Bf R)) (by kernel_rfl))<|zm R R<|XL.step R (Af (l':= [.d (.v (.slice none 0 0)), .d (.v (.slice none 0 0))]) R R R R Bu R lb (by kernel_rfl))<|za R R<|zn<|zt<|?_
 exact A6 R (RV.sub (RV.cells R R R Ax lb R) (.agg (.cons (.nil 13) (.cons (.nil 4) (.nil))))) (RV.tmp R R) (r2v ((J5 hat hne hx hw).trans (Au8 c54 c71)))
 refine zi<|zr<|zp (Aa R R Ni)<|zp (Ae (s':= .d (.agg (Me.c p.m))) (Ac (Ad R R Bn R lb)) (by kernel_rfl))<|zp (Aa R R G5)<|zp (Ab R R Ai R R)<|zm R R<|zp (Al R R R (by omega) (by omega))<|zp (Aa R R G5)<|zp (Ab R R Ai R R)<|zm R R<|zp (Al R R R (by omega) (by omega))<|XL.call1 R R (Qp _ _ _) R<|zm R R<|?_
 refine zp (A0 R R R)<|zp (A0 R R R)<|za R R<|za R R<|zn<|zs<|zr<|zm R R<|zp (A1 R R R)<|zn<|?_
 refine zd R (fun c89=> ?_) (fun c89=> ?_)
 refine zr<|zp (Ae (s':= .d (.agg [.v (.slice none 0 0), .v (.slice none 0 0)])) (Ac (A4 R C6 Bf R)) (by kernel_rfl))<|zm R R<|XL.step R (Af (l':= [.d (.v (.slice none 0 0)), .d (.v (.slice none 0 0))]) R R R R Bu R lb (by kernel_rfl))<|za R R<|zn<|zt<|?_
 exact A6 R (RV.sub (RV.cells R R R Ax lb R) (.agg (.cons (.nil 13) (.cons (.nil 4) (.nil))))) (RV.tmp R R) (r2v ((J5 hat hne hx hw).trans (Au7 c54 c71 c89)))
 refine zi<|zr<|zp (Aa R R Bo)<|zp (Ab R R Cz R R)<|zm R R<|zp (Ao R R R F5 (hx))<|zp (Ae (s':= .d (.agg (Ev.c x))) (Ay R R Bq lb) (by kernel_rfl))<|?_
 refine XL.step R (Aq 16 (l:= [.d (dI 0), .d (dI 0), .d (dI 0), .d (dI 0), .d (dI 0), .d (.v (.slice none 0 0)), .d (.v (.slice none 0 0)), .d (dI 0), .d (dI 0), .d (dI 0), .d (.v (.slice none 0 0)), .d (dI 0), .d (dI 0)]) R Cc (by kernel_rfl))<|?_
 refine XL.step R (Af (l':= [.d (dI x.site), .d (dI x.num), .d (dI x.kind), .d (dI x.v.log), .d (dI x.v.dots), .d (.sl 5 (x.heads.map Hd.c)), .d (.sl 5 (x.graces.map Gr.c)), .d (dI x.art), .d (dI x.orn), .d (dI x.dyn), .d (.sl 2 (x.lyr.map Sy.c)), .d (dI x.stem), .d (dI x.beam)]) R R R R C4 R lb (by kernel_rfl))<|zn<|zs<|zr<|zp (Aa R R Dj)<|zp (Ab R R Ai R R)<|?_
 refine zp (Bi R R R)<|zn<|?_
 refine zd R (fun c99=> ?_) (fun c99=> ?_)
 refine Ag (by kernel_rfl)<|zp (Aa R R Dj)<|XL.step R (Af (l':= [.d (dI x.site), .d (dI x.num), .d (dI 2), .d (dI x.v.log), .d (dI x.v.dots), .d (.sl 5 (x.heads.map Hd.c)), .d (.sl 5 (x.graces.map Gr.c)), .d (dI x.art), .d (dI x.orn), .d (dI x.dyn), .d (.sl 2 (x.lyr.map Sy.c)), .d (dI x.stem), .d (dI x.beam)]) R R R R Ey R lb (by kernel_rfl))<|znr<|?_
 refine zp (Ae (s':= .d (.agg [dI x.site,dI x.num,dI 2,dI x.v.log,dI x.v.dots, .sl 5 (x.heads.map Hd.c), .sl 5 (x.graces.map Gr.c),dI x.art,dI x.orn,dI x.dyn, .sl 2 (x.lyr.map Sy.c),dI x.stem,dI x.beam])) (Ac (Ad R R Bq R lb)) (by kernel_rfl))<|?_
 refine XL.step R (Aq 17 (l:= [.d (dI 0), .d (dI 0), .d (dI 0), .d (dI 0), .d (dI 0), .d (.v (.slice none 0 0)), .d (.v (.slice none 0 0)), .d (dI 0), .d (dI 0), .d (dI 0), .d (.v (.slice none 0 0)), .d (dI 0), .d (dI 0)]) R Cc (by kernel_rfl))<|?_
 refine XL.step R (Af (l':= [.d (dI x.site), .d (dI x.num), .d (dI 2), .d (dI x.v.log), .d (dI x.v.dots), .d (.sl 5 (x.heads.map Hd.c)), .d (.sl 5 (x.graces.map Gr.c)), .d (dI x.art), .d (dI x.orn), .d (dI x.dyn), .d (.sl 2 (x.lyr.map Sy.c)), .d (dI x.stem), .d (dI x.beam)]) R R R R C4 R lb (by kernel_rfl))<|znr<|zp (Aa R R C7)<|zp (Ab R R Hs R R)<|?_
 refine XL.call1 R R (P9 _ (hxf.1)) R<|zp (Aa R R C7)<|XL.step R (Af (l':= [.d (dI x.site), .d (dI x.num), .d (dI 2), .d (dI x.v.log), .d (dI x.v.dots), .d (.sl 5 ((x.heads.map Hd.tie).map Hd.c)), .d (.sl 5 (x.graces.map Gr.c)), .d (dI x.art), .d (dI x.orn), .d (dI x.dyn), .d (.sl 2 (x.lyr.map Sy.c)), .d (dI x.stem), .d (dI x.beam)]) R R R R Nu R lb (by kernel_rfl))<|zn<|zs<|?_
 refine Jl 8 12 [7001,7002,18] (S.kill 7001) 7001 (Pq 7001) (by kernel_rfl) (by kernel_rfl) (by kernel_rfl) (by kernel_rfl) R (by decide)<|ChMK.fr R R (CStep.pure (Ae (s':= .d (.agg (Vo.c v))) (Ac (Ad R R Ax R lb)) (by kernel_rfl))) (CStep.pure (Ae (s':= .d (.agg (Vo.c v))) (Ac (Ad R R Ax R lb)) (by kernel_rfl))) (by exact rfl)<|?_
 refine ChMK.fr R R (CStep.pure (As R (by conv=>lhs;whnf))) (CStep.pure (As R (by conv=>lhs;whnf))) (by exact rfl)<|?_
 refine ChMK.bf R (CStep.pure (Ae (s':= .d (.agg [dI x.site,dI x.num,dI 2,dI x.v.log,dI x.v.dots, .sl 5 ((x.heads.map Hd.tie).map Hd.c), .sl 5 (x.graces.map Gr.c),dI x.art,dI x.orn,dI x.dyn, .sl 2 (x.lyr.map Sy.c),dI x.stem,dI x.beam])) (Ac (Ad R R Bq R lb)) (by kernel_rfl))) (by conv=>lhs;whnf)<|?_
 refine ChMK.bf R (CStep.pure (As R (by conv=>lhs;whnf))) (by conv=>lhs;whnf)<|?_
 refine ChMK.bfO R (CStep.callS R ((M9 (x.asRest.tiedE) _ false hxf.rest.tied (by omega)).lab 7001) R (Gt (by kernel_rfl))) (by conv=>lhs;whnf) (fun _ _=>W4 _ _)<|?_
 refine ChMK.bf R (CStep.pure (Ae (s':= .d (.agg [dI x.site,dI x.num,dI 2,dI x.v.log,dI x.v.dots, .sl 5 (x.heads.map Hd.c), .sl 5 (x.graces.map Gr.c),dI x.art,dI x.orn,dI x.dyn, .sl 2 (x.lyr.map Sy.c),dI x.stem,dI x.beam])) (Ac (Ad R R Bq R lb)) (by kernel_rfl))) (by conv=>lhs;whnf)<|?_
 refine ChMK.bf R (CStep.pure (As R (by conv=>lhs;whnf))) (by conv=>lhs;whnf)<|?_
 refine ChMK.bfN R (CStep.callS R ((M9 (x.asRest) _ true hxf.rest (by omega)).lab 7002) R (Gt (by kernel_rfl))) (by conv=>lhs;whnf) R R<|?_
 refine ChMK.mu R (W3 (l2:=((By x.asRest.tiedE ((p.m.split (p.off+a) (p.off+t))) false)++(By x.asRest ((p.m.split (p.off+t) (p.off+(a+w)))) true)).map Ev.c) R Gv (.own R) (Src.own R) (by simp only [List.length_map,Hv];unfold maxLen;omega) (by simp only [List.length_map,Hv];omega) (Rv))<|?_
 refine ChMK.af R (CStep.pure (Ae (s':= .d (.agg [.sl 13 (((By x.asRest.tiedE ((p.m.split (p.off+a) (p.off+t))) false)++(By x.asRest ((p.m.split (p.off+t) (p.off+(a+w)))) true)).map Ev.c), .v (.slice none 0 0)])) (Ac (A4 R C6 Bf R)) (by kernel_rfl)))<|?_
 refine ChMK.af R (CStep.calls R (Ur v k 1 ⟨((By x.asRest.tiedE ((p.m.split (p.off+a) (p.off+t))) false)++(By x.asRest ((p.m.split (p.off+t) (p.off+(a+w)))) true)), []⟩ hsv (Afj (by simp only [List.length_append,Hv];omega)) (by omega)) (.cons R (.same R) (.cons R (.same R) (.cons R (.same R) (.cons R (.agg (.cons (.same R) (.cons (.nil 4) (.nil)))) (.nil))))))<|?_
 refine ChMK.frN R R (CStep.allocN 18 (l:= [.d (.v (.slice none 0 0)), .d (.v (.slice none 0 0))]) R Bf R R) (CStep.allocN 18 (l:= [.d (.v (.slice none 0 0)), .d (.v (.slice none 0 0))]) R Bf R R) (by exact rfl) (by exact rfl) R<|?_
 refine ChMK.nil ⟨⟨by kernel_rfl,by kernel_rfl,by kernel_rfl⟩, ?_⟩
 refine XL.step R (Af (l':= [.d (.sl 13 ((Co v k 1 ⟨((By x.asRest.tiedE ((p.m.split (p.off+a) (p.off+t))) false)++(By x.asRest ((p.m.split (p.off+t) (p.off+(a+w)))) true)), []⟩).evs.map Ev.c)), .d (.sl 4 ((Co v k 1 ⟨((By x.asRest.tiedE ((p.m.split (p.off+a) (p.off+t))) false)++(By x.asRest ((p.m.split (p.off+t) (p.off+(a+w)))) true)), []⟩).tups.map Tp.c))]) R R R R Bu R lb (by kernel_rfl))<|?_
 refine zn<|zs<|zr<|zp (Aa R R Bo)<|zp (Ab R R Cz R R)<|XL.len R R R Tryz.underlying79 fun hl119=>zp (Bb R R R)<|zn<|?_
 refine zd R (fun c120=> ?_) (fun c120=> ?_)
 refine zr<|zp (Ae (s':= .d (.agg [.v (.slice none 0 0), .v (.slice none 0 0)])) (Ac (A4 R C6 Bf R)) (by kernel_rfl))<|XL.step R (Af (l':= [.d (.v (.slice none 0 0)), .d (.v (.slice none 0 0))]) R R R R Bu R lb (by kernel_rfl))<|za R R<|zn<|zt<|?_
 exact A6 R (RV.sub (RV.cells R R R Ax lb R) (.agg (.cons (.nil 13) (.cons (.nil 4) (.nil))))) (RV.tmp R R) (r2v ((J5 hat hne hx hw).trans (As3 c54 c71 c89 (by first|exact Q7 c99|exact Q8 c99) c120)))
 have hof:=Tf (k:=k) (l:=_) hF (Ua (p:=p) (t:=t) (a:=a) (w:=w) hxf) hsv (by first|(rw [←Q7 c99];exact c120)|(rw [←Q8 c99];exact c120))
 first|rw [←Q7 c99] at hof|rw [←Q8 c99] at hof
 refine zi<|zr<|zp (Ae (s':= .d (.agg (Vo.c (Co v k 1 ⟨((By x.asRest.tiedE ((p.m.split (p.off+a) (p.off+t))) false)++(By x.asRest ((p.m.split (p.off+t) (p.off+(a+w)))) true)), []⟩)))) (Ac (Ad R R Ax R lb)) (by kernel_rfl))<|XL.call1 R R (Lg _ (by assumption)) R<|?_
 refine XL.step R (Af (l':= [.d (.sl 13 ((Co v k 1 ⟨((By x.asRest.tiedE ((p.m.split (p.off+a) (p.off+t))) false)++(By x.asRest ((p.m.split (p.off+t) (p.off+(a+w)))) true)), []⟩).evs.map Ev.c)), .d (.sl 4 ((Co v k 1 ⟨((By x.asRest.tiedE ((p.m.split (p.off+a) (p.off+t))) false)++(By x.asRest ((p.m.split (p.off+t) (p.off+(a+w)))) true)), []⟩).tups.map Tp.c))]) R R R R Bu R lb (by kernel_rfl))<|?_
 refine za R R<|zn<|zt<|?_
 exact A6 R (RV.cells R R R Ax lb R) (RV.tmp R R) (r2v ((J5 hat hne hx hw).trans (As2 c54 c71 c89 (by first|exact Q7 c99|exact Q8 c99) c120)))
 refine zi<|zr<|zp (Ae (s':= .d (.agg (Ev.c x))) (Ac (Ad R R Bq R lb)) (by kernel_rfl))<|XL.step R (Aq 17 (l:= [.d (dI 0), .d (dI 0), .d (dI 0), .d (dI 0), .d (dI 0), .d (.v (.slice none 0 0)), .d (.v (.slice none 0 0)), .d (dI 0), .d (dI 0), .d (dI 0), .d (.v (.slice none 0 0)), .d (dI 0), .d (dI 0)]) R Cc (by kernel_rfl))<|?_
 refine XL.step R (Af (l':= [.d (dI x.site), .d (dI x.num), .d (dI x.kind), .d (dI x.v.log), .d (dI x.v.dots), .d (.sl 5 (x.heads.map Hd.c)), .d (.sl 5 (x.graces.map Gr.c)), .d (dI x.art), .d (dI x.orn), .d (dI x.dyn), .d (.sl 2 (x.lyr.map Sy.c)), .d (dI x.stem), .d (dI x.beam)]) R R R R C4 R lb (by kernel_rfl))<|znr<|zp (Aa R R C7)<|zp (Ab R R Hs R R)<|?_
 refine XL.call1 R R (P9 _ (hxf.1)) R<|zp (Aa R R C7)<|XL.step R (Af (l':= [.d (dI x.site), .d (dI x.num), .d (dI x.kind), .d (dI x.v.log), .d (dI x.v.dots), .d (.sl 5 ((x.heads.map Hd.tie).map Hd.c)), .d (.sl 5 (x.graces.map Gr.c)), .d (dI x.art), .d (dI x.orn), .d (dI x.dyn), .d (.sl 2 (x.lyr.map Sy.c)), .d (dI x.stem), .d (dI x.beam)]) R R R R Nu R lb (by kernel_rfl))<|zn<|?_
 refine zs<|Jl 8 12 [7001,7002,18] (S.kill 7001) 7001 (Pq 7001) (by kernel_rfl) (by kernel_rfl) (by kernel_rfl) (by kernel_rfl) R (by decide)<|ChMK.fr R R (CStep.pure (Ae (s':= .d (.agg (Vo.c v))) (Ac (Ad R R Ax R lb)) (by kernel_rfl))) (CStep.pure (Ae (s':= .d (.agg (Vo.c v))) (Ac (Ad R R Ax R lb)) (by kernel_rfl))) (by exact rfl)<|?_
 refine ChMK.fr R R (CStep.pure (As R (by conv=>lhs;whnf))) (CStep.pure (As R (by conv=>lhs;whnf))) (by exact rfl)<|?_
 refine ChMK.bf R (CStep.pure (Ae (s':= .d (.agg [dI x.site,dI x.num,dI x.kind,dI x.v.log,dI x.v.dots, .sl 5 ((x.heads.map Hd.tie).map Hd.c), .sl 5 (x.graces.map Gr.c),dI x.art,dI x.orn,dI x.dyn, .sl 2 (x.lyr.map Sy.c),dI x.stem,dI x.beam])) (Ac (Ad R R Bq R lb)) (by kernel_rfl))) (by conv=>lhs;whnf)<|?_
 refine ChMK.bf R (CStep.pure (As R (by conv=>lhs;whnf))) (by conv=>lhs;whnf)<|?_
 refine ChMK.bfO R (CStep.callS R ((M9 (x.tiedE) _ false hxf.tied (by omega)).lab 7001) R (Gt (by kernel_rfl))) (by conv=>lhs;whnf) (fun _ _=>W4 _ _)<|?_
 refine ChMK.bf R (CStep.pure (Ae (s':= .d (.agg (Ev.c x))) (Ac (Ad R R Bq R lb)) (by kernel_rfl))) (by conv=>lhs;whnf)<|?_
 refine ChMK.bf R (CStep.pure (As R (by conv=>lhs;whnf))) (by conv=>lhs;whnf)<|?_
 refine ChMK.bfN R (CStep.callS R ((M9 (x) _ true hxf (by omega)).lab 7002) R (Gt (by kernel_rfl))) (by conv=>lhs;whnf) R R<|?_
 refine ChMK.mu R (W3 (l2:=((By x.tiedE ((p.m.split (p.off+a) (p.off+t))) false)++(By x ((p.m.split (p.off+t) (p.off+(a+w)))) true)).map Ev.c) R Gv (.own R) (Src.own R) (by simp only [List.length_map,Hv];unfold maxLen;omega) (by simp only [List.length_map,Hv];omega) (Rv))<|?_
 refine ChMK.af R (CStep.pure (Ae (s':= .d (.agg [.sl 13 (((By x.tiedE ((p.m.split (p.off+a) (p.off+t))) false)++(By x ((p.m.split (p.off+t) (p.off+(a+w)))) true)).map Ev.c), .v (.slice none 0 0)])) (Ac (A4 R C6 Bf R)) (by kernel_rfl)))<|?_
 refine ChMK.af R (CStep.calls R (Ur v k 1 ⟨((By x.tiedE ((p.m.split (p.off+a) (p.off+t))) false)++(By x ((p.m.split (p.off+t) (p.off+(a+w)))) true)), []⟩ hsv (Afj (by simp only [List.length_append,Hv];omega)) (by omega)) (.cons R (.same R) (.cons R (.same R) (.cons R (.same R) (.cons R (.agg (.cons (.same R) (.cons (.nil 4) (.nil)))) (.nil))))))<|?_
 refine ChMK.frN R R (CStep.allocN 18 (l:= [.d (.v (.slice none 0 0)), .d (.v (.slice none 0 0))]) R Bf R R) (CStep.allocN 18 (l:= [.d (.v (.slice none 0 0)), .d (.v (.slice none 0 0))]) R Bf R R) (by exact rfl) (by exact rfl) R<|?_
 refine ChMK.nil ⟨⟨by kernel_rfl,by kernel_rfl,by kernel_rfl⟩, ?_⟩
 refine XL.step R (Af (l':= [.d (.sl 13 ((Co v k 1 ⟨((By x.tiedE ((p.m.split (p.off+a) (p.off+t))) false)++(By x ((p.m.split (p.off+t) (p.off+(a+w)))) true)), []⟩).evs.map Ev.c)), .d (.sl 4 ((Co v k 1 ⟨((By x.tiedE ((p.m.split (p.off+a) (p.off+t))) false)++(By x ((p.m.split (p.off+t) (p.off+(a+w)))) true)), []⟩).tups.map Tp.c))]) R R R R Bu R lb (by kernel_rfl))<|?_
 refine zn<|zs<|zr<|zp (Aa R R Bo)<|zp (Ab R R Cz R R)<|XL.len R R R Tryz.underlying79 fun hl119=>zp (Bb R R R)<|zn<|?_
 refine zd R (fun c120=> ?_) (fun c120=> ?_)
 refine zr<|zp (Ae (s':= .d (.agg [.v (.slice none 0 0), .v (.slice none 0 0)])) (Ac (A4 R C6 Bf R)) (by kernel_rfl))<|XL.step R (Af (l':= [.d (.v (.slice none 0 0)), .d (.v (.slice none 0 0))]) R R R R Bu R lb (by kernel_rfl))<|za R R<|zn<|zt<|?_
 exact A6 R (RV.sub (RV.cells R R R Ax lb R) (.agg (.cons (.nil 13) (.cons (.nil 4) (.nil))))) (RV.tmp R R) (r2v ((J5 hat hne hx hw).trans (As3 c54 c71 c89 (by first|exact Q7 c99|exact Q8 c99) c120)))
 have hof:=Tf (k:=k) (l:=_) hF (Ua (p:=p) (t:=t) (a:=a) (w:=w) hxf) hsv (by first|(rw [←Q7 c99];exact c120)|(rw [←Q8 c99];exact c120))
 first|rw [←Q7 c99] at hof|rw [←Q8 c99] at hof
 refine zi<|zr<|zp (Ae (s':= .d (.agg (Vo.c (Co v k 1 ⟨((By x.tiedE ((p.m.split (p.off+a) (p.off+t))) false)++(By x ((p.m.split (p.off+t) (p.off+(a+w)))) true)), []⟩)))) (Ac (Ad R R Ax R lb)) (by kernel_rfl))<|XL.call1 R R (Lg _ (by assumption)) R<|?_
 refine XL.step R (Af (l':= [.d (.sl 13 ((Co v k 1 ⟨((By x.tiedE ((p.m.split (p.off+a) (p.off+t))) false)++(By x ((p.m.split (p.off+t) (p.off+(a+w)))) true)), []⟩).evs.map Ev.c)), .d (.sl 4 ((Co v k 1 ⟨((By x.tiedE ((p.m.split (p.off+a) (p.off+t))) false)++(By x ((p.m.split (p.off+t) (p.off+(a+w)))) true)), []⟩).tups.map Tp.c))]) R R R R Bu R lb (by kernel_rfl))<|?_
 refine za R R<|zn<|zt<|?_
 exact A6 R (RV.cells R R R Ax lb R) (RV.tmp R R) (r2v ((J5 hat hne hx hw).trans (As2 c54 c71 c89 (by first|exact Q7 c99|exact Q8 c99) c120)))
def DivS (v:Vo) (p:Pl) (t:Int):Vo × Int:=if p.chk v≠0 then (⟨[], []⟩,p.chk v) else if v.absent then (⟨[], []⟩,10) else if t<0∨p.len<t then (⟨[], []⟩,2) else Ak v p t
end Go.Proofs.YtaafemnkamfgnaaGreat
namespace Go.Proofs.YtaafemnkamfgnaaGreat
theorem Mv (x:Int) (l:List Int):tot (x::l)=x+tot l:=by
 have h:∀(l:List Int) (a:Int),l.foldl (· + ·) a=a+tot l:=by
  intro l
  induction l with
  |nil=>intro a;show a=a+0;omega
  |cons y l ih=>
   intro a
   rw [List.foldl_cons,ih]
   show a+y+tot l=a+List.foldl (· + ·) 0 (y::l)
   rw [List.foldl_cons,ih];omega
 unfold tot
 rw [List.foldl_cons,h]
 show 0+x+tot l=x+tot l
 omega
theorem Vg:tot []=0:=rfl
theorem Kx (a b:List Int):tot (a++b)=tot a+tot b:=by
 induction a with
 |nil=>rw [List.nil_append,Vg];omega
 |cons x a ih=>rw [List.cons_append,Mv,Mv,ih];omega
theorem Ve (a b:List Ev):wrS (a++b)=wrS a++wrS b:=List.map_append
theorem Jv (a:List Ev):(wrS a).length=a.length:=List.length_map _
theorem Aln (a:List Ev) (k:Nat):wrS (a.take k)=(wrS a).take k:=List.map_take
theorem Alo (a:List Ev) (k:Nat):wrS (a.drop k)=(wrS a).drop k:=List.map_drop
structure VL (v:Vo) (ls:List Int):Prop where
 tl:TL v.tups (wrS v.evs) ls
 ev:∀e∈v.evs,e.err=0∧e.kind≠3
def Vo.rest (v:Vo):Prop:=v.whole∧v.evs.length=1
instance (v:Vo):Decidable v.rest:=by unfold Vo.rest;exact inferInstance
theorem inGo_zero {n:Nat}:∀{l:List Ev} {k:Nat},G3 n k l=0↔∀j e,l[j]? =some e→e.err=0∧¬(e.kind=3∧(0<k+j∨1<n))
 | [],k=>⟨fun _ j e h=>by simp at h,fun _=>rfl⟩
 |e::r,k=>by
  rw [G3]
  split
  ·rename_i c
   exact ⟨fun h=>absurd h c,fun h=>absurd (h 0 e rfl).1 c⟩
  ·rename_i c
   split
   ·rename_i c2
    exact ⟨fun h=>by omega,fun h=>absurd c2 (h 0 e rfl).2⟩
   ·rename_i c2
    rw [inGo_zero]
    constructor
    ·intro h j x hj
     cases j with
     |zero=>cases hj;exact ⟨Decidable.not_not.1 c,c2⟩
     |succ j=>have:=h j x hj;exact ⟨this.1,fun k=>this.2 ⟨k.1,by omega⟩⟩
    ·intro h j x hj
     have:=h (j+1) x hj;exact ⟨this.1,fun k=>this.2 ⟨k.1,by omega⟩⟩
theorem innE_zero {v:Vo}:Fp v=0↔G3 v.evs.length 0 v.evs=0∧C9 v.tups (wrS v.evs)=0∧Fb v.tups (wrS v.evs)=0:=by
 unfold Fp
 split
 ·omega
 ·split
  ·omega
  ·split<;>omega
theorem Afz {v:Vo} {ls:List Int} (h:¬v.rest):(Fp v=0∧ls=G2 v)↔VL v ls:=by
 rw [innE_zero]
 constructor
 ·rintro ⟨⟨h1,h2,h3⟩,h4⟩
  have h0:Fp v=0:=innE_zero.2 ⟨h1,h2,h3⟩
  rw [G2,if_pos h0] at h4
  refine ⟨TL_iff.2 ⟨h2,h3,h4⟩,fun e he=> ?_⟩
  obtain ⟨j,hj⟩:=List.getElem?_of_mem he
  have h5:=inGo_zero.1 h1 j e hj
  refine ⟨h5.1,fun k=> ?_⟩
  have h6:=fun q=>h5.2 ⟨k,q⟩
  have hl:=(List.getElem?_eq_some_iff.1 hj).1
  have:j=0∧v.evs.length=1:=by omega
  rw [this.1] at hj
  exact h ⟨(Kw hj).2 k,this.2⟩
 ·intro hv
  obtain ⟨h2,h3,h4⟩:=TL_iff.1 hv.tl
  have h1:G3 v.evs.length 0 v.evs=0:=inGo_zero.2 fun j e hj=>by
   have:=hv.ev e (List.mem_of_getElem? hj)
   exact ⟨this.1,fun k=>this.2 k.1⟩
  refine ⟨⟨h1,h2,h3⟩, ?_⟩
  rw [G2,if_pos (innE_zero.2 ⟨h1,h2,h3⟩)];exact h4
theorem VL.norest {v:Vo} {ls:List Int} (h:VL v ls):¬v.rest:=fun k=>by
 obtain ⟨e,he⟩:∃e,v.evs[0]? =some e:=Ar (by rw [k.2];omega)
 exact (h.ev e (List.mem_of_getElem? he)).2 ((Kw he).1 k.1)
theorem VL.len {v:Vo} {ls:List Int} (h:VL v ls):ls.length=v.evs.length:=by rw [h.tl.ls,I2,Jv]
theorem VL.evs {v:Vo} {ls:List Int} (h:VL v ls):v.evs.length≤128:=by have:=h.tl.wl;rwa [Jv] at this
theorem VL.inn {v:Vo} {ls:List Int} (h:VL v ls):Fp v=0∧G2 v=ls:=by have:=(Afz h.norest).2 h;exact ⟨this.1,this.2.symm⟩
theorem Ob {v:Vo} {L:Int} {ls:List Int} (h:¬v.rest):(ckE v L=0∧ls=ckL v L)↔1≤L∧L≤15482880∧VL v ls∧(v.evs≠ []→tot ls=L):=by
 have hz:∀l:List Ev,l= []↔l.length=0:=fun l=>by cases l<;>simp
 constructor
 ·rintro ⟨h1,h2⟩
  obtain ⟨h3,h4⟩:=O0 h1
  obtain ⟨h5,_,h6,h7⟩:=len_ok h3
  have h8:Dq v L=Fp v:=by rw [Dq,if_neg (by omega),if_neg (by omega),if_neg (show ¬(v.whole∧v.evs.length=1) from h)]
  have h9:E0 v L=G2 v:=by rw [E0,if_neg (by omega),if_neg (show ¬(v.whole∧v.evs.length=1) from h)]
  have hv:VL v ls:=(Afz h).1 ⟨by omega,by rw [h2,h4,h9]⟩
  refine ⟨h6,h7,hv,fun hne=> ?_⟩
  rw [h2,h4]
  unfold ckE at h1
  split at h1
  ·omega
  ·rename_i c
   refine Decidable.not_not.1 fun k=>c ⟨h3, ?_,k⟩
   rw [h9,hv.inn.2,hv.len]
   have:=(not_congr (hz v.evs)).1 hne;omega
 ·rintro ⟨h6,h7,hv,ht⟩
  obtain ⟨h1,h2⟩:=hv.inn
  have h5:=hv.evs
  have h8:Dq v L=0:=by rw [Dq,if_neg (by omega),if_neg (by omega),if_neg (show ¬(v.whole∧v.evs.length=1) from h)];exact h1
  have h9:E0 v L=ls:=by rw [E0,if_neg (by omega),if_neg (show ¬(v.whole∧v.evs.length=1) from h)];exact h2
  have h10:ckE v L=0:=by
   rw [ckE,if_neg]
   ·exact h8
   ·rintro ⟨_,k1,k2⟩
    rw [h9] at k1 k2
    rw [hv.len] at k1
    exact k2 (ht fun e=>by rw [hz] at e;omega)
  exact ⟨h10,by rw [ckL,if_neg (by omega),h9]⟩
theorem R1 {v:Vo} {L:Int} (h:v.rest) (h1:ckE v L=0):v.tups= []∧ckL v L= [L]∧∃e,v.evs= [e]∧e.err=0∧e.kind=3:=by
 obtain ⟨h3,h4⟩:=O0 h1
 obtain ⟨h5,h2,h6,h7⟩:=len_ok h3
 have h':=h
 obtain ⟨hw,hl⟩:=h
 cases hv:v.evs with
 |nil=>rw [hv] at hl;cases hl
 |cons e l=>
  have hl2:l= []:=by rw [hv] at hl;exact List.eq_nil_of_length_eq_zero (by simpa using hl)
  subst hl2
  have he:v.evs[0]? =some e:=by rw [hv];rfl
  have:=Aho (L:=L) (by omega) (by omega) (by omega) hw (by omega) he
  rw [h3] at this
  refine ⟨?_,by rw [h4,E0,if_neg (by omega),if_pos (show v.whole∧v.evs.length=1 from h')],e,rfl, ?_,(Kw he).1 hw⟩
  ·by_cases c:e.err≠0
   ·rw [if_pos c] at this;exact absurd this.symm c
   ·rw [if_neg c] at this
    by_cases c2:0<v.tups.length
    ·rw [if_pos c2] at this;omega
    ·exact List.eq_nil_of_length_eq_zero (by omega)
  ·by_cases c:e.err≠0
   ·rw [if_pos c] at this;exact absurd this.symm c
   ·exact Decidable.not_not.1 c
def partV (v:Vo) (a n:Nat):Vo:=⟨(v.evs.drop a).take n,(v.tups.filter fun t=>decide ((a:Int)≤t.first∧t.first<(a:Int)+n)).map (Tp.mv (-a))⟩
theorem VL.repl {v x:Vo} {ls lx:List Int} {a n:Nat} (h:VL v ls) (ha:a+n≤v.evs.length) (h1:Ue v.tups a) (h2:Ue v.tups ((a:Int)+n)) (hx:VL x lx) (hc:v.evs.length - n+x.evs.length≤128)
  (ht:(Co v a n x).tups.length≤16):VL (Co v a n x) (ls.take a++lx++ls.drop (a+n)):=by
 have hwl:=Jv v.evs
 obtain ⟨hA,_⟩:=h.tl.cut (a:=a) (by rw [hwl];omega) h1
 obtain ⟨_,hC⟩:=h.tl.cut (a:=a+n) (by rw [hwl];exact ha) (by rw [Int.natCast_add];exact h2)
 have hXC:=TL.app hx.tl hC (by rw [List.length_drop,hwl,Jv];omega)
 have e0:Cn (fun t=>decide (t.first<(a:Int))) 0 v.tups=v.tups.filter fun t=>decide (t.first<(a:Int)):=by
  unfold Cn
  rw [show Tp.mv 0=id from funext Aft,List.map_id]
 have e1:(Cn (fun t=>decide ((a:Int)+n≤t.first)) (x.evs.length - n) v.tups)=((((v.tups.filter fun t=>decide (((a+n:Nat):Int)≤t.first)).map (Tp.mv (-((a+n:Nat):Int)))).map (Tp.mv (wrS x.evs).length)).map (Tp.mv ((wrS v.evs).take a).length)):=by
  unfold Cn
  rw [List.map_map,List.map_map,show (((wrS v.evs).take a).length)=a from by rw [List.length_take,hwl];omega,Jv]
  have:(Tp.mv (a:Int))∘((Tp.mv (x.evs.length:Int))∘Tp.mv (-((a+n:Nat):Int)))=Tp.mv (x.evs.length - n):=by
   funext t
   show ((t.mv _).mv _).mv _=_
   rw [Ahe,Ahe];congr 1;omega
  rw [show ((Tp.mv (a:Int))∘(Tp.mv (x.evs.length:Int)))∘Tp.mv (-((a+n:Nat):Int))=Tp.mv (x.evs.length - n) from this,Int.natCast_add]
 have e2:Cn (fun _=>true) a x.tups=x.tups.map (Tp.mv ((wrS v.evs).take a).length):=by
  unfold Cn
  rw [List.filter_eq_self.2 (fun _ _=>rfl),show (((wrS v.evs).take a).length)=a from by rw [List.length_take,hwl];omega]
 have et:(Co v a n x).tups=(v.tups.filter fun t=>decide (t.first<(a:Int)))++(x.tups++((v.tups.filter fun t=>decide (((a+n:Nat):Int)≤t.first)).map (Tp.mv (-((a+n:Nat):Int)))).map (Tp.mv (wrS x.evs).length)).map (Tp.mv ((wrS v.evs).take a).length):=by
  show Cn _ 0 v.tups++Cn _ a x.tups++Cn _ _ v.tups=_
  rw [e0,e1,e2,List.map_append,List.append_assoc]
 have ht2:=ht
 rw [et,List.length_append,List.length_map] at ht2
 have hXC:=hXC (by rw [List.length_append,List.length_map] at ht2;omega)
 have hall:=TL.app hA hXC (by rw [List.length_take,List.length_append,List.length_drop,hwl,Jv];omega) ht2
 refine ⟨?_,fun e he=> ?_⟩
 ·rw [et]
  have:wrS (Co v a n x).evs=(wrS v.evs).take a++(wrS x.evs++(wrS v.evs).drop (a+n)):=by
   show wrS (v.evs.take a++x.evs++v.evs.drop (a+n))=_
   rw [Ve,Ve,Aln,Alo,List.append_assoc]
  rw [this,List.append_assoc];exact hall
 ·rcases List.mem_append.1 he with k|k
  ·rcases List.mem_append.1 k with k|k
   ·exact h.ev e (List.mem_of_mem_take k)
   ·exact hx.ev e k
  ·exact h.ev e (List.mem_of_mem_drop k)
theorem Ank {d:Int} (h:Ko d=0):Dg (Eh d)=0∧C5 (Eh d)=d:=by
 unfold Ko at h
 split at h
 ·omega
 ·rename_i c
  cases hf:I5 d V4 with
  |none=>exact absurd hf c
  |some v=>
   have e:Eh d=v:=by rw [Eh,hf];rfl
   rw [e]
   have h1:=List.mem_of_find?_eq_some hf
   have h2:=List.find?_some hf
   obtain ⟨q,_,rfl⟩:=List.mem_map.1 h1
   exact ⟨(V9 (Ye q.2)).symm,by simpa using h2⟩
theorem Ako:Ko 7560=0:=by decide+kernel
theorem Aiy {m:Me} {a:Int}:∀k,0<k→(Ez m a k).2.2=true
 |k+1,_=>by
  by_cases c:(Ez m a k).2.2=false∨m.level (a+7560*(k+1))<(Ez m a k).2.1
  ·rw [Ih c]
  ·rw [Ez,if_neg c]
   cases e:(Ez m a k).2.2 with
   |true=>rfl
   |false=>exact absurd (.inl e) c
theorem Adc {m:Me} {a b:Int} (h:(m.strong a b).2.2=false):Dz a b=0:=by
 by_cases c:Dz a b=0
 ·exact c
 ·have:=Aiy (m:=m) (a:=a) (Dz a b) (by omega)
  rw [show Ez m a (Dz a b)=m.strong a b from rfl,h] at this
  cases this
theorem Pb {m:Me}:∀(f:Nat) (a b:Int),SpP f a b→a % 7560=0→b % 7560=0→tot ((Ef m f a b).map C5)=b - a∧∀v∈Ef m f a b,Dg v=0
 |0,a,b,h,_,_=>by have:=h.2.2.2.2;omega
 |f+1,a,b,h,ha,hb=>by
  by_cases c:a=b
  ·rw [Dc c];exact ⟨by show (0:Int)=b - a;omega,fun v hv=>by cases hv⟩
  ·by_cases c2:m.simp a b∨(m.strong a b).2.2=false
   ·rw [Db c c2]
    have h0:Ko (b - a)=0:=by
     rcases c2 with k|k
     ·exact k.1
     ·have k2:=Adc k
      have:=h.2.1
      unfold Dz at k2
      have:b - a=7560:=by omega
      rw [this];exact Ako
    obtain ⟨h1,h2⟩:=Ank h0
    refine ⟨?_,fun v hv=>by rw [List.mem_singleton.1 hv];exact h1⟩
    rw [List.map_singleton,h2,Mv,Vg];omega
   ·have hs:¬m.simp a b:=fun k=>c2 (.inl k)
    have hw:(m.strong a b).2.2=true:=by
     cases e:(m.strong a b).2.2 with
     |true=>rfl
     |false=>exact absurd (.inr e) c2
    obtain ⟨h1,h2,_⟩:=Hh h hw
    obtain ⟨j,_,hj⟩:=Wc hw
    obtain ⟨q1,q2⟩:=Pb f _ _ h1 ha (by rw [hj];omega)
    obtain ⟨q3,q4⟩:=Pb f _ _ h2 (by rw [hj];omega) hb
    rw [Dd c hs hw,List.map_append,Kx]
    refine ⟨by rw [q1,q3];omega,fun v hv=> ?_⟩
    rcases List.mem_append.1 hv with k|k
    ·exact q2 v k
    ·exact q4 v k
theorem Ai0 {m:Me} {a b:Int} (h:m.splitE a b=0):m.err=0∧0≤a∧a≤b∧b≤4398046511104∧a % 7560=0∧b % 7560=0∧b - a≤15482880∧m.split a b=Ef m (Dz a b+1) a b:=by
 have hs:m.split a b=Ef m (Dz a b+1) a b:=by rw [Me.split,if_pos h]
 unfold Me.splitE at h
 split at h
 ·omega
 ·split at h
  ·omega
  ·split at h
   ·omega
   ·split at h
    ·omega
    ·exact ⟨by omega,by omega,by omega,by omega,by omega,by omega,by omega,hs⟩
theorem We {m:Me} {a b:Int} (h:m.splitE a b=0):tot ((m.split a b).map C5)=b - a∧∀v∈m.split a b,Dg v=0:=by
 obtain ⟨_,h1,h2,h3,h4,h5,h6,h7⟩:=Ai0 h
 rw [h7]
 exact Pb _ a b ⟨h1,h2,h3,h6,Nat.le_refl _⟩ h4 h5
theorem err_iff {e:Ev}:e.err=0↔e.e1=0∧(1≤e.kind∧e.kind≤4)∧e.same e.strip∧(e.kind≠3→Dg e.v=0)∧(e.kind=1→e.e2=0)∧e.e3=0:=by
 unfold Ev.err
 split
 ·rename_i c;exact ⟨fun h=>absurd h c,fun h=>absurd h.1 c⟩
 ·rename_i c
  split
  ·rename_i c2;exact ⟨fun h=>by omega,fun h=>absurd h.2.1 c2⟩
  ·rename_i c2
   split
   ·rename_i c3;exact ⟨fun h=>by omega,fun h=>absurd h.2.2.1 c3⟩
   ·rename_i c3
    split
    ·rename_i c4;exact ⟨fun h=>by omega,fun h=>absurd (h.2.2.2.1 c4.1) c4.2⟩
    ·rename_i c4
     split
     ·rename_i c5;exact ⟨fun h=>absurd h c5.2,fun h=>absurd (h.2.2.2.2.1 c5.1) c5.2⟩
     ·rename_i c5
      refine ⟨fun h=>⟨Decidable.not_not.1 c,Decidable.not_not.1 c2,Decidable.not_not.1 c3,fun k=>Decidable.not_not.1 fun j=>c4 ⟨k,j⟩,fun k=>Decidable.not_not.1 fun j=>c5 ⟨k,j⟩,h⟩,fun h=>h.2.2.2.2.2⟩
theorem first_zero {l:List Int}:Es l=0↔∀x∈l,x=0:=by
 induction l with
 |nil=>simp [Es]
 |cons x l ih=>
  rw [Es]
  by_cases h:x=0
  ·rw [if_neg (by omega),ih];simp [h]
  ·rw [if_pos h];simp [h]
theorem Ac8 {n m:Int}:B0 n m=0↔0≤n∧n≤m:=by
 unfold B0
 split<;>omega
theorem Sw {f:Hd→Hd} (hp:∀h,(f h).p=h.p):∀{l:List Hd} {n:Int},(∀h∈l,B0 h.sh 2=0→B0 (f h).sh 2=0)→H7 n l=0→H7 n (l.map f)=0
 | [],n,_,_=>rfl
 |h::t,n,hf,h0=>by
  rw [H7] at h0
  rw [List.map_cons,H7,hp]
  split at h0
  ·rename_i c;exact absurd h0 c
  ·rename_i c
   split at h0
   ·omega
   ·rename_i c2
    have hw:Rk h=0:=Decidable.not_not.1 c
    have hw2:Rk (f h)=0:=by
     unfold Rk at hw ⊢
     rw [first_zero] at hw ⊢
     intro x hx
     have h1:=hw h.p.err (by simp)
     have h2:=hf h List.mem_cons_self (hw _ (by simp))
     rw [hp] at hx
     simp only [List.mem_cons,List.not_mem_nil,or_false] at hx
     rcases hx with e|e
     ·rw [e];exact h1
     ·rw [e];exact h2
    rw [if_neg (by omega),if_neg c2]
    exact Sw hp (fun x hx=>hf x (List.mem_cons_of_mem _ hx)) h0
theorem Qx {f:Hd→Hd} (hp:∀h,(f h).p=h.p) {l:List Hd} (hf:∀h∈l,B0 h.sh 2=0→B0 (f h).sh 2=0) (h:E2 l=0):E2 (l.map f)=0:=by
 unfold E2 at h ⊢
 rw [List.length_map]
 split at h
 ·omega
 ·split at h
  ·omega
  ·rename_i c1 c2
   rw [if_neg c1,if_neg c2];exact Sw hp hf h
theorem Ev.err_put {x:Ev} (h:x.err=0) (hk:x.kind≠3) {v:Val} (hv:Dg v=0) (t:Bool):(x.put v t).err=0:=by
 rw [err_iff] at h ⊢
 obtain ⟨h1,h2,h3,h4,h5,h6⟩:=h
 refine ⟨h1,h2, ?_,fun _=>hv,fun k=> ?_,h6⟩
 ·by_cases c:x.kind=1
  ·have:(x.put v t).strip=x.put v t:=(Vh (e:=x.put v t) c).symm
   rw [this];exact ⟨rfl,rfl,rfl,rfl,rfl,rfl,rfl,rfl,rfl,rfl⟩
  ·have hs:x.strip=⟨x.site,x.num,x.kind,x.v, [], [],if x.kind≠4 then Fw x.art else 0,0,x.dyn, [],0,0⟩:=by rw [Ev.strip,if_neg (by omega),if_pos hk]
   have hs2:(x.put v t).strip=⟨x.site,x.num,x.kind,v, [], [],if x.kind≠4 then Fw x.art else 0,0,x.dyn, [],0,0⟩:=by
    have:¬((x.put v t).kind=1∨¬(1≤(x.put v t).kind∧(x.put v t).kind≤4)):=by show ¬(x.kind=1∨¬(1≤x.kind∧x.kind≤4));omega
    rw [Ev.strip,if_neg this,if_pos (show (x.put v t).kind≠3 from hk)];rfl
   rw [hs] at h3
   rw [hs2]
   obtain ⟨k1,k2,k3,k4,k5,k6,k7,k8,k9,k10⟩:=h3
   refine ⟨k1,rfl,k3,k4,k5,k6,k7, ?_,k9,k10⟩
   show (if t then x.heads.map Hd.tie else x.heads)= []
   rw [show x.heads= [] from k8];cases t<;>rfl
 ·have:=h5 k
  unfold Ev.e2 at this ⊢
  rw [first_zero] at this ⊢
  intro y hy
  simp only [List.mem_cons,List.not_mem_nil,or_false] at hy
  rcases hy with e|e|e
  ·rw [e]
   have h7:=this (E2 x.heads) (by simp)
   show E2 (if t then x.heads.map Hd.tie else x.heads)=0
   cases t with
   |false=>exact h7
   |true=>exact Qx (f:=Hd.tie) (fun _=>rfl) (fun _ _ j=>j) h7
  ·rw [e];exact this _ (by simp [Ev.put])
  ·rw [e];exact this _ (by simp [Ev.put])
theorem Ev.err_further {x:Ev} (h:x.err=0) (hk:x.kind≠3):x.further.err=0:=by
 rw [err_iff] at h ⊢
 obtain ⟨h1,h2,h3,h4,h5,h6⟩:=h
 have h6':=first_zero.1 h6
 refine ⟨by rfl,h2, ?_,fun _=>by rfl,fun k=> ?_, ?_⟩
 ·by_cases c:x.kind=1
  ·have:x.further.strip=x.further:=(Vh (e:=x.further) c).symm
   rw [this];exact ⟨rfl,rfl,rfl,rfl,rfl,rfl,rfl,rfl,rfl,rfl⟩
  ·have hs:x.strip=⟨x.site,x.num,x.kind,x.v, [], [],if x.kind≠4 then Fw x.art else 0,0,x.dyn, [],0,0⟩:=by rw [Ev.strip,if_neg (by omega),if_pos hk]
   have hs2:x.further.strip=⟨0,0,x.kind,⟨0,0⟩, [], [],if x.kind≠4 then Fw 0 else 0,0,0, [],0,0⟩:=by
    have:¬(x.further.kind=1∨¬(1≤x.further.kind∧x.further.kind≤4)):=by show ¬(x.kind=1∨¬(1≤x.kind∧x.kind≤4));omega
    rw [Ev.strip,if_neg this,if_pos (show x.further.kind≠3 from hk)];rfl
   rw [hs] at h3
   rw [hs2]
   obtain ⟨k1,k2,k3,k4,k5,k6,k7,k8,k9,k10⟩:=h3
   refine ⟨rfl,rfl, ?_,rfl,rfl,k6,rfl, ?_,rfl,rfl⟩
   ·show (0:Int)=if x.kind≠4 then Fw 0 else 0
    split<;>rfl
   ·show x.heads.map Hd.plain= []
    rw [show x.heads= [] from k8];rfl
 ·have:=h5 k
  unfold Ev.e2 at this ⊢
  rw [first_zero] at this ⊢
  intro y hy
  simp only [List.mem_cons,List.not_mem_nil,or_false] at hy
  rcases hy with e|e|e
  ·rw [e]
   exact Qx (f:=Hd.plain) (fun _=>rfl) (fun _ _ _=>rfl) (this (E2 x.heads) (by simp))
  ·rw [e];rfl
  ·rw [e];rfl
 ·refine first_zero.2 fun y hy=> ?_
  simp only [List.mem_cons,List.not_mem_nil,or_false] at hy
  rcases hy with e|e|e|e|e
  ·rw [e];rfl
  ·rw [e];rfl
  ·rw [e];rfl
  ·rw [e];exact h6' _ (by simp [Ev.further])
  ·rw [e];rfl
theorem Ev.err_tied {x:Ev} (h:x.err=0) (hk:x.kind≠3):x.tiedE.err=0:=by
 have:=Ev.err_put h hk ((err_iff.1 h).2.2.2.1 hk) true
 exact this
theorem Ev.err_rest {x:Ev} (h:x.err=0) (hk:x.kind=3):x.asRest.err=0:=by
 rw [err_iff] at h ⊢
 obtain ⟨h1,h2,h3,h4,h5,h6⟩:=h
 have hs:x.strip=⟨x.site,x.num,x.kind,⟨0,0⟩, [], [],Fw x.art,0,x.dyn, [],0,0⟩:=by rw [Ev.strip,if_neg (by omega),if_neg (by omega),if_pos (by omega)]
 have hs2:x.asRest.strip=⟨x.site,x.num,2,x.v, [], [],Fw x.art,0,x.dyn, [],0,0⟩:=rfl
 rw [hs] at h3
 obtain ⟨k1,k2,k3,k4,k5,k6,k7,k8,k9,k10⟩:=h3
 refine ⟨h1,(show (1:Int)≤2∧(2:Int)≤4 by decide), ?_,fun _=> ?_,fun k=>absurd (show (2:Int)=1 from k) (by decide),h6⟩
 ·rw [hs2];exact ⟨rfl,rfl,k3,k4,k5,k6,k7,k8,k9,k10⟩
 ·show Dg x.v=0
  rw [show x.v=⟨0,0⟩ from k2];rfl
theorem Ev.err_unrest {x:Ev} (h:x.err=0):x.unrest.err=0∧x.unrest.kind≠3:=by
 unfold Ev.unrest
 split
 ·rename_i c;exact ⟨Ev.err_rest h c,(show (2:Int)≠3 by decide)⟩
 ·rename_i c;exact ⟨h,c⟩
theorem Ev.len_ok {x:Ev} (h:x.err=0) (hk:x.kind≠3):x.len=C5 x.v:=by
 rw [Ev.len,if_neg (by omega),P5,if_pos ((err_iff.1 h).2.2.2.1 hk)]
theorem Wx {x:Ev} (h:x.err=0) (hk:x.kind≠3) {v:Val} (hv:Dg v=0) (n i:Nat) (fu:Bool):(Fo x n fu i v).err=0∧(Fo x n fu i v).kind≠3∧(Fo x n fu i v).v=v:=by
 unfold Fo
 split
 ·exact ⟨Ev.err_put (Ev.err_further h hk) hk hv _,hk,rfl⟩
 ·exact ⟨Ev.err_put h hk hv _,hk,rfl⟩
theorem Ww {x:Ev} (h:x.err=0) (hk:x.kind≠3) {vs:List Val} (hv:∀v∈vs,Dg v=0) (fu:Bool):(∀e∈By x vs fu,e.err=0∧e.kind≠3)∧wrS (By x vs fu)=vs.map C5:=by
 constructor
 ·intro e he
  obtain ⟨i,hi⟩:=List.getElem?_of_mem he
  rw [By,List.getElem?_mapIdx] at hi
  cases hv2:vs[i]? with
  |none=>rw [hv2] at hi;cases hi
  |some v=>
   rw [hv2] at hi;cases hi
   have:=Wx h hk (hv v (List.mem_of_getElem? hv2)) vs.length i fu
   exact ⟨this.1,this.2.1⟩
 ·unfold wrS
  refine List.ext_getElem? fun i=> ?_
  rw [List.getElem?_map,By,List.getElem?_mapIdx,List.getElem?_map]
  cases hv2:vs[i]? with
  |none=>rfl
  |some v=>
   have:=Wx h hk (hv v (List.mem_of_getElem? hv2)) vs.length i fu
   simp only [Option.map_some]
   rw [Ev.len_ok this.1 this.2.1,this.2.2]
theorem Ah1 {p:Int} (h0:0≤p) (n:Nat):(Fd p n).1+(Fd p n).2≤2*p:=by
 induction n with
 |zero=>simp [Fd];omega
 |succ n ih=>have:=(Oa h0 n).1;simp only [Fd];omega
theorem Aq9 {v:Val} (h:Dg v=0):0≤C5 v∧C5 v≤7741440:=by
 have h1:=Sq v
 have h2:=Ah1 h1.1 v.dots.toNat
 have h3:=Oa h1.1 v.dots.toNat
 unfold C5
 omega
theorem Atg {l:List Ev} (h:∀e∈l,e.err=0∧e.kind≠3):∀w∈wrS l,0≤w∧w≤7741440:=by
 intro w hw
 obtain ⟨e,he,rfl⟩:=List.mem_map.1 hw
 have:=h e he
 rw [Ev.len_ok this.1 this.2]
 exact Aq9 ((err_iff.1 this.1).2.2.2.1 this.2)
theorem VL.nil {l:List Ev} (h:∀e∈l,e.err=0∧e.kind≠3) (hl:l.length≤128):VL ⟨l, []⟩ (wrS l):=⟨TL.nil (by rw [Jv];exact hl) (Atg h),h⟩
end Go.Proofs.YtaafemnkamfgnaaGreat
namespace Go.Proofs.YtaafemnkamfgnaaGreat
theorem TV.mono {l:List Tp} {n m:Int} (h:TV l n) (hm:n≤m):TV l m:=⟨fun t ht=>by have:=h.inR t ht;unfold Tp.inR at*;omega,h.ord,h.nest,h.dep⟩
theorem TL.err128 {T:List Tp} {ws ls:List Int} (h:TL T ws ls):D6 T 128=0:=tupErr_iff.2 ⟨by omega,by omega,h.tl,h.tv.mono (by have:=h.wl;omega)⟩
theorem Ah3 {T:List Tp} {ws ls:List Int} (h:TL T ws ls) (k:Int):H4 T k=(hits T k:Int):=by rw [H4,if_neg (by have:=h.err128;omega)]
theorem Akh {T:List Tp} {k:Int} (h:hits T k=0):∀t∈T,¬t.has k:=by
 intro t ht hh
 unfold hits at h
 have:=List.eq_nil_of_length_eq_zero h
 rw [List.filter_eq_nil_iff] at this
 exact this t ht (by simpa using hh)
theorem Aql {T:List Tp} {k:Int} (h:∀t∈T,¬t.has k):Ue T k∧Ue T (k+1):=by
 refine ⟨fun t ht=> ?_,fun t ht=> ?_⟩<;>(have:=h t ht;unfold Tp.has at this;unfold Tp.e;omega)
theorem Asy {l:List Ev} (h:∀e∈l,e.err=0):Evs l:=fun e he=>by
 have:=first_zero.1 (err_iff.1 (h e he)).2.2.2.2.2 (B0 e.art 31) (by simp)
 rw [Ac8] at this
 omega
theorem R2 {v:Vo} {L:Int} (h:ckE v L=0):(∀e∈v.evs,e.err=0)∧Evs v.evs:=by
 have h1:∀e∈v.evs,e.err=0:=by
  by_cases c:v.rest
  ·obtain ⟨_,_,e,he,h2,_⟩:=R1 c h
   intro x hx
   rw [he] at hx
   rw [List.mem_singleton.1 hx];exact h2
  ·obtain ⟨_,_,hv,_⟩:=(Ob c).1 ⟨h,rfl⟩
   exact fun e he=>(hv.ev e he).1
 exact ⟨h1,Asy h1⟩
theorem Aqv {v x:Vo} {L:Int} {a n:Nat} {lx:List Int} (h:ckE v L=0) (hr:¬v.rest) (ha:a+n≤v.evs.length) (h1:Ue v.tups a) (h2:Ue v.tups ((a:Int)+n)) (hx:VL x lx)
  (hc:v.evs.length - n+x.evs.length≤128) (ht:(Co v a n x).tups.length≤16) (ht2:v.evs≠ []→tot lx=tot (((ckL v L).drop a).take n)) (hn:(Co v a n x).evs≠ []→v.evs≠ []):
  ckE (Co v a n x) L=0∧ckL (Co v a n x) L=(ckL v L).take a++lx++(ckL v L).drop (a+n)∧¬(Co v a n x).rest:=by
 obtain ⟨h3,h4,hv,h5⟩:=(Ob hr).1 ⟨h,rfl⟩
 have hl:=hv.len
 have hR:=hv.repl ha h1 h2 hx hc ht
 have:=(Ob hR.norest).2 ⟨h3,h4,hR,fun hne=> ?_⟩
 ·exact ⟨this.1,this.2.symm,hR.norest⟩
 ·have hne:=hn hne
  rw [Kx,Kx,ht2 hne]
  have e:ckL v L=(ckL v L).take a++((ckL v L).drop a).take n++(ckL v L).drop (a+n):=by
   rw [List.append_assoc, ←List.drop_drop,List.take_append_drop,List.take_append_drop]
  have:=h5 hne
  rw [e,Kx,Kx] at this
  exact this
theorem N2 (p:Tp→Bool) (b:Int):Cn p b []= []:=rfl
theorem Aja {v:Vo} {a n:Nat} {l:List Ev}:(Co v a n ⟨l, []⟩).tups.length≤v.tups.length:=by
 show (Cn _ 0 v.tups++Cn _ a []++Cn _ _ v.tups).length≤_
 rw [N2,List.append_nil,List.length_append]
 unfold Cn
 rw [List.length_map,List.length_map, ←List.countP_eq_length_filter, ←List.countP_eq_length_filter]
 have:∀l:List Tp,l.countP (fun t=>decide (t.first<(a:Int)))+l.countP (fun t=>decide ((a:Int)+n≤t.first))≤l.length:=by
  intro l
  induction l with
  |nil=>simp
  |cons t l ih=>
   rw [List.countP_cons,List.countP_cons,List.length_cons]
   by_cases c:t.first<(a:Int)
   ·have c2:¬(a:Int)+n≤t.first:=by omega
    simp [c,c2];omega
   ·simp [c];split<;>omega
 exact this _
theorem Aga {p:Pl} {t a w:Int} {x:Ev} (hx:x.err=0) (h1:p.m.splitE (p.off+a) (p.off+t)=0) (h2:p.m.splitE (p.off+t) (p.off+(a+w))=0) (hl:(E4 p t a w x).length≤128):
  VL ⟨E4 p t a w x, []⟩ (wrS (E4 p t a w x))∧tot (wrS (E4 p t a w x))=w:=by
 obtain ⟨q1,q2⟩:=We h1
 obtain ⟨q3,q4⟩:=We h2
 obtain ⟨u1,u2⟩:=Ev.err_unrest hx
 obtain ⟨k1,k2⟩:=Ww (Ev.err_tied u1 u2) (show x.unrest.tiedE.kind≠3 from u2) q2 false
 obtain ⟨k3,k4⟩:=Ww u1 u2 q4 true
 refine ⟨VL.nil (fun e he=> ?_) hl, ?_⟩
 ·rcases List.mem_append.1 he with k|k
  ·exact k1 e k
  ·exact k3 e k
 ·rw [E4,Ve,k2,k4,Kx,q1,q3];omega
theorem Ap8 {l:List Int} {k:Nat} {w:Int} (h:l[k]? =some w):(l.drop k).take 1= [w]:=by rw [B5 h];rfl
inductive DivR (v:Vo) (p:Pl) (t:Int):Prop
 |same (h:Ak v p t=(v,0))
 |err (h:(Ak v p t).2≠0) (h1:(Ak v p t).1=⟨[], []⟩)
 |div (k:Nat) (a w:Int) (x:Ev) (hk:v.evs[k]? =some x) (hw:(ckL v p.len)[k]? =some w) (ha:a=tot ((ckL v p.len).take k)) (hat:atV v p.len t=((k:Int),a)) (hat2:atE v p.len t=0) (hne:a≠t) (hd:∀s∈v.tups,¬s.has k)
   (h1:p.m.splitE (p.off+a) (p.off+t)=0) (h2:p.m.splitE (p.off+t) (p.off+(a+w))=0) (hl:(Co v k 1 ⟨E4 p t a w x, []⟩).evs.length≤128) (h:Ak v p t=(Co v k 1 ⟨E4 p t a w x, []⟩,0))
theorem Ah7 {v:Vo} {L:Int} (h:ckE v L=0):∃ws ls,TL v.tups ws ls:=by
 by_cases c:v.rest
 ·obtain ⟨e,_⟩:=R1 c h
  rw [e];exact ⟨[], [],TL.nil (Nat.zero_le _) fun w hw=>by cases hw⟩
 ·exact ⟨_,_,((Ob c).1 ⟨h,rfl⟩).2.2.1.tl⟩
theorem Anv {v:Vo} {p:Pl} (hc:p.chk v=0) (t:Int):DivR v p t:=by
 obtain ⟨k,a,hat,ha0,ha1,hak⟩:=Agh v p.len t
 obtain ⟨hme,hpb,hck⟩:=He hc
 obtain ⟨ws,ls,hT⟩:=Ah7 hck
 by_cases c:atE v p.len t≠0∨a=t
 ·exact .same (Q9 hat c)
 ·have he0:atE v p.len t=0:=by omega
  obtain ⟨hk,hak2⟩:=hak he0
  have hcl:=V0 hck
  obtain ⟨w,hw⟩:∃w,(ckL v p.len)[k]? =some w:=Ar hk
  obtain ⟨x,hx⟩:∃x,v.evs[k]? =some x:=Ar (by omega)
  have hd:=J5 hat c hx hw
  unfold K7 at hd
  split at hd
  ·exact .err (by rw [hd];decide) (by rw [hd])
  ·rename_i c1
   split at hd
   ·rename_i c2;exact .err (by rw [hd];exact c2) (by rw [hd])
   ·rename_i c2
    split at hd
    ·rename_i c3;exact .err (by rw [hd];exact c3) (by rw [hd])
    ·rename_i c3
     split at hd
     ·exact .err (by rw [hd];decide) (by rw [hd])
     ·rename_i c4
      rw [Ah3 hT] at c1
      exact .div k a w x hx hw hak2 hat he0 (by omega) (Akh (by omega)) (by omega) (by omega) (by omega) hd
theorem Al6 {v:Vo} (h:v.rest) {k:Nat} {x:Ev} (hx:v.evs[k]? =some x):k=0∧v.evs= [x]∧x.kind=3:=by
 have:=(List.getElem?_eq_some_iff.1 hx).1
 rw [h.2] at this
 have hk:k=0:=by omega
 subst hk
 refine ⟨rfl, ?_,(Kw hx).1 h.1⟩
 have h2:=h.2
 cases hv:v.evs with
 |nil=>rw [hv] at hx;cases hx
 |cons y l=>
  rw [hv] at hx h2
  cases hx
  rw [List.eq_nil_of_length_eq_zero (show l.length=0 by simpa using h2)]
theorem As5 {v:Vo} {L:Int} {p:Pl} {t a w:Int} {k:Nat} {x:Ev} (hck:ckE v L=0) (hk:v.evs[k]? =some x) (hw:(ckL v L)[k]? =some w) (hd:∀s∈v.tups,¬s.has k)
  (h1:p.m.splitE (p.off+a) (p.off+t)=0) (h2:p.m.splitE (p.off+t) (p.off+(a+w))=0) (hl:(Co v k 1 ⟨E4 p t a w x, []⟩).evs.length≤128):
  ckE (Co v k 1 ⟨E4 p t a w x, []⟩) L=0∧ckL (Co v k 1 ⟨E4 p t a w x, []⟩) L=(ckL v L).take k++wrS (E4 p t a w x)++(ckL v L).drop (k+1)∧¬(Co v k 1 ⟨E4 p t a w x, []⟩).rest:=by
 have hxe:=(R2 hck).1 x (List.mem_of_getElem? hk)
 have hkl:=(List.getElem?_eq_some_iff.1 hk).1
 have hlen:(Co v k 1 ⟨E4 p t a w x, []⟩).evs.length=v.evs.length - 1+(E4 p t a w x).length:=by
  show (v.evs.take k++E4 p t a w x++v.evs.drop (k+1)).length=_
  rw [List.length_append,List.length_append,List.length_take,List.length_drop];omega
 obtain ⟨hN,hs⟩:=Aga hxe h1 h2 (by omega)
 by_cases c:v.rest
 ·obtain ⟨hk0,hv,hx3⟩:=Al6 c hk
  subst hk0
  obtain ⟨ht,hll,_⟩:=R1 c hck
  obtain ⟨h3,h4⟩:=O0 hck
  obtain ⟨_,_,h5,h6⟩:=len_ok h3
  have e:Co v 0 1 ⟨E4 p t a w x, []⟩=⟨E4 p t a w x, []⟩:=by
   unfold Co
   rw [hv,ht,N2,N2,N2]
   simp
  rw [hll] at hw
  cases hw
  rw [e,hll]
  have hnr:=hN.norest
  have:=(Ob (L:=L) (ls:=wrS (E4 p t a L x)) hnr).2 ⟨h5,h6,hN,fun _=>hs⟩
  exact ⟨this.1,by rw [←this.2];simp,hnr⟩
 ·obtain ⟨f1,f2⟩:=Aql hd
  have htl:=((Ob c).1 ⟨hck,rfl⟩).2.2.1.tl.tl
  exact Aqv hck c (by omega) f1 (by exact f2) hN (by rw [←hlen];exact hl) (Nat.le_trans Aja htl) (fun _=>by rw [Ap8 hw,hs,Mv,Vg];omega) (fun _ h=>by rw [h] at hkl;simp at hkl)
theorem Px {v:Vo} {p:Pl} {t:Int} (hc:p.chk v=0) (h:(Ak v p t).2=0):p.chk (Ak v p t).1=0:=by
 obtain ⟨hme,hpb,hck⟩:=He hc
 rcases Anv hc t with h|⟨h',_⟩|⟨k,a,w,x,hk,hw,ha,hat,hat2,hne,hd,h1,h2,hl,he⟩
 ·rw [h];exact hc
 ·exact absurd h h'
 ·rw [he]
  rw [Pl.chk,if_neg (by omega),if_neg hpb]
  exact (As5 hck hk hw hd h1 h2 hl).1
theorem Pw {v:Vo} {p:Pl} {t:Int} (hc:p.chk v=0) (hF:v.fit) (h:(Ak v p t).2=0):(Ak v p t).1.fit:=by
 obtain ⟨hme,hpb,hck⟩:=He hc
 rcases Anv hc t with h|⟨h',_⟩|⟨k,a,w,x,hk,hw,ha,hat,hat2,hne,hd,h1,h2,hl,he⟩
 ·rw [h];exact hF
 ·exact absurd h h'
 ·rw [he]
  exact Tf hF (Ua (hF.ev x (List.mem_of_getElem? hk))) (U9 hck).1 (by omega)
theorem Age {v:Vo} {p:Pl} (hc:p.chk v=0):Evs v.evs:=(R2 (He hc).2.2).2
end Go.Proofs.YtaafemnkamfgnaaGreat
namespace Go.Proofs.YtaafemnkamfgnaaGreat
open Go.RowKit
def X7 (v:Vo) (k:Int):Prop:=k<v.evs.length∧H4 v.tups k=0
instance (v:Vo) (k:Int):Decidable (X7 v k):=by unfold X7;exact inferInstance
theorem tiedTo_iff {a b:List Hd}:Yg a b↔∀p∈a.zip b,p.1.tied=true∧p.1.p=p.2.p:=by
 constructor
 ·intro h p hp
  obtain ⟨j,hj⟩:=List.getElem?_of_mem hp
  rw [List.getElem?_zip_eq_some] at hj
  exact h j p.1 p.2 hj.1 hj.2
 ·intro h j x y hx hy
  exact h (x,y) (List.mem_of_getElem? (List.getElem?_zip_eq_some.2 ⟨hx,hy⟩))
instance (a b:List Hd):Decidable (Yg a b):=decidable_of_iff _ tiedTo_iff.symm
instance (x y:Ev) (s:Int):Decidable (x.conts y s):=by unfold Ev.conts;exact inferInstance
def Ahq (x y:Ev) (s:Int):Prop:=((x.silent∧y.silent)∧x.kind=y.kind)∨x.conts y s
instance (x y:Ev) (s:Int):Decidable (Ahq x y s):=by unfold Ahq;exact inferInstance
def Z0 (v:Vo) (i k:Nat):Prop:=match v.evs[k - 1]?,v.evs[k]?,v.evs[i]? with
 |some x,some y,some z=>Ahq x y z.stem
 |_,_,_=>False
instance (v:Vo) (i k:Nat):Decidable (Z0 v i k):=by unfold Z0;split<;>exact inferInstance
def Ars (v:Vo) (i:Nat):Nat→Nat→Nat
 |0,k=>k
 |f+1,k=>if (X7 v i∧X7 v k)∧Z0 v i k then Ars v i f (k+1) else k
def runS (v:Vo) (i:Nat):Nat:=Ars v i v.evs.length (i+1)
end Go.Proofs.YtaafemnkamfgnaaGreat
namespace Go.Proofs.YtaafemnkamfgnaaGreat
open Go.RowKit
theorem Afp (x a b:Int):XC Tryz.prog 131 [.v (.int .i64 x), .pt [dI a], .pt [dI b]] (fun r=>r=dB (decide (a≤x∧x<b))):=by
 refine An Acl Tryz.func131 R R lb<|zr<|za R R<|znr<|zm R R<|zp (Bg R R Ai)<|zp (Gg R R R)<|zm R R<|?_
 refine XL.dec 8 R (fun g8=> ?_) (fun g8=> ?_)
 exact zm R R<|zp (Bg R R Ai)<|zp (Au R R R)<|zq R R R<|za R R<|zn<|zt<|z1 R R (rB (by rw [decide_eq_decide];omega))
 exact zk 3 R<|zq R R R<|za R R<|zn<|zt<|z1 R R (rB (by rw [eq_comm,decide_eq_false_iff_not];omega))
theorem Apu (x a:Int):XC Tryz.prog 133 [.v (.int .i64 x), .pt [dI a]] (fun r=>r=dB (decide (a≤x))):=by
 exact An Ack Tryz.func133 R R lb<|zr<|za R R<|znr<|zm R R<|zp (Bg R R Ai)<|zp (Gg R R R)<|za R R<|zn<|zt<|z1 R R (R)
theorem Ao7 {v:Vo} {L:Int} (h:ckE v L=0):∀t∈v.tups,t.ok:=by
 obtain ⟨ws,ls,hT⟩:=Ah7 h
 exact fun t ht=>(hT.tv.inR t ht).ok (by have:=hT.wl;omega)
def Oj (p:Int→Bool) (l:List Int):Int:=match l.findIdx? p with|some k=>k|none=> -1
theorem Aqd {p:Int→Bool} {l:List Int} {k:Nat} {x:Int} (h:l[k]? =some x) (hx:p x=true) (hb:∀j y,j<k→l[j]? =some y→p y=false):Oj p l=k:=by
 have:l.findIdx? p=some k:=by
  rw [List.findIdx?_eq_some_iff_getElem]
  obtain ⟨h1,h2⟩:=List.getElem?_eq_some_iff.1 h
  exact ⟨h1,by rw [h2];exact hx,fun j hj=>by rw [hb j _ hj (List.getElem?_eq_getElem (by omega))];decide⟩
 rw [Oj,this]
theorem Am5 {p:Int→Bool} {l:List Int} (hb:∀(j:Nat) y,l[j]? =some y→p y=false):Oj p l= -1:=by
 have:l.findIdx? p=none:=by
  rw [List.findIdx?_eq_none_iff]
  intro x hx
  obtain ⟨j,hj⟩:=List.getElem?_of_mem hx
  exact hb j x hj
 rw [Oj,this]
theorem Ake (l:List Int) (F:Nat) (cs:List D) (p:Int→Bool) (hF:∀x∈l,XC Tryz.prog F (dI x::cs) (fun r=>r=dB (p x))):XC Tryz.prog 132 [.sl 1 (Cg l), .fn F [] cs] (fun r=>r=dI (Oj p l)):=by
 refine An Re Tryz.func132 R R lb<|zr<|za R R<|zn<|zs<|zr<|zm R R<|XL.len R R R Tryz.underlying45 fun hl7=>zm R R<|zn<|Ah<|?_
 refine Az (α:=Nat) (fun k=>k≤l.length∧∀j y,j<k→l[j]? =some y→p y=false) (fun k=>mkF [(0, .d (.sl 1 (Cg l))),(1, .d (.fn F [] cs)),(7, .d (dI l.length)),(8, .d (dI k))]) (fun k=>mkH []) (fun k=>l.length - k) (0) (⟨Nat.zero_le _,fun j y hj=>absurd hj (Nat.not_lt_zero _)⟩) ?_ ?_ ?_
 exact fz ⟨sr,sr,sr,sr,trivial⟩
 exact HSub.nil
 intro k hk0
 obtain ⟨hk,hb⟩:=hk0
 refine zr<|zp (Au R R R)<|zn<|zs<|?_
 refine zd R (fun c9=> ?_) (fun c9=> ?_)
 have hk0a:k<l.length:=by omega
 obtain ⟨x0,hx0⟩:=Ar hk0a
 refine zi<|zs<|Ah<|zr<|zm R R<|za R R<|znr<|zm R R<|zm R R<|zm R R<|zp (Ao R R R Dt hx0)<|zp (Bg R R Ai)<|XL.callv1 (ds:= [_]) R R R (hF x0 (List.mem_of_getElem? hx0)) R<|zn<|?_
 refine Ff (by kernel_rfl) R (fun c16=> ?_) (fun c16=> ?_)
 exact zr<|zm R R<|za R R<|zn<|zt<|z1 R R (rI (Aqd hx0 c16 hb).symm)
 refine zi<|Ag (by kernel_rfl)<|zp (Al R R R (by omega) (by omega))<|zm R R<|zn<|?_
 exact Am (k+1) (⟨by omega,fun j y hj hy=>by by_cases e:j=k;(· subst e;rw [hx0] at hy;cases hy;exact c16);(· exact hb j y (by omega) hy)⟩) (by omega) (fz ⟨sr,sr,sr,sr,trivial⟩) (HSub.nil)
 have hk0b:k=l.length:=by omega
 exact At<|zr<|za R R<|zn<|zt<|z1 R R (rI (Am5 (fun j y hy=>hb j y (by have:=(List.getElem?_eq_some_iff.1 hy).1;omega) hy)).symm)
def B4 (on:List Int) (a:Int):Nat:=on.findIdx fun x=>decide (a≤x)
def Fl (on:List Int) (a b:Int):Nat:=B4 on a+((on.drop (B4 on a)).takeWhile fun x=>decide (a≤x∧x<b)).length
def Do (t:Tp) (f l:Int):Prop:=max t.first f<min (t.first+t.count) l∧(max t.first f≠t.first∨min (t.first+t.count) l≠t.first+t.count)
instance (t:Tp) (f l:Int):Decidable (Do t f l):=by unfold Do;exact inferInstance
def Qj (d:Vo) (p:Pl) (a b:Int):Vo × Int × Int × Int:=
 if ∃t∈d.tups,Do t (B4 (Ba (ckL d p.len)) a) (Fl (Ba (ckL d p.len)) a b) then (⟨[], []⟩,0,0,27) else (d,(B4 (Ba (ckL d p.len)) a:Int),(Fl (Ba (ckL d p.len)) a b:Int),0)
def Qk (v:Vo) (p:Pl) (a b:Int):Vo × Int × Int × Int:=
 if (Ak v p a).2≠0 then (⟨[], []⟩,0,0,(Ak v p a).2) else if (Ak (Ak v p a).1 p b).2≠0 then (⟨[], []⟩,0,0,(Ak (Ak v p a).1 p b).2) else Qj (Ak (Ak v p a).1 p b).1 p a b
def Gi (v:Vo) (p:Pl) (a b:Int):Vo × Int × Int × Int:=
 if p.chk v≠0 then (⟨[], []⟩,0,0,p.chk v) else if v.absent then (⟨[], []⟩,0,0,10) else if a<0∨b<a∨p.len<b then (⟨[], []⟩,0,0,2) else Qk v p a b
theorem Lu (on:List Int) (a:Int):B4 on a≤on.length:=List.findIdx_le_length
theorem Mf {on:List Int} {a:Int} (h:¬Oj (fun x=>decide (a≤x)) on<0):Oj (fun x=>decide (a≤x)) on=(B4 on a:Int):=by
 unfold Oj at h ⊢
 cases hf:on.findIdx? (fun x=>decide (a≤x)) with
 |none=>rw [hf] at h;exact absurd (by decide) h
 |some k=>
  have:B4 on a=k:=by
   rw [List.findIdx?_eq_some_iff_findIdx_eq] at hf;exact hf.2
  rw [this]
theorem La {on:List Int} {a:Int} (h:Oj (fun x=>decide (a≤x)) on<0):(on.length:Int)=(B4 on a:Int):=by
 unfold Oj at h
 cases hf:on.findIdx? (fun x=>decide (a≤x)) with
 |none=>
  have:B4 on a=on.length:=by
   rw [List.findIdx?_eq_none_iff_findIdx_eq] at hf;exact hf
  rw [this]
 |some k=>rw [hf] at h;simp at h;omega
theorem Yj {p:Int→Bool}:∀{l:List Int} {k:Nat},k≤l.length→(∀(j:Nat) x,j<k→l[j]? =some x→p x=true)→(k=l.length∨∃x,l[k]? =some x∧p x=false)→(l.takeWhile p).length=k
 | [],k,hk,_,_=>by simp at hk;subst hk;rfl
 |x::l,0,_,_,h=>by
  rcases h with h|⟨y,h1,h2⟩
  ·simp at h
  ·cases h1;rw [List.takeWhile_cons_of_neg (by rw [h2];decide)];rfl
 |x::l,k+1,hk,h,h2=>by
  have h3:=h 0 x (by omega) rfl
  rw [List.takeWhile_cons_of_pos h3,List.length_cons,Yj (k:=k) (by simpa using hk) (fun j y hj hy=>h (j+1) y (by omega) hy)]
  rcases h2 with h2|⟨y,h4,h5⟩
  ·left;simpa using h2
  ·right;exact ⟨y,by simpa using h4,h5⟩
theorem Nb {on:List Int} {a b:Int} {k:Nat} (h1:B4 on a≤k) (h2:k≤on.length) (h:∀(j:Nat) x,B4 on a≤j→j<k→on[j]? =some x→decide (a≤x∧x<b)=true) (h3:k=on.length∨∃x,on[k]? =some x∧decide (a≤x∧x<b)=false):Fl on a b=k:=by
 have := Yj (p := fun x => decide (a ≤ x ∧ x < b)) (l := on.drop (B4 on a)) (k := k - B4 on a) (by rw [List.length_drop]; omega) (fun j x hj hx => by rw [List.getElem?_drop] at hx; exact h _ x (by omega) (by omega) hx) (by
  rcases h3 with h3|⟨x,h3,h4⟩
  ·left;rw [List.length_drop];omega
  ·right; exact ⟨x, by rw [List.getElem?_drop, show B4 on a + (k - B4 on a) = k by omega]; exact h3, h4⟩)
 rw [Fl,this];omega
theorem Zw (on:List Int) (a b:Int):B4 on a≤Fl on a b∧Fl on a b≤on.length:=by
 have h1:=Lu on a
 have h2:=(List.takeWhile_sublist (l:=on.drop (B4 on a)) fun x=>decide (a≤x∧x<b)).length_le
 rw [List.length_drop] at h2
 unfold Fl
 omega
theorem r4v {d:Vo} {f l e:Int} {q:Vo × Int × Int × Int} (h:q=(d,f,l,e)):D.tup [.agg (Vo.c d),dI f,dI l,dI e]= .tup [.agg (Vo.c q.1),dI q.2.1,dI q.2.2.1,dI q.2.2.2]:=by rw [h]
theorem Arw {v:Vo} {p:Pl} {a b:Int} (h:p.chk v≠0):Gi v p a b=(⟨[], []⟩,0,0,p.chk v):=by rw [Gi,if_pos h]
theorem Arv {v:Vo} {p:Pl} {a b:Int} (h:¬p.chk v≠0) (h2:v.absent):Gi v p a b=(⟨[], []⟩,0,0,10):=by rw [Gi,if_neg h,if_pos h2]
theorem Ag1 {v:Vo} {p:Pl} {a b:Int} (h:¬p.chk v≠0) (h2:¬v.absent) (h3:a<0∨b<a∨p.len<b):Gi v p a b=(⟨[], []⟩,0,0,2):=by rw [Gi,if_neg h,if_neg h2,if_pos h3]
theorem Fg {v:Vo} {p:Pl} {a b:Int} (h:¬p.chk v≠0) (h2:¬v.absent) (h3:¬(a<0∨b<a∨p.len<b)):Gi v p a b=Qk v p a b:=by rw [Gi,if_neg h,if_neg h2,if_neg h3]
theorem Aru {v:Vo} {p:Pl} {a b:Int} (h:(Ak v p a).2≠0):Qk v p a b=(⟨[], []⟩,0,0,(Ak v p a).2):=by rw [Qk,if_pos h]
theorem Art {v:Vo} {p:Pl} {a b:Int} (h:¬(Ak v p a).2≠0) (h2:(Ak (Ak v p a).1 p b).2≠0):Qk v p a b=(⟨[], []⟩,0,0,(Ak (Ak v p a).1 p b).2):=by rw [Qk,if_neg h,if_pos h2]
theorem Fx {v:Vo} {p:Pl} {a b:Int} (h:¬(Ak v p a).2≠0) (h2:¬(Ak (Ak v p a).1 p b).2≠0):Qk v p a b=Qj (Ak (Ak v p a).1 p b).1 p a b:=by rw [Qk,if_neg h,if_neg h2]
theorem L5 {d:Vo} {p:Pl} {a b:Int} {k:Nat} {t:Tp} (h:d.tups[k]? =some t) (hs:Do t (B4 (Ba (ckL d p.len)) a) (Fl (Ba (ckL d p.len)) a b)):Qj d p a b=(⟨[], []⟩,0,0,27):=by rw [Qj,if_pos ⟨t,List.mem_of_getElem? h,hs⟩]
theorem L4 {d:Vo} {p:Pl} {a b:Int} (h:∀(k:Nat) t,d.tups[k]? =some t→¬Do t (B4 (Ba (ckL d p.len)) a) (Fl (Ba (ckL d p.len)) a b)):Qj d p a b=(d,(B4 (Ba (ckL d p.len)) a:Int),(Fl (Ba (ckL d p.len)) a b:Int),0):=by
 rw [Qj,if_neg]
 rintro ⟨t,ht,hs⟩
 obtain ⟨k,hk⟩:=List.getElem?_of_mem ht
 exact h k t hk hs
end Go.Proofs.YtaafemnkamfgnaaGreat
namespace Go.Proofs.YtaafemnkamfgnaaGreat
open Go.RowKit
theorem Ajc (v:Vo) (p:Pl) (a b:Int) (hE:Evs v.evs) (hF:v.fit):XC Tryz.prog 101 [.agg (Vo.c v), .agg (Pl.c p), .v (.int .i64 a), .v (.int .i64 b)] (fun r=>r= .tup [.agg (Vo.c (Gi v p a b).1),dI (Gi v p a b).2.1,dI (Gi v p a b).2.2.1,dI (Gi v p a b).2.2.2]):=by
 refine An Ac0 Tryz.func101 R R lb<|zr<|XL.step R (Ap 4 (l:= [.d (.sl 13 (v.evs.map Ev.c)), .d (.sl 4 (v.tups.map Tp.c))]) R R (by kernel_rfl))<|XL.step R (Ap 5 (l:= [.d (dI p.m.count), .d (dI p.m.unit), .d (dI p.m.g0), .d (dI p.m.g1), .d (dI p.m.g2), .d (dI p.m.g3), .d (dI p.m.g4), .d (dI p.m.g5), .d (dI p.off), .d (dI p.len)]) R R (by kernel_rfl))<|?_
 refine XL.step R (Ap 6 (l:= [.d (dI a)]) R R (by kernel_rfl))<|XL.step R (Ap 7 (l:= [.d (dI b)]) R R (by kernel_rfl))<|XL.step R (Aq 8 (l:= [.d (.v (.slice none 0 0)), .d (.v (.slice none 0 0))]) R Bf (by kernel_rfl))<|za R R<|za R R<|za R R<|zn<|zs<|zr<|zp (Ae (s':= .d (.agg (Pl.c p))) (Ac (Ad R R Gx R lb)) (by kernel_rfl))<|?_
 refine zp (Ae (s':= .d (.agg (Vo.c v))) (Ac (Ad R R Ax R lb)) (by kernel_rfl))<|XL.call1 R R (Ag9 _ _ (by assumption)) R<|za R R<|znr<|zm R R<|zp (A1 R R R)<|zn<|?_
 refine zd R (fun c24=> ?_) (fun c24=> ?_)
 refine zr<|zp (Ae (s':= .d (.agg [.v (.slice none 0 0), .v (.slice none 0 0)])) (Ac (A4 R C6 Bf R)) (by kernel_rfl))<|zm R R<|XL.step R (Af (l':= [.d (.v (.slice none 0 0)), .d (.v (.slice none 0 0))]) R R R R Bu R lb (by kernel_rfl))<|za R R<|za R R<|za R R<|zn<|zt<|?_
 exact Hu R (RV.sub (RV.cells R R R Ax lb R) (.agg (.cons (.nil 13) (.cons (.nil 4) (.nil))))) (RV.tmp R R) (RV.tmp R R) (RV.tmp R R) (r4v (Arw c24))
 refine zi<|zs<|Ah<|zr<|zp (Ae (s':= .d (.agg (Vo.c v))) (Ac (Ad R R Ax R lb)) (by kernel_rfl))<|XL.call1 R R (Ago _) R<|za R R<|zn<|?_
 refine zd R (fun c27=> ?_) (fun c27=> ?_)
 refine zr<|zp (Ae (s':= .d (.agg [.v (.slice none 0 0), .v (.slice none 0 0)])) (Ac (A4 R C6 Bf R)) (by kernel_rfl))<|XL.step R (Af (l':= [.d (.v (.slice none 0 0)), .d (.v (.slice none 0 0))]) R R R R Bu R lb (by kernel_rfl))<|za R R<|za R R<|za R R<|zn<|zt<|?_
 exact Hu R (RV.sub (RV.cells R R R Ax lb R) (.agg (.cons (.nil 13) (.cons (.nil 4) (.nil))))) (RV.tmp R R) (RV.tmp R R) (RV.tmp R R) (r4v (Arv c24 c27))
 refine zr<|zp (Ab R R Ai R R)<|zp (Au R R R)<|zm R R<|?_
 refine XL.dec 34 R (fun g34=> ?_) (fun g34=> ?_)
 refine zk 3 R<|zq R R R<|zm R R<|zk 4 R<|zq R R R<|za R R<|zn<|Av (by kernel_rfl) R<|zr<|zp (Ae (s':= .d (.agg [.v (.slice none 0 0), .v (.slice none 0 0)])) (Ac (A4 R C6 Bf R)) (by kernel_rfl))<|XL.step R (Af (l':= [.d (.v (.slice none 0 0)), .d (.v (.slice none 0 0))]) R R R R Bu R lb (by kernel_rfl))<|za R R<|za R R<|za R R<|?_
 refine zn<|zt<|?_
 exact Hu R (RV.sub (RV.cells R R R Ax lb R) (.agg (.cons (.nil 13) (.cons (.nil 4) (.nil))))) (RV.tmp R R) (RV.tmp R R) (RV.tmp R R) (r4v (Ag1 c24 c27 (by omega)))
 refine zp (Ab R R Ai R R)<|zp (Ab R R Ai R R)<|zp (Au R R R)<|zq R R R<|zm R R<|?_
 refine XL.dec 39 R (fun g39=> ?_) (fun g39=> ?_)
 refine zk 4 R<|zq R R R<|za R R<|zn<|Av (by kernel_rfl) R<|zr<|zp (Ae (s':= .d (.agg [.v (.slice none 0 0), .v (.slice none 0 0)])) (Ac (A4 R C6 Bf R)) (by kernel_rfl))<|XL.step R (Af (l':= [.d (.v (.slice none 0 0)), .d (.v (.slice none 0 0))]) R R R R Bu R lb (by kernel_rfl))<|za R R<|za R R<|za R R<|zn<|zt<|?_
 exact Hu R (RV.sub (RV.cells R R R Ax lb R) (.agg (.cons (.nil 13) (.cons (.nil 4) (.nil))))) (RV.tmp R R) (RV.tmp R R) (RV.tmp R R) (r4v (Ag1 c24 c27 (by omega)))
 refine zp (Ab R R Ai R R)<|zp (Aa R R Cx)<|zp (Ab R R Ai R R)<|zp (Bb R R R)<|zq R R R<|za R R<|zn<|?_
 refine zd R (fun c31=> ?_) (fun c31=> ?_)
 refine zr<|zp (Ae (s':= .d (.agg [.v (.slice none 0 0), .v (.slice none 0 0)])) (Ac (A4 R C6 Bf R)) (by kernel_rfl))<|XL.step R (Af (l':= [.d (.v (.slice none 0 0)), .d (.v (.slice none 0 0))]) R R R R Bu R lb (by kernel_rfl))<|za R R<|za R R<|za R R<|zn<|zt<|?_
 exact Hu R (RV.sub (RV.cells R R R Ax lb R) (.agg (.cons (.nil 13) (.cons (.nil 4) (.nil))))) (RV.tmp R R) (RV.tmp R R) (RV.tmp R R) (r4v (Ag1 c24 c27 (by omega)))
 refine zi<|zs<|zs<|?_
 have hc0:p.chk v=0:=by omega
 refine Ag (by kernel_rfl)<|zp (Ae (s':= .d (.agg (Vo.c v))) (Ac (Ad R R Ax R lb)) (by kernel_rfl))<|zp (Ae (s':= .d (.agg (Pl.c p))) (Ac (Ad R R Gx R lb)) (by kernel_rfl))<|zp (Ab R R Ai R R)<|XL.call1 R R (Xm _ _ _ (by assumption) (by assumption) (by assumption)) R<|zm R R<|zp (A0 R R R)<|zp (A0 R R R)<|?_
 refine XL.step R (Af (l':= [.d (.sl 13 (((Ak v p a).1).evs.map Ev.c)), .d (.sl 4 (((Ak v p a).1).tups.map Tp.c))]) R R R R Bu R lb (by kernel_rfl))<|za R R<|znr<|zm R R<|zp (A1 R R R)<|zn<|?_
 refine zd R (fun c54=> ?_) (fun c54=> ?_)
 refine zr<|zp (Ae (s':= .d (.agg [.v (.slice none 0 0), .v (.slice none 0 0)])) (Ac (A4 R C6 Bf R)) (by kernel_rfl))<|zm R R<|XL.step R (Af (l':= [.d (.v (.slice none 0 0)), .d (.v (.slice none 0 0))]) R R R R Bu R lb (by kernel_rfl))<|za R R<|za R R<|za R R<|zn<|zt<|?_
 exact Hu R (RV.sub (RV.cells R R R Ax lb R) (.agg (.cons (.nil 13) (.cons (.nil 4) (.nil))))) (RV.tmp R R) (RV.tmp R R) (RV.tmp R R) (r4v ((Fg c24 c27 (by omega)).trans (Aru c54)))
 have hc1:=Px (t:=a) hc0 (by omega)
 have hF1:=Pw (t:=a) hc0 hF (by omega)
 have hE1:=Age hc1
 refine zi<|zs<|zr<|zp (Ae (s':= .d (.agg (Vo.c (Ak v p a).1))) (Ac (Ad R R Ax R lb)) (by kernel_rfl))<|zp (Ae (s':= .d (.agg (Pl.c p))) (Ac (Ad R R Gx R lb)) (by kernel_rfl))<|zp (Ab R R Ai R R)<|XL.call1 R R (Xm _ _ _ (by assumption) (by assumption) (by assumption)) R<|zm R R<|zp (A0 R R R)<|zp (A0 R R R)<|?_
 refine XL.step R (Af (l':= [.d (.sl 13 (((Ak ((Ak v p a).1) p b).1).evs.map Ev.c)), .d (.sl 4 (((Ak ((Ak v p a).1) p b).1).tups.map Tp.c))]) R R R R Bu R lb (by kernel_rfl))<|za R R<|znr<|zm R R<|zp (A1 R R R)<|zn<|?_
 refine zd R (fun c65=> ?_) (fun c65=> ?_)
 refine zr<|zp (Ae (s':= .d (.agg [.v (.slice none 0 0), .v (.slice none 0 0)])) (Ac (A4 R C6 Bf R)) (by kernel_rfl))<|zm R R<|XL.step R (Af (l':= [.d (.v (.slice none 0 0)), .d (.v (.slice none 0 0))]) R R R R Bu R lb (by kernel_rfl))<|za R R<|za R R<|za R R<|zn<|zt<|?_
 exact Hu R (RV.sub (RV.cells R R R Ax lb R) (.agg (.cons (.nil 13) (.cons (.nil 4) (.nil))))) (RV.tmp R R) (RV.tmp R R) (RV.tmp R R) (r4v ((Fg c24 c27 (by omega)).trans ((Art c54 c65))))
 have hc2:=Px (t:=b) hc1 (by omega)
 have hF2:=Pw (t:=b) hc1 hF1 (by omega)
 have hE2:=Age hc2
 have hol:=K1 (ckL (Ak (Ak v p a).1 p b).1 p.len)
 have hN:=Jp (Ak (Ak v p a).1 p b).1 p.len
 have hNl:=hN.len
 have hfl:=Lu (Ba (ckL (Ak (Ak v p a).1 p b).1 p.len)) a
 have hll:=Zw (Ba (ckL (Ak (Ak v p a).1 p b).1 p.len)) a b
 obtain ⟨hs2,_⟩:=U9 (He hc2).2.2
 have htl:=hs2.tups
 have hT2:=Ao7 (He hc2).2.2
 refine zi<|zr<|zp (Ae (s':= .d (.agg (Vo.c (Ak ((Ak v p a).1) p b).1))) (Ac (Ad R R Ax R lb)) (by kernel_rfl))<|zp (Aa R R Cx)<|zp (Ab R R Ai R R)<|XL.call1 R R (Xq _ _ (by assumption)) R<|zm R R<|zp (A0 R R R)<|zp (A0 R R R)<|za R R<|za R R<|znr<|XL.freezeP 6 (ds:= [dI a]) R (by kernel_rfl) (by kernel_rfl)<|?_
 refine XL.freezeP 7 (ds:= [dI b]) R (by kernel_rfl) (by kernel_rfl)<|zp (Ph (pd:= []) (cd:= [_,_]) R R R)<|za R R<|znr<|zm R R<|zp (Ph (pd:= []) (cd:= [_]) R R R)<|XL.call1 R R (Ake _ _ _ (fun x=>decide (a≤x)) (fun x _=>Apu x a)) R<|za R R<|zn<|zs<|zr<|zm R R<|zp (Au R R R)<|zn<|?_
 refine zd R (fun c80=> ?_) (fun c80=> ?_)
 refine Ag (by kernel_rfl)<|zm R R<|XL.len R R R Tryz.underlying45 fun hl82=>za R R<|znr<|zm R R<|za R R<|zn<|zs<|Ah<|?_
 refine Az (α:=Nat) (fun k=>B4 (Ba (ckL (Ak (Ak v p a).1 p b).1 p.len)) a≤k∧k≤(Ba (ckL (Ak (Ak v p a).1 p b).1 p.len)).length∧∀(j:Nat) x,B4 (Ba (ckL (Ak (Ak v p a).1 p b).1 p.len)) a≤j→j<k→(Ba (ckL (Ak (Ak v p a).1 p b).1 p.len))[j]? =some x→decide (a≤x∧x<b)=true) (fun k=>mkF [(8, .ptr 8 0 0),(9, .d (dI (B4 (Ba (ckL (Ak (Ak v p a).1 p b).1 p.len)) a:Nat))),(10, .d (dI (k:Nat))),(11, .d (dI (Ak ((Ak v p a).1) p b).2)),(13, .d (.sl 1 (Cg (Ba (ckL ((Ak ((Ak v p a).1) p b).1) p.len))))),(15, .d (.fn 131 [] [.pt ([dI a]), .pt ([dI b])]))]) (fun k=>mkH [(8, .box ((Vo.c (Ak ((Ak v p a).1) p b).1).map S.d))]) (fun k=>(Ba (ckL (Ak (Ak v p a).1 p b).1 p.len)).length - k) (B4 (Ba (ckL (Ak (Ak v p a).1 p b).1 p.len)) a) (⟨Nat.le_refl _,hfl,fun j x h1 h2=>by omega⟩) ?_ ?_ ?_
 exact fz ⟨sr, .same (sI (by first|exact La c80|exact Mf c80)), .same (sI (by first|exact La c80|exact Mf c80)),sr,sr,sr,trivial⟩
 exact gz ⟨R,trivial⟩
 intro k hk1
 obtain ⟨hk1a,hk1b,hall⟩:=hk1
 refine zs<|zr<|zm R R<|zm R R<|XL.len R R R Tryz.underlying45 fun hl86=>zp (Au R R R)<|zm R R<|?_
 refine XL.dec 88 R (fun g88=> ?_) (fun g88=> ?_)
 obtain ⟨x,hx⟩:∃x,(Ba (ckL (Ak (Ak v p a).1 p b).1 p.len))[k]? =some x:=Ar (by omega)
 refine zm R R<|zm R R<|zm R R<|zp (Ao R R R Dt (hx))<|zp (Bg R R Ai)<|XL.callv1 (ds:= [_]) R R R (Afp x a b) R<|zq R R R<|zn<|?_
 refine zd R (fun c95=> ?_) (fun c95=> ?_)
 refine zi<|Ah<|Ag (by kernel_rfl)<|zm R R<|zp (Al R R R (by omega) (by omega))<|za R R<|zn<|Ry<|?_
 exact Am (k+1) (⟨by omega,by have:=(List.getElem?_eq_some_iff.1 hx).1;omega,fun j y h1 h2 hy=>by by_cases e:j=k;(· subst e;rw [hx] at hy;cases hy;exact decide_eq_true c95);(· exact hall j y h1 (by omega) hy)⟩) (by have:=(List.getElem?_eq_some_iff.1 hx).1;omega) (fz ⟨sr,sr, .same (sI (by omega)),sr,sr,sr,trivial⟩) (gz ⟨rfl,trivial⟩)
 refine At<|zs<|zr<|zp (Aa R R B6)<|zp (Ab R R B7 R R)<|XL.len R R R Tryz.underlying80 fun hl100=>zm R R<|zn<|Ah<|?_
 refine Az (α:=Nat) (fun m=>m≤(Ak (Ak v p a).1 p b).1.tups.length∧∀(j:Nat) t,j<m→(Ak (Ak v p a).1 p b).1.tups[j]? =some t→¬Do t (B4 (Ba (ckL (Ak (Ak v p a).1 p b).1 p.len)) a) (Fl (Ba (ckL (Ak (Ak v p a).1 p b).1 p.len)) a b)) (fun m=>mkF [(8, .ptr 8 0 0),(9, .d (dI (B4 (Ba (ckL (Ak (Ak v p a).1 p b).1 p.len)) a:Nat))),(10, .d (dI (Fl (Ba (ckL (Ak (Ak v p a).1 p b).1 p.len)) a b:Nat))),(99, .d (.sl 4 (((Ak ((Ak v p a).1) p b).1).tups.map Tp.c))),(100, .d (dI (((Ak ((Ak v p a).1) p b).1).tups).length)),(101, .d (dI m))]) (fun m=>mkH [(8, .box ((Vo.c (Ak (Ak v p a).1 p b).1).map S.d))]) (fun m=>(((Ak (Ak v p a).1 p b).1).tups).length - m) (0) (⟨Nat.zero_le _,fun j t hj=>absurd hj (Nat.not_lt_zero _)⟩) ?_ ?_ ?_
 exact fz ⟨sr,sr, .same (sI (by rw [Nb hk1a hk1b hall (by first|exact .inr ⟨x,hx,decide_eq_false c95⟩|exact .inl (by omega))])),sr,sr,sr,trivial⟩
 exact gz ⟨R,trivial⟩
 intro m hk3
 obtain ⟨hk,hno⟩:=hk3
 refine zr<|zp (Au R R R)<|zn<|zs<|?_
 refine zd R (fun c102=> ?_) (fun c102=> ?_)
 have hk3a:m<(((Ak (Ak v p a).1 p b).1).tups).length:=by omega
 obtain ⟨x3,hx3⟩:=Ar hk3a
 have hok:=hT2 x3 (List.mem_of_getElem? hx3)
 unfold Tp.ok at hok
 refine zi<|zs<|Ah<|zr<|zp (Ao R R R E3 (hx3))<|zp (Ae (s':= .d (.agg (Tp.c x3))) (Ay R R B9 lb) (by kernel_rfl))<|XL.step R (Aq 17 (l:= [.d (dI 0), .d (dI 0), .d (dI 0), .d (dI 0)]) R Dy (by kernel_rfl))<|XL.step R (Af (l':= [.d (dI x3.first), .d (dI x3.count), .d (dI x3.actual), .d (dI x3.normal)]) R R R R Fc R lb (by kernel_rfl))<|zn<|zs<|?_
 refine Bv [] (by kernel_rfl) (by kernel_rfl) (by kernel_rfl) (by decide)<|yp (Aa R R Bw)<|yp (Ab R R Ai R R)<|ym R R<|yp (Rp R R R)<|yp (Aa R R Bw)<|yp (Ab R R Ai R R)<|yp (Aa R R Dl)<|yp (Ab R R Ai R R)<|yp (Al R R R (by omega) (by omega))<|ym R R<|yp (F4 R R R)<|ya R R<|ya R R<|?_
 refine ChK.nil ⟨by kernel_rfl, ?_⟩
 refine zr<|zm R R<|zm R R<|zp (Au R R R)<|zm R R<|?_
 refine XL.dec 119 R (fun g119=> ?_) (fun g119=> ?_)
 refine zm R R<|zp (Aa R R Bw)<|zp (Ab R R Ai R R)<|zp (A1 R R R)<|zm R R<|?_
 refine XL.dec 124 R (fun g124=> ?_) (fun g124=> ?_)
 refine zk 7 R<|zq R R R<|zq R R R<|zn<|Av (by kernel_rfl) R<|zr<|zp (Ae (s':= .d (.agg [.v (.slice none 0 0), .v (.slice none 0 0)])) (Ac (A4 R C6 Bf R)) (by kernel_rfl))<|XL.step R (Af (l':= [.d (.v (.slice none 0 0)), .d (.v (.slice none 0 0))]) R R R R Bu R lb (by kernel_rfl))<|za R R<|za R R<|za R R<|zn<|zt<|?_
 exact Hu R (RV.sub (RV.cells R R R Ax lb R) (.agg (.cons (.nil 13) (.cons (.nil 4) (.nil))))) (RV.tmp R R) (RV.tmp R R) (RV.tmp R R) (by first|exact r4v ((Fg c24 c27 (by omega)).trans ((Fx c54 c65).trans (L5 hx3 (by unfold Do;omega))))|exact r4v ((Fg c24 c27 (by omega)).trans ((Fx c54 c65).trans (L4 (fun j t ht=>hno j t (by have:=(List.getElem?_eq_some_iff.1 ht).1;omega) ht)))))
 refine zm R R<|zp (Aa R R Bw)<|zp (Ab R R Ai R R)<|zp (Aa R R Dl)<|zp (Ab R R Ai R R)<|zp (Al R R R (by omega) (by omega))<|zp (A1 R R R)<|zq R R R<|zq R R R<|zn<|?_
 refine zd R (fun c133=> ?_) (fun c133=> ?_)
 refine zr<|zp (Ae (s':= .d (.agg [.v (.slice none 0 0), .v (.slice none 0 0)])) (Ac (A4 R C6 Bf R)) (by kernel_rfl))<|XL.step R (Af (l':= [.d (.v (.slice none 0 0)), .d (.v (.slice none 0 0))]) R R R R Bu R lb (by kernel_rfl))<|za R R<|za R R<|za R R<|zn<|zt<|?_
 exact Hu R (RV.sub (RV.cells R R R Ax lb R) (.agg (.cons (.nil 13) (.cons (.nil 4) (.nil))))) (RV.tmp R R) (RV.tmp R R) (RV.tmp R R) (by first|exact r4v ((Fg c24 c27 (by omega)).trans ((Fx c54 c65).trans (L5 hx3 (by unfold Do;omega))))|exact r4v ((Fg c24 c27 (by omega)).trans ((Fx c54 c65).trans (L4 (fun j t ht=>hno j t (by have:=(List.getElem?_eq_some_iff.1 ht).1;omega) ht)))))
 refine zi<|Ag (by kernel_rfl)<|zp (Al R R R (by omega) (by omega))<|zm R R<|zn<|?_
 exact Am (m+1) (⟨by omega,fun j t hj ht=>by by_cases e:j=m;(· subst e;rw [hx3] at ht;cases ht;unfold Do;omega);(· exact hno j t (by omega) ht)⟩) (by omega) (fz ⟨sr,sr,sr,sr,sr,sr,trivial⟩) (gz ⟨rfl,trivial⟩)
 refine zk 13 R<|zq R R R<|zn<|A8 (by kernel_rfl) R<|zi<|Ag (by kernel_rfl)<|zp (Al R R R (by omega) (by omega))<|zm R R<|zn<|?_
 exact Am (m+1) (⟨by omega,fun j t hj ht=>by by_cases e:j=m;(· subst e;rw [hx3] at ht;cases ht;unfold Do;omega);(· exact hno j t (by omega) ht)⟩) (by omega) (fz ⟨sr,sr,sr,sr,sr,sr,trivial⟩) (gz ⟨rfl,trivial⟩)
 have hk3b:m=(((Ak (Ak v p a).1 p b).1).tups).length:=by omega
 refine At<|zr<|zp (Ae (s':= .d (.agg (Vo.c (Ak (Ak v p a).1 p b).1))) (Ac (Ad R R Ax R lb)) (by kernel_rfl))<|zm R R<|zm R R<|XL.step R (Af (l':= [.d (.sl 13 (((Ak (Ak v p a).1 p b).1).evs.map Ev.c)), .d (.sl 4 (((Ak (Ak v p a).1 p b).1).tups.map Tp.c))]) R R R R Bu R lb (by kernel_rfl))<|za R R<|za R R<|za R R<|zn<|zt<|?_
 exact Hu R (RV.cells R R R Ax lb R) (RV.tmp R R) (RV.tmp R R) (RV.tmp R R) (by first|exact r4v ((Fg c24 c27 (by omega)).trans ((Fx c54 c65).trans (L5 hx3 (by unfold Do;omega))))|exact r4v ((Fg c24 c27 (by omega)).trans ((Fx c54 c65).trans (L4 (fun j t ht=>hno j t (by have:=(List.getElem?_eq_some_iff.1 ht).1;omega) ht)))))
 refine zk 6 R<|zq R R R<|zn<|A8 (by kernel_rfl) R<|At<|zs<|zr<|zp (Aa R R B6)<|zp (Ab R R B7 R R)<|XL.len R R R Tryz.underlying80 fun hl100=>zm R R<|zn<|Ah<|?_
 refine Az (α:=Nat) (fun m=>m≤(Ak (Ak v p a).1 p b).1.tups.length∧∀(j:Nat) t,j<m→(Ak (Ak v p a).1 p b).1.tups[j]? =some t→¬Do t (B4 (Ba (ckL (Ak (Ak v p a).1 p b).1 p.len)) a) (Fl (Ba (ckL (Ak (Ak v p a).1 p b).1 p.len)) a b)) (fun m=>mkF [(8, .ptr 8 0 0),(9, .d (dI (B4 (Ba (ckL (Ak (Ak v p a).1 p b).1 p.len)) a:Nat))),(10, .d (dI (Fl (Ba (ckL (Ak (Ak v p a).1 p b).1 p.len)) a b:Nat))),(99, .d (.sl 4 (((Ak ((Ak v p a).1) p b).1).tups.map Tp.c))),(100, .d (dI (((Ak ((Ak v p a).1) p b).1).tups).length)),(101, .d (dI m))]) (fun m=>mkH [(8, .box ((Vo.c (Ak (Ak v p a).1 p b).1).map S.d))]) (fun m=>(((Ak (Ak v p a).1 p b).1).tups).length - m) (0) (⟨Nat.zero_le _,fun j t hj=>absurd hj (Nat.not_lt_zero _)⟩) ?_ ?_ ?_
 exact fz ⟨sr,sr, .same (sI (by rw [Nb hk1a hk1b hall (by first|exact .inr ⟨x,hx,decide_eq_false c95⟩|exact .inl (by omega))])),sr,sr,sr,trivial⟩
 exact gz ⟨R,trivial⟩
 intro m hk3
 obtain ⟨hk,hno⟩:=hk3
 refine zr<|zp (Au R R R)<|zn<|zs<|?_
 refine zd R (fun c102=> ?_) (fun c102=> ?_)
 have hk3a:m<(((Ak (Ak v p a).1 p b).1).tups).length:=by omega
 obtain ⟨x3,hx3⟩:=Ar hk3a
 have hok:=hT2 x3 (List.mem_of_getElem? hx3)
 unfold Tp.ok at hok
 refine zi<|zs<|Ah<|zr<|zp (Ao R R R E3 (hx3))<|zp (Ae (s':= .d (.agg (Tp.c x3))) (Ay R R B9 lb) (by kernel_rfl))<|XL.step R (Aq 17 (l:= [.d (dI 0), .d (dI 0), .d (dI 0), .d (dI 0)]) R Dy (by kernel_rfl))<|XL.step R (Af (l':= [.d (dI x3.first), .d (dI x3.count), .d (dI x3.actual), .d (dI x3.normal)]) R R R R Fc R lb (by kernel_rfl))<|zn<|zs<|?_
 refine Bv [] (by kernel_rfl) (by kernel_rfl) (by kernel_rfl) (by decide)<|yp (Aa R R Bw)<|yp (Ab R R Ai R R)<|ym R R<|yp (Rp R R R)<|yp (Aa R R Bw)<|yp (Ab R R Ai R R)<|yp (Aa R R Dl)<|yp (Ab R R Ai R R)<|yp (Al R R R (by omega) (by omega))<|ym R R<|yp (F4 R R R)<|ya R R<|ya R R<|?_
 refine ChK.nil ⟨by kernel_rfl, ?_⟩
 refine zr<|zm R R<|zm R R<|zp (Au R R R)<|zm R R<|?_
 refine XL.dec 119 R (fun g119=> ?_) (fun g119=> ?_)
 refine zm R R<|zp (Aa R R Bw)<|zp (Ab R R Ai R R)<|zp (A1 R R R)<|zm R R<|?_
 refine XL.dec 124 R (fun g124=> ?_) (fun g124=> ?_)
 refine zk 7 R<|zq R R R<|zq R R R<|zn<|Av (by kernel_rfl) R<|zr<|zp (Ae (s':= .d (.agg [.v (.slice none 0 0), .v (.slice none 0 0)])) (Ac (A4 R C6 Bf R)) (by kernel_rfl))<|XL.step R (Af (l':= [.d (.v (.slice none 0 0)), .d (.v (.slice none 0 0))]) R R R R Bu R lb (by kernel_rfl))<|za R R<|za R R<|za R R<|zn<|zt<|?_
 exact Hu R (RV.sub (RV.cells R R R Ax lb R) (.agg (.cons (.nil 13) (.cons (.nil 4) (.nil))))) (RV.tmp R R) (RV.tmp R R) (RV.tmp R R) (by first|exact r4v ((Fg c24 c27 (by omega)).trans ((Fx c54 c65).trans (L5 hx3 (by unfold Do;omega))))|exact r4v ((Fg c24 c27 (by omega)).trans ((Fx c54 c65).trans (L4 (fun j t ht=>hno j t (by have:=(List.getElem?_eq_some_iff.1 ht).1;omega) ht)))))
 refine zm R R<|zp (Aa R R Bw)<|zp (Ab R R Ai R R)<|zp (Aa R R Dl)<|zp (Ab R R Ai R R)<|zp (Al R R R (by omega) (by omega))<|zp (A1 R R R)<|zq R R R<|zq R R R<|zn<|?_
 refine zd R (fun c133=> ?_) (fun c133=> ?_)
 refine zr<|zp (Ae (s':= .d (.agg [.v (.slice none 0 0), .v (.slice none 0 0)])) (Ac (A4 R C6 Bf R)) (by kernel_rfl))<|XL.step R (Af (l':= [.d (.v (.slice none 0 0)), .d (.v (.slice none 0 0))]) R R R R Bu R lb (by kernel_rfl))<|za R R<|za R R<|za R R<|zn<|zt<|?_
 exact Hu R (RV.sub (RV.cells R R R Ax lb R) (.agg (.cons (.nil 13) (.cons (.nil 4) (.nil))))) (RV.tmp R R) (RV.tmp R R) (RV.tmp R R) (by first|exact r4v ((Fg c24 c27 (by omega)).trans ((Fx c54 c65).trans (L5 hx3 (by unfold Do;omega))))|exact r4v ((Fg c24 c27 (by omega)).trans ((Fx c54 c65).trans (L4 (fun j t ht=>hno j t (by have:=(List.getElem?_eq_some_iff.1 ht).1;omega) ht)))))
 refine zi<|Ag (by kernel_rfl)<|zp (Al R R R (by omega) (by omega))<|zm R R<|zn<|?_
 exact Am (m+1) (⟨by omega,fun j t hj ht=>by by_cases e:j=m;(· subst e;rw [hx3] at ht;cases ht;unfold Do;omega);(· exact hno j t (by omega) ht)⟩) (by omega) (fz ⟨sr,sr,sr,sr,sr,sr,trivial⟩) (gz ⟨rfl,trivial⟩)
 refine zk 13 R<|zq R R R<|zn<|A8 (by kernel_rfl) R<|zi<|Ag (by kernel_rfl)<|zp (Al R R R (by omega) (by omega))<|zm R R<|zn<|?_
 exact Am (m+1) (⟨by omega,fun j t hj ht=>by by_cases e:j=m;(· subst e;rw [hx3] at ht;cases ht;unfold Do;omega);(· exact hno j t (by omega) ht)⟩) (by omega) (fz ⟨sr,sr,sr,sr,sr,sr,trivial⟩) (gz ⟨rfl,trivial⟩)
 have hk3b:m=(((Ak (Ak v p a).1 p b).1).tups).length:=by omega
 refine At<|zr<|zp (Ae (s':= .d (.agg (Vo.c (Ak (Ak v p a).1 p b).1))) (Ac (Ad R R Ax R lb)) (by kernel_rfl))<|zm R R<|zm R R<|XL.step R (Af (l':= [.d (.sl 13 (((Ak (Ak v p a).1 p b).1).evs.map Ev.c)), .d (.sl 4 (((Ak (Ak v p a).1 p b).1).tups.map Tp.c))]) R R R R Bu R lb (by kernel_rfl))<|za R R<|za R R<|za R R<|zn<|zt<|?_
 exact Hu R (RV.cells R R R Ax lb R) (RV.tmp R R) (RV.tmp R R) (RV.tmp R R) (by first|exact r4v ((Fg c24 c27 (by omega)).trans ((Fx c54 c65).trans (L5 hx3 (by unfold Do;omega))))|exact r4v ((Fg c24 c27 (by omega)).trans ((Fx c54 c65).trans (L4 (fun j t ht=>hno j t (by have:=(List.getElem?_eq_some_iff.1 ht).1;omega) ht)))))
 refine zi<|zr<|zm R R<|za R R<|zn<|zs<|Ah<|?_
 refine Az (α:=Nat) (fun k=>B4 (Ba (ckL (Ak (Ak v p a).1 p b).1 p.len)) a≤k∧k≤(Ba (ckL (Ak (Ak v p a).1 p b).1 p.len)).length∧∀(j:Nat) x,B4 (Ba (ckL (Ak (Ak v p a).1 p b).1 p.len)) a≤j→j<k→(Ba (ckL (Ak (Ak v p a).1 p b).1 p.len))[j]? =some x→decide (a≤x∧x<b)=true) (fun k=>mkF [(8, .ptr 8 0 0),(9, .d (dI (B4 (Ba (ckL (Ak (Ak v p a).1 p b).1 p.len)) a:Nat))),(10, .d (dI (k:Nat))),(11, .d (dI (Ak ((Ak v p a).1) p b).2)),(13, .d (.sl 1 (Cg (Ba (ckL ((Ak ((Ak v p a).1) p b).1) p.len))))),(15, .d (.fn 131 [] [.pt ([dI a]), .pt ([dI b])]))]) (fun k=>mkH [(8, .box ((Vo.c (Ak ((Ak v p a).1) p b).1).map S.d))]) (fun k=>(Ba (ckL (Ak (Ak v p a).1 p b).1 p.len)).length - k) (B4 (Ba (ckL (Ak (Ak v p a).1 p b).1 p.len)) a) (⟨Nat.le_refl _,hfl,fun j x h1 h2=>by omega⟩) ?_ ?_ ?_
 exact fz ⟨sr, .same (sI (by first|exact La c80|exact Mf c80)), .same (sI (by first|exact La c80|exact Mf c80)),sr,sr,sr,trivial⟩
 exact gz ⟨R,trivial⟩
 intro k hk1
 obtain ⟨hk1a,hk1b,hall⟩:=hk1
 refine zs<|zr<|zm R R<|zm R R<|XL.len R R R Tryz.underlying45 fun hl86=>zp (Au R R R)<|zm R R<|?_
 refine XL.dec 88 R (fun g88=> ?_) (fun g88=> ?_)
 obtain ⟨x,hx⟩:∃x,(Ba (ckL (Ak (Ak v p a).1 p b).1 p.len))[k]? =some x:=Ar (by omega)
 refine zm R R<|zm R R<|zm R R<|zp (Ao R R R Dt (hx))<|zp (Bg R R Ai)<|XL.callv1 (ds:= [_]) R R R (Afp x a b) R<|zq R R R<|zn<|?_
 refine zd R (fun c95=> ?_) (fun c95=> ?_)
 refine zi<|Ah<|Ag (by kernel_rfl)<|zm R R<|zp (Al R R R (by omega) (by omega))<|za R R<|zn<|Ry<|?_
 exact Am (k+1) (⟨by omega,by have:=(List.getElem?_eq_some_iff.1 hx).1;omega,fun j y h1 h2 hy=>by by_cases e:j=k;(· subst e;rw [hx] at hy;cases hy;exact decide_eq_true c95);(· exact hall j y h1 (by omega) hy)⟩) (by have:=(List.getElem?_eq_some_iff.1 hx).1;omega) (fz ⟨sr,sr, .same (sI (by omega)),sr,sr,sr,trivial⟩) (gz ⟨rfl,trivial⟩)
 refine At<|zs<|zr<|zp (Aa R R B6)<|zp (Ab R R B7 R R)<|XL.len R R R Tryz.underlying80 fun hl100=>zm R R<|zn<|Ah<|?_
 refine Az (α:=Nat) (fun m=>m≤(Ak (Ak v p a).1 p b).1.tups.length∧∀(j:Nat) t,j<m→(Ak (Ak v p a).1 p b).1.tups[j]? =some t→¬Do t (B4 (Ba (ckL (Ak (Ak v p a).1 p b).1 p.len)) a) (Fl (Ba (ckL (Ak (Ak v p a).1 p b).1 p.len)) a b)) (fun m=>mkF [(8, .ptr 8 0 0),(9, .d (dI (B4 (Ba (ckL (Ak (Ak v p a).1 p b).1 p.len)) a:Nat))),(10, .d (dI (Fl (Ba (ckL (Ak (Ak v p a).1 p b).1 p.len)) a b:Nat))),(99, .d (.sl 4 (((Ak ((Ak v p a).1) p b).1).tups.map Tp.c))),(100, .d (dI (((Ak ((Ak v p a).1) p b).1).tups).length)),(101, .d (dI m))]) (fun m=>mkH [(8, .box ((Vo.c (Ak (Ak v p a).1 p b).1).map S.d))]) (fun m=>(((Ak (Ak v p a).1 p b).1).tups).length - m) (0) (⟨Nat.zero_le _,fun j t hj=>absurd hj (Nat.not_lt_zero _)⟩) ?_ ?_ ?_
 exact fz ⟨sr,sr, .same (sI (by rw [Nb hk1a hk1b hall (by first|exact .inr ⟨x,hx,decide_eq_false c95⟩|exact .inl (by omega))])),sr,sr,sr,trivial⟩
 exact gz ⟨R,trivial⟩
 intro m hk3
 obtain ⟨hk,hno⟩:=hk3
 refine zr<|zp (Au R R R)<|zn<|zs<|?_
 refine zd R (fun c102=> ?_) (fun c102=> ?_)
 have hk3a:m<(((Ak (Ak v p a).1 p b).1).tups).length:=by omega
 obtain ⟨x3,hx3⟩:=Ar hk3a
 have hok:=hT2 x3 (List.mem_of_getElem? hx3)
 unfold Tp.ok at hok
 refine zi<|zs<|Ah<|zr<|zp (Ao R R R E3 (hx3))<|zp (Ae (s':= .d (.agg (Tp.c x3))) (Ay R R B9 lb) (by kernel_rfl))<|XL.step R (Aq 17 (l:= [.d (dI 0), .d (dI 0), .d (dI 0), .d (dI 0)]) R Dy (by kernel_rfl))<|XL.step R (Af (l':= [.d (dI x3.first), .d (dI x3.count), .d (dI x3.actual), .d (dI x3.normal)]) R R R R Fc R lb (by kernel_rfl))<|zn<|zs<|?_
 refine Bv [] (by kernel_rfl) (by kernel_rfl) (by kernel_rfl) (by decide)<|yp (Aa R R Bw)<|yp (Ab R R Ai R R)<|ym R R<|yp (Rp R R R)<|yp (Aa R R Bw)<|yp (Ab R R Ai R R)<|yp (Aa R R Dl)<|yp (Ab R R Ai R R)<|yp (Al R R R (by omega) (by omega))<|ym R R<|yp (F4 R R R)<|ya R R<|ya R R<|?_
 refine ChK.nil ⟨by kernel_rfl, ?_⟩
 refine zr<|zm R R<|zm R R<|zp (Au R R R)<|zm R R<|?_
 refine XL.dec 119 R (fun g119=> ?_) (fun g119=> ?_)
 refine zm R R<|zp (Aa R R Bw)<|zp (Ab R R Ai R R)<|zp (A1 R R R)<|zm R R<|?_
 refine XL.dec 124 R (fun g124=> ?_) (fun g124=> ?_)
 refine zk 7 R<|zq R R R<|zq R R R<|zn<|Av (by kernel_rfl) R<|zr<|zp (Ae (s':= .d (.agg [.v (.slice none 0 0), .v (.slice none 0 0)])) (Ac (A4 R C6 Bf R)) (by kernel_rfl))<|XL.step R (Af (l':= [.d (.v (.slice none 0 0)), .d (.v (.slice none 0 0))]) R R R R Bu R lb (by kernel_rfl))<|za R R<|za R R<|za R R<|zn<|zt<|?_
 exact Hu R (RV.sub (RV.cells R R R Ax lb R) (.agg (.cons (.nil 13) (.cons (.nil 4) (.nil))))) (RV.tmp R R) (RV.tmp R R) (RV.tmp R R) (by first|exact r4v ((Fg c24 c27 (by omega)).trans ((Fx c54 c65).trans (L5 hx3 (by unfold Do;omega))))|exact r4v ((Fg c24 c27 (by omega)).trans ((Fx c54 c65).trans (L4 (fun j t ht=>hno j t (by have:=(List.getElem?_eq_some_iff.1 ht).1;omega) ht)))))
 refine zm R R<|zp (Aa R R Bw)<|zp (Ab R R Ai R R)<|zp (Aa R R Dl)<|zp (Ab R R Ai R R)<|zp (Al R R R (by omega) (by omega))<|zp (A1 R R R)<|zq R R R<|zq R R R<|zn<|?_
 refine zd R (fun c133=> ?_) (fun c133=> ?_)
 refine zr<|zp (Ae (s':= .d (.agg [.v (.slice none 0 0), .v (.slice none 0 0)])) (Ac (A4 R C6 Bf R)) (by kernel_rfl))<|XL.step R (Af (l':= [.d (.v (.slice none 0 0)), .d (.v (.slice none 0 0))]) R R R R Bu R lb (by kernel_rfl))<|za R R<|za R R<|za R R<|zn<|zt<|?_
 exact Hu R (RV.sub (RV.cells R R R Ax lb R) (.agg (.cons (.nil 13) (.cons (.nil 4) (.nil))))) (RV.tmp R R) (RV.tmp R R) (RV.tmp R R) (by first|exact r4v ((Fg c24 c27 (by omega)).trans ((Fx c54 c65).trans (L5 hx3 (by unfold Do;omega))))|exact r4v ((Fg c24 c27 (by omega)).trans ((Fx c54 c65).trans (L4 (fun j t ht=>hno j t (by have:=(List.getElem?_eq_some_iff.1 ht).1;omega) ht)))))
 refine zi<|Ag (by kernel_rfl)<|zp (Al R R R (by omega) (by omega))<|zm R R<|zn<|?_
 exact Am (m+1) (⟨by omega,fun j t hj ht=>by by_cases e:j=m;(· subst e;rw [hx3] at ht;cases ht;unfold Do;omega);(· exact hno j t (by omega) ht)⟩) (by omega) (fz ⟨sr,sr,sr,sr,sr,sr,trivial⟩) (gz ⟨rfl,trivial⟩)
 refine zk 13 R<|zq R R R<|zn<|A8 (by kernel_rfl) R<|zi<|Ag (by kernel_rfl)<|zp (Al R R R (by omega) (by omega))<|zm R R<|zn<|?_
 exact Am (m+1) (⟨by omega,fun j t hj ht=>by by_cases e:j=m;(· subst e;rw [hx3] at ht;cases ht;unfold Do;omega);(· exact hno j t (by omega) ht)⟩) (by omega) (fz ⟨sr,sr,sr,sr,sr,sr,trivial⟩) (gz ⟨rfl,trivial⟩)
 have hk3b:m=(((Ak (Ak v p a).1 p b).1).tups).length:=by omega
 refine At<|zr<|zp (Ae (s':= .d (.agg (Vo.c (Ak (Ak v p a).1 p b).1))) (Ac (Ad R R Ax R lb)) (by kernel_rfl))<|zm R R<|zm R R<|XL.step R (Af (l':= [.d (.sl 13 (((Ak (Ak v p a).1 p b).1).evs.map Ev.c)), .d (.sl 4 (((Ak (Ak v p a).1 p b).1).tups.map Tp.c))]) R R R R Bu R lb (by kernel_rfl))<|za R R<|za R R<|za R R<|zn<|zt<|?_
 exact Hu R (RV.cells R R R Ax lb R) (RV.tmp R R) (RV.tmp R R) (RV.tmp R R) (by first|exact r4v ((Fg c24 c27 (by omega)).trans ((Fx c54 c65).trans (L5 hx3 (by unfold Do;omega))))|exact r4v ((Fg c24 c27 (by omega)).trans ((Fx c54 c65).trans (L4 (fun j t ht=>hno j t (by have:=(List.getElem?_eq_some_iff.1 ht).1;omega) ht)))))
 refine zk 6 R<|zq R R R<|zn<|A8 (by kernel_rfl) R<|At<|zs<|zr<|zp (Aa R R B6)<|zp (Ab R R B7 R R)<|XL.len R R R Tryz.underlying80 fun hl100=>zm R R<|zn<|Ah<|?_
 refine Az (α:=Nat) (fun m=>m≤(Ak (Ak v p a).1 p b).1.tups.length∧∀(j:Nat) t,j<m→(Ak (Ak v p a).1 p b).1.tups[j]? =some t→¬Do t (B4 (Ba (ckL (Ak (Ak v p a).1 p b).1 p.len)) a) (Fl (Ba (ckL (Ak (Ak v p a).1 p b).1 p.len)) a b)) (fun m=>mkF [(8, .ptr 8 0 0),(9, .d (dI (B4 (Ba (ckL (Ak (Ak v p a).1 p b).1 p.len)) a:Nat))),(10, .d (dI (Fl (Ba (ckL (Ak (Ak v p a).1 p b).1 p.len)) a b:Nat))),(99, .d (.sl 4 (((Ak ((Ak v p a).1) p b).1).tups.map Tp.c))),(100, .d (dI (((Ak ((Ak v p a).1) p b).1).tups).length)),(101, .d (dI m))]) (fun m=>mkH [(8, .box ((Vo.c (Ak (Ak v p a).1 p b).1).map S.d))]) (fun m=>(((Ak (Ak v p a).1 p b).1).tups).length - m) (0) (⟨Nat.zero_le _,fun j t hj=>absurd hj (Nat.not_lt_zero _)⟩) ?_ ?_ ?_
 exact fz ⟨sr,sr, .same (sI (by rw [Nb hk1a hk1b hall (by first|exact .inr ⟨x,hx,decide_eq_false c95⟩|exact .inl (by omega))])),sr,sr,sr,trivial⟩
 exact gz ⟨R,trivial⟩
 intro m hk3
 obtain ⟨hk,hno⟩:=hk3
 refine zr<|zp (Au R R R)<|zn<|zs<|?_
 refine zd R (fun c102=> ?_) (fun c102=> ?_)
 have hk3a:m<(((Ak (Ak v p a).1 p b).1).tups).length:=by omega
 obtain ⟨x3,hx3⟩:=Ar hk3a
 have hok:=hT2 x3 (List.mem_of_getElem? hx3)
 unfold Tp.ok at hok
 refine zi<|zs<|Ah<|zr<|zp (Ao R R R E3 (hx3))<|zp (Ae (s':= .d (.agg (Tp.c x3))) (Ay R R B9 lb) (by kernel_rfl))<|XL.step R (Aq 17 (l:= [.d (dI 0), .d (dI 0), .d (dI 0), .d (dI 0)]) R Dy (by kernel_rfl))<|XL.step R (Af (l':= [.d (dI x3.first), .d (dI x3.count), .d (dI x3.actual), .d (dI x3.normal)]) R R R R Fc R lb (by kernel_rfl))<|zn<|zs<|?_
 refine Bv [] (by kernel_rfl) (by kernel_rfl) (by kernel_rfl) (by decide)<|yp (Aa R R Bw)<|yp (Ab R R Ai R R)<|ym R R<|yp (Rp R R R)<|yp (Aa R R Bw)<|yp (Ab R R Ai R R)<|yp (Aa R R Dl)<|yp (Ab R R Ai R R)<|yp (Al R R R (by omega) (by omega))<|ym R R<|yp (F4 R R R)<|ya R R<|ya R R<|?_
 refine ChK.nil ⟨by kernel_rfl, ?_⟩
 refine zr<|zm R R<|zm R R<|zp (Au R R R)<|zm R R<|?_
 refine XL.dec 119 R (fun g119=> ?_) (fun g119=> ?_)
 refine zm R R<|zp (Aa R R Bw)<|zp (Ab R R Ai R R)<|zp (A1 R R R)<|zm R R<|?_
 refine XL.dec 124 R (fun g124=> ?_) (fun g124=> ?_)
 refine zk 7 R<|zq R R R<|zq R R R<|zn<|Av (by kernel_rfl) R<|zr<|zp (Ae (s':= .d (.agg [.v (.slice none 0 0), .v (.slice none 0 0)])) (Ac (A4 R C6 Bf R)) (by kernel_rfl))<|XL.step R (Af (l':= [.d (.v (.slice none 0 0)), .d (.v (.slice none 0 0))]) R R R R Bu R lb (by kernel_rfl))<|za R R<|za R R<|za R R<|zn<|zt<|?_
 exact Hu R (RV.sub (RV.cells R R R Ax lb R) (.agg (.cons (.nil 13) (.cons (.nil 4) (.nil))))) (RV.tmp R R) (RV.tmp R R) (RV.tmp R R) (by first|exact r4v ((Fg c24 c27 (by omega)).trans ((Fx c54 c65).trans (L5 hx3 (by unfold Do;omega))))|exact r4v ((Fg c24 c27 (by omega)).trans ((Fx c54 c65).trans (L4 (fun j t ht=>hno j t (by have:=(List.getElem?_eq_some_iff.1 ht).1;omega) ht)))))
 refine zm R R<|zp (Aa R R Bw)<|zp (Ab R R Ai R R)<|zp (Aa R R Dl)<|zp (Ab R R Ai R R)<|zp (Al R R R (by omega) (by omega))<|zp (A1 R R R)<|zq R R R<|zq R R R<|zn<|?_
 refine zd R (fun c133=> ?_) (fun c133=> ?_)
 refine zr<|zp (Ae (s':= .d (.agg [.v (.slice none 0 0), .v (.slice none 0 0)])) (Ac (A4 R C6 Bf R)) (by kernel_rfl))<|XL.step R (Af (l':= [.d (.v (.slice none 0 0)), .d (.v (.slice none 0 0))]) R R R R Bu R lb (by kernel_rfl))<|za R R<|za R R<|za R R<|zn<|zt<|?_
 exact Hu R (RV.sub (RV.cells R R R Ax lb R) (.agg (.cons (.nil 13) (.cons (.nil 4) (.nil))))) (RV.tmp R R) (RV.tmp R R) (RV.tmp R R) (by first|exact r4v ((Fg c24 c27 (by omega)).trans ((Fx c54 c65).trans (L5 hx3 (by unfold Do;omega))))|exact r4v ((Fg c24 c27 (by omega)).trans ((Fx c54 c65).trans (L4 (fun j t ht=>hno j t (by have:=(List.getElem?_eq_some_iff.1 ht).1;omega) ht)))))
 refine zi<|Ag (by kernel_rfl)<|zp (Al R R R (by omega) (by omega))<|zm R R<|zn<|?_
 exact Am (m+1) (⟨by omega,fun j t hj ht=>by by_cases e:j=m;(· subst e;rw [hx3] at ht;cases ht;unfold Do;omega);(· exact hno j t (by omega) ht)⟩) (by omega) (fz ⟨sr,sr,sr,sr,sr,sr,trivial⟩) (gz ⟨rfl,trivial⟩)
 refine zk 13 R<|zq R R R<|zn<|A8 (by kernel_rfl) R<|zi<|Ag (by kernel_rfl)<|zp (Al R R R (by omega) (by omega))<|zm R R<|zn<|?_
 exact Am (m+1) (⟨by omega,fun j t hj ht=>by by_cases e:j=m;(· subst e;rw [hx3] at ht;cases ht;unfold Do;omega);(· exact hno j t (by omega) ht)⟩) (by omega) (fz ⟨sr,sr,sr,sr,sr,sr,trivial⟩) (gz ⟨rfl,trivial⟩)
 have hk3b:m=(((Ak (Ak v p a).1 p b).1).tups).length:=by omega
 refine At<|zr<|zp (Ae (s':= .d (.agg (Vo.c (Ak (Ak v p a).1 p b).1))) (Ac (Ad R R Ax R lb)) (by kernel_rfl))<|zm R R<|zm R R<|XL.step R (Af (l':= [.d (.sl 13 (((Ak (Ak v p a).1 p b).1).evs.map Ev.c)), .d (.sl 4 (((Ak (Ak v p a).1 p b).1).tups.map Tp.c))]) R R R R Bu R lb (by kernel_rfl))<|za R R<|za R R<|za R R<|zn<|zt<|?_
 exact Hu R (RV.cells R R R Ax lb R) (RV.tmp R R) (RV.tmp R R) (RV.tmp R R) (by first|exact r4v ((Fg c24 c27 (by omega)).trans ((Fx c54 c65).trans (L5 hx3 (by unfold Do;omega))))|exact r4v ((Fg c24 c27 (by omega)).trans ((Fx c54 c65).trans (L4 (fun j t ht=>hno j t (by have:=(List.getElem?_eq_some_iff.1 ht).1;omega) ht)))))
end Go.Proofs.YtaafemnkamfgnaaGreat
namespace Go.Proofs.YtaafemnkamfgnaaGreat
open Go.RowKit
theorem Ao3 {v:Val} (h:Dg v=0):0<C5 v:=by
 have hv:=Wu (v:=v) (by omega)
 have hp:0<F7 v:=by
  unfold F7
  obtain ⟨k,hk⟩:∃k:Nat,(v.log+1).toNat=k:=⟨_,rfl⟩
  rw [hk]
  have:k<10:=by omega
  match k,this with
  |0,_=>decide
  |1,_=>decide
  |2,_=>decide
  |3,_=>decide
  |4,_=>decide
  |5,_=>decide
  |6,_=>decide
  |7,_=>decide
  |8,_=>decide
  |9,_=>decide
  |k+10,h=>omega
 have:∀n,F7 v≤(Fd (F7 v) n).2:=by
  intro n
  induction n with
  |zero=>exact Int.le_refl _
  |succ n ih=>have:=(Oa (Int.le_of_lt hp) n).1;simp only [Fd];omega
 have:=this v.dots.toNat
 unfold C5
 omega
theorem Arr {T:List Tp} {n w:Int} (hT:∀t∈T,t.ok) (hw:0<w) (h:D1 T n w=0):0<D9 T n w:=by
 have hb:=Wl T n hT
 unfold D1 at h
 split at h
 ·omega
 ·rename_i c
  split at h
  ·omega
  ·rename_i c2
   rw [D9,if_neg c,if_neg c2]
   have h1:0<w*(Bk T n).1:=Int.mul_pos hw (by omega)
   have h2:=Int.ediv_mul_cancel (Int.dvd_of_emod_eq_zero (Decidable.not_not.1 c2))
   refine Int.not_le.1 fun k=> ?_
   have:=Int.mul_le_mul_of_nonneg_right k (show 0≤(Bk T n).2 by omega)
   omega
theorem Agd {v:Vo} {L:Int} (h:ckE v L=0):∀x∈ckL v L,0<x:=by
 by_cases c:v.rest
 ·obtain ⟨_,hl,_⟩:=R1 c h
  have:=(len_ok (O0 h).1).2.2.1
  rw [hl];intro x hx;rw [List.mem_singleton.1 hx];omega
 ·obtain ⟨_,_,hv,_⟩:=(Ob c).1 ⟨h,rfl⟩
  have hok:∀t∈v.tups,t.ok:=fun t ht=>(hv.tl.tv.inR t ht).ok (by have:=hv.tl.wl;omega)
  intro x hx
  obtain ⟨i,hi⟩:=List.getElem?_of_mem hx
  rw [hv.tl.ls] at hi
  have hil:=(List.getElem?_eq_some_iff.1 hi).1
  rw [I2] at hil
  obtain ⟨w,hw⟩:∃w,(wrS v.evs)[i]? =some w:=Ar hil
  have hg:∀(ws:List Int) (n i:Nat) (w:Int),ws[i]? =some w→(C1 v.tups n ws)[i]? =some (D9 v.tups ((n+i:Nat):Int) w):=by
   intro ws
   induction ws with
   |nil=>intro n i w h;simp at h
   |cons a ws ih=>
    intro n i w h
    cases i with
    |zero=>cases h;rfl
    |succ i=>
     have:=ih (n+1) i w (by simpa using h)
     rw [C1,List.getElem?_cons_succ,this,show n+1+i=n+(i+1) by omega]
  have hs:=hv.tl.sc i w hw
  rw [hg _ 0 i w hw,Nat.zero_add] at hi
  cases hi
  refine Arr hok ?_ hs
  obtain ⟨e,he,rfl⟩:=List.mem_map.1 (List.mem_of_getElem? hw)
  have hee:=hv.ev e he
  rw [Ev.len_ok hee.1 hee.2]
  exact Ao3 ((err_iff.1 hee.1).2.2.2.1 hee.2)
theorem Ao9 (l:List Int) (i k:Nat) (h:i≤k):tot (l.take k)=tot (l.take i)+tot ((l.take k).drop i):=by
 have h1:tot (l.take k)=tot ((l.take k).take i++(l.take k).drop i):=by rw [List.take_append_drop]
 rw [h1,Kx,List.take_take,Nat.min_eq_left h]
theorem Alu {l:List Int} (h:∀x∈l,0<x) {j k:Nat} (hjk:j≤k):tot (l.take j)≤tot (l.take k):=by
 rw [Ao9 l j k hjk]
 have:∀l:List Int,(∀x∈l,0<x)→0≤tot l:=by
  intro l
  induction l with
  |nil=>intro _;exact Int.le_refl _
  |cons x l ih=>intro h;rw [Mv];have:=h x List.mem_cons_self;have:=ih fun y hy=>h y (List.mem_cons_of_mem _ hy);omega
 have:=this ((l.take k).drop j) fun x hx=>h x (List.mem_of_mem_take (List.mem_of_mem_drop hx))
 omega
theorem Aqw {v:Vo} {L:Int} (h:ckE v L=0) (h0:v.evs.length=0):v.tups= []:=by
 obtain ⟨ws,ls,hT⟩:=Ah7 h
 by_cases c:v.rest
 ·exact absurd c.2 (by omega)
 ·have hv:=((Ob c).1 ⟨h,rfl⟩).2.2.1
  cases ht:v.tups with
  |nil=>rfl
  |cons t l=>
   have:=hv.tl.tv.inR t (by rw [ht];exact List.mem_cons_self)
   have h2:(wrS v.evs).length=v.evs.length:=Jv _
   unfold Tp.inR at this
   omega
end Go.Proofs.YtaafemnkamfgnaaGreat
namespace Go.Proofs.YtaafemnkamfgnaaGreat
open Go.RowKit
theorem Ar4 {l:List Int} (hp:∀x∈l,0<x) {j k:Nat} {x y:Int} (hjk:j<k) (hx:(Ba l)[j]? =some x) (hy:(Ba l)[k]? =some y):x<y:=by
 have h1:=Im hx
 have h2:=Im hy
 have hjl:j<l.length:=by have:=(List.getElem?_eq_some_iff.1 hx).1;rwa [K1] at this
 obtain ⟨w,hw⟩:=Ar hjl
 have h3:=Alu hp (j:=j+1) (k:=k) (by omega)
 rw [B3 hw,O9] at h3
 have:=hp w (List.mem_of_getElem? hw)
 omega
theorem Nl {l:List Int} (hp:∀x∈l,0<x) {j:Nat} {x a:Int} (hx:(Ba l)[j]? =some x):x<a↔j<B4 (Ba l) a:=by
 have e:=(List.getElem?_eq_some_iff.1 hx).2
 constructor
 ·intro h
  rw [←Nat.not_le];intro hle
  have hjl:=(List.getElem?_eq_some_iff.1 hx).1
  have hlt:B4 (Ba l) a<(Ba l).length:=by omega
  have h1:decide (a≤(Ba l)[B4 (Ba l) a])=true:=List.findIdx_getElem (w:=hlt)
  obtain ⟨y,hy⟩:=Ar hlt
  have hy2:(Ba l)[B4 (Ba l) a]=y:=(List.getElem?_eq_some_iff.1 hy).2
  rw [hy2] at h1
  have h1:=of_decide_eq_true h1
  rcases Nat.lt_or_eq_of_le hle with k|k
  ·have:=Ar4 hp k hy hx;omega
  ·rw [k,hx] at hy;cases hy;omega
 ·intro h
  have:=List.not_of_lt_findIdx (p:=fun x=>decide (a≤x)) h
  rw [e] at this
  simpa using this
theorem U6 {l:List Int} (hp:∀x∈l,0<x) {a b:Int} (hab:a≤b):B4 (Ba l) a≤B4 (Ba l) b:=by
 rw [←Nat.not_lt];intro h
 obtain ⟨y,hy⟩:=Ar (show B4 (Ba l) b<(Ba l).length from Nat.lt_of_lt_of_le h (Lu _ _))
 have h1:=(Nl hp hy (a:=a)).2 h
 have h2:=(Nl hp hy (a:=b)).1 (by omega)
 omega
theorem Ahp {l:List Int} (hp:∀x∈l,0<x) {a b:Int} (hab:a≤b):Fl (Ba l) a b=B4 (Ba l) b:=by
 refine Nb (U6 hp hab) (Lu _ _) (fun j x h1 h2 hx=> ?_) ?_
 ·have h3:=(Nl hp hx (a:=b)).2 h2
  have h4:¬x<a:=fun h=>by have:=(Nl hp hx (a:=a)).1 h;omega
  exact decide_eq_true ⟨by omega,h3⟩
 ·by_cases c:B4 (Ba l) b=(Ba l).length
  ·exact .inl c
  ·obtain ⟨y,hy⟩:=Ar (show B4 (Ba l) b<(Ba l).length by have:=Lu (Ba l) b;omega)
   refine .inr ⟨y,hy,decide_eq_false fun h=> ?_⟩
   have:=(Nl hp hy (a:=b)).1 h.2;omega
theorem Af9 {v:Vo} {p:Pl} {t:Int} (hc:p.chk v=0) (hn:v.evs≠ []) (h:(Ak v p t).2=0):(Ak v p t).1.evs≠ []:=by
 obtain ⟨hme,hpb,hck⟩:=He hc
 rcases Anv hc t with h|⟨h',_⟩|⟨k,a,w,x,hk,hw,ha,hat,hat2,hne,hd,h1,h2,hl,he⟩
 ·rw [h];exact hn
 ·exact absurd h h'
 ·rw [he]
  intro e
  have e2:v.evs.take k++E4 p t a w x++v.evs.drop (k+1)= []:=e
  have e3:E4 p t a w x= []:=by
   have:=List.append_eq_nil_iff.1 e2
   exact (List.append_eq_nil_iff.1 this.1).2
  have hxe:=(R2 hck).1 x (List.mem_of_getElem? hk)
  obtain ⟨_,q⟩:=Aga hxe h1 h2 (by rw [e3];exact Nat.zero_le _)
  have:=Agd hck w (List.mem_of_getElem? hw)
  rw [e3] at q
  have q2:(0:Int)=w:=q
  omega
structure RegOk (v:Vo) (p:Pl) (a b:Int) (d:Vo) (f l:Nat):Prop where
 hc:p.chk v=0
 ne:v.evs≠ []
 d2:d=(Ak (Ak v p a).1 p b).1
 e1:(Ak v p a).2=0
 e2:(Ak (Ak v p a).1 p b).2=0
 c1:p.chk (Ak v p a).1=0
 n1:(Ak v p a).1.evs≠ []
 chk:p.chk d=0
 dne:d.evs≠ []
 fit:v.fit→d.fit
 fl:f≤l
 ll:l≤d.evs.length
 fe:f=B4 (Ba (ckL d p.len)) a
 le:l=B4 (Ba (ckL d p.len)) b
 no:∀t∈d.tups,¬Do t f l
 rng:0≤a∧a≤b∧b≤p.len
theorem Aq5 {v:Vo} {p:Pl} (hc:p.chk v=0) (h:¬v.absent):v.evs≠ []:=fun e=>h ⟨by rw [e];rfl,by rw [Aqw (He hc).2.2 (by rw [e];rfl)];rfl⟩
theorem Tg (v:Vo) (p:Pl) (a b:Int):∃(d:Vo) (f l:Nat) (e:Int),Gi v p a b=(d,(f:Int),(l:Int),e)∧(e=0→RegOk v p a b d f l):=by
 by_cases c1:p.chk v≠0
 ·exact ⟨_,0,0,_,Arw c1,fun h=>absurd h c1⟩
 by_cases c2:v.absent
 ·exact ⟨_,0,0,_,Arv c1 c2,fun h=>by cases h⟩
 by_cases c3:a<0∨b<a∨p.len<b
 ·exact ⟨_,0,0,_,Ag1 c1 c2 c3,fun h=>by cases h⟩
 rw [Fg c1 c2 c3]
 by_cases c4:(Ak v p a).2≠0
 ·exact ⟨_,0,0,_,Aru c4,fun h=>absurd h c4⟩
 by_cases c5:(Ak (Ak v p a).1 p b).2≠0
 ·exact ⟨_,0,0,_,Art c4 c5,fun h=>absurd h c5⟩
 rw [Fx c4 c5]
 have hc0:p.chk v=0:=by omega
 have hn0:=Aq5 hc0 c2
 have hc1:=Px (t:=a) hc0 (by omega)
 have hn1:=Af9 (t:=a) hc0 hn0 (by omega)
 have hc2:=Px (t:=b) hc1 (by omega)
 have hn2:=Af9 (t:=b) hc1 hn1 (by omega)
 obtain ⟨d,hd⟩:∃d,d=(Ak (Ak v p a).1 p b).1:=⟨_,rfl⟩
 rw [←hd] at hc2 hn2 ⊢
 have hp:=Agd (He hc2).2.2
 have hl:=Ahp hp (show a≤b by omega)
 by_cases c6:∃t∈d.tups,Do t (B4 (Ba (ckL d p.len)) a) (Fl (Ba (ckL d p.len)) a b)
 ·exact ⟨_,0,0,_,by rw [Qj,if_pos c6];rfl,fun h=>by cases h⟩
 ·refine ⟨d,B4 (Ba (ckL d p.len)) a,Fl (Ba (ckL d p.len)) a b,0,by rw [Qj,if_neg c6],fun _=> ?_⟩
  exact ⟨hc0, hn0, hd, by omega, by omega, hc1, hn1, hc2, hn2, fun hF => by rw [hd]; exact Pw hc1 (Pw hc0 hF (by omega)) (by omega), by rw [hl]; exact U6 hp (by omega),
   by have := Zw (Ba (ckL d p.len)) a b; rw [K1, V0 (He hc2).2.2] at this; exact this.2, rfl, hl, fun t ht hs => c6 ⟨t, ht, hs⟩, by omega⟩
theorem Arx {v:Vo} {p:Pl} {a b:Int} {d:Vo} {f l:Nat} {e:Int} (hE:Evs v.evs) (hF:v.fit) (h:Gi v p a b=(d,(f:Int),(l:Int),e)):XC Tryz.prog 101 [.agg (Vo.c v), .agg (Pl.c p),dI a,dI b] (fun r=>r= .tup [.agg (Vo.c d),dI (f:Nat),dI (l:Nat),dI e]):=by
 have:=Ajc v p a b hE hF
 rw [h] at this
 exact this
def Vz (d:Vo) (f l:Nat):Vo:=⟨(d.evs.take l).drop f,Cn (fun t=>decide ((f:Int)≤t.first∧t.first<l)) (-f) d.tups⟩
def Eq (v:Vo) (p:Pl) (a b:Int):Vo × Int:=if (Gi v p a b).2.2.2≠0 then (⟨[], []⟩,(Gi v p a b).2.2.2) else (Vz (Gi v p a b).1 (Gi v p a b).2.1.toNat (Gi v p a b).2.2.1.toNat,0)
theorem As6 {v:Vo} {p:Pl} {a b:Int} {d:Vo} {f l:Nat} {e:Int} (h:Gi v p a b=(d,(f:Int),(l:Int),e)) (he:e≠0):Eq v p a b=(⟨[], []⟩,e):=by rw [Eq,h,if_pos he]
theorem Anx {v:Vo} {p:Pl} {a b:Int} {d:Vo} {f l:Nat} {e:Int} (h:Gi v p a b=(d,(f:Int),(l:Int),e)) (he:¬e≠0):Eq v p a b=(Vz d f l,0):=by rw [Eq,h,if_neg he];rfl
theorem Aam {d:Vo} {f l:Nat} (h:d.fit):(Vz d f l).fit:=by
 refine ⟨?_, ?_,fun e he=>h.ev e (List.mem_of_mem_take (List.mem_of_mem_drop he))⟩
 ·show ((d.evs.take l).drop f).length≤1000
  rw [List.length_drop,List.length_take];have:=h.evs;omega
 ·exact Nat.le_trans (Io _ _ _) h.tups
theorem Ak7 (v:Vo) (p:Pl) (a b:Int) (hE:Evs v.evs) (hF:v.fit):XC Tryz.prog 69 [.agg (Vo.c v), .agg (Pl.c p), .v (.int .i64 a), .v (.int .i64 b)] (fun r=>r= .tup [.agg (Vo.c (Eq v p a b).1),dI (Eq v p a b).2]):=by
 obtain ⟨d,f,l,e,hreg,hok⟩:=Tg v p a b
 refine An Aed Tryz.func69 R R lb<|zr<|XL.step R (Ap 4 (l:= [.d (.sl 13 (v.evs.map Ev.c)), .d (.sl 4 (v.tups.map Tp.c))]) R R (by kernel_rfl))<|XL.step R (Ap 5 (l:= [.d (dI p.m.count), .d (dI p.m.unit), .d (dI p.m.g0), .d (dI p.m.g1), .d (dI p.m.g2), .d (dI p.m.g3), .d (dI p.m.g4), .d (dI p.m.g5), .d (dI p.off), .d (dI p.len)]) R R (by kernel_rfl))<|?_
 refine XL.step R (Aq 8 (l:= [.d (.v (.slice none 0 0)), .d (.v (.slice none 0 0))]) R Bf (by kernel_rfl))<|za R R<|znr<|zp (Ae (s':= .d (.agg (Vo.c v))) (Ac (Ad R R Ax R lb)) (by kernel_rfl))<|zp (Ae (s':= .d (.agg (Pl.c p))) (Ac (Ad R R Gx R lb)) (by kernel_rfl))<|zm R R<|zm R R<|XL.call1 R R (Arx hE hF hreg) R<|zm R R<|?_
 refine zp (A0 R R R)<|zp (A0 R R R)<|zp (A0 R R R)<|zp (A0 R R R)<|XL.step R (Aq 10 (l:= [.d (.v (.slice none 0 0)), .d (.v (.slice none 0 0))]) R Bf (by kernel_rfl))<|XL.step R (Aq 11 (l:= [.d (dI 0)]) R H0 (by kernel_rfl))<|XL.step R (Aq 12 (l:= [.d (dI 0)]) R H0 (by kernel_rfl))<|?_
 refine XL.step R (Af (l':= [.d (.sl 13 (d.evs.map Ev.c)), .d (.sl 4 (d.tups.map Tp.c))]) R R R R Bu R lb (by kernel_rfl))<|XL.step R (Af (l':= [.d (dI (f:Nat))]) R R R R Ey R lb (by kernel_rfl))<|XL.step R (Af (l':= [.d (dI (l:Nat))]) R R R R Ey R lb (by kernel_rfl))<|za R R<|zn<|zs<|zr<|zm R R<|zp (A1 R R R)<|zn<|?_
 refine zd R (fun c26=> ?_) (fun c26=> ?_)
 refine zr<|zp (Ae (s':= .d (.agg [.v (.slice none 0 0), .v (.slice none 0 0)])) (Ac (A4 R C6 Bf R)) (by kernel_rfl))<|zm R R<|XL.step R (Af (l':= [.d (.v (.slice none 0 0)), .d (.v (.slice none 0 0))]) R R R R Bu R lb (by kernel_rfl))<|za R R<|zn<|zt<|?_
 exact A6 R (RV.sub (RV.cells R R R Ax lb R) (.agg (.cons (.nil 13) (.cons (.nil 4) (.nil))))) (RV.tmp R R) (r2v (As6 hreg c26))
 refine zi<|zs<|?_
 have hO:=hok (by omega)
 have hFd:=hO.fit hF
 obtain ⟨hsd,hdl⟩:=U9 (He hO.chk).2.2
 have hfl:=hO.fl
 have hll:=hO.ll
 have hdt:=hsd.tups
 have hcf:=Aam (f:=f) (l:=l) hFd
 refine Ag (by kernel_rfl)<|zp (Aa R R Bo)<|zp (Ab R R Cz R R)<|zp (Ab R R Ai R R)<|zp (Ab R R Ai R R)<|zp (Je R R F5 (Bd.at R) (Bd.at R) (by omega) (by omega))<|zp (Ae (s':= .d (.agg [.sl 13 (((d.evs.take (l:Nat)).drop (f:Nat)).map Ev.c), .v (.slice none 0 0)])) (Ac (A4 R C6 Bf R)) (by kernel_rfl))<|?_
 refine XL.step R (Aq 14 (l:= [.d (.v (.slice none 0 0)), .d (.v (.slice none 0 0))]) R Bf (by kernel_rfl))<|XL.step R (Af (l':= [.d (.sl 13 (((d.evs.take (l:Nat)).drop (f:Nat)).map Ev.c)), .d (.v (.slice none 0 0))]) R R R R Bu R lb (by kernel_rfl))<|znr<|XL.freezeP 11 (ds:= [dI (f:Nat)]) R (by kernel_rfl) (by kernel_rfl)<|?_
 refine XL.freezeP 12 (ds:= [dI (l:Nat)]) R (by kernel_rfl) (by kernel_rfl)<|zp (Aa R R B6)<|zp (Ab R R B7 R R)<|zp (Ph (pd:= []) (cd:= [_,_]) R R R)<|zp (Bg R R Ai)<|zp (Atm R R (by omega) (by omega))<|?_
 refine XL.call1 R R (Pn d.tups 103 [.pt [dI (f:Nat)], .pt [dI (l:Nat)]] (fun t=>decide (((f:Nat):Int)≤t.first∧t.first<((l:Nat):Int))) (-(f:Nat)) (fun t _=>Aqu t f l) (by omega) (fun t ht _=>by have:=hsd.bd t ht;omega)) rfl<|zp (Aa R R B6)<|?_
 refine XL.step R (Af (l':= [.d (.sl 13 (((d.evs.take (l:Nat)).drop (f:Nat)).map Ev.c)), .d (.sl 4 ((Cn (fun t=>decide (((f:Nat):Int)≤t.first∧t.first<((l:Nat):Int))) (-(f:Nat)) d.tups).map Tp.c))]) R R R R Ge R lb (by kernel_rfl))<|znr<|zp (Ae (s':= .d (.agg (Vo.c (Vz d f l)))) (Ac (Ad R R Ax R lb)) (by kernel_rfl))<|?_
 refine XL.call1 R R (Lg _ (by assumption)) R<|XL.step R (Af (l':= [.d (.sl 13 ((Vz d f l).evs.map Ev.c)), .d (.sl 4 ((Vz d f l).tups.map Tp.c))]) R R R R Bu R lb (by kernel_rfl))<|za R R<|zn<|zt<|?_
 exact A6 R (RV.cells R R R Ax lb R) (RV.tmp R R) (r2v (Anx hreg c26))
end Go.Proofs.YtaafemnkamfgnaaGreat
