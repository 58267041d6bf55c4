import Derived.Test.YthpmjipkofbeiaaGreatDoorTLvl
import Derived.Test.YthpmjipkofbeiaaGreatDoorTUna
import Derived.Test.YthpmjipkofbeiaaGreatDoorTFtt
import Derived.Test.YthpmjipkofbeiaaGreatDoorTFwl
import Derived.Test.YthpmjipkofbeiaaGreatDoorTPri
import Derived.Test.YthpmjipkofbeiaaGreatDoorAbD
import Derived.Tactics
import Derived.Tactics2
import Derived.Defers
import Derived.Recover
import Derived.Laws.Pointers
import Derived.Test.YthpmjipkofbeiaaGreatDoorTFlq
import Derived.Test.YthpmjipkofbeiaaGreatDoorPrj
import Derived.Test.YthpmjipkofbeiaaGreatDoorCpr
import Derived.Test.YthpmjipkofbeiaaGreatDoorTRkp
import Derived.Test.YthpmjipkofbeiaaGreatDoorTSqyRow
import Derived.Deep.DeepHandedRow
import Derived.Deep.DeepWitnessRowRef
set_option linter.all false
namespace Go.Proofs.Tryz
open Go.Ab
set_option maxRecDepth 100000
set_option maxHeartbeats 4000000
theorem sgB_sop:∀ n:Nat,n<24→sgB n=if isSop n=true then some ((sopOf n).1,(sopOf n).2.1.toNat,(sopOf n).2.2.1.toNat,(sopOf n).2.2.2.toNat) else none:=by decide
theorem sop_nat:∀ n:Nat,n<24→0≤(sopOf n).2.1∧0≤(sopOf n).2.2.1∧0≤(sopOf n).2.2.2∧(sopOf n).2.1≤7∧(sopOf n).2.2.1≤7∧(sopOf n).2.2.2≤7:=by decide
theorem isSop_lt {o:Int} (h:isSop o=true):∃ n:Nat,o=n∧n<24:=by
 unfold isSop at h
 simp only [Bool.and_eq_true,decide_eq_true_eq] at h
 exact ⟨o.toNat,by omega,by omega⟩
theorem sgB_none {o:Int} (h:isSop o=false):sgB o=none:=by
 by_cases h1:0≤o∧o<24
 ·obtain ⟨n,rfl⟩:∃ n:Nat,o=n:=⟨o.toNat,by omega⟩
  rw [sgB_sop n (by omega),h]
  rfl
 ·unfold sgB
  repeat' split
  all_goals first | omega | rfl
theorem p_rank (x:Tm):Cf Es 86 [x.a] [] (.d (.int .i64 (rkT x))) []:=by
 refine cf_intro mixs (fn:=Tryz.f86) (by kernel_rfl) rfl (by kernel_rfl) (by decide) (by simp) ?_
 obtain ⟨o,y,n,t,q,ks⟩:=x
 have ho:=s_operatorOf o
 rw [rkT,rkO]
 cases hs:isSop o with
 | true =>
   rw [hs] at ho
   obtain ⟨k,rfl,hk⟩:=isSop_lt hs
   rw [sgB_sop k hk,if_pos hs]
   have hn:=(sop_nat k hk).1
   simp only
   rw [Int.toNat_of_nonneg hn]
   generalize sopOf k=z at *
   simp [Tm.a,Tm.c,tmsC_map]
   (repeat refine ⟨.of (by kernel_rfl),?_⟩)
   refine acallT_plain ho (by simp) ?_
   simp [sopA]
   all_goals exact gz
 | false =>
   rw [hs] at ho
   rw [sgB_none hs]
   simp only
   simp [Tm.a,Tm.c,tmsC_map]
   (repeat refine ⟨.of (by kernel_rfl),?_⟩)
   refine acallT_plain ho (by simp) ?_
   simp [sopA,zsop]
   (repeat' (first|contradiction|exact .ok|apply And.intro|intro _|(refine gc (fun h=>?_) (fun h=>?_)<;>(have h':=h;(try simp at h');first|done|simp[h,h']|simp))))
   all_goals (first | (simp_all; done) | (simp_all; omega) | (simp_all; split <;> omega))
theorem p_place (x:Tm) (want:Nat) (hw:want≤7) (hl:(wr x).length≤1099511627776) (h:Cf Es 23 [x.a] [] (.d (.str (wr x))) []) :
  Cf Es 49 [x.a,.d (.int .i64 want)] [] (.d (.str (plB want (rkT x) (wr x)))) []:=by
 refine cf_intro mixs (fn:=Tryz.f49) (by kernel_rfl) rfl (by kernel_rfl) (by decide) (by simp) ?_
 have hr:=p_rank x
 have c1:=x.clen
 have k1:=x.ctake
 unfold plB
 generalize wr x=W at *
 have l1:1+W.length≤9223372036854775807:=by omega
 have l2:1+W.length+1≤9223372036854775807:=by omega
 have l3:W.length+1≤9223372036854775807:=by omega
 have l4:W.length+1+1≤9223372036854775807:=by omega
 simp [Tm.a,c1,k1]
 (repeat refine ⟨.of (by kernel_rfl),?_⟩)
 refine acallT_plain hr (by simp [Tm.a]) ?_
 by_cases hlt:rkT x<want
 ·have hlt':(rkT x:Int)<want:=by omega
  simp [hlt,hlt',c1,k1]
  (repeat' (first|contradiction|exact .ok|apply And.intro|intro _|(refine gc (fun h=>?_) (fun h=>?_)<;>(have h':=h;(try simp at h');first|done|simp[h,h',hlt,hlt',c1,k1]|simp[hlt,hlt',c1,k1]))))
  refine acallT_plain h (by simp [Tm.a]) ?_
  simp [l1,l2,l3,l4]
  (repeat' (first|contradiction|exact .ok|apply And.intro|intro _|(refine gc (fun h=>?_) (fun h=>?_)<;>(have h':=h;(try simp at h');first|done|simp[h,h',l1,l2,l3,l4]|simp[l1,l2,l3,l4]))))
  all_goals (first | omega | skip)
 ·have hlt':¬ (rkT x:Int)<want:=by omega
  simp [hlt,hlt',c1,k1]
  (repeat' (first|contradiction|exact .ok|apply And.intro|intro _|(refine gc (fun h=>?_) (fun h=>?_)<;>(have h':=h;(try simp at h');first|done|simp[h,h',hlt,hlt',c1,k1]|simp[hlt,hlt',c1,k1]))))
  refine acallT_plain h (by simp [Tm.a]) ?_
  simp
  all_goals exact gz
def wbT:Nat→Nat
 | 0=>300
 | d+1=>300+4*wbT d
theorem leafT_wgt (L:List Int) (i:Nat):(leafT L i).1.wgt≤300:=by
 have h3:∀ x∈valuesOf 3,x.t.length≤100:=by decide
 have hv:=h3 _ (valW_mem L (i+1) 3 (by decide))
 have hn:=nmT_len
 have hq:=qlT_len
 unfold leafT
 repeat' split
 all_goals (simp only [Tm.wgt,tmsWgt,List.length_nil]; try omega)
 ·have:=hn (nextV L (i+1) 5); have:=hq (nextV L (i+2) 2); omega
 ·have:=hn (nextV L (i+1) 5); omega
theorem tmsWgt_app:∀ (a b:List Tm),tmsWgt (a++b)=tmsWgt a+tmsWgt b
 | [],b=>by rw [List.nil_append,tmsWgt]; omega
 | x::a,b=>by rw [List.cons_append,tmsWgt,tmsWgt,tmsWgt_app a b]; omega
theorem kidsT_wgt (g:Nat→Tm×Nat) (K:Nat) (h:∀ j,(g j).1.wgt≤K):∀ (n s:Nat),tmsWgt (kidsT g n s).1≤n*K
 | 0,s=>by simp [kidsT,tmsWgt]
 | n+1,s=>by
   have h1:=kidsT_wgt g K h n s
   have h2:=h (kidsT g n s).2
   rw [kidsT,tmsWgt_app,Nat.succ_mul]
   simp only [tmsWgt]
   omega
theorem termG_wgt (L:List Int):∀ (d i:Nat),(termG L d i).1.wgt≤wbT d
 | 0,i=>leafT_wgt L i
 | d+1,i=>by
   have hl:=leafT_wgt L i
   have hl1:=leafT_wgt L (i+1)
   have k:∀ (op:Int) (n s:Nat),n≤4→(ndT (termG L d) op n s).1.wgt≤wbT (d+1):=fun op n s hn=>by
    have h1:=kidsT_wgt (termG L d) (wbT d) (fun j=>termG_wgt L d j) n s
    have h2:n*wbT d≤4*wbT d:=Nat.mul_le_mul_right _ hn
    simp only [ndT,Tm.wgt,wbT,List.length_nil]
    omega
   have h3:=nextV_in L (i+1+2) (n:=3) (by omega)
   have hw:wbT (d+1)=300+4*wbT d:=rfl
   rw [termG]
   split
   ·omega
   split
   ·omega
   unfold nodeT
   split
   ·split
    ·simp only [Tm.wgt,tmsWgt,List.length_nil]; omega
    ·have:=termG_wgt L d (i+1+2)
     simp only [Tm.wgt,tmsWgt,List.length_nil]; omega
   split
   ·exact k _ 1 _ (by omega)
   split
   ·exact k _ 3 _ (by omega)
   split
   ·exact k _ _ _ (by omega)
   ·exact k _ 2 _ (by omega)
end Go.Proofs.Tryz
namespace Go.Proofs.Tryz
open Go.RowKit
set_option maxRecDepth 100000
set_option maxHeartbeats 4000000
theorem catch_idle (p q:Addr) (w:World) :
  CallsD Tryz.prog 59 #[.pointer (some p),.pointer (some q)] .returning w fun e u' w'=>e=.returned (.tuple #[])∧u'=.returning∧w'=w:=by
 refine callsD_of_wpS Tryz.func59 rfl fun c₀ cs hu=>?_
 simp only [Tryz.ntmps59,List.size_toArray,List.length_cons,List.length_nil,Nat.reduceAdd,Nat.reduceSub,Array.replicate_succ,Array.replicate_zero,List.push_toArray,List.append_toArray,List.nil_append,List.cons_append]
 apply wpS_seq
 apply wpS_region
 simp [wpOpsS,go_sem,recoverD,hu,Exit.thenS]
 apply wpS_seq
 apply wpS_region
 simp [wpOpsS,go_sem,Exit.thenS]
 refine wpS_cond (t:=false) (by simp [Act.eval]) ?_
 simp only [Bool.false_eq_true,if_false]
 refine wpS_of_wp (wp_skip ?_)
 cases c₀
 simp_all [bodyPostS,results,Tryz.results59]
theorem catch_pan (p q:Addr) (n x y:Int) (older:List PanicEntry) (w:World) (hp:w.cell? p=some (.int .i64 x)) (hq:w.cell? q=some (.int .i64 y)) (zp:w.frozen? p=false) (zq:w.frozen? q=false) (hq2:(w.setCell p (.int .i64 n)).cell? q=some (.int .i64 y)) (zq2:(w.setCell p (.int .i64 n)).frozen? q=false) :
  CallsD Tryz.prog 59 #[.pointer (some p),.pointer (some q)] (.panicking ({ v:=.iface 97 (.agg #[.int .i64 n]),recovered:=false }::older)) w fun e u' w' =>
   e=.returned (.tuple #[])∧u'=.panicking ({ v:=.iface 97 (.agg #[.int .i64 n]),recovered:=true }::older)∧w'=(w.setCell p (.int .i64 n)).setCell q (.int .i64 2):=by
 refine callsD_of_wpS Tryz.func59 rfl fun c₀ cs hu=>?_
 simp only [Tryz.ntmps59,List.size_toArray,List.length_cons,List.length_nil,Nat.reduceAdd,Nat.reduceSub,Array.replicate_succ,Array.replicate_zero,List.push_toArray,List.append_toArray,List.nil_append,List.cons_append]
 apply wpS_seq
 apply wpS_region
 simp [wpOpsS,go_sem,recoverD,hu,Exit.thenS]
 apply wpS_seq
 apply wpS_region
 simp [wpOpsS,go_sem,Exit.thenS]
 refine wpS_cond (t:=true) (by simp [Act.eval]) ?_
 simp only [if_true]
 apply wpS_region
 have hta:∀ w':World,(Instr.typeAssert (.iface 97 (.agg #[.int .i64 n])) 20 97 false).run Tryz.prog w'=.ok (.agg #[.int .i64 n]) w':=fun w'=>by kernel_rfl
 have hfd:∀ w':World,(Instr.field 97 (.agg #[.int .i64 n]) 0).run Tryz.prog w'=.ok (.int .i64 n) w':=fun w'=>by kernel_rfl
 simp [wpOpsS,go_sem,hp,hq,zp,zq,hta,hfd,hq2,zq2,bodyPostS,results,Tryz.results59]
end Go.Proofs.Tryz
namespace Go.Proofs.Tryz
open Go.Ab Go.RowKit
set_option maxRecDepth 100000
set_option maxHeartbeats 4000000
def P4 (w:World):Addr:=⟨w.heap.size,0,none⟩
def P5 (w:World):Addr:=⟨w.heap.size+1,0,none⟩
def W1 (w:World):World:=(w.alloc (.cells #[.int .i64 0] 3)).alloc (.cells #[.int .i64 0] 32)
def dcl (w:World):Deferred:={ target:=.fn (.func 59) #[.pointer (some (P4 w)),.pointer (some (P5 w))],args:=#[] }
theorem W1_heap (w:World):(W1 w).heap=(w.heap.push (.cells #[.int .i64 0] 3)).push (.cells #[.int .i64 0] 32):=rfl
theorem W1_size (w:World):(W1 w).heap.size=w.heap.size+2:=by rw [W1_heap,Array.size_push,Array.size_push]
theorem W1_old (w:World) (k:Nat) (h:k<w.heap.size):(W1 w).heap[k]?=w.heap[k]?:=by
 rw [W1_heap,Array.getElem?_push,if_neg (by rw [Array.size_push]; omega),Array.getElem?_push,if_neg (by omega)]
theorem W1_4 (w:World):(W1 w).heap[w.heap.size]?=some (.cells #[.int .i64 0] 3):=by
 rw [W1_heap,Array.getElem?_push,if_neg (by rw [Array.size_push]; omega),Array.getElem?_push,if_pos rfl]
theorem W1_5 (w:World):(W1 w).heap[w.heap.size+1]?=some (.cells #[.int .i64 0] 32):=by
 rw [W1_heap,Array.getElem?_push,if_pos (by rw [Array.size_push])]
noncomputable def C1 (w:World) (h:Gh) (X:Blk):Ctx:={ ctxOf Es (W1 w) h [X] with dfr:=[dcl w] }
structure RdEnd (w w':World) (pos e:Int):Prop where
 c4:w'.cell? (P4 w)=some (.int .i64 0)
 c5:w'.cell? (P5 w)=some (.int .i64 0)
 f4:w'.frozen? (P4 w)=false
 f5:w'.frozen? (P5 w)=false
 c5':(w'.setCell (P4 w) (.int .i64 pos)).cell? (P5 w)=some (.int .i64 0)
 f5':(w'.setCell (P4 w) (.int .i64 pos)).frozen? (P5 w)=false
 e4:((w'.setCell (P4 w) (.int .i64 pos)).setCell (P5 w) (.int .i64 e)).cell? (P4 w)=some (.int .i64 pos)
 e5:((w'.setCell (P4 w) (.int .i64 pos)).setCell (P5 w) (.int .i64 e)).cell? (P5 w)=some (.int .i64 e)
theorem read_end {w w':World} {h h':Gh} {X:Blk} {bl:Nat→Blk} (hX:X.live=true) (m:Mem (ctxOf Es w h [X]) (blkOf [X]) w h) (m':Mem (C1 w h X) bl w' h') (pos e:Int) :
  RdEnd w w' pos e∧Mem (ctxOf Es w h [X]) bl ((w'.setCell (P4 w) (.int .i64 pos)).setCell (P5 w) (.int .i64 e)) h':=by
 have hb:∀ b,b∈baseOf h [X]→b<w.heap.size:=fun b hb=>by
  obtain ⟨j,l,hj,hl,hn,rfl⟩:=mem_baseOf.1 hb
  obtain rfl:j=0:=by simpa using hj
  have e:blkOf [X] (firstName+0)=X:=by simp [blkOf]
  obtain ⟨o,_,ho⟩:=live_heap (m.blks (firstName+0)) (by rw [e]; exact hX) hl hn
  exact heap_lt ho
 have h4:w'.heap[w.heap.size]?=some (.cells #[.int .i64 0] 3):=(m'.frame _ (by show _<(W1 w).heap.size; rw [W1_size]; omega) (fun hm=>absurd (hb _ hm) (by omega))).trans (W1_4 w)
 have h5:w'.heap[w.heap.size+1]?=some (.cells #[.int .i64 0] 32):=(m'.frame _ (by show _<(W1 w).heap.size; rw [W1_size]; omega) (fun hm=>absurd (hb _ hm) (by omega))).trans (W1_5 w)
 have hs4:∀ v:Value,(w'.setCell (P4 w) v).heap[w.heap.size]?=some (.cells #[v] 3):=fun v=>by
  simp [World.setCell,P4,Array.getElem?_modify,h4]
 have hs5:∀ v:Value,(w'.setCell (P4 w) v).heap[w.heap.size+1]?=some (.cells #[.int .i64 0] 32):=fun v=>by
  simp [World.setCell,P4,Array.getElem?_modify,h5]
 have ht4:∀ v u:Value,((w'.setCell (P4 w) v).setCell (P5 w) u).heap[w.heap.size]?=some (.cells #[v] 3):=fun v u=>by
  have:=hs4 v
  generalize w'.setCell (P4 w) v=w3 at *
  simp [World.setCell,P5,Array.getElem?_modify,this]
 have ht5:∀ v u:Value,((w'.setCell (P4 w) v).setCell (P5 w) u).heap[w.heap.size+1]?=some (.cells #[u] 32):=fun v u=>by
  have:=hs5 v
  generalize w'.setCell (P4 w) v=w3 at *
  simp [World.setCell,P5,Array.getElem?_modify,this]
 refine ⟨⟨?_,?_,?_,?_,?_,?_,?_,?_⟩,?_⟩
 ·simp [World.cell?,P4,h4]
 ·simp [World.cell?,P5,h5]
 ·simp [World.frozen?,P4,h4]
 ·simp [World.frozen?,P5,h5]
 ·have:=hs5 (.int .i64 pos)
  generalize w'.setCell (P4 w) (.int .i64 pos)=w3 at *
  simp [World.cell?,P5,this]
 ·have:=hs5 (.int .i64 pos)
  generalize w'.setCell (P4 w) (.int .i64 pos)=w3 at *
  simp [World.frozen?,P5,this]
 ·have:=ht4 (.int .i64 pos) (.int .i64 e)
  generalize (w'.setCell (P4 w) (.int .i64 pos)).setCell (P5 w) (.int .i64 e)=w3 at *
  simp [World.cell?,P4,this]
 ·have:=ht5 (.int .i64 pos) (.int .i64 e)
  generalize (w'.setCell (P4 w) (.int .i64 pos)).setCell (P5 w) (.int .i64 e)=w3 at *
  simp [World.cell?,P5,this]
 ·refine Mem.unshift (w1:=W1 w) (w':=w') (dfr:=[dcl w]) (by simpa using hX) m (by rw [W1_size]; omega) (W1_old w) m' (fun k hk=>?_) (by simp [World.setCell]) ⟨rfl,rfl,rfl⟩ ⟨rfl,rfl,rfl⟩
  rw [W1_size] at hk
  simp only [World.setCell,P4,P5,Array.getElem?_modify]
  rw [if_neg (by omega),if_neg (by omega)]
theorem read_inv {s:List UInt8} {w:World} {h:Gh} {X:Blk} {f:FuncId} {vr:Value} (hX:X.live=true) (m:Mem (ctxOf Es w h [X]) (blkOf [X]) w h) (hr:RepA h vr (.clo f [.ptr 1000000 0 0])) {tm:Array Value} (hsz:tm.size=32)
  (t0:tm.getD 0 undef=.string ⟨s.toArray⟩) (t1:tm.getD 1 undef=vr) (t4:tm.getD 4 undef=.pointer (some (P4 w))) (t5:tm.getD 5 undef=.pointer (some (P5 w))) :
  Inv (C1 w h X) 32 1 { s:=mkS [(0,.d (.str s)),(1,.clo f [.ptr 1000000 0 0]),(4,.d (.val (.pointer (some (P4 w))))),(5,.d (.val (.pointer (some (P5 w)))))],b:=blkOf [X] } { tmps:=tm,defers:=[dcl w] } (W1 w):=by
 refine ⟨fun n l hn hl=>?_,rfl,hsz,h,fun i=>?_,m.shift (by rw [W1_size]; omega) (W1_old w) [dcl w]⟩
 ·rcases Nat.lt_or_ge n (firstName+1) with c | c
  ·exact c
  ·have hm:=m.blks n
   have e:blkOf [X] n=.free:=by
    unfold blkOf
    rw [if_pos hn,List.getElem?_eq_none (by rw [List.length_singleton]; omega)]
    rfl
   rw [e] at hm
   simp only [RepB] at hm
   have hl':h.L n=some l:=hl
   rw [hm] at hl'
   cases hl'
 ·simp only [mkS,upds,upd]
  split
  ·rename_i e; subst e; simp only [RepA,RepD]; exact ⟨t5,rfl⟩
  ·split
   ·rename_i e; subst e; simp only [RepA,RepD]; exact ⟨t4,rfl⟩
   ·split
    ·rename_i e; subst e; rw [t1]; exact hr
    ·split
     ·rename_i e; subst e; simp only [RepA,RepD]; exact t0
     ·simp only [RepA]
theorem read_in {w:World} {h:Gh} {X:Blk} (hX:X.live=true) (m:Mem (ctxOf Es w h [X]) (blkOf [X]) w h):∀ j,j<1→∃ l,(C1 w h X).h0.L (firstName+j)=some l:=fun j hj=>by
 obtain rfl:j=0:=by omega
 have e:blkOf [X] (firstName+0)=X:=by simp [blkOf]
 exact live_loc (m.blks (firstName+0)) (by rw [e]; exact hX)
end Go.Proofs.Tryz
namespace Go.Proofs.Tryz
open Go.Ab
set_option maxRecDepth 100000
set_option maxHeartbeats 4000000
def fnL:Nat→FuncId
 | 0=>31
 | 1=>64
 | 2=>101
 | 3=>143
 | 4=>178
 | 5=>195
 | 6=>205
 | _=>213
theorem prim_num {n:Nat} {T l:List Tk} (ha:At T l) (hn:isNum l=true):parP (n+1) 7 l=.ok (.mk 2 0 (hdT l).n [] [] [],l.tail):=by
 cases l with
 | nil=>exact absurd rfl ha.ne
 | cons t r =>
   have hk:t.kd=2:=by simp [isNum] at hn; exact hn.1
   show (if t.kd=2 then _ else _)=_
   rw [if_pos hk]
   rfl
theorem p_par {fD:Nat→D} (hF:FailOk fD) {T:List Tk} (hV:okT T) (hT:T.length≤10000):∀ (n lvl:Nat) (l:List Tk),lvl≤7→At T l→need lvl l≤n→CfO Es (fnL lvl) [.ptr 1000000 0 0] [rdB T l] (outS fD T (parP n lvl l))
 | 0,lvl,l,hv,ha,hn=>by
   have:=List.length_pos_iff.2 ha.ne
   unfold need at hn
   omega
 | n+1,lvl,l,hv,ha,hn=>by
   have hpos:=List.length_pos_iff.2 ha.ne
   have rl:∀ (k L:Nat),k≤7→9*L+8 - k≤n→Rule Es fD T L (fnL k) (parP n k):=fun k L hk hL =>
    ⟨fun l' ha' hl'=>p_par hF hV hT n k l' hk ha' (by unfold need; omega),fun l'=>par_sfx n k l',fun l' t m ho hp=>par_okE n k ho hp⟩
   unfold need at hn
   match lvl,hv,hn with
   | 0,_,hn=>rw [parP]; exact p_term (rl 1 l.length (by omega) (by omega)) hT ha (Nat.le_refl _)
   | 1,_,hn=>rw [parP]; exact p_and (rl 2 l.length (by omega) (by omega)) hT ha (Nat.le_refl _)
   | 2,_,hn=>rw [parP]; exact p_not (L:=l.length - 1) (rl 2 _ (by omega) (by omega)) (rl 3 _ (by omega) (by omega)) hT ha (by omega)
   | 3,_,hn=>rw [parP]; exact p_comparison (L:=l.length - 1) hF (rl 4 _ (by omega) (by omega)) (rl 0 _ (by omega) (by omega)) hT ha (by omega)
   | 4,_,hn=>rw [parP]; exact p_sum (rl 5 l.length (by omega) (by omega)) hT ha (Nat.le_refl _)
   | 5,_,hn=>rw [parP]; exact p_product (rl 6 l.length (by omega) (by omega)) hT ha (Nat.le_refl _)
   | 6,_,hn =>
     rw [parP]
     obtain ⟨k,rfl⟩:∃ k,n=k+1:=⟨n - 1,by omega⟩
     exact p_unary (L:=l.length - 1) (rl 6 _ (by omega) (by omega)) (rl 7 _ (by omega) (by omega)) (fun l' ha' _ hn'=>prim_num ha' hn') hT ha (by omega)
   | 7,_,hn =>
     have e:parP (n+1) 7 l=priS (parP n 0) l:=by cases l <;> rfl
     rw [e]
     cases l with
     | nil=>exact absurd rfl ha.ne
     | cons t r =>
       have hlen:(t::r).length=r.length+1:=rfl
       by_cases k2:t.kd=2
       ·rw [priS,if_pos k2]
        exact p_prim_num hV hT ha k2
       by_cases k3:t.kd=3
       ·rw [priS,if_neg k2,if_pos k3]
        exact p_prim_txt hV hT ha k3
       exact p_prim_rest hF (rl 0 r.length (by omega) (by omega)) hT ha (Nat.le_refl _) k2 k3
   | k+8,hv,_=>omega
end Go.Proofs.Tryz
namespace Go.Proofs.YthpmjipkofbeiaaGreatDoor
open Go.ChangeShapes Go.WideShapes Go.ChangeAt Go.RowKit Go.Ab Go.Proofs.Tryz
set_option maxRecDepth 100000
theorem RepL_get {μ:Nat→Nat→Option Value}:∀ {vs:List Value} {cs:List D},RepL μ vs cs→∀ (j:Nat) (c:D),cs[j]?=some c→∃ v,vs[j]?=some v∧RepD μ v c
 | [],[],_,j,c,h=>by simp at h
 | v::vs,c0::cs,h,0,c,e=>by
   cases e
   exact ⟨v,rfl,h.1⟩
 | v::vs,c0::cs,h,j+1,c,e=>by simpa using RepL_get h.2 j c (by simpa using e)
theorem RepL_as {μ:Nat→Nat→Option Value} {L:Nat→Option Go.Ab.Loc}:∀ {vs:List Value} {cs:List D},RepL μ vs cs→RepAs ⟨μ,L⟩ vs (cs.map AV.d)
 | [],[],_=>by simp [RepAs]
 | v::vs,c::cs,h=>by
   rw [List.map_cons,RepAs]
   refine ⟨v,vs,rfl,?_,RepL_as h.2⟩
   simp only [RepA]
   exact h.1
theorem sl_repR {w:World} {a:Addr} {len cap sz:Nat} {α:Type} (f:α→List D) (R:Nat→α→Prop) (hl:len≤cap) (hsz:∀ u,(f u).length=sz) (hsz0:0<sz)
  (hi:∀ i,i<len→∃ u:α,R i u∧∀ (j:Nat) (c:D),(f u)[j]?=some c→∃ v,w.cell? (a.add (i*sz+j))=some v∧RepD (memOf w) v c) :
  ∃ l:List α,l.length=len∧(∀ i u,l[i]?=some u→R i u)∧RepD (memOf w) (.slice (some a) len cap) (.sl (l.map f)):=by
 obtain ⟨l,h1,h2⟩:=choose_list hi
 refine ⟨l,h1,fun i u e=>(h2 i u e).1,?_⟩
 simp only [RepD]
 refine ⟨some a,cap,by simp [h1],by simp [h1]; exact hl,?_⟩
 by_cases h0:l=[]
 ·left; simp [h0]
 ·right
  have hpos:0<l.length:=List.length_pos_iff.2 h0
  have hsp:a.spot=none:=by
   have hg:l[0]?=some l[0]:=List.getElem?_eq_getElem hpos
   obtain ⟨v,hv,_⟩:=(h2 0 _ hg).2 0 _ (List.getElem?_eq_getElem (by rw [hsz]; exact hsz0))
   have:=cell_spot hv
   simpa [Addr.add] using this
  obtain ⟨b,o,sp⟩:=a
  simp only at hsp
  subst hsp
  refine ⟨b,o,sz,rfl,RepEls_iff.2 fun i x hx=>?_⟩
  rw [List.getElem?_map] at hx
  cases hg:l[i]? with
  | none=>rw [hg] at hx; cases hx
  | some u =>
    rw [hg] at hx
    simp only [Option.map_some,Option.some.injEq] at hx
    subst hx
    refine ⟨hsz u,RepCells_iff.2 fun j c hc=>?_⟩
    obtain ⟨v,hv,hr⟩:=(h2 i u hg).2 j c hc
    refine ⟨v,?_,hr⟩
    simp only [memOf,Addr.add] at hv ⊢
    rw [Nat.add_assoc]
    split at hv
    ·rename_i e0; rw [e0]; exact hv
    ·exact hv
def sumW {α:Type} (wt:α→Nat):List α→Nat
 | []=>0
 | u::l=>wt u+sumW wt l
theorem sumW_bulk {α H:Type} {wt:α→Nat}:∀ (l:List α) (ds:List (DataW H)),l.length=ds.length→(∀ (i:Nat) (e:α) (d:DataW H),l[i]?=some e→ds[i]?=some d→wt e≤60*Rows.uptoBulk d)→sumW wt l≤60*Rows.uptoBulkAll ds
 | [],_,_,_=>by rw [sumW]; omega
 | e::es,[],h,_=>by cases h
 | e::es,d::ds,h,hb=>by
   have h1:=hb 0 e d rfl rfl
   have h2:=sumW_bulk es ds (by simpa using h) fun i x y hx hy=>hb (i+1) x y (by simpa using hx) (by simpa using hy)
   rw [sumW,Rows.uptoBulkAll]
   omega
theorem slice_readW {α H:Type} {enc:TypeId×Value→H} {W:World} {base:Nat} {spare:Nat→Bool} {held:Bool} (f:α→List D) (Pr:α→Prop) (wt:α→Nat) {sz e t n:Nat} {c:Value} {x:DataW H×List MemPlace}
  (hu:Tryz.prog.underlying t=some (.slice e)) (hcs:Tryz.prog.cellsOf e=sz) (hf:∀ u,(f u).length=sz) (h0:0<sz) (h:DataW.trod enc Tryz.prog W base spare held n t [c]=some x)
  (elem:∀ n2,n2<n→∀ cs y,DataW.trod enc Tryz.prog W base spare held n2 e cs=some y→cs.length=sz→∃ u,Pr u∧wt u≤60*Rows.uptoBulk y.1∧RepL (memOf W) cs (f u)) :
  ∃ l:List α,l.length≤9223372036854775807∧(∀ u∈l,Pr u)∧sumW wt l+60≤60*Rows.uptoBulk x.1∧RepD (memOf W) c (.sl (l.map f)):=by
 rcases DataW.trod_slice (e:=e) hu h with ⟨hc,hx⟩ | ⟨a,len,cap,elems,rest,n2,hn2,hc,hx,_,hlc,hcm,hel,hi,_,_⟩
 ·simp only [List.cons.injEq,and_true] at hc
  subst hc
  exact ⟨[],by simp,by simp,by rw [hx]; simp [sumW,Rows.uptoBulk],by simp only [RepD]; exact ⟨none,0,rfl,Nat.le_refl _,.inl rfl⟩⟩
 ·simp only [List.cons.injEq,and_true] at hc
  subst hc
  obtain ⟨l,hll,hR,hr⟩:=sl_repR (w:=W) (a:=a) (len:=len) (cap:=cap) (sz:=sz) (α:=α) f (fun i u=>Pr u∧∀ d,elems[i]?=some d→wt u≤60*Rows.uptoBulk d.1) hlc hf h0 fun i hlt=>by
   have hi':=hi i hlt
   have hg:elems[i]?=some (elems[i]'(by omega)):=List.getElem?_eq_getElem _
   rw [hg] at hi'
   rw [Option.bind_eq_some_iff] at hi'
   obtain ⟨cs,hcs',ht⟩:=hi'
   rw [hcs] at hcs'
   obtain ⟨_,hcl,hat⟩:=World.cells?_some hcs'
   obtain ⟨u,hu,hw,hr⟩:=elem n2 (by omega) cs _ ht hcl
   refine ⟨u,⟨hu,fun d hd=>by rw [hg,Option.some.injEq] at hd; subst hd; exact hw⟩,fun j c hj=>?_⟩
   obtain ⟨v,hv,hr⟩:=RepL_get hr j c hj
   refine ⟨v,?_,hr⟩
   have hj6:j<sz:=by have:=(List.getElem?_eq_some_iff.1 hj).1; rw [hf] at this; exact this
   rw [← Go.Deep.add_add,hat j hj6,hv]
  refine ⟨l,?_,fun u hu=>?_,?_,hr⟩
  ·simp only [maxLen] at hcm
   omega
  ·obtain ⟨i,hi⟩:=List.mem_iff_getElem?.1 hu
   exact (hR i u hi).1
  ·have h1:=sumW_bulk (wt:=wt) l (elems.map (·.1)) (by rw [List.length_map]; omega) fun i e d hx hy=>by
    rw [List.getElem?_map,Option.map_eq_some_iff] at hy
    obtain ⟨d0,hd0,rfl⟩:=hy
    exact (hR i e hx).2 d0 hd0
   rw [hx]
   simp only [Rows.uptoBulk]
   omega
theorem int_read {H:Type} {enc:TypeId×Value→H} {W:World} {base:Nat} {spare:Nat→Bool} {held:Bool} {n t:Nat} {c:Value} {x:DataW H×List MemPlace} (hu:Tryz.prog.underlying t=some (.int .i64)) (h:DataW.trod enc Tryz.prog W base spare held n t [c]=some x) :
  ∃ k:Int,c=.int .i64 k:=by
 obtain ⟨k,e,_,_⟩:=DataW.trod_int (k:=.i64) hu h
 simp only [List.cons.injEq,and_true] at e
 exact ⟨k,e⟩
theorem str_readW {H:Type} {enc:TypeId×Value→H} {W:World} {base:Nat} {spare:Nat→Bool} {held:Bool} {n t:Nat} {c:Value} {x:DataW H×List MemPlace} (hu:Tryz.prog.underlying t=some .string) (h:DataW.trod enc Tryz.prog W base spare held n t [c]=some x) :
  ∃ s:List UInt8,s.length+1≤Rows.uptoBulk x.1∧RepD (memOf W) c (.str s):=by
 obtain ⟨k,e,hx,_⟩:=DataW.trod_string hu h
 simp only [List.cons.injEq,and_true] at e
 subst e
 exact ⟨k.data.toList,by rw [hx]; simp [Rows.uptoBulk],by simp [RepD]⟩
theorem tmsFits_of:∀ l:List Tm,(∀ e∈l,e.fits)→tmsFits l
 | [],_=>by rw [tmsFits]; trivial
 | e::es,h=>by rw [tmsFits]; exact ⟨h e List.mem_cons_self,tmsFits_of es fun x hx=>h x (List.mem_cons_of_mem _ hx)⟩
theorem sum_tms:∀ l:List Tm,sumW Tm.wgt l=tmsWgt l
 | []=>rfl
 | e::es=>by rw [sumW,tmsWgt,sum_tms es]
theorem cells1 {t:Nat} (h:(Tryz.prog.cellsOf t==1)=true):Tryz.prog.cellsOf t=1:=by simpa using h
theorem cellsTm:Tryz.prog.cellsOf 25=6:=by
 have:(Tryz.prog.cellsOf 25==6)=true:=by kernel_rfl
 simpa using this
theorem all_bulk {H:Type}:∀ (ys:List (DataW H×List MemPlace)),Rows.uptoBulkAll (ys.map (·.1))=sumW (fun y=>Rows.uptoBulk y.1) ys
 | []=>rfl
 | y::ys=>by rw [List.map_cons,Rows.uptoBulkAll,sumW,all_bulk ys]
theorem tm_readW {H:Type} {enc:TypeId×Value→H} {W:World} {base:Nat} {spare:Nat→Bool} {held:Bool}:∀ (n:Nat) (cs:List Value) (x:DataW H×List MemPlace),DataW.trod enc Tryz.prog W base spare held n 25 cs=some x→cs.length=6 →
  ∃ e:Tm,e.fits∧e.wgt≤60*Rows.uptoBulk x.1∧RepL (memOf W) cs e.c:=by
 intro n
 induction n using Nat.strongRecOn with
 | _ n ih =>
 intro cs x h hc
 obtain ⟨c0,c1,c2,c3,c4,c5,rfl⟩:∃ c0 c1 c2 c3 c4 c5,cs=[c0,c1,c2,c3,c4,c5]:=by
  match cs,hc with
  | [c0,c1,c2,c3,c4,c5],_=>exact ⟨c0,c1,c2,c3,c4,c5,rfl⟩
 obtain ⟨ys,n',hn',hx,_,hyl,hf⟩:=DataW.trod_struct Tryz.underlying25 h
 have hl:ys.length=6:=hyl
 obtain ⟨y0,y1,y2,y3,y4,y5,rfl⟩:∃ y0 y1 y2 y3 y4 y5,ys=[y0,y1,y2,y3,y4,y5]:=by
  match ys,hl with
  | [y0,y1,y2,y3,y4,y5],_=>exact ⟨y0,y1,y2,y3,y4,y5,rfl⟩
 have h0:DataW.trod enc Tryz.prog W base spare held n' 3 (([c0,c1,c2,c3,c4,c5].drop 0).take (Tryz.prog.cellsOf 3))=some y0:=hf 0 _ rfl
 have h1:DataW.trod enc Tryz.prog W base spare held n' 3 (([c0,c1,c2,c3,c4,c5].drop 1).take (Tryz.prog.cellsOf 3))=some y1:=hf 1 _ rfl
 have h2:DataW.trod enc Tryz.prog W base spare held n' 2 (([c0,c1,c2,c3,c4,c5].drop 2).take (Tryz.prog.cellsOf 2))=some y2:=hf 2 _ rfl
 have h3:DataW.trod enc Tryz.prog W base spare held n' 9 (([c0,c1,c2,c3,c4,c5].drop 3).take (Tryz.prog.cellsOf 9))=some y3:=hf 3 _ rfl
 have h4:DataW.trod enc Tryz.prog W base spare held n' 9 (([c0,c1,c2,c3,c4,c5].drop 4).take (Tryz.prog.cellsOf 9))=some y4:=hf 4 _ rfl
 have h5:DataW.trod enc Tryz.prog W base spare held n' 23 (([c0,c1,c2,c3,c4,c5].drop 5).take (Tryz.prog.cellsOf 23))=some y5:=hf 5 _ rfl
 simp only [cells1 (t:=3) (by kernel_rfl),cells1 (t:=2) (by kernel_rfl),cells1 (t:=9) (by kernel_rfl),cells1 (t:=23) (by kernel_rfl),List.drop_zero,List.drop_succ_cons,List.take_succ_cons,List.take_zero] at h0 h1 h2 h3 h4 h5
 obtain ⟨a0,rfl⟩:=int_read (by kernel_rfl) h0
 obtain ⟨a1,rfl⟩:=int_read (by kernel_rfl) h1
 obtain ⟨a2,rfl⟩:=int_read (by kernel_rfl) h2
 obtain ⟨a3,b3,r3⟩:=str_readW (by kernel_rfl) h3
 obtain ⟨a4,b4,r4⟩:=str_readW (by kernel_rfl) h4
 obtain ⟨l,l1,l2,l3,r5⟩:=slice_readW Tm.c Tm.fits Tm.wgt (by kernel_rfl) cellsTm Tm.clen (by decide) h5 fun n2 hn2 cs y ht hcl=>ih n2 (by omega) cs y ht hcl
 refine ⟨.mk a0 a1 a2 a3 a4 l,by rw [Tm.fits]; exact ⟨l1,tmsFits_of l l2⟩,?_,?_⟩
 ·rw [sum_tms] at l3
  rw [hx,Tm.wgt]
  simp only [Rows.uptoBulk,all_bulk,sumW]
  omega
 ·rw [Tm.c,tmsC_map]
  exact ⟨by simp only [RepD],by simp only [RepD],by simp only [RepD],r3,r4,r5,trivial⟩
theorem tm_openW {H:Type} {enc:TypeId×Value→H} {W:World} {base:Nat} {r:Reach} {b0:Nat} {spare:Nat→Bool} {held:Bool} {v:Value} {d:DataW H} {p:List MemPlace}
  (hv:Value.okWide Tryz.prog W r b0 25 v) (h:DataW.Trod enc Tryz.prog W base spare held 25 v d p):∃ e:Tm,e.fits∧e.wgt≤60*Rows.uptoBulk d∧RepA ⟨memOf W,fun _=>none⟩ v e.a:=by
 obtain ⟨cs,rfl,hsz⟩:=okWide_struct Tryz.underlying25 hv
 obtain ⟨n,h⟩:=h
 have hl:cs.toList.length=6:=by simpa [cellsTm] using hsz
 obtain ⟨e,he,hw,hu⟩:=tm_readW n cs.toList _ h hl
 refine ⟨e,he,hw,?_⟩
 simp only [Tm.a,RepA]
 exact ⟨cs.toList,rfl,RepL_as hu⟩
end Go.Proofs.YthpmjipkofbeiaaGreatDoor
