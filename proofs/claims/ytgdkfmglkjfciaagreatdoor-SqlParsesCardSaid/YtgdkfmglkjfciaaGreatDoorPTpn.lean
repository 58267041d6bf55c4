import Derived.Test.YtgdkfmglkjfciaaGreatDoorPScs
import Derived.Test.YtgdkfmglkjfciaaGreatDoorAbD
import Derived.Tactics
import Derived.Tactics2
import Derived.Defers
import Derived.Recover
import Derived.Laws.Pointers
import Derived.Test.YtgdkfmglkjfciaaGreatDoorPRqs
import Derived.Test.YtgdkfmglkjfciaaGreatDoorPrj
import Derived.Test.YtgdkfmglkjfciaaGreatDoorCpr
import Derived.Test.YtgdkfmglkjfciaaGreatDoorPUna
import Derived.Test.YtgdkfmglkjfciaaGreatDoorTy
import Derived.Test.YtgdkfmglkjfciaaGreatDoorAbB
set_option linter.all false
namespace Go.Proofs.Tryz
open Go.RowKit
set_option maxRecDepth 100000
set_option maxHeartbeats 4000000
theorem catch_idle (p q:Addr) (w:World) :
  CallsD Tryz.prog 23 #[.pointer (some p),.pointer (some q)] .returning w fun e u' w'=>e=.returned (.tuple #[])∧u'=.returning∧w'=w:=by
 refine callsD_of_wpS Tryz.func23 rfl fun c₀ cs hu=>?_
 simp only [Tryz.ntmps23,List.size_toArray,List.length_cons,List.length_nil,Nat.reduceAdd,Nat.reduceSub,Array.replicate_succ,Array.replicate_zero,List.push_toArray,List.append_toArray,List.nil_append,List.cons_append]
 apply wpS_seq
 apply wpS_region
 simp [wpOpsS,go_sem,recoverD,hu,Exit.thenS]
 apply wpS_seq
 apply wpS_region
 simp [wpOpsS,go_sem,Exit.thenS]
 refine wpS_cond (t:=false) (by simp [Act.eval]) ?_
 simp only [Bool.false_eq_true,if_false]
 refine wpS_of_wp (wp_skip ?_)
 cases c₀
 simp_all [bodyPostS,results,Tryz.results23]
theorem catch_pan (p q:Addr) (n x y:Int) (older:List PanicEntry) (w:World) (hp:w.cell? p=some (.int .i64 x)) (hq:w.cell? q=some (.int .i64 y)) (zp:w.frozen? p=false) (zq:w.frozen? q=false) (hq2:(w.setCell p (.int .i64 n)).cell? q=some (.int .i64 y)) (zq2:(w.setCell p (.int .i64 n)).frozen? q=false) :
  CallsD Tryz.prog 23 #[.pointer (some p),.pointer (some q)] (.panicking ({ v:=.iface 67 (.agg #[.int .i64 n]),recovered:=false }::older)) w fun e u' w' =>
   e=.returned (.tuple #[])∧u'=.panicking ({ v:=.iface 67 (.agg #[.int .i64 n]),recovered:=true }::older)∧w'=(w.setCell p (.int .i64 n)).setCell q (.int .i64 2):=by
 refine callsD_of_wpS Tryz.func23 rfl fun c₀ cs hu=>?_
 simp only [Tryz.ntmps23,List.size_toArray,List.length_cons,List.length_nil,Nat.reduceAdd,Nat.reduceSub,Array.replicate_succ,Array.replicate_zero,List.push_toArray,List.append_toArray,List.nil_append,List.cons_append]
 apply wpS_seq
 apply wpS_region
 simp [wpOpsS,go_sem,recoverD,hu,Exit.thenS]
 apply wpS_seq
 apply wpS_region
 simp [wpOpsS,go_sem,Exit.thenS]
 refine wpS_cond (t:=true) (by simp [Act.eval]) ?_
 simp only [if_true]
 apply wpS_region
 have hta:∀ w':World,(Instr.typeAssert (.iface 67 (.agg #[.int .i64 n])) 20 67 false).run Tryz.prog w'=.ok (.agg #[.int .i64 n]) w':=fun w'=>by kernel_rfl
 have hfd:∀ w':World,(Instr.field 67 (.agg #[.int .i64 n]) 0).run Tryz.prog w'=.ok (.int .i64 n) w':=fun w'=>by kernel_rfl
 simp [wpOpsS,go_sem,hp,hq,zp,zq,hta,hfd,hq2,zq2,bodyPostS,results,Tryz.results23]
end Go.Proofs.Tryz
namespace Go.Proofs.Tryz
open Go.Ab Go.RowKit
set_option maxRecDepth 100000
set_option maxHeartbeats 4000000
def P4 (w:World):Addr:=⟨w.heap.size,0,none⟩
def P5 (w:World):Addr:=⟨w.heap.size+1,0,none⟩
def W1 (w:World):World:=(w.alloc (.cells #[.int .i64 0] 3)).alloc (.cells #[.int .i64 0] 33)
def dcl (w:World):Deferred:={ target:=.fn (.func 23) #[.pointer (some (P4 w)),.pointer (some (P5 w))],args:=#[] }
theorem W1_heap (w:World):(W1 w).heap=(w.heap.push (.cells #[.int .i64 0] 3)).push (.cells #[.int .i64 0] 33):=rfl
theorem W1_size (w:World):(W1 w).heap.size=w.heap.size+2:=by rw [W1_heap,Array.size_push,Array.size_push]
theorem W1_old (w:World) (k:Nat) (h:k<w.heap.size):(W1 w).heap[k]?=w.heap[k]?:=by
 rw [W1_heap,Array.getElem?_push,if_neg (by rw [Array.size_push]; omega),Array.getElem?_push,if_neg (by omega)]
theorem W1_4 (w:World):(W1 w).heap[w.heap.size]?=some (.cells #[.int .i64 0] 3):=by
 rw [W1_heap,Array.getElem?_push,if_neg (by rw [Array.size_push]; omega),Array.getElem?_push,if_pos rfl]
theorem W1_5 (w:World):(W1 w).heap[w.heap.size+1]?=some (.cells #[.int .i64 0] 33):=by
 rw [W1_heap,Array.getElem?_push,if_pos (by rw [Array.size_push])]
noncomputable def C1 (w:World) (h:Gh) (X:Blk):Ctx:={ ctxOf Es (W1 w) h [X] with dfr:=[dcl w] }
structure RdEnd (w w':World) (pos e:Int):Prop where
 c4:w'.cell? (P4 w)=some (.int .i64 0)
 c5:w'.cell? (P5 w)=some (.int .i64 0)
 f4:w'.frozen? (P4 w)=false
 f5:w'.frozen? (P5 w)=false
 c5':(w'.setCell (P4 w) (.int .i64 pos)).cell? (P5 w)=some (.int .i64 0)
 f5':(w'.setCell (P4 w) (.int .i64 pos)).frozen? (P5 w)=false
 e4:((w'.setCell (P4 w) (.int .i64 pos)).setCell (P5 w) (.int .i64 e)).cell? (P4 w)=some (.int .i64 pos)
 e5:((w'.setCell (P4 w) (.int .i64 pos)).setCell (P5 w) (.int .i64 e)).cell? (P5 w)=some (.int .i64 e)
theorem read_end {w w':World} {h h':Gh} {X:Blk} {bl:Nat→Blk} (hX:X.live=true) (m:Mem (ctxOf Es w h [X]) (blkOf [X]) w h) (m':Mem (C1 w h X) bl w' h') (pos e:Int) :
  RdEnd w w' pos e∧Mem (ctxOf Es w h [X]) bl ((w'.setCell (P4 w) (.int .i64 pos)).setCell (P5 w) (.int .i64 e)) h':=by
 have hb:∀ b,b∈baseOf h [X]→b<w.heap.size:=fun b hb=>by
  obtain ⟨j,l,hj,hl,hn,rfl⟩:=mem_baseOf.1 hb
  obtain rfl:j=0:=by simpa using hj
  have e:blkOf [X] (firstName+0)=X:=by simp [blkOf]
  obtain ⟨o,_,ho⟩:=live_heap (m.blks (firstName+0)) (by rw [e]; exact hX) hl hn
  exact heap_lt ho
 have h4:w'.heap[w.heap.size]?=some (.cells #[.int .i64 0] 3):=(m'.frame _ (by show _<(W1 w).heap.size; rw [W1_size]; omega) (fun hm=>absurd (hb _ hm) (by omega))).trans (W1_4 w)
 have h5:w'.heap[w.heap.size+1]?=some (.cells #[.int .i64 0] 33):=(m'.frame _ (by show _<(W1 w).heap.size; rw [W1_size]; omega) (fun hm=>absurd (hb _ hm) (by omega))).trans (W1_5 w)
 have hs4:∀ v:Value,(w'.setCell (P4 w) v).heap[w.heap.size]?=some (.cells #[v] 3):=fun v=>by
  simp [World.setCell,P4,Array.getElem?_modify,h4]
 have hs5:∀ v:Value,(w'.setCell (P4 w) v).heap[w.heap.size+1]?=some (.cells #[.int .i64 0] 33):=fun v=>by
  simp [World.setCell,P4,Array.getElem?_modify,h5]
 have ht4:∀ v u:Value,((w'.setCell (P4 w) v).setCell (P5 w) u).heap[w.heap.size]?=some (.cells #[v] 3):=fun v u=>by
  have:=hs4 v
  generalize w'.setCell (P4 w) v=w3 at *
  simp [World.setCell,P5,Array.getElem?_modify,this]
 have ht5:∀ v u:Value,((w'.setCell (P4 w) v).setCell (P5 w) u).heap[w.heap.size+1]?=some (.cells #[u] 33):=fun v u=>by
  have:=hs5 v
  generalize w'.setCell (P4 w) v=w3 at *
  simp [World.setCell,P5,Array.getElem?_modify,this]
 refine ⟨⟨?_,?_,?_,?_,?_,?_,?_,?_⟩,?_⟩
 ·simp [World.cell?,P4,h4]
 ·simp [World.cell?,P5,h5]
 ·simp [World.frozen?,P4,h4]
 ·simp [World.frozen?,P5,h5]
 ·have:=hs5 (.int .i64 pos)
  generalize w'.setCell (P4 w) (.int .i64 pos)=w3 at *
  simp [World.cell?,P5,this]
 ·have:=hs5 (.int .i64 pos)
  generalize w'.setCell (P4 w) (.int .i64 pos)=w3 at *
  simp [World.frozen?,P5,this]
 ·have:=ht4 (.int .i64 pos) (.int .i64 e)
  generalize (w'.setCell (P4 w) (.int .i64 pos)).setCell (P5 w) (.int .i64 e)=w3 at *
  simp [World.cell?,P4,this]
 ·have:=ht5 (.int .i64 pos) (.int .i64 e)
  generalize (w'.setCell (P4 w) (.int .i64 pos)).setCell (P5 w) (.int .i64 e)=w3 at *
  simp [World.cell?,P5,this]
 ·refine Mem.unshift (w1:=W1 w) (w':=w') (dfr:=[dcl w]) (by simpa using hX) m (by rw [W1_size]; omega) (W1_old w) m' (fun k hk=>?_) (by simp [World.setCell]) ⟨rfl,rfl,rfl⟩ ⟨rfl,rfl,rfl⟩
  rw [W1_size] at hk
  simp only [World.setCell,P4,P5,Array.getElem?_modify]
  rw [if_neg (by omega),if_neg (by omega)]
theorem read_inv {s:List UInt8} {w:World} {h:Gh} {X:Blk} {f:FuncId} {vr:Value} (hX:X.live=true) (m:Mem (ctxOf Es w h [X]) (blkOf [X]) w h) (hr:RepA h vr (.clo f [.ptr 1000000 0 0])) {tm:Array Value} (hsz:tm.size=32)
  (t0:tm.getD 0 undef=.string ⟨s.toArray⟩) (t1:tm.getD 1 undef=vr) (t4:tm.getD 4 undef=.pointer (some (P4 w))) (t5:tm.getD 5 undef=.pointer (some (P5 w))) :
  Inv (C1 w h X) 32 1 { s:=mkS [(0,.d (.str s)),(1,.clo f [.ptr 1000000 0 0]),(4,.d (.val (.pointer (some (P4 w))))),(5,.d (.val (.pointer (some (P5 w)))))],b:=blkOf [X] } { tmps:=tm,defers:=[dcl w] } (W1 w):=by
 refine ⟨fun n l hn hl=>?_,rfl,hsz,h,fun i=>?_,m.shift (by rw [W1_size]; omega) (W1_old w) [dcl w]⟩
 ·rcases Nat.lt_or_ge n (firstName+1) with c | c
  ·exact c
  ·have hm:=m.blks n
   have e:blkOf [X] n=.free:=by
    unfold blkOf
    rw [if_pos hn,List.getElem?_eq_none (by rw [List.length_singleton]; omega)]
    rfl
   rw [e] at hm
   simp only [RepB] at hm
   have hl':h.L n=some l:=hl
   rw [hm] at hl'
   cases hl'
 ·simp only [mkS,upds,upd]
  split
  ·rename_i e; subst e; simp only [RepA,RepD]; exact ⟨t5,rfl⟩
  ·split
   ·rename_i e; subst e; simp only [RepA,RepD]; exact ⟨t4,rfl⟩
   ·split
    ·rename_i e; subst e; rw [t1]; exact hr
    ·split
     ·rename_i e; subst e; simp only [RepA,RepD]; exact t0
     ·simp only [RepA]
theorem read_in {w:World} {h:Gh} {X:Blk} (hX:X.live=true) (m:Mem (ctxOf Es w h [X]) (blkOf [X]) w h):∀ j,j<1→∃ l,(C1 w h X).h0.L (firstName+j)=some l:=fun j hj=>by
 obtain rfl:j=0:=by omega
 have e:blkOf [X] (firstName+0)=X:=by simp [blkOf]
 exact live_loc (m.blks (firstName+0)) (by rw [e]; exact hX)
end Go.Proofs.Tryz
namespace Go.Proofs.Tryz
open Go.Ab
set_option maxRecDepth 100000
set_option maxHeartbeats 4000000
def fnL:Nat→FuncId
 | 0=>62
 | 1=>80
 | 2=>93
 | 3=>108
 | 4=>122
 | 5=>131
 | 6=>138
 | _=>141
theorem prim_num {n:Nat} {T l:List Tk} (ha:At T l) (hn:isNum l=true):parP (n+1) 7 l=.ok (.mk 2 0 (hdT l).n [] [] [],l.tail):=by
 cases l with
 | nil=>exact absurd rfl ha.ne
 | cons t r =>
   have hk:t.kd=2:=by simp [isNum] at hn; exact hn.1
   show (if t.kd=2 then _ else _)=_
   rw [if_pos hk]
   rfl
theorem p_par {fD:Nat→D} (hF:FailOk fD) {T:List Tk} (hV:okT T) (hT:T.length≤10000):∀ (n lvl:Nat) (l:List Tk),lvl≤7→At T l→need lvl l≤n→CfO Es (fnL lvl) [.ptr 1000000 0 0] [rdB T l] (outS fD T (parP n lvl l))
 | 0,lvl,l,hv,ha,hn=>by
   have:=List.length_pos_iff.2 ha.ne
   unfold need at hn
   omega
 | n+1,lvl,l,hv,ha,hn=>by
   have hpos:=List.length_pos_iff.2 ha.ne
   have rl:∀ (k L:Nat),k≤7→9*L+8 - k≤n→Rule Es fD T L (fnL k) (parP n k):=fun k L hk hL =>
    ⟨fun l' ha' hl'=>p_par hF hV hT n k l' hk ha' (by unfold need; omega),fun l'=>par_sfx n k l',fun l' t m ho hp=>par_okE n k ho hp⟩
   unfold need at hn
   match lvl,hv,hn with
   | 0,_,hn=>rw [parP]; exact p_term (rl 1 l.length (by omega) (by omega)) hT ha (Nat.le_refl _)
   | 1,_,hn=>rw [parP]; exact p_and (rl 2 l.length (by omega) (by omega)) hT ha (Nat.le_refl _)
   | 2,_,hn=>rw [parP]; exact p_not (L:=l.length - 1) (rl 2 _ (by omega) (by omega)) (rl 3 _ (by omega) (by omega)) hT ha (by omega)
   | 3,_,hn=>rw [parP]; exact p_comparison (L:=l.length - 1) hF (rl 4 _ (by omega) (by omega)) (rl 0 _ (by omega) (by omega)) hT ha (by omega)
   | 4,_,hn=>rw [parP]; exact p_sum (rl 5 l.length (by omega) (by omega)) hT ha (Nat.le_refl _)
   | 5,_,hn=>rw [parP]; exact p_product (rl 6 l.length (by omega) (by omega)) hT ha (Nat.le_refl _)
   | 6,_,hn =>
     rw [parP]
     obtain ⟨k,rfl⟩:∃ k,n=k+1:=⟨n - 1,by omega⟩
     exact p_unary (L:=l.length - 1) (rl 6 _ (by omega) (by omega)) (rl 7 _ (by omega) (by omega)) (fun l' ha' _ hn'=>prim_num ha' hn') hT ha (by omega)
   | 7,_,hn =>
     have e:parP (n+1) 7 l=priS (parP n 0) l:=by cases l <;> rfl
     rw [e]
     cases l with
     | nil=>exact absurd rfl ha.ne
     | cons t r =>
       have hlen:(t::r).length=r.length+1:=rfl
       by_cases k2:t.kd=2
       ·rw [priS,if_pos k2]
        exact p_prim_num hV hT ha k2
       by_cases k3:t.kd=3
       ·rw [priS,if_neg k2,if_pos k3]
        exact p_prim_txt hV hT ha k3
       exact p_prim_rest hF (rl 0 r.length (by omega) (by omega)) hT ha (Nat.le_refl _) k2 k3
   | k+8,hv,_=>omega
theorem most_step {l:List Int} {i:Nat} {x:Int} (h:l[i]?=some x):(if most (l.take i)<x then x else most (l.take i))=most (l.take (i+1)):=by
 rw [most_take h]
 split <;> omega
theorem most_all {l:List Int} {i:Nat} (h:l.length≤i):most (l.take i)=most l:=by rw [List.take_of_length_le h]
theorem s_termDepth:∀ (m:Nat) (x:Tm),SizeOf.sizeOf x<m→x.fits→Cf En 31 [x.a] [] (.d (.int .i64 x.dep)) []
 | 0,_,h,_=>absurd h (by omega)
 | m+1,.mk o y n t q ks,hm,hfit=>by
   refine cf_intro mix (fn:=Tryz.f31) (by kernel_rfl) rfl (by kernel_rfl) (by decide) (by simp) ?_
   rw [Tm.fits] at hfit
   have hq:=fun (x:Tm) (hx:x∈ks)=>s_termDepth m x (by
    have:=Tm.kid_lt (e:=.mk o y n t q ks) (k:=x) hx
    omega) (tmsFits_get ks hfit.2 x hx)
   have hl:=hfit.1
   rw [Tm.dep,tmsDep_most]
   simp [Tm.a,Tm.c,tmsC_map]
   refine ⟨.of (by kernel_rfl),.of (by kernel_rfl),.of (by kernel_rfl),?_⟩
   refine aloopT mix (by decide) (fun i:Nat=>{ s:=mkS [(1,.ptr 1 0 0),(3,.d (.int .i64 (most ((ks.map Tm.dep).take i)))),(7,.d (.sl (ks.map Tm.c))),(8,.d (.int .i64 ks.length)),(9,.d (.int .i64 i))],b:=mkB [(1,1,.var (Tm.a (.mk o y n t q ks)).cells)] }) (fun i:Nat=>i≤ks.length) (fun i=>ks.length - i) 0 (by simp) (sub_mk _ _ ⟨by simp,by simp,by simp [renOf,Blk.live,Tm.a,Tm.c,tmsC_map],by simp⟩ (by simp [renOf,most])) ?_
   rintro i hi
   by_cases hlt:i<ks.length
   ·have hlt':(i:Int)<ks.length:=by omega
    have hg:ks[i]?=some ks[i]:=List.getElem?_eq_getElem hlt
    have hk:=most_step (l:=ks.map Tm.dep) (i:=i) (x:=ks[i].dep) (by rw [List.getElem?_map,hg]; rfl)
    have c1:=Tm.clen ks[i]
    have k1:=Tm.ctake ks[i]
    simp [Tm.a,Tm.c,tmsC_map,hlt,hlt',hg,c1,k1]
    refine ⟨.of (by kernel_rfl),.of (by kernel_rfl),?_⟩
    refine acallT_plain (hq ks[i] (List.getElem_mem hlt)) (by simp [Tm.a]) ?_
    simp
    refine ⟨.of (by kernel_rfl),.of (by kernel_rfl),i+1,hlt,?_,?_⟩
    ·refine sub_mk _ [(1,1,_)] ⟨by simp,by simp,by simp [renOf,Blk.live,Tm.a,Tm.c,tmsC_map],by simp⟩ ?_
     simp [renOf]
     exact ⟨hk,wrap_in (by omega) (by omega)⟩
    ·simp; omega
   ·have hlt':¬ (i:Int)<ks.length:=by omega
    have hall:=most_all (l:=ks.map Tm.dep) (i:=i) (by simp; omega)
    simp [Tm.a,Tm.c,tmsC_map,hlt,hlt',up1,hall]
    exact ⟨.of (by kernel_rfl),.of (by kernel_rfl)⟩
theorem r_termDepth:∀ (m:Nat) (x:Tm),SizeOf.sizeOf x<m→x.fits→Cf En 37 [x.a] [] (.d (.int .i64 x.dep)) []
 | 0,_,h,_=>absurd h (by omega)
 | m+1,.mk o y n t q ks,hm,hfit=>by
   refine cf_intro mix (fn:=Tryz.f37) (by kernel_rfl) rfl (by kernel_rfl) (by decide) (by simp) ?_
   rw [Tm.fits] at hfit
   have hq:=fun (x:Tm) (hx:x∈ks)=>r_termDepth m x (by
    have:=Tm.kid_lt (e:=.mk o y n t q ks) (k:=x) hx
    omega) (tmsFits_get ks hfit.2 x hx)
   have hl:=hfit.1
   rw [Tm.dep,tmsDep_most]
   simp [Tm.a,Tm.c,tmsC_map]
   refine ⟨.of (by kernel_rfl),.of (by kernel_rfl),.of (by kernel_rfl),?_⟩
   refine aloopT mix (by decide) (fun i:Nat=>{ s:=mkS [(1,.ptr 1 0 0),(3,.d (.int .i64 (most ((ks.map Tm.dep).take i)))),(4,.d (.int .i64 i))],b:=mkB [(1,1,.var (Tm.a (.mk o y n t q ks)).cells)] }) (fun i:Nat=>i≤ks.length) (fun i=>ks.length - i) 0 (by simp) (sub_mk _ _ ⟨by simp,by simp,by simp [renOf,Blk.live,Tm.a,Tm.c,tmsC_map],by simp⟩ (by simp [renOf,most])) ?_
   rintro i hi
   by_cases hlt:i<ks.length
   ·have hlt':(i:Int)<ks.length:=by omega
    have hg:ks[i]?=some ks[i]:=List.getElem?_eq_getElem hlt
    have hk:=most_step (l:=ks.map Tm.dep) (i:=i) (x:=ks[i].dep) (by rw [List.getElem?_map,hg]; rfl)
    have c1:=Tm.clen ks[i]
    have k1:=Tm.ctake ks[i]
    simp [Tm.a,Tm.c,tmsC_map,hlt,hlt',hg,c1,k1]
    refine ⟨.of (by kernel_rfl),?_⟩
    refine acallT_plain (hq ks[i] (List.getElem_mem hlt)) (by simp [Tm.a]) ?_
    simp
    refine ⟨.of (by kernel_rfl),.of (by kernel_rfl),i+1,hlt,?_,?_⟩
    ·refine sub_mk _ [(1,1,_)] ⟨by simp,by simp,by simp [renOf,Blk.live,Tm.a,Tm.c,tmsC_map],by simp⟩ ?_
     simp [renOf]
     exact ⟨hk,wrap_in (by omega) (by omega)⟩
    ·simp; omega
   ·have hlt':¬ (i:Int)<ks.length:=by omega
    have hall:=most_all (l:=ks.map Tm.dep) (i:=i) (by simp; omega)
    simp [Tm.a,Tm.c,tmsC_map,hlt,hlt',up1,hall]
    exact ⟨.of (by kernel_rfl),.of (by kernel_rfl)⟩
def tapB (L:List Int) (i:Int):Blk:=.var [.d (.sl (L.map fun n=>[.int .i64 n])),.d (.int .i64 i)]
def nextV (L:List Int) (i:Nat) (n:Int):Int :=
 if n<1 then 0 else
  let x:=match L[i]? with
   | some z=>z.tmod n
   | none=>0
  if x<0 then x+n else x
def nextI (i:Nat) (n:Int):Nat:=if n<1 then i else i+1
theorem nextV_in (L:List Int) (i:Nat) {n:Int} (h:1≤n):0≤nextV L i n∧nextV L i n<n:=by
 unfold nextV
 rw [if_neg (by omega)]
 cases L[i]? with
 | none=>simp; omega
 | some z =>
   have h1:=Int.natAbs_tmod z n
   have h2:=Nat.mod_lt z.natAbs (show 0<n.natAbs by omega)
   simp only
   split <;> omega
theorem t_next (L:List Int) (i:Nat) (hi:i≤1000000000) (n:Int) (hn:n≤1000000) :
  Cf En 10 [.ptr 1000000 0 0,.d (.int .i64 n)] [tapB L i] (.d (.int .i64 (nextV L i n))) [tapB L (nextI i n)]:=by
 refine cf_intro mix (fn:=Tryz.f10) (by kernel_rfl) rfl (by kernel_rfl) (by decide) (by simp) ?_
 simp [tapB]
 (repeat' (first|contradiction|exact .ok|apply And.intro|intro _|(refine gc (fun h=>?_) (fun h=>?_)<;>(have h':=h;(try simp at h');first|done|simp[h,h']|simp))))
 ·rename_i h
  simp [nextI,h]
 ·rename_i h
  simp [nextV,h]
 ·rename_i h1 h2
  have hg:L[i]?=some L[i]:=List.getElem?_eq_getElem h2
  have hn0:¬ n<1:=by omega
  have hz:¬ n=0:=by omega
  have hw:=wrap_in (n:=(i:Int)+1) (by omega) (by omega)
  have e1:=Int.natAbs_tmod L[i] n
  have e2:=Nat.mod_lt L[i].natAbs (show 0<n.natAbs by omega)
  have hw2:=wrap_in (n:=L[i].tmod n+n) (by omega) (by omega)
  have hV:nextV L i n=if L[i].tmod n<0 then L[i].tmod n+n else L[i].tmod n:=by simp [nextV,hn0,hg]
  have hI:nextI i n=i+1:=by simp [nextI,hn0]
  rw [hV,hI]
  clear hV hI
  by_cases hneg:L[i].tmod n<0
  ·simp [hg,hz,hneg,hw,hw2]
   all_goals exact gz
  ·simp [hg,hz,hneg,hw]
   all_goals exact gz
 ·rename_i h1 h2
  simp [nextI,show ¬ n<1 by omega]
  exact wrap_in (by omega) (by omega)
 ·rename_i h1 h2
  simp [nextV,show ¬ n<1 by omega,List.getElem?_eq_none h2]
end Go.Proofs.Tryz
