import Derived.Test.YtkkbepgccddjoaaGreatDoorWsm
import Derived.Test.YtkkbepgccddjoaaGreatDoorPlw
import Derived.Test.YtkkbepgccddjoaaGreatDoorARsm
set_option linter.all false
namespace Go.Proofs.Tryz
open Go.Ab
set_option maxRecDepth 100000
set_option maxHeartbeats 8000000
theorem seqF_add {α:Type} (f:Nat→α) (a:Nat):∀ b,seqF f (a+b)=seqF f a++seqF (fun i=>f (a+i)) b
 | 0=>by simp [seqF]
 | b+1=>by rw [← Nat.add_assoc,seqF,seqF_add f a b,seqF,List.append_assoc]
theorem rowsN_app {S:List Tb} {X:Nat→List Bk} {x:Tb} {l:List Bk} {m n:Nat} (h:m≤n):rowsN S X x l 0 m++rowsN S X x l m n=rowsN S X x l 0 n:=by
 unfold rowsN
 obtain ⟨d,rfl⟩:∃ d,n=m+d:=⟨n - m,by omega⟩
 simp only [Nat.sub_zero,Nat.zero_add,Nat.add_sub_cancel_left]
 rw [seqF_add]
theorem rowsN_at {S:List Tb} {X:Nat→List Bk} {x:Tb} {l:List Bk} {r n:Nat} (h:r<n):(rowsN S X x l 0 n)[r]?=some (rowN S X x l r):=by
 unfold rowsN
 rw [seqF_get,if_pos (by omega),Nat.zero_add]
theorem summary_agrees (L:List Int) :
  Cf Es 3 [.d (.sl (ints L))] [] (.d (.bool true)) []:=by
 refine cf_intro mixs (fn:=Tryz.f3) (by kernel_rfl) rfl (by kernel_rfl) (by decide) (by simp) ?_
 have hpl:=ups (t_plain L 0 (by omega))
 obtain ⟨N,hN⟩:∃ N,N=(1+nextV L 0 3).toNat:=⟨_,rfl⟩
 have hn3:=nextV_in L 0 (n:=3) (by omega)
 rw [← hN] at hpl
 have hN3:N≤6:=by omega
 have hbl:=tabsP_le L (0+1) N
 have hfree:=ups (t_free (tabsP L (0+1) N).1 (by rw [tabsP_len]; omega))
 obtain ⟨b,hb⟩:∃ b,b=(tabsP L (0+1) N).2:=⟨_,rfl⟩
 have hW:=smy_world L N hN3 4 5 b (by omega) (by omega) (by omega)
 have hsu:=ups (t_summary L (freS (tabsP L (0+1) N).1) hW.fill hW.dec 4 5 (by omega) (by omega) (by omega) b (by omega))
 have hpos:=(smyT_le L hW.fill (blocks:=4) (by omega) (most:=5) (a:=b) (freS (tabsP L (0+1) N).1).length).1
 obtain ⟨S,hS⟩:∃ S,S=freS (tabsP L (0+1) N).1:=⟨_,rfl⟩
 rw [← hS] at hW hsu hfree hpos
 rw [← hb] at hpl hbl
 generalize (tabsP L (0+1) N).1=S0 at *
 obtain ⟨T,e0,hT⟩:∃ T e0,smyT L S 4 5 b S.length=(T,e0):=⟨_,_,rfl⟩
 rw [hT] at hW hsu hpos
 simp only at hW hsu hpos
 clear hS hb hN hT
 have hSum:=hW.sumok
 have hfn:=fnX_seq hW.out
 have hins:=hW.ins
 have hPlain:=p_PlainA hW.fill.ok
 rw [hW.pln] at hPlain
 have hVal:=r_validA hW.fill.ok
 rw [hW.plnT.1] at hVal
 have hfew:=hW.fill.few
 have hInst:=q_Instance hSum hPlain hW.tg hW.key (fun l hl=>by
  obtain ⟨j,_,rfl⟩:=seqF_mem.1 hl
  have:=(hW.sum j).2
  omega)
 rw [hfn] at hInst
 have hv9:=r9_valid hins hVal
 have hXat:∀ k,k<S.length→(seqF T S.length)[k]?=some (T k):=fun k hk=>by rw [seqF_get,if_pos hk]
 have hIat:∀ k,k<S.length→∀ h,(seqF (insY S T) S.length)[k]'h=insY S T k:=fun k hk h=>by
  have:=seqF_get (insY S T) S.length k
  rw [if_pos hk,List.getElem?_eq_getElem h] at this
  exact Option.some.inj this
 have hIl:(seqF (insY S T) S.length).length=S.length:=seqF_len ..
 have hSz:=fun k (hk:k<S.length)=>ups (m_size (seqF T S.length) k (T k) (hXat k hk) (by have:=(hW.sum k).1; omega) (by have:=(hW.sum k).2; omega) (by rw [seqF_len]; omega))
 have hSl:=fun k (hk:k<S.length) (a b:Nat) (hab:a≤b) (hb:b≤sumN (cntB (T k)))=>q_Slice hSum hPlain hW.tg (List.getElem?_eq_getElem hk) (hXat k hk) (hW.key _ (List.getElem_mem hk)) hab hb (by have:=(hW.sum k).2; omega)
 have hRo:=fun k (hk:k<S.length) (n:Nat) (hn:n<sumN (cntB (T k)))=>q_Row hSum hPlain hW.tg (List.getElem?_eq_getElem hk) (hXat k hk) (hW.key _ (List.getElem_mem hk)) hn
 rw [hfn] at hSl hRo
 have hrl:∀ k,k<S.length→∀ row∈insY S T k,row.length≤1000:=fun k hk row hm=>by
  obtain ⟨r,hr⟩:=List.mem_iff_getElem?.1 hm
  have h1:=(hins.row k hk r row hr).len
  have h2:=hW.fill.cols _ (hW.tab hk)
  omega
 have hiy:∀ k (hk:k<S.length),insY S T k=rowsN S T S[k] (T k) 0 (sumN (cntB (T k))):=fun k hk=>by
  unfold insY tabO
  rw [List.getElem?_eq_getElem hk]
  rfl
 have hsum:=fun k=>(hW.sum k).2
 have hSn:S.length≤10:=hfew
 generalize hI:seqF (insY S T) S.length=I at *
 generalize hX:seqF T S.length=X at *
 clear hSum hW hins hVal hPlain hXat hI
 simp [tapB] at hpl ⊢
 (repeat' (first|contradiction|exact .ok|apply And.intro|intro _|(refine gc (fun h=>?_) (fun h=>?_)<;>(have h':=h;(try simp at h');first|done|simp[h,h']|simp))))
 refine acallT_hand [20] hpl (by simp) (by simp) (by simp) (by simp [tapB,ints]) (by simp) ?_
 simp [tapB]
 (repeat' (first|contradiction|exact .ok|apply And.intro|intro _|(refine gc (fun h=>?_) (fun h=>?_)<;>(have h':=h;(try simp at h');first|done|simp[h,h']|simp))))
 refine acallT_plain hfree (by simp [schA]) ?_
 simp [schA]
 (repeat' (first|contradiction|exact .ok|apply And.intro|intro _|(refine gc (fun h=>?_) (fun h=>?_)<;>(have h':=h;(try simp at h');first|done|simp[h,h']|simp))))
 simp [tapB,schA] at hsu
 refine acallT_hand [20] hsu (by simp) (by simp) (by simp) (by simp [tapB]) (by simp [schA]) ?_
 simp [smyA]
 (repeat' (first|contradiction|exact .ok|apply And.intro|intro _|(refine gc (fun h=>?_) (fun h=>?_)<;>(have h':=h;(try simp at h');first|done|simp[h,h']|simp))))
 refine acallT_plain hInst (by simp [schA,smyA]) ?_
 simp [instA,hIl]
 (repeat' (first|contradiction|exact .ok|apply And.intro|intro _|(refine gc (fun h=>?_) (fun h=>?_)<;>(have h':=h;(try simp at h');first|done|simp[h,h',hIl]|simp[hIl]))))
 refine acallT_plain hv9 (by simp [schA,instA]) ?_
 simp
 (repeat' (first|contradiction|exact .ok|apply And.intro|intro _|(refine gc (fun h=>?_) (fun h=>?_)<;>(have h':=h;(try simp at h');first|done|simp[h,h']|simp))))
 refine aloopT mixs (by decide) (fun y:Nat×Nat=>{ s:=mkS [(3,.ptr 20 0 0),(4,.ptr 4 0 0),(5,.ptr 5 0 0),(6,.ptr 6 0 0),(8,.d (.int .i64 y.1))],b:=mkB [(20,20,tapB L y.2),(4,4,.var [.d (.sl (S.map Tb.c))]),(5,5,.var [.d (.sl (X.map bkD))]),(6,6,.var [.d (.sl (I.map tabD))])] })
  (fun y=>y.1≤S.length∧y.2≤e0+y.1) (fun y=>S.length - y.1) (0,e0) ⟨by simp,by simp⟩ (sub_mk _ [(20,20,_),(4,4,_),(5,5,_),(6,6,_)] ⟨by simp,by simp,by simp [renOf,Blk.live,tapB],by simp⟩ (by simp [renOf])) ?_
 rintro ⟨k,e⟩ ⟨hk,he⟩
 simp only at hk he
 by_cases hkl:k<S.length
 ·have hkI:k<I.length:=by omega
  have hgI:=hIat k hkl hkI
  have hgI':∀ h,I[k]'h=insY S T k:=fun _=>hgI
  have hsz:=hSz k hkl
  have hsl:=hSl k hkl
  have hro:=hRo k hkl
  have hrlk:=hrl k hkl
  have hsk:=hsum k
  rw [hiy k hkl] at hgI' hrlk
  generalize S[k]=x at *
  obtain ⟨M,hM⟩:∃ M,M=sumN (cntB (T k)):=⟨_,rfl⟩
  rw [← hM] at hsz hsl hro hgI' hsk hrlk
  have hRl:=rowsN_len (S:=S) (X:=T) (x:=x) (l:=T k) (a:=0) (b:=M)
  rw [Nat.sub_zero] at hRl
  have hwk:=wrap_in (n:=(k:Int)+1) (by omega) (by omega)
  have hwM:=wrap_in (n:=(M:Int)+1) (by omega) (by omega)
  have hwM1:=wrap_in (n:=(M:Int) - 1) (by omega) (by omega)
  have htn:=ups (t_next1 L e (by omega) ((M:Int)+1) (by omega) (by omega))
  have hn:=nextV_in L e (n:=(M:Int)+1) (by omega)
  obtain ⟨m,hm⟩:∃ m:Nat,nextV L e ((M:Int)+1)=m:=⟨(nextV L e ((M:Int)+1)).toNat,by omega⟩
  rw [hm] at htn hn
  have hmM:m≤M:=by omega
  have hs1:=hsl 0 m (by omega) hmM
  have hs2:=hsl m M hmM (Nat.le_refl _)
  rw [Nat.sub_zero,show ((0:Nat):Int)=0 from rfl] at hs1
  have happ:=rowsN_app (S:=S) (X:=T) (x:=x) (l:=T k) hmM
  have happ2:(rowsN S T x (T k) 0 m).map rowD++(rowsN S T x (T k) m M).map rowD=(rowsN S T x (T k) 0 M).map rowD:=by rw [← List.map_append,happ]
  have hl1:=rowsN_len (S:=S) (X:=T) (x:=x) (l:=T k) (a:=0) (b:=m)
  have hl2:=rowsN_len (S:=S) (X:=T) (x:=x) (l:=T k) (a:=m) (b:=M)
  rw [Nat.sub_zero] at hl1
  have hat:=fun r (h:r<M)=>rowsN_at (S:=S) (X:=T) (x:=x) (l:=T k) h
  have hre:Cf Es 16 [.d (.sl ((rowsN S T x (T k) 0 M).map rowD)),.d (.sl ((rowsN S T x (T k) 0 M).map rowD))] [] (.d (.bool true)) []:=ups (r_equal (rowsN S T x (T k) 0 M) (by omega) (fun r hr=>by have:=hrlk r hr; omega))
  have ht1:((rowsN S T x (T k) 0 m).map rowD).take m=(rowsN S T x (T k) 0 m).map rowD:=List.take_of_length_le (by simp [hl1])
  have ht2:((rowsN S T x (T k) m M).map rowD).take (M - m)=(rowsN S T x (T k) m M).map rowD:=List.take_of_length_le (by simp [hl2])
  have hmm:m+(M - m)=M:=by omega
  have hat2:∀ r (h:r<M),∀ h',(rowsN S T x (T k) 0 M)[r]'h'=rowN S T x (T k) r:=fun r h h'=>by
   have:=hat r h
   rw [List.getElem?_eq_getElem h',Option.some.injEq] at this
   exact this
  have hrw:∀ r (h:r<M),(rowN S T x (T k) r).length≤1000:=fun r h=>hrlk _ (List.mem_of_getElem? (hat r h))
  clear happ hrlk hSz hSl hRo hIat hrl hiy hsum hm hat
  generalize rowN S T x (T k)=RN at *
  generalize rowsN S T x (T k) 0 M=R at *
  generalize rowsN S T x (T k) 0 m=R1 at *
  generalize rowsN S T x (T k) m M=R2 at *
  have hrd:∀ x:List V,(rowD x).length=1:=fun _=>rfl
  have htR:(R.map rowD).take M=R.map rowD:=List.take_of_length_le (by simp [hRl])
  simp [tapB,hkl]
  (repeat' (first|contradiction|exact .ok|apply And.intro|intro _|(refine gc (fun h=>?_) (fun h=>?_)<;>(have h':=h;(try simp at h');first|done|simp[h,h']|simp))))
  refine acallT_plain hsz (by simp [smyA]) ?_
  simp [hkI,hgI',tabD,hRl]
  (repeat' (first|contradiction|exact .ok|apply And.intro|intro _|(refine gc (fun h=>?_) (fun h=>?_)<;>(have h':=h;(try simp at h');first|done|simp[h,h',hkI,hgI',tabD,hRl]|simp[hkI,hgI',tabD,hRl]))))
  refine acallT_hand [20] htn (by simp) (by simp) (by simp) (by simp [tapB]) (by simp [hwM]) ?_
  simp [tapB]
  (repeat' (first|contradiction|exact .ok|apply And.intro|intro _|(refine gc (fun h=>?_) (fun h=>?_)<;>(have h':=h;(try simp at h');first|done|simp[h,h']|simp))))
  refine acallT_new [] hs1 (by simp) (by simp) (by simp) (by simp) (by simp) (by simp) (by simp [schA,smyA]) ?_
  simp
  (repeat' (first|contradiction|exact .ok|apply And.intro|intro _|(refine gc (fun h=>?_) (fun h=>?_)<;>(have h':=h;(try simp at h');first|done|simp[h,h']|simp))))
  refine acallT_new [] hs2 (by simp) (by simp) (by simp) (by simp) (by simp) (by simp) (by simp [schA,smyA]) ?_
  simp [hrd,hl1,hl2,ht1,ht2,hmm,happ2,hkI,hgI',tabD,szs m (by omega) 24 (by decide),szs M (by omega) 24 (by decide)]
  (repeat' (first|contradiction|exact .ok|apply And.intro|intro _|(refine gc (fun h=>?_) (fun h=>?_)<;>(have h':=h;(try simp at h');first|done|simp[h,h']|simp))))
  refine acallT_plain hre (by simp [hRl,htR]) ?_
  simp [hRl,htR]
  (repeat' (first|contradiction|exact .ok|apply And.intro|intro _|(refine gc (fun h=>?_) (fun h=>?_)<;>(have h':=h;(try simp at h');first|done|simp[h,h']|simp))))
  refine aloopT mixs (by decide) (fun i:Nat=>{ s:=mkS [(3,.ptr 20 0 0),(4,.ptr 4 0 0),(5,.ptr 5 0 0),(6,.ptr 6 0 0),(8,.d (.int .i64 k)),(9,.d (.int .i64 M)),(15,.d (.int .i64 ((M:Int) - 1 - i)))],b:=mkB [(20,20,tapB L (e+1)),(4,4,.var [.d (.sl (S.map Tb.c))]),(5,5,.var [.d (.sl (X.map bkD))]),(6,6,.var [.d (.sl (I.map tabD))])] })
   (fun i=>i≤M) (fun i=>M - i) 0 (by simp) (sub_mk _ [(20,20,_),(4,4,_),(5,5,_),(6,6,_)] ⟨by simp,by simp,by simp [renOf,Blk.live,tapB],by simp⟩ (by simp [renOf,hwM1])) ?_
  intro i hi
  by_cases hil:i<M
  ·have h0:(0:Int)≤(M:Int) - 1 - i:=by omega
   obtain ⟨r,hr⟩:∃ r:Nat,(M:Int) - 1 - i=r:=⟨((M:Int) - 1 - i).toNat,by omega⟩
   have hrM:r<M:=by omega
   have hwr:=wrap_in (n:=(r:Int) - 1) (by omega) (by omega)
   have hrow:=hro r hrM
   have hgr:=hat2 r hrM
   have hrl:=hrw r hrM
   have hcm:=ups (r_rowsC (RN r) (RN r) (by omega) (by omega))
   rw [cmpRows_self] at hcm
   simp [tapB,hr]
   (repeat' (first|contradiction|exact .ok|apply And.intro|intro _|(refine gc (fun h=>?_) (fun h=>?_)<;>(have h':=h;(try simp at h');first|done|simp[h,h']|simp))))
   refine acallT_plain hrow (by simp [schA,smyA]) ?_
   simp [rowT,hkI,hgI',tabD,hRl,hrM,hgr,rowD]
   (repeat' (first|contradiction|exact .ok|apply And.intro|intro _|(refine gc (fun h=>?_) (fun h=>?_)<;>(have h':=h;(try simp at h');first|done|simp[h,h',hkI,hgI',tabD,hRl,hrM,hgr,rowD]|simp[hkI,hgI',tabD,hRl,hrM,hgr,rowD]))))
   refine acallT_plain hcm (by simp) ?_
   simp
   (repeat' (first|contradiction|exact .ok|apply And.intro|intro _|(refine gc (fun h=>?_) (fun h=>?_)<;>(have h':=h;(try simp at h');first|done|simp[h,h']|simp))))
   refine ⟨i+1,by omega,?_,by simp; omega⟩
   exact sub_mk _ [(20,20,_),(4,4,_),(5,5,_),(6,6,_)] ⟨by simp,by simp,by simp [renOf,Blk.live,tapB],by simp⟩ (by simp [renOf,hwr]; omega)
  obtain rfl:i=M:=by omega
  have hm1:(i:Int) - 1 - i=-1:=by omega
  simp [tapB,hm1]
  (repeat' (first|contradiction|exact .ok|apply And.intro|intro _|(refine gc (fun h=>?_) (fun h=>?_)<;>(have h':=h;(try simp at h');first|done|simp[h,h']|simp))))
  refine ⟨(k+1,e+1),⟨by simp; omega,by simp; omega⟩,?_,by simp; omega⟩
  exact sub_mk _ [(20,20,_),(4,4,_),(5,5,_),(6,6,_)] ⟨by simp,by simp,by simp [renOf,Blk.live,tapB],by simp⟩ (by simp [renOf,hwk])
 obtain rfl:k=S.length:=by omega
 simp
 all_goals exact gz
end Go.Proofs.Tryz
