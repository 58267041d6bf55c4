import Derived.Test.YtkkbepgccddjoaaGreatDoorApp
set_option linter.all false
namespace Go.Proofs.Tryz
open Go.Ab
set_option maxRecDepth 100000
set_option maxHeartbeats 64000000
def at2 (l:List V):V:=(l[2]?).getD nulV
mutual
def aG:Ex→List V→V
 | .mk o _ n t g ks,row=>if bN o ks.length=true then
   if o=2 then ⟨1,n,[]⟩ else if o=3 then ⟨2,n,[]⟩ else if o=4 then ⟨3,0,t⟩
   else if o=5 then (if 0≤g∧g<row.length then (row[g.toNat]?).getD nulV else nulV)
   else if o=26 then (if (iD (bJ ks row)).tr=1 then lA (bJ ks row) else at2 (bJ ks row))
   else aT o (bJ ks row)
   else nulV
def bJ:List Ex→List V→List V
 | [],_=>[]
 | e::es,row=>aG e row::bJ es row
end
theorem kW:∀ (l:List Ex) (row:List V),bJ l row=l.map fun e=>aG e row
 | [],_=>rfl
 | e::es,row=>by rw [bJ,kW es row]; rfl
theorem jI {o c n:Int} {t:List UInt8} {g:Int} {ks:List Ex} {q:Nat} (hq:(Ex.mk o c n t g ks).few q=true):ks.length≤12∧t.length≤200∧∀ e∈ks,e.few (q+1)=true:=by
 rw [Ex.few] at hq
 by_cases h1:60<q
 ·simp [h1] at hq
 by_cases h2:12<ks.length
 ·simp [h1,h2] at hq
 by_cases h3:200<t.length
 ·simp [h1,h2,h3] at hq
 ·simp [h1,h2,h3] at hq
  rw [pW,List.all_eq_true] at hq
  exact ⟨by omega,by omega,hq⟩
theorem NM {n:Nat} (h:bN 26 n=true):n=3:=by simp [bN,bR,bQ,ops] at h; omega
def evF (o c n g:Int) (t:List UInt8) (ks:List Ex) (row:List V):Nat→St
 | 0=>{ s:=cE [(1,.d (.sl (row.map V.c))),(2,.ptr 2 0 0),(4,.ptr 4 0 0),(8,.nils),(78,.d (.sl (ks.map Ex.c))),(79,.d (.int .i64 ks.length)),(80,.d (.int .i64 0))],b:=cC [(2,2,.var [.d (.int .i64 o),.d (.int .i64 c),.d (.int .i64 n),.d (.str t),.d (.int .i64 g),.d (.sl (ks.map Ex.c))]),(4,4,.var [.d (.int .i64 0),.d (.int .i64 0),.d (.str [])])] }
 | i+1=>{ s:=cE [(1,.d (.sl (row.map V.c))),(2,.ptr 2 0 0),(4,.ptr 4 0 0),(8,.ref 900 0 (i+1) 3),(78,.d (.sl (ks.map Ex.c))),(79,.d (.int .i64 ks.length)),(80,.d (.int .i64 (i+1:Nat)))],b:=cC [(2,2,.var [.d (.int .i64 o),.d (.int .i64 c),.d (.int .i64 n),.d (.str t),.d (.int .i64 g),.d (.sl (ks.map Ex.c))]),(4,4,.var [.d (.int .i64 0),.d (.int .i64 0),.d (.str [])]),(900,900,.arr 92 3 ((ks.take (i+1)).map fun e=>(aG e row).c) false)] }
theorem YF (row:List V) (hrow:row.length≤9223372036854775807) (o c n g:Int) (t:List UInt8) (ks:List Ex) (hk:ks.length≤12)
  (hrec:∀ e∈ks,Cf Eo 98 [e.a,.d (.sl (row.map V.c))] [] (aG e row).a []) :
  Cf Eo 98 [(Ex.mk o c n t g ks).a,.d (.sl (row.map V.c))] [] (aG (.mk o c n t g ks) row).a []:=by
  have hkn:=UW o c n t g ks
  refine cI aDM (fn:=Tryz.f98) rfl ?_
  rw [Ex.a] at hkn
  simp [Ex.a,Ex.c,aE] at hkn ⊢
  (repeat' (first|contradiction|exact .ok|apply And.intro|intro _|(refine gc (fun h=>?_) (fun h=>?_)<;>(have h':=h;(try simp at h');first|done|simp[h,h']|simp))))
  refine aP hkn ?_
  cases hcn:bN o ks.length
  ·rw [show aG (.mk o c n t g ks) row=nulV from by simp [aG,hcn]]
   simp [NN,nulV,V.a]
   all_goals exact gz
  by_cases h2:o=2
  ·rw [show aG (.mk o c n t g ks) row=⟨1,n,[]⟩ from by rw [h2] at hcn; simp [aG,hcn,h2]]
   simp [NN,V.a,h2]
   all_goals exact gz
  by_cases h3:o=3
  ·rw [show aG (.mk o c n t g ks) row=⟨2,n,[]⟩ from by rw [h3] at hcn; simp [aG,hcn,h3]]
   simp [NN,V.a,h3]
   all_goals exact gz
  by_cases h4:o=4
  ·rw [show aG (.mk o c n t g ks) row=⟨3,0,t⟩ from by rw [h4] at hcn; simp [aG,hcn,h4]]
   simp [NN,V.a,h4]
   all_goals exact gz
  by_cases h5:o=5
  ·by_cases hg:0≤g∧g<row.length
   ·have hgr:row[g.toNat]?=some row[g.toNat]:=gE (by omega)
    rw [show aG (.mk o c n t g ks) row=row[g.toNat] from by rw [h5] at hcn; simp [aG,hcn,h5,hg]]
    simp [NN,V.a,h5,hg.1,hg.2,V.c]
    (repeat' (first|contradiction|exact .ok|apply And.intro|intro _|(refine gc (fun h=>?_) (fun h=>?_)<;>(have h':=h;(try simp at h');first|done|simp[h,h',hg.1,hg.2,hgr]|simp[hg.1,hg.2,hgr]))))
   ·rw [show aG (.mk o c n t g ks) row=nulV from by rw [h5] at hcn; simp [aG,hcn,h5,hg]]
    simp [NN,V.a,h5,nulV]
    (repeat' (first|contradiction|exact .ok|apply And.intro|intro _|(refine gc (fun h=>?_) (fun h=>?_)<;>(have h':=h;(try simp at h');first|done|simp[h,h']|simp))))
    all_goals (exfalso; omega)
  by_cases h26:o=26
  ·subst h26
   have h3k:=NM hcn
   obtain ⟨a,b,d,rfl⟩:∃ a b d,ks=[a,b,d]:=by
    match ks,h3k with
    | [a,b,d],_=>exact ⟨a,b,d,rfl⟩
   have ca:=hrec a (by simp)
   have cb:=hrec b (by simp)
   have cd:=hrec d (by simp)
   have he:aG (.mk 26 c n t g [a,b,d]) row=if (aG a row).tr=1 then aG b row else aG d row:=by
    rw [aG,if_pos hcn]
    simp [bJ,iD,lA,at2]
   rw [he]
   simp [NN,Ex.clen,Ex.ctake]
   (repeat' (first|contradiction|exact .ok|apply And.intro|intro _|(refine gc (fun h=>?_) (fun h=>?_)<;>(have h':=h;(try simp at h');first|done|simp[h,h']|simp))))
   refine aA ca (by simp [Ex.a]) ?_
   simp [V.a]
   refine aA (up (nL (aG a row))) (by simp [V.a]) ?_
   by_cases h1:(aG a row).tr=1
   ·simp [h1,Ex.clen,Ex.ctake]
    (repeat' (first|contradiction|exact .ok|apply And.intro|intro _|(refine gc (fun h=>?_) (fun h=>?_)<;>(have h':=h;(try simp at h');first|done|simp[h,h']|simp))))
    refine aA cb (by simp [Ex.a]) ?_
    simp [V.a]
    (repeat' (first|contradiction|exact .ok|apply And.intro|intro _|(refine gc (fun h=>?_) (fun h=>?_)<;>(have h':=h;(try simp at h');first|done|simp[h,h']|simp))))
    all_goals simp [h1]
   ·simp [h1,Ex.clen,Ex.ctake]
    (repeat' (first|contradiction|exact .ok|apply And.intro|intro _|(refine gc (fun h=>?_) (fun h=>?_)<;>(have h':=h;(try simp at h');first|done|simp[h,h']|simp))))
    refine aA cd (by simp [Ex.a]) ?_
    simp [V.a]
    (repeat' (first|contradiction|exact .ok|apply And.intro|intro _|(refine gc (fun h=>?_) (fun h=>?_)<;>(have h':=h;(try simp at h');first|done|simp[h,h']|simp))))
    all_goals simp [h1]
  have he:aG (.mk o c n t g ks) row=aT o (bJ ks row):=by
   rw [aG,if_pos hcn,if_neg h2,if_neg h3,if_neg h4,if_neg h5,if_neg h26]
  rw [he]
  have hap:=up (XX o (bJ ks row) (by rw [kW,List.length_map]; exact hcn) (by rw [kW,List.length_map]; omega) h2 h3 h4 h5 h26)
  simp [NN,h2,h3,h4,h5,h26]
  (repeat' (first|contradiction|exact .ok|apply And.intro|intro _|(refine gc (fun h=>?_) (fun h=>?_)<;>(have h':=h;(try simp at h');first|done|simp[h,h']|simp))))
  refine aL aDM (evF o c n g t ks row) (fun i:Nat=>i≤ks.length) (fun i=>ks.length - i) 0 (by simp) (aI [(1,_),(2,_),(4,_),(8,_),(78,_),(79,_),(80,_)] [(2,2,_),(4,4,_)] ⟨by simp,by simp,by simp [aB,Blk.live],by simp⟩ (by simp [aB])) ?_
  intro i hi
  by_cases hlt:i<ks.length
  ·have hgi:ks[i]?=some ks[i]:=gE hlt
   have c1:=Ex.clen ks[i]
   have k1:=Ex.ctake ks[i]
   have hr:=hrec ks[i] (List.getElem_mem hlt)
   have htk:List.take (i+1) (List.map (fun e=>(aG e row).c) ks)=List.take i (List.map (fun e=>(aG e row).c) ks)++[(aG ks[i] row).c]:=by
    rw [List.take_add_one,List.getElem?_map,hgi]; rfl
   simp only [V.c] at htk
   cases i with
   | zero =>
     have hlt2:(0:Int)<ks.length:=by omega
     simp [evF,hlt,c1,k1]
     (repeat' (first|contradiction|exact .ok|apply And.intro|intro _|(refine gc (fun h=>?_) (fun h=>?_)<;>(have h':=h;(try simp at h');first|done|simp[h,h']|simp))))
     refine aA hr (by simp [Ex.a]) ?_
     simp [V.a]
     (repeat' (first|contradiction|exact .ok|apply And.intro|intro _|(refine gc (fun h=>?_) (fun h=>?_)<;>(have h':=h;(try simp at h');first|done|simp[h,h']|simp))))
     refine ⟨1,hlt,?_,?_⟩
     ·refine aI [(1,_),(2,_),(4,_),(8,_),(78,_),(79,_),(80,_)] [(2,2,_),(4,4,_),(900,89,_)] ⟨by simp,by simp,?_,by simp⟩ ?_
      ·simp only [Nat.zero_add,List.take_zero,List.nil_append] at htk
       simp [aB,Blk.live,htk,V.c]
      ·simp [aB]
       exact bL (by omega) (by omega)
     ·simp; omega
   | succ i =>
     have hlt2:((i+1:Nat):Int)<ks.length:=by omega
     have hlt3:(i:Int)+1<ks.length:=by omega
     have hp:(0:Int)≤(i:Int)+1:=by omega
     have hmin:min (i+1) ks.length=i+1:=by omega
     have s1:(i+1+1)*32≤140737488355328:=by omega
     have s2:i≤9223372036854775805:=by omega
     simp [evF,hlt,hlt3,hp,c1,k1]
     (repeat' (first|contradiction|exact .ok|apply And.intro|intro _|(refine gc (fun h=>?_) (fun h=>?_)<;>(have h':=h;(try simp at h');first|done|simp[h,h']|simp))))
     refine aA hr (by simp [Ex.a]) ?_
     simp [V.a,hmin,s1,s2]
     (repeat' (first|contradiction|exact .ok|apply And.intro|intro _|(refine gc (fun h=>?_) (fun h=>?_)<;>(have h':=h;(try simp at h');first|done|simp[h,h']|simp))))
     refine ⟨i+2,by omega,?_,?_⟩
     ·refine aI [(1,_),(2,_),(4,_),(8,_),(78,_),(79,_),(80,_)] [(2,2,_),(4,4,_),(900,89,_)] ⟨by simp,by simp,?_,by simp⟩ ?_
      ·simp [aB,Blk.live,htk,V.c]
      ·simp [aB]
       rw [bL (by omega) (by omega)]
     ·simp; omega
  ·have hie:i=ks.length:=by omega
   subst hie
   cases hkl:ks.length with
   | zero =>
     have:ks=[]:=List.eq_nil_of_length_eq_zero hkl
     subst this
     simp [evF]
     (repeat' (first|contradiction|exact .ok|apply And.intro|intro _|(refine gc (fun h=>?_) (fun h=>?_)<;>(have h':=h;(try simp at h');first|done|simp[h,h']|simp))))
     refine aA hap (by simp [bJ]) ?_
     simp [V.a]
     all_goals exact gz
   | succ i =>
     simp [evF,hkl]
     (repeat' (first|contradiction|exact .ok|apply And.intro|intro _|(refine gc (fun h=>?_) (fun h=>?_)<;>(have h':=h;(try simp at h');first|done|simp[h,h']|simp))))
     have htk:List.take (i+1) (List.map (fun e=>(aG e row).c) ks)=List.map (fun e=>(aG e row).c) ks:=List.take_of_length_le (by simp [hkl])
     have hle:i+1≤ks.length:=by omega
     refine aA hap (by simp [kW,Function.comp_def,htk,hle]) ?_
     simp [V.a,htk,hle]
     all_goals exact gz
theorem JP (row:List V) (hrow:row.length≤9223372036854775807):∀ (m:Nat) (e:Ex),SizeOf.sizeOf e<m→∀ q:Nat,e.few q=true→Cf Eo 98 [e.a,.d (.sl (row.map V.c))] [] (aG e row).a []
 | 0,_,h,_,_=>absurd h (by omega)
 | m+1,.mk o c n t g ks,hm,q,hq=>by
   obtain ⟨hk,ht,hfew⟩:=jI hq
   exact YF row hrow o c n g t ks hk fun e he =>
    JP row hrow m e (by have:=Ex.kid_lt (e:=.mk o c n t g ks) (k:=e) he; omega) (q+1) (hfew e he)
def KH (op:Int) (n:Nat):Bool :=
 if op≤5 then n==0 else if op=11∨op=13∨op=21∨op=24∨op=25 then n==1 else if op=26 then n==3 else if op=28 then decide (2≤n) else n==2
theorem aCg (op:Int) (n:Nat):Cf En 149 [.d (.int .i64 op),.d (.int .i64 n)] [] (.d (.bool (KH op n))) []:=by
 refine cI aW (fn:=Tryz.f149) rfl ?_
 unfold KH
 by_cases h5:op≤5
 ·simp [h5]
  (repeat' first|contradiction|exact .ok|apply And.intro|intro _|(apply gc<;>simp+contextual[h5]))
  all_goals try (rw [Bool.eq_iff_iff]; simp; done)
  all_goals try (rw [Bool.eq_iff_iff]; simp; omega)
  all_goals try omega
 by_cases h11:op=11
 ·subst h11; simp
  (repeat' first|contradiction|exact .ok|apply And.intro|intro _|(apply gc<;>simp+contextual))
  all_goals try (rw [Bool.eq_iff_iff]; simp; done)
  all_goals try (rw [Bool.eq_iff_iff]; simp; omega)
  all_goals try omega
 by_cases h13:op=13
 ·subst h13; simp
  (repeat' first|contradiction|exact .ok|apply And.intro|intro _|(apply gc<;>simp+contextual))
  all_goals try (rw [Bool.eq_iff_iff]; simp; done)
  all_goals try (rw [Bool.eq_iff_iff]; simp; omega)
  all_goals try omega
 by_cases h21:op=21
 ·subst h21; simp
  (repeat' first|contradiction|exact .ok|apply And.intro|intro _|(apply gc<;>simp+contextual))
  all_goals try (rw [Bool.eq_iff_iff]; simp; done)
  all_goals try (rw [Bool.eq_iff_iff]; simp; omega)
  all_goals try omega
 by_cases h24:op=24
 ·subst h24; simp
  (repeat' first|contradiction|exact .ok|apply And.intro|intro _|(apply gc<;>simp+contextual))
  all_goals try (rw [Bool.eq_iff_iff]; simp; done)
  all_goals try (rw [Bool.eq_iff_iff]; simp; omega)
  all_goals try omega
 by_cases h25:op=25
 ·subst h25; simp
  (repeat' first|contradiction|exact .ok|apply And.intro|intro _|(apply gc<;>simp+contextual))
  all_goals try (rw [Bool.eq_iff_iff]; simp; done)
  all_goals try (rw [Bool.eq_iff_iff]; simp; omega)
  all_goals try omega
 by_cases h26:op=26
 ·subst h26; simp
  (repeat' first|contradiction|exact .ok|apply And.intro|intro _|(apply gc<;>simp+contextual))
  all_goals try (rw [Bool.eq_iff_iff]; simp; done)
  all_goals try (rw [Bool.eq_iff_iff]; simp; omega)
  all_goals try omega
 by_cases h28:op=28
 ·subst h28; simp
  (repeat' first|contradiction|exact .ok|apply And.intro|intro _|(apply gc<;>simp+contextual))
  all_goals try (rw [Bool.eq_iff_iff]; simp; done)
  all_goals try (rw [Bool.eq_iff_iff]; simp; omega)
  all_goals try omega
 simp [h5,h11,h13,h21,h24,h25,h26,h28]
 (repeat' first|contradiction|exact .ok|apply And.intro|intro _|(apply gc<;>simp+contextual[h5,h11,h13,h21,h24,h25,h26,h28]))
 all_goals try (rw [Bool.eq_iff_iff]; simp; done)
 all_goals try (rw [Bool.eq_iff_iff]; simp; omega)
 all_goals try omega
theorem HC (op:Int) (n:Nat) (h:bR op=true):KH op n=bN op n:=by
 have h2:1≤op∧op≤28:=by simpa [bR] using h
 have h3:op=1∨op=2∨op=3∨op=4∨op=5∨op=6∨op=7∨op=8∨op=9∨op=10∨op=11∨op=12∨op=13∨op=14∨op=15∨op=16∨op=17∨op=18∨op=19∨op=20∨op=21∨op=22∨op=23∨op=24∨op=25∨op=26∨op=27∨op=28:=by omega
 clear h h2
 rcases h3 with rfl | rfl | rfl | rfl | rfl | rfl | rfl | rfl | rfl | rfl | rfl | rfl | rfl | rfl | rfl | rfl | rfl | rfl | rfl | rfl | rfl | rfl | rfl | rfl | rfl | rfl | rfl | rfl <;> (rw [Bool.eq_iff_iff]; simp [KH,bN,bR,bQ,ops]; try omega)
theorem orF (x y:V):LE ⟨2,0,[]⟩ (qU x y)=qU x y:=by
 unfold qU
 split
 ·simp [LE,V.tr,nulV]
 ·cases x.same y <;> simp [LE,V.tr,zI]
def inF (o:V) (x:V) (ys:List V):V:=ys.foldl (fun o y=>LE o (qU x y)) o
theorem aCh (x y:V) (ys:List V):inV x (y::ys)=inF (qU x y) x ys:=by
 unfold inV inF
 rw [List.foldl_cons,orF]
theorem aCi (o x:V) (ys:List V) (i:Nat) (y:V) (h:ys[i]?=some y):inF o x (ys.take (i+1))=LE (inF o x (ys.take i)) (qU x y):=by
 unfold inF
 rw [List.take_add_one,h]
 simp
def rY (o c n g:Int) (t:List UInt8) (ks:List Ex) (row:List V):Nat→St
 | 0=>{ s:=cE [(1,.d (.sl (row.map V.c))),(2,.ptr 2 0 0),(4,.ptr 4 0 0),(5,.nils),(6,.d (.int .i64 0))],b:=cC [(2,2,.var [.d (.int .i64 o),.d (.int .i64 c),.d (.int .i64 n),.d (.str t),.d (.int .i64 g),.d (.sl (ks.map Ex.c))]),(4,4,.var [.d (.int .i64 0),.d (.int .i64 0),.d (.str [])])] }
 | i+1=>{ s:=cE [(1,.d (.sl (row.map V.c))),(2,.ptr 2 0 0),(4,.ptr 4 0 0),(5,.ref 900 0 (i+1) 3),(6,.d (.int .i64 (i+1:Nat)))],b:=cC [(2,2,.var [.d (.int .i64 o),.d (.int .i64 c),.d (.int .i64 n),.d (.str t),.d (.int .i64 g),.d (.sl (ks.map Ex.c))]),(4,4,.var [.d (.int .i64 0),.d (.int .i64 0),.d (.str [])]),(900,900,.arr 92 3 ((ks.take (i+1)).map fun e=>(aG e row).c) false)] }
end Go.Proofs.Tryz
