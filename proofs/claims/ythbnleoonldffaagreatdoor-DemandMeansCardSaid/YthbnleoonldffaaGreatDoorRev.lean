import Derived.Test.YthbnleoonldffaaGreatDoorQTap
set_option linter.all false
namespace Go.Proofs.Tryz
open Go.Ab
set_option maxRecDepth 100000
set_option maxHeartbeats 64000000
theorem PN (row:List V) (hrow:row.length≤9223372036854775807) (o c n g:Int) (t:List UInt8) (ks:List Ex) (hk:ks.length≤12)
  (hrec:∀ e∈ks,Cf En 109 [e.a,.d (.sl (row.map V.c))] [] (aI e row).a []) (hcn:bI o ks.length=true) :
  Cf En 109 [(Ex.mk o c n t g ks).a,.d (.sl (row.map V.c))] [] (aI (.mk o c n t g ks) row).a []:=by
  refine aD aW (fn:=Tryz.f109) (by kernel_rfl) rfl (by kernel_rfl) (by decide) (by simp) ?_
  have h1:bL o=true:=by
   unfold bI at hcn
   simp only [Bool.and_eq_true] at hcn
   exact hcn.1
  have h2:1≤o∧o≤28:=by simpa [bL] using h1
  have ho1:¬ o<1:=by omega
  have ho2:¬ 28<o:=by omega
  have hkc:=EI o ks.length h1
  simp [Ex.a,Ex.c,aC]
  (repeat' (first|contradiction|exact .ok|apply And.intro|intro _|(refine gc (fun h=>?_) (fun h=>?_)<;>(have h':=h;(try simp at h');first|done|simp[h,h',ho1,ho2]|simp[ho1,ho2]))))
  refine aA (aAc o ks.length) (by simp) ?_
  rw [hkc,hcn]
  simp
  (repeat' (first|contradiction|exact .ok|apply And.intro|intro _|(refine gc (fun h=>?_) (fun h=>?_)<;>(have h':=h;(try simp at h');first|done|simp[h,h']|simp))))
  refine aL aW (by decide) (qJ o c n g t ks row) (fun i:Nat=>i≤ks.length) (fun i=>ks.length - i) 0 (by simp) (aE [(1,_),(2,_),(4,_),(5,_),(6,_)] [(2,2,_),(4,4,_)] ⟨by simp,by simp,by simp [aB,Blk.live],by simp⟩ (by simp [aB])) ?_
  intro i hi
  by_cases hlt:i<ks.length
  ·have hgi:ks[i]?=some ks[i]:=List.getElem?_eq_getElem hlt
   have c1:=Ex.clen ks[i]
   have k1:=Ex.ctake ks[i]
   have hr:=hrec ks[i] (List.getElem_mem hlt)
   have htk:List.take (i+1) (List.map (fun e=>(aI e row).c) ks)=List.take i (List.map (fun e=>(aI e row).c) ks)++[(aI ks[i] row).c]:=by
    rw [List.take_add_one,List.getElem?_map,hgi]; rfl
   simp only [V.c] at htk
   cases i with
   | zero =>
     have hlt2:(0:Int)<ks.length:=by omega
     simp [qJ,hlt,hlt2,hgi,c1,k1]
     (repeat' (first|contradiction|exact .ok|apply And.intro|intro _|(refine gc (fun h=>?_) (fun h=>?_)<;>(have h':=h;(try simp at h');first|done|simp[h,h']|simp))))
     refine aA hr (by simp [Ex.a]) ?_
     simp [V.a]
     (repeat' (first|contradiction|exact .ok|apply And.intro|intro _|(refine gc (fun h=>?_) (fun h=>?_)<;>(have h':=h;(try simp at h');first|done|simp[h,h']|simp))))
     refine ⟨1,hlt,?_,?_⟩
     ·refine aE [(1,_),(2,_),(4,_),(5,_),(6,_)] [(2,2,_),(4,4,_),(900,43,_)] ⟨by simp,by simp,?_,by simp⟩ ?_
      ·simp only [Nat.zero_add,List.take_zero,List.nil_append] at htk
       simp [aB,Blk.live,htk,V.c]
      ·simp [aB]
       exact aH (by omega) (by omega)
     ·simp; omega
   | succ i =>
     have hlt2:((i+1:Nat):Int)<ks.length:=by omega
     have hlt3:(i:Int)+1<ks.length:=by omega
     have hp:(0:Int)≤(i:Int)+1:=by omega
     have hmin:min (i+1) ks.length=i+1:=by omega
     have s1:(i+1+1)*32≤140737488355328:=by omega
     have s2:i≤9223372036854775805:=by omega
     simp [qJ,hlt,hlt2,hlt3,hp,hgi,c1,k1]
     (repeat' (first|contradiction|exact .ok|apply And.intro|intro _|(refine gc (fun h=>?_) (fun h=>?_)<;>(have h':=h;(try simp at h');first|done|simp[h,h']|simp))))
     refine aA hr (by simp [Ex.a]) ?_
     simp [V.a,hmin,s1,s2]
     (repeat' (first|contradiction|exact .ok|apply And.intro|intro _|(refine gc (fun h=>?_) (fun h=>?_)<;>(have h':=h;(try simp at h');first|done|simp[h,h']|simp))))
     refine ⟨i+2,by omega,?_,?_⟩
     ·refine aE [(1,_),(2,_),(4,_),(5,_),(6,_)] [(2,2,_),(4,4,_),(900,43,_)] ⟨by simp,by simp,?_,by simp⟩ ?_
      ·simp [aB,Blk.live,htk,V.c]
      ·simp [aB]
       rw [aH (by omega) (by omega)]
     ·simp; omega
  have hie:i=ks.length:=by omega
  subst hie
  clear hrec hkc hi hlt
  have h3:o=1∨o=2∨o=3∨o=4∨o=5∨o=6∨o=7∨o=8∨o=9∨o=10∨o=11∨o=12∨o=13∨o=14∨o=15∨o=16∨o=17∨o=18∨o=19∨o=20∨o=21∨o=22∨o=23∨o=24∨o=25∨o=26∨o=27∨o=28:=by omega
  clear h1 h2 ho1 ho2
  rcases h3 with rfl | rfl | rfl | rfl | rfl | rfl | rfl | rfl | rfl | rfl | rfl | rfl | rfl | rfl | rfl | rfl | rfl | rfl | rfl | rfl | rfl | rfl | rfl | rfl | rfl | rfl | rfl | rfl
  ·have:ks=[]:=by simpa [bI,bL,bK,ops] using hcn
   subst this
   rw [show aI (.mk 1 c n t g []) row=nulV from by simp [aI,show bI 1 0=true from by decide,bH,aQ]]
   simp [qJ,V.a,nulV]
   all_goals exact gz
  ·have:ks=[]:=by simpa [bI,bL,bK,ops] using hcn
   subst this
   rw [show aI (.mk 2 c n t g []) row=⟨1,n,[]⟩ from by simp [aI,show bI 2 0=true from by decide,bH,aQ]]
   simp [qJ,V.a]
   all_goals exact gz
  ·have:ks=[]:=by simpa [bI,bL,bK,ops] using hcn
   subst this
   rw [show aI (.mk 3 c n t g []) row=⟨2,n,[]⟩ from by simp [aI,show bI 3 0=true from by decide,bH,aQ]]
   simp [qJ,V.a]
   all_goals exact gz
  ·have:ks=[]:=by simpa [bI,bL,bK,ops] using hcn
   subst this
   rw [show aI (.mk 4 c n t g []) row=⟨3,0,t⟩ from by simp [aI,show bI 4 0=true from by decide,bH,aQ]]
   simp [qJ,V.a]
   all_goals exact gz
  ·have:ks=[]:=by simpa [bI,bL,bK,ops] using hcn
   subst this
   by_cases hg:0≤g∧g<row.length
   ·have hgr:row[g.toNat]?=some row[g.toNat]:=List.getElem?_eq_getElem (by omega)
    have hg1:¬ g<0:=by omega
    have hg2:¬ (row.length:Int)≤g:=by omega
    rw [show aI (.mk 5 c n t g []) row=row[g.toNat] from by simp [aI,show bI 5 0=true from by decide,hg,hgr]]
    simp [qJ,V.a,hg.1,hg.2,hgr,hg1,hg2,V.c]
    (repeat' (first|contradiction|exact .ok|apply And.intro|intro _|(refine gc (fun h=>?_) (fun h=>?_)<;>(have h':=h;(try simp at h');first|done|simp[h,h',hg.1,hg.2,hgr,hg1,hg2]|simp[hg.1,hg.2,hgr,hg1,hg2]))))
   ·rw [show aI (.mk 5 c n t g []) row=nulV from by simp [aI,show bI 5 0=true from by decide,hg]]
    simp [qJ,V.a,nulV]
    (repeat' (first|contradiction|exact .ok|apply And.intro|intro _|(refine gc (fun h=>?_) (fun h=>?_)<;>(have h':=h;(try simp at h');first|done|simp[h,h']|simp))))
    all_goals (exfalso; omega)
  ·obtain ⟨a,b,rfl⟩:∃ a b,ks=[a,b]:=by
    have hl:ks.length=2:=by simp [bI,bL,bK,ops] at hcn; omega
    match ks,hl with
    | [a,b],_=>exact ⟨a,b,rfl⟩
   have he:aI (.mk 6 c n t g [a,b]) row=jU 6 (aI a row) (aI b row):=by simp [aI,show bI 6 2=true from by decide,bH,aQ,gH,iF]
   rw [he]
   simp [qJ,V.c]
   (repeat' (first|contradiction|exact .ok|apply And.intro|intro _|(refine gc (fun h=>?_) (fun h=>?_)<;>(have h':=h;(try simp at h');first|done|simp[h,h']|simp))))
   refine aA (oM 6 (aI a row) (aI b row)) (by simp [V.a]) ?_
   simp [V.a]
   all_goals exact gz
  ·obtain ⟨a,b,rfl⟩:∃ a b,ks=[a,b]:=by
    have hl:ks.length=2:=by simp [bI,bL,bK,ops] at hcn; omega
    match ks,hl with
    | [a,b],_=>exact ⟨a,b,rfl⟩
   have he:aI (.mk 7 c n t g [a,b]) row=jU 7 (aI a row) (aI b row):=by simp [aI,show bI 7 2=true from by decide,bH,aQ,gH,iF]
   rw [he]
   simp [qJ,V.c]
   (repeat' (first|contradiction|exact .ok|apply And.intro|intro _|(refine gc (fun h=>?_) (fun h=>?_)<;>(have h':=h;(try simp at h');first|done|simp[h,h']|simp))))
   refine aA (oM 7 (aI a row) (aI b row)) (by simp [V.a]) ?_
   simp [V.a]
   all_goals exact gz
  ·obtain ⟨a,b,rfl⟩:∃ a b,ks=[a,b]:=by
    have hl:ks.length=2:=by simp [bI,bL,bK,ops] at hcn; omega
    match ks,hl with
    | [a,b],_=>exact ⟨a,b,rfl⟩
   have he:aI (.mk 8 c n t g [a,b]) row=jU 8 (aI a row) (aI b row):=by simp [aI,show bI 8 2=true from by decide,bH,aQ,gH,iF]
   rw [he]
   simp [qJ,V.c]
   (repeat' (first|contradiction|exact .ok|apply And.intro|intro _|(refine gc (fun h=>?_) (fun h=>?_)<;>(have h':=h;(try simp at h');first|done|simp[h,h']|simp))))
   refine aA (oM 8 (aI a row) (aI b row)) (by simp [V.a]) ?_
   simp [V.a]
   all_goals exact gz
  ·obtain ⟨a,b,rfl⟩:∃ a b,ks=[a,b]:=by
    have hl:ks.length=2:=by simp [bI,bL,bK,ops] at hcn; omega
    match ks,hl with
    | [a,b],_=>exact ⟨a,b,rfl⟩
   have he:aI (.mk 9 c n t g [a,b]) row=jU 9 (aI a row) (aI b row):=by simp [aI,show bI 9 2=true from by decide,bH,aQ,gH,iF]
   rw [he]
   simp [qJ,V.c]
   (repeat' (first|contradiction|exact .ok|apply And.intro|intro _|(refine gc (fun h=>?_) (fun h=>?_)<;>(have h':=h;(try simp at h');first|done|simp[h,h']|simp))))
   refine aA (oM 9 (aI a row) (aI b row)) (by simp [V.a]) ?_
   simp [V.a]
   all_goals exact gz
  ·obtain ⟨a,b,rfl⟩:∃ a b,ks=[a,b]:=by
    have hl:ks.length=2:=by simp [bI,bL,bK,ops] at hcn; omega
    match ks,hl with
    | [a,b],_=>exact ⟨a,b,rfl⟩
   have he:aI (.mk 10 c n t g [a,b]) row=jU 10 (aI a row) (aI b row):=by simp [aI,show bI 10 2=true from by decide,bH,aQ,gH,iF]
   rw [he]
   simp [qJ,V.c]
   (repeat' (first|contradiction|exact .ok|apply And.intro|intro _|(refine gc (fun h=>?_) (fun h=>?_)<;>(have h':=h;(try simp at h');first|done|simp[h,h']|simp))))
   refine aA (oM 10 (aI a row) (aI b row)) (by simp [V.a]) ?_
   simp [V.a]
   all_goals exact gz
  ·obtain ⟨a,rfl⟩:∃ a,ks=[a]:=by
    have hl:ks.length=1:=by simp [bI,bL,bK,ops] at hcn; omega
    match ks,hl with
    | [a],_=>exact ⟨a,rfl⟩
   have he:aI (.mk 11 c n t g [a]) row=jU 7 ⟨1,0,[]⟩ (aI a row):=by simp [aI,show bI 11 1=true from by decide,bH,aQ,gH,iF]
   rw [he]
   simp [qJ,V.c]
   (repeat' (first|contradiction|exact .ok|apply And.intro|intro _|(refine gc (fun h=>?_) (fun h=>?_)<;>(have h':=h;(try simp at h');first|done|simp[h,h']|simp))))
   refine aA (oM 7 ⟨1,0,[]⟩ (aI a row)) (by simp [V.a]) ?_
   simp [V.a]
   all_goals exact gz
  ·obtain ⟨a,b,rfl⟩:∃ a b,ks=[a,b]:=by
    have hl:ks.length=2:=by simp [bI,bL,bK,ops] at hcn; omega
    match ks,hl with
    | [a,b],_=>exact ⟨a,b,rfl⟩
   have he:aI (.mk 12 c n t g [a,b]) row=jU 12 (aI a row) (aI b row):=by simp [aI,show bI 12 2=true from by decide,bH,aQ,gH,iF]
   rw [he]
   simp [qJ,V.c]
   (repeat' (first|contradiction|exact .ok|apply And.intro|intro _|(refine gc (fun h=>?_) (fun h=>?_)<;>(have h':=h;(try simp at h');first|done|simp[h,h']|simp))))
   refine aA (oM 12 (aI a row) (aI b row)) (by simp [V.a]) ?_
   simp [V.a]
   all_goals exact gz
  ·obtain ⟨a,rfl⟩:∃ a,ks=[a]:=by
    have hl:ks.length=1:=by simp [bI,bL,bK,ops] at hcn; omega
    match ks,hl with
    | [a],_=>exact ⟨a,rfl⟩
   have he:aI (.mk 13 c n t g [a]) row=(if (aI a row).k=3 then ⟨1,(aI a row).t.length,[]⟩ else nulV):=by simp [aI,show bI 13 1=true from by decide,bH,aQ,gH,iF]
   rw [he]
   by_cases h3:(aI a row).k=3
   ·rw [if_pos h3]
    simp [qJ,V.c,V.a,h3]
    (repeat' (first|contradiction|exact .ok|apply And.intro|intro _|(refine gc (fun h=>?_) (fun h=>?_)<;>(have h':=h;(try simp at h');first|done|simp[h,h',h3]|simp[h3]))))
   ·rw [if_neg h3]
    simp [qJ,V.c,V.a,h3,nulV]
    (repeat' (first|contradiction|exact .ok|apply And.intro|intro _|(refine gc (fun h=>?_) (fun h=>?_)<;>(have h':=h;(try simp at h');first|done|simp[h,h',h3]|simp[h3]))))
  ·obtain ⟨a,b,rfl⟩:∃ a b,ks=[a,b]:=by
    have hl:ks.length=2:=by simp [bI,bL,bK,ops] at hcn; omega
    match ks,hl with
    | [a,b],_=>exact ⟨a,b,rfl⟩
   have he:aI (.mk 14 c n t g [a,b]) row=pD (aI a row) (aI b row):=by simp [aI,show bI 14 2=true from by decide,bH,aQ,gH,iF]
   rw [he]
   simp [qJ,V.c]
   (repeat' (first|contradiction|exact .ok|apply And.intro|intro _|(refine gc (fun h=>?_) (fun h=>?_)<;>(have h':=h;(try simp at h');first|done|simp[h,h']|simp))))
   refine aA (aBP (aI a row) (aI b row)) (by simp [V.a]) ?_
   simp [V.a]
   all_goals exact gz
  ·obtain ⟨a,b,rfl⟩:∃ a b,ks=[a,b]:=by
    have hl:ks.length=2:=by simp [bI,bL,bK,ops] at hcn; omega
    match ks,hl with
    | [a,b],_=>exact ⟨a,b,rfl⟩
   have he:aI (.mk 15 c n t g [a,b]) row=nM (pD (aI a row) (aI b row)):=by simp [aI,show bI 15 2=true from by decide,bH,aQ,gH,iF]
   rw [he]
   simp [qJ,V.c]
   (repeat' (first|contradiction|exact .ok|apply And.intro|intro _|(refine gc (fun h=>?_) (fun h=>?_)<;>(have h':=h;(try simp at h');first|done|simp[h,h']|simp))))
   refine aA (aBP (aI a row) (aI b row)) (by simp [V.a]) ?_
   simp [V.a]
   (repeat' (first|contradiction|exact .ok|apply And.intro|intro _|(refine gc (fun h=>?_) (fun h=>?_)<;>(have h':=h;(try simp at h');first|done|simp[h,h']|simp))))
   refine aA (RG (pD (aI a row) (aI b row))) (by simp [V.a]) ?_
   simp [V.a]
   all_goals exact gz
  ·obtain ⟨a,b,rfl⟩:∃ a b,ks=[a,b]:=by
    have hl:ks.length=2:=by simp [bI,bL,bK,ops] at hcn; omega
    match ks,hl with
    | [a,b],_=>exact ⟨a,b,rfl⟩
   have he:aI (.mk 16 c n t g [a,b]) row=eL (aI a row) (aI b row):=by simp [aI,show bI 16 2=true from by decide,bH,aQ,gH,iF]
   rw [he]
   simp [qJ,V.c]
   (repeat' (first|contradiction|exact .ok|apply And.intro|intro _|(refine gc (fun h=>?_) (fun h=>?_)<;>(have h':=h;(try simp at h');first|done|simp[h,h']|simp))))
   refine aA (GU (aI a row) (aI b row)) (by simp [V.a]) ?_
   simp [V.a]
   all_goals exact gz
  ·obtain ⟨a,b,rfl⟩:∃ a b,ks=[a,b]:=by
    have hl:ks.length=2:=by simp [bI,bL,bK,ops] at hcn; omega
    match ks,hl with
    | [a,b],_=>exact ⟨a,b,rfl⟩
   have he:aI (.mk 17 c n t g [a,b]) row=nM (eL (aI b row) (aI a row)):=by simp [aI,show bI 17 2=true from by decide,bH,aQ,gH,iF]
   rw [he]
   simp [qJ,V.c]
   (repeat' (first|contradiction|exact .ok|apply And.intro|intro _|(refine gc (fun h=>?_) (fun h=>?_)<;>(have h':=h;(try simp at h');first|done|simp[h,h']|simp))))
   refine aA (GU (aI b row) (aI a row)) (by simp [V.a]) ?_
   simp [V.a]
   (repeat' (first|contradiction|exact .ok|apply And.intro|intro _|(refine gc (fun h=>?_) (fun h=>?_)<;>(have h':=h;(try simp at h');first|done|simp[h,h']|simp))))
   refine aA (RG (eL (aI b row) (aI a row))) (by simp [V.a]) ?_
   simp [V.a]
   all_goals exact gz
  ·obtain ⟨a,b,rfl⟩:∃ a b,ks=[a,b]:=by
    have hl:ks.length=2:=by simp [bI,bL,bK,ops] at hcn; omega
    match ks,hl with
    | [a,b],_=>exact ⟨a,b,rfl⟩
   have he:aI (.mk 18 c n t g [a,b]) row=eL (aI b row) (aI a row):=by simp [aI,show bI 18 2=true from by decide,bH,aQ,gH,iF]
   rw [he]
   simp [qJ,V.c]
   (repeat' (first|contradiction|exact .ok|apply And.intro|intro _|(refine gc (fun h=>?_) (fun h=>?_)<;>(have h':=h;(try simp at h');first|done|simp[h,h']|simp))))
   refine aA (GU (aI b row) (aI a row)) (by simp [V.a]) ?_
   simp [V.a]
   all_goals exact gz
  ·obtain ⟨a,b,rfl⟩:∃ a b,ks=[a,b]:=by
    have hl:ks.length=2:=by simp [bI,bL,bK,ops] at hcn; omega
    match ks,hl with
    | [a,b],_=>exact ⟨a,b,rfl⟩
   have he:aI (.mk 19 c n t g [a,b]) row=nM (eL (aI a row) (aI b row)):=by simp [aI,show bI 19 2=true from by decide,bH,aQ,gH,iF]
   rw [he]
   simp [qJ,V.c]
   (repeat' (first|contradiction|exact .ok|apply And.intro|intro _|(refine gc (fun h=>?_) (fun h=>?_)<;>(have h':=h;(try simp at h');first|done|simp[h,h']|simp))))
   refine aA (GU (aI a row) (aI b row)) (by simp [V.a]) ?_
   simp [V.a]
   (repeat' (first|contradiction|exact .ok|apply And.intro|intro _|(refine gc (fun h=>?_) (fun h=>?_)<;>(have h':=h;(try simp at h');first|done|simp[h,h']|simp))))
   refine aA (RG (eL (aI a row) (aI b row))) (by simp [V.a]) ?_
   simp [V.a]
   all_goals exact gz
  ·obtain ⟨a,b,rfl⟩:∃ a b,ks=[a,b]:=by
    have hl:ks.length=2:=by simp [bI,bL,bK,ops] at hcn; omega
    match ks,hl with
    | [a,b],_=>exact ⟨a,b,rfl⟩
   have he:aI (.mk 20 c n t g [a,b]) row=vR ((aI a row).same (aI b row)):=by simp [aI,show bI 20 2=true from by decide,bH,aQ,gH,iF]
   rw [he]
   simp [qJ,V.c]
   (repeat' (first|contradiction|exact .ok|apply And.intro|intro _|(refine gc (fun h=>?_) (fun h=>?_)<;>(have h':=h;(try simp at h');first|done|simp[h,h']|simp))))
   refine aA (aAQ (aI a row) (aI b row)) (by simp [V.a]) ?_
   simp [V.a,← V.same_cmp]
   (repeat' (first|contradiction|exact .ok|apply And.intro|intro _|(refine gc (fun h=>?_) (fun h=>?_)<;>(have h':=h;(try simp at h');first|done|simp[h,h']|simp))))
   refine aA (YF ((aI a row).same (aI b row))) (by simp [V.a]) ?_
   simp [V.a,← V.same_cmp]
   all_goals exact gz
  ·obtain ⟨a,rfl⟩:∃ a,ks=[a]:=by
    have hl:ks.length=1:=by simp [bI,bL,bK,ops] at hcn; omega
    match ks,hl with
    | [a],_=>exact ⟨a,rfl⟩
   have he:aI (.mk 21 c n t g [a]) row=vR ((aI a row).k==0):=by simp [aI,show bI 21 1=true from by decide,bH,aQ,gH,iF]
   rw [he]
   simp [qJ,V.c]
   (repeat' (first|contradiction|exact .ok|apply And.intro|intro _|(refine gc (fun h=>?_) (fun h=>?_)<;>(have h':=h;(try simp at h');first|done|simp[h,h']|simp))))
   refine aA (YF ((aI a row).k==0)) (by simp [V.a]) ?_
   simp [V.a]
   all_goals exact gz
  ·obtain ⟨a,b,rfl⟩:∃ a b,ks=[a,b]:=by
    have hl:ks.length=2:=by simp [bI,bL,bK,ops] at hcn; omega
    match ks,hl with
    | [a,b],_=>exact ⟨a,b,rfl⟩
   have he:aI (.mk 22 c n t g [a,b]) row=AP (aI a row) (aI b row):=by simp [aI,show bI 22 2=true from by decide,bH,aQ,gH,iF]
   rw [he]
   simp [qJ,V.c]
   (repeat' (first|contradiction|exact .ok|apply And.intro|intro _|(refine gc (fun h=>?_) (fun h=>?_)<;>(have h':=h;(try simp at h');first|done|simp[h,h']|simp))))
   refine aA (aFo (aI a row) (aI b row)) (by simp [V.a]) ?_
   simp [V.a]
   all_goals exact gz
  ·obtain ⟨a,b,rfl⟩:∃ a b,ks=[a,b]:=by
    have hl:ks.length=2:=by simp [bI,bL,bK,ops] at hcn; omega
    match ks,hl with
    | [a,b],_=>exact ⟨a,b,rfl⟩
   have he:aI (.mk 23 c n t g [a,b]) row=HV (aI a row) (aI b row):=by simp [aI,show bI 23 2=true from by decide,bH,aQ,gH,iF]
   rw [he]
   simp [qJ,V.c]
   (repeat' (first|contradiction|exact .ok|apply And.intro|intro _|(refine gc (fun h=>?_) (fun h=>?_)<;>(have h':=h;(try simp at h');first|done|simp[h,h']|simp))))
   refine aA (aFp (aI a row) (aI b row)) (by simp [V.a]) ?_
   simp [V.a]
   all_goals exact gz
  ·obtain ⟨a,rfl⟩:∃ a,ks=[a]:=by
    have hl:ks.length=1:=by simp [bI,bL,bK,ops] at hcn; omega
    match ks,hl with
    | [a],_=>exact ⟨a,rfl⟩
   have he:aI (.mk 24 c n t g [a]) row=nM (aI a row):=by simp [aI,show bI 24 1=true from by decide,bH,aQ,gH,iF]
   rw [he]
   simp [qJ,V.c]
   (repeat' (first|contradiction|exact .ok|apply And.intro|intro _|(refine gc (fun h=>?_) (fun h=>?_)<;>(have h':=h;(try simp at h');first|done|simp[h,h']|simp))))
   refine aA (RG (aI a row)) (by simp [V.a]) ?_
   simp [V.a]
   all_goals exact gz
  ·obtain ⟨a,rfl⟩:∃ a,ks=[a]:=by
    have hl:ks.length=1:=by simp [bI,bL,bK,ops] at hcn; omega
    match ks,hl with
    | [a],_=>exact ⟨a,rfl⟩
   have he:aI (.mk 25 c n t g [a]) row=vR ((aI a row).tr==1):=by simp [aI,show bI 25 1=true from by decide,bH,aQ,gH,iF]
   rw [he]
   simp [qJ,V.c]
   (repeat' (first|contradiction|exact .ok|apply And.intro|intro _|(refine gc (fun h=>?_) (fun h=>?_)<;>(have h':=h;(try simp at h');first|done|simp[h,h']|simp))))
   refine aA (jF (aI a row)) (by simp [V.a]) ?_
   simp [V.a]
   (repeat' (first|contradiction|exact .ok|apply And.intro|intro _|(refine gc (fun h=>?_) (fun h=>?_)<;>(have h':=h;(try simp at h');first|done|simp[h,h']|simp))))
   refine aA (YF ((aI a row).tr==1)) (by simp [V.a]) ?_
   simp [V.a]
   all_goals exact gz
  ·obtain ⟨a,b,d,rfl⟩:∃ a b d,ks=[a,b,d]:=by
    match ks,JX hcn with
    | [a,b,d],_=>exact ⟨a,b,d,rfl⟩
   have he:aI (.mk 26 c n t g [a,b,d]) row=if (aI a row).tr=1 then aI b row else aI d row:=by
    simp [aI,show bI 26 3=true from by decide,bH,gH,iF,at2]
   rw [he]
   by_cases h1:(aI a row).tr=1
   ·rw [if_pos h1]
    simp [qJ,V.c,V.a]
    (repeat' (first|contradiction|exact .ok|apply And.intro|intro _|(refine gc (fun h=>?_) (fun h=>?_)<;>(have h':=h;(try simp at h');first|done|simp[h,h']|simp))))
    refine aA (jF (aI a row)) (by simp [V.a]) ?_
    simp [h1,V.a]
    (repeat' (first|contradiction|exact .ok|apply And.intro|intro _|(refine gc (fun h=>?_) (fun h=>?_)<;>(have h':=h;(try simp at h');first|done|simp[h,h',h1]|simp[h1]))))
   ·rw [if_neg h1]
    simp [qJ,V.c,V.a]
    (repeat' (first|contradiction|exact .ok|apply And.intro|intro _|(refine gc (fun h=>?_) (fun h=>?_)<;>(have h':=h;(try simp at h');first|done|simp[h,h']|simp))))
    refine aA (jF (aI a row)) (by simp [V.a]) ?_
    simp [h1,V.a]
    (repeat' (first|contradiction|exact .ok|apply And.intro|intro _|(refine gc (fun h=>?_) (fun h=>?_)<;>(have h':=h;(try simp at h');first|done|simp[h,h',h1]|simp[h1]))))
  ·obtain ⟨a,b,rfl⟩:∃ a b,ks=[a,b]:=by
    have hl:ks.length=2:=by simp [bI,bL,bK,ops] at hcn; omega
    match ks,hl with
    | [a,b],_=>exact ⟨a,b,rfl⟩
   have he:aI (.mk 27 c n t g [a,b]) row=(if (aI a row).k=0 then (aI b row) else (aI a row)):=by simp [aI,show bI 27 2=true from by decide,bH,aQ,gH,iF]
   rw [he]
   by_cases h3:(aI a row).k=0
   ·rw [if_pos h3]
    simp [qJ,V.c,V.a,h3]
    (repeat' (first|contradiction|exact .ok|apply And.intro|intro _|(refine gc (fun h=>?_) (fun h=>?_)<;>(have h':=h;(try simp at h');first|done|simp[h,h',h3]|simp[h3]))))
   ·rw [if_neg h3]
    simp [qJ,V.c,V.a,h3]
    (repeat' (first|contradiction|exact .ok|apply And.intro|intro _|(refine gc (fun h=>?_) (fun h=>?_)<;>(have h':=h;(try simp at h');first|done|simp[h,h',h3]|simp[h3]))))
  ·cases ks with
   | nil=>simp [bI,bL,bK,ops] at hcn
   | cons a ks=>cases ks with
     | nil=>simp [bI,bL,bK,ops] at hcn
     | cons b ks =>
       have he:aI (.mk 28 c n t g (a::b::ks)) row=inF (pD (aI a row) (aI b row)) (aI a row) (bH ks row):=by
        have hc28:bI 28 (ks.length+2)=true:=by simpa using hcn
        simp [aI,hc28,bH,aQ,gH,aAd]
       rw [he]
       have hys:bH ks row=ks.map fun e=>aI e row:=jN ks row
       have htk:List.take ks.length (List.map (fun e=>(aI e row).c) ks)=List.map (fun e=>(aI e row).c) ks:=List.take_of_length_le (by simp)
       simp only [V.c] at htk
       have h12:ks.length≤12:=by simp at hk; omega
       simp [qJ,V.c,htk]
       (repeat' (first|contradiction|exact .ok|apply And.intro|intro _|(refine gc (fun h=>?_) (fun h=>?_)<;>(have h':=h;(try simp at h');first|done|simp[h,h']|simp))))
       refine aA (aBP (aI a row) (aI b row)) (by simp [V.a]) ?_
       simp [V.a]
       (repeat' (first|contradiction|exact .ok|apply And.intro|intro _|(refine gc (fun h=>?_) (fun h=>?_)<;>(have h':=h;(try simp at h');first|done|simp[h,h']|simp))))
       refine aL aW (by decide) (fun j:Nat=>{ s:=cG [(4,.ptr 4 0 0),(5,.d (.sl ((aI a row).c::(aI b row).c::(bH ks row).map V.c))),(7,.ptr 7 0 0),(8,.d (.int .i64 (j+2:Nat)))],b:=cE [(4,4,.var [.d (.int .i64 0),.d (.int .i64 0),.d (.str [])]),(7,7,.var (inF (pD (aI a row) (aI b row)) (aI a row) ((bH ks row).take j)).a.cells)] }) (fun j:Nat=>j≤ks.length) (fun j=>ks.length - j) 0 (by simp) (aE _ [(4,4,_),(7,7,_)] ⟨by simp,by simp,by simp [aB,Blk.live,V.a,inF],by simp⟩ (by simp [aB,V.c,hys,htk,Function.comp_def])) ?_
       intro j hj
       have hyl:(bH ks row).length=ks.length:=by rw [hys,List.length_map]
       by_cases hlt:j<ks.length
       ·have hg:(bH ks row)[j]?=some (aI ks[j] row):=by rw [hys,List.getElem?_map,List.getElem?_eq_getElem hlt]; rfl
        have ht2:=aAe (pD (aI a row) (aI b row)) (aI a row) (bH ks row) j _ hg
        have hlt':(j:Int)<ks.length:=by omega
        have hlt2:(j:Int)+2<(ks.length:Int)+1+1:=by omega
        have hp:(0:Int)≤(j:Int)+2:=by omega
        have htn:((j:Int)+2).toNat=j+2:=by omega
        simp [hyl,hlt,hlt',hlt2,hp,htn,hg,V.c,V.a]
        (repeat' (first|contradiction|exact .ok|apply And.intro|intro _|(refine gc (fun h=>?_) (fun h=>?_)<;>(have h':=h;(try simp at h');first|done|simp[h,h']|simp))))
        obtain ⟨hjl,hgx⟩:=List.getElem?_eq_some_iff.1 hg
        refine aA (aBP (aI a row) (aI ks[j] row)) (by simp [V.a,hgx]) ?_
        simp [V.a]
        refine aA (aFp (inF (pD (aI a row) (aI b row)) (aI a row) ((bH ks row).take j)) (pD (aI a row) (aI ks[j] row))) (by simp [V.a]) ?_
        simp [V.a]
        (repeat' (first|contradiction|exact .ok|apply And.intro|intro _|(refine gc (fun h=>?_) (fun h=>?_)<;>(have h':=h;(try simp at h');first|done|simp[h,h']|simp))))
        refine ⟨j+1,hlt,?_,?_⟩
        ·refine aE _ [(4,4,_),(7,7,_)] ⟨by simp,by simp,by simp [aB,Blk.live,V.a,ht2],by simp⟩ ?_
         simp [aB,V.c]
         rw [aH (by omega) (by omega)]
         omega
        ·simp; omega
       ·have hje:j=ks.length:=by omega
        subst hje
        have htk2:(bH ks row).take ks.length=bH ks row:=List.take_of_length_le (by omega)
        have hge:¬ (ks.length:Int)+2<(ks.length:Int)+1+1:=by omega
        simp [hyl,htk2,hge,V.a,V.c]
        all_goals exact gz
theorem PO (row:List V) (hrow:row.length≤9223372036854775807) (o c n g:Int) (t:List UInt8) (ks:List Ex) (hk:ks.length≤12)
  (hrec:∀ e∈ks,Cf En 109 [e.a,.d (.sl (row.map V.c))] [] (aI e row).a []) :
  Cf En 109 [(Ex.mk o c n t g ks).a,.d (.sl (row.map V.c))] [] (aI (.mk o c n t g ks) row).a []:=by
  cases hcn:bI o ks.length
  ·refine aD aW (fn:=Tryz.f109) (by kernel_rfl) rfl (by kernel_rfl) (by decide) (by simp) ?_
   rw [show aI (.mk o c n t g ks) row=nulV from by simp [aI,hcn]]
   by_cases ho1:o<1
   ·simp [Ex.a,Ex.c,aC,ho1,nulV,V.a]
    (repeat' (first|contradiction|exact .ok|apply And.intro|intro _|(refine gc (fun h=>?_) (fun h=>?_)<;>(have h':=h;(try simp at h');first|done|simp[h,h',ho1]|simp[ho1]))))
   by_cases ho2:28<o
   ·simp [Ex.a,Ex.c,aC,ho1,ho2,nulV,V.a]
    (repeat' (first|contradiction|exact .ok|apply And.intro|intro _|(refine gc (fun h=>?_) (fun h=>?_)<;>(have h':=h;(try simp at h');first|done|simp[h,h',ho1,ho2]|simp[ho1,ho2]))))
   have hio:bL o=true:=by unfold bL; simp; omega
   have hkc:=EI o ks.length hio
   simp [Ex.a,Ex.c,aC]
   (repeat' (first|contradiction|exact .ok|apply And.intro|intro _|(refine gc (fun h=>?_) (fun h=>?_)<;>(have h':=h;(try simp at h');first|done|simp[h,h',ho1,ho2]|simp[ho1,ho2]))))
   refine aA (aAc o ks.length) (by simp) ?_
   rw [hkc,hcn]
   simp [nulV,V.a]
   all_goals exact gz
  ·exact PN row hrow o c n g t ks hk hrec hcn
theorem qK (row:List V) (hrow:row.length≤9223372036854775807):∀ (m:Nat) (e:Ex),SizeOf.sizeOf e<m→∀ q:Nat,e.few q=true→Cf En 109 [e.a,.d (.sl (row.map V.c))] [] (aI e row).a []
 | 0,_,h,_,_=>absurd h (by omega)
 | m+1,.mk o c n t g ks,hm,q,hq=>by
   obtain ⟨hk,ht,hfew⟩:=iN hq
   exact PO row hrow o c n g t ks hk fun e he =>
    qK row hrow m e (by have:=Ex.kid_lt (e:=.mk o c n t g ks) (k:=e) he; omega) (q+1) (hfew e he)
end Go.Proofs.Tryz
