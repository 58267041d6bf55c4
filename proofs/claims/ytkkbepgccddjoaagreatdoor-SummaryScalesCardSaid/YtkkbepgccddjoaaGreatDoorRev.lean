import Derived.Test.YtkkbepgccddjoaaGreatDoorCRe0
set_option linter.all false
namespace Go.Proofs.Tryz
open Go.Ab
set_option maxRecDepth 100000
set_option maxHeartbeats 64000000
theorem TE (row:List V) (hrow:row.length≤9223372036854775807) (o c n g:Int) (t:List UInt8) (ks:List Ex) (hk:ks.length≤12)
  (hrec:∀ e∈ks,Cf En 103 [e.a,.d (.sl (row.map V.c))] [] (aG e row).a []) (hcn:bN o ks.length=true) :
  Cf En 103 [(Ex.mk o c n t g ks).a,.d (.sl (row.map V.c))] [] (aG (.mk o c n t g ks) row).a []:=by
  refine cI aW (fn:=Tryz.f103) rfl ?_
  have h1:bR o=true:=by
   unfold bN at hcn
   simp only [Bool.and_eq_true] at hcn
   exact hcn.1
  have h2:1≤o∧o≤28:=by simpa [bR] using h1
  have ho1:¬ o<1:=by omega
  have ho2:¬ 28<o:=by omega
  have hkc:=HC o ks.length h1
  simp [Ex.a,Ex.c,aE]
  (repeat' (first|contradiction|exact .ok|apply And.intro|intro _|(refine gc (fun h=>?_) (fun h=>?_)<;>(have h':=h;(try simp at h');first|done|simp[h',ho1,ho2]|simp[ho1,ho2]))))
  refine aP (aCg o ks.length) ?_
  rw [hkc,hcn]
  simp
  (repeat' (first|contradiction|exact .ok|apply And.intro|intro _|(refine gc (fun h=>?_) (fun h=>?_)<;>(have h':=h;(try simp at h');first|done|simp[h,h']|simp))))
  refine aL aW (rY o c n g t ks row) (fun i:Nat=>i≤ks.length) (fun i=>ks.length - i) 0 (by simp) (aI [(1,_),(2,_),(4,_),(5,_),(6,_)] [(2,2,_),(4,4,_)] ⟨by simp,by simp,by simp [aB,Blk.live],by simp⟩ (by simp [aB])) ?_
  intro i hi
  by_cases hlt:i<ks.length
  ·have hgi:ks[i]?=some ks[i]:=gE hlt
   have c1:=Ex.clen ks[i]
   have k1:=Ex.ctake ks[i]
   have hr:=hrec ks[i] (List.getElem_mem hlt)
   have htk:List.take (i+1) (List.map (fun e=>(aG e row).c) ks)=List.take i (List.map (fun e=>(aG e row).c) ks)++[(aG ks[i] row).c]:=by
    rw [List.take_add_one,List.getElem?_map,hgi]; rfl
   simp only [V.c] at htk
   cases i with
   | zero =>
     have hlt2:(0:Int)<ks.length:=by omega
     simp [rY,hlt,c1,k1]
     (repeat' (first|contradiction|exact .ok|apply And.intro|intro _|(refine gc (fun h=>?_) (fun h=>?_)<;>(have h':=h;(try simp at h');first|done|simp[h,h']|simp))))
     refine aA hr (by simp [Ex.a]) ?_
     simp [V.a]
     (repeat' (first|contradiction|exact .ok|apply And.intro|intro _|(refine gc (fun h=>?_) (fun h=>?_)<;>(have h':=h;(try simp at h');first|done|simp[h,h']|simp))))
     refine ⟨1,hlt,?_,?_⟩
     ·refine aI [(1,_),(2,_),(4,_),(5,_),(6,_)] [(2,2,_),(4,4,_),(900,43,_)] ⟨by simp,by simp,?_,by simp⟩ ?_
      ·simp only [Nat.zero_add,List.take_zero,List.nil_append] at htk
       simp [aB,Blk.live,htk,V.c]
      ·simp [aB]
       exact bL (by omega) (by omega)
     ·simp; omega
   | succ i =>
     have hlt2:((i+1:Nat):Int)<ks.length:=by omega
     have hlt3:(i:Int)+1<ks.length:=by omega
     have hp:(0:Int)≤(i:Int)+1:=by omega
     have hmin:min (i+1) ks.length=i+1:=by omega
     have s1:(i+1+1)*32≤140737488355328:=by omega
     have s2:i≤9223372036854775805:=by omega
     simp [rY,hlt,hlt3,hp,c1,k1]
     (repeat' (first|contradiction|exact .ok|apply And.intro|intro _|(refine gc (fun h=>?_) (fun h=>?_)<;>(have h':=h;(try simp at h');first|done|simp[h,h']|simp))))
     refine aA hr (by simp [Ex.a]) ?_
     simp [V.a,hmin,s1,s2]
     (repeat' (first|contradiction|exact .ok|apply And.intro|intro _|(refine gc (fun h=>?_) (fun h=>?_)<;>(have h':=h;(try simp at h');first|done|simp[h,h']|simp))))
     refine ⟨i+2,by omega,?_,?_⟩
     ·refine aI [(1,_),(2,_),(4,_),(5,_),(6,_)] [(2,2,_),(4,4,_),(900,43,_)] ⟨by simp,by simp,?_,by simp⟩ ?_
      ·simp [aB,Blk.live,htk,V.c]
      ·simp [aB]
       rw [bL (by omega) (by omega)]
     ·simp; omega
  have hie:i=ks.length:=by omega
  subst hie
  clear hrec hkc hi hlt
  have h3:o=1∨o=2∨o=3∨o=4∨o=5∨o=6∨o=7∨o=8∨o=9∨o=10∨o=11∨o=12∨o=13∨o=14∨o=15∨o=16∨o=17∨o=18∨o=19∨o=20∨o=21∨o=22∨o=23∨o=24∨o=25∨o=26∨o=27∨o=28:=by omega
  clear h1 h2 ho1 ho2
  rcases h3 with rfl | rfl | rfl | rfl | rfl | rfl | rfl | rfl | rfl | rfl | rfl | rfl | rfl | rfl | rfl | rfl | rfl | rfl | rfl | rfl | rfl | rfl | rfl | rfl | rfl | rfl | rfl | rfl
  ·have:ks=[]:=by simpa [bN,bR,bQ,ops] using hcn
   subst this
   rw [show aG (.mk 1 c n t g []) row=nulV from by simp [aG,show bN 1 0=true from by decide,aT]]
   simp [rY,V.a,nulV]
   all_goals exact gz
  ·have:ks=[]:=by simpa [bN,bR,bQ,ops] using hcn
   subst this
   rw [show aG (.mk 2 c n t g []) row=⟨1,n,[]⟩ from by simp [aG,show bN 2 0=true from by decide]]
   simp [rY,V.a]
   all_goals exact gz
  ·have:ks=[]:=by simpa [bN,bR,bQ,ops] using hcn
   subst this
   rw [show aG (.mk 3 c n t g []) row=⟨2,n,[]⟩ from by simp [aG,show bN 3 0=true from by decide]]
   simp [rY,V.a]
   all_goals exact gz
  ·have:ks=[]:=by simpa [bN,bR,bQ,ops] using hcn
   subst this
   rw [show aG (.mk 4 c n t g []) row=⟨3,0,t⟩ from by simp [aG,show bN 4 0=true from by decide]]
   simp [rY,V.a]
   all_goals exact gz
  ·have:ks=[]:=by simpa [bN,bR,bQ,ops] using hcn
   subst this
   by_cases hg:0≤g∧g<row.length
   ·have hgr:row[g.toNat]?=some row[g.toNat]:=gE (by omega)
    have hg1:¬ g<0:=by omega
    have hg2:¬ (row.length:Int)≤g:=by omega
    rw [show aG (.mk 5 c n t g []) row=row[g.toNat] from by simp [aG,show bN 5 0=true from by decide,hg]]
    simp [rY,V.a,hg.1,hg.2,hg1,hg2,V.c]
    (repeat' (first|contradiction|exact .ok|apply And.intro|intro _|(refine gc (fun h=>?_) (fun h=>?_)<;>(have h':=h;(try simp at h');first|done|simp[h,h',hg.1,hg.2,hgr,hg1,hg2]|simp[hg.1,hg.2,hgr,hg1,hg2]))))
   ·rw [show aG (.mk 5 c n t g []) row=nulV from by simp [aG,show bN 5 0=true from by decide,hg]]
    simp [rY,V.a,nulV]
    (repeat' (first|contradiction|exact .ok|apply And.intro|intro _|(refine gc (fun h=>?_) (fun h=>?_)<;>(have h':=h;(try simp at h');first|done|simp[h,h']|simp))))
    all_goals (exfalso; omega)
  ·obtain ⟨a,b,rfl⟩:∃ a b,ks=[a,b]:=by
    have hl:ks.length=2:=by simp [bN,bR,bQ,ops] at hcn; omega
    match ks,hl with
    | [a,b],_=>exact ⟨a,b,rfl⟩
   have he:aG (.mk 6 c n t g [a,b]) row=lB 6 (aG a row) (aG b row):=by simp [aG,show bN 6 2=true from by decide,bJ,aT,iD,lA]
   rw [he]
   simp [rY,V.c]
   (repeat' (first|contradiction|exact .ok|apply And.intro|intro _|(refine gc (fun h=>?_) (fun h=>?_)<;>(have h':=h;(try simp at h');first|done|simp[h,h']|simp))))
   refine aA (pS 6 (aG a row) (aG b row)) (by simp [V.a]) ?_
   simp [V.a]
   all_goals exact gz
  ·obtain ⟨a,b,rfl⟩:∃ a b,ks=[a,b]:=by
    have hl:ks.length=2:=by simp [bN,bR,bQ,ops] at hcn; omega
    match ks,hl with
    | [a,b],_=>exact ⟨a,b,rfl⟩
   have he:aG (.mk 7 c n t g [a,b]) row=lB 7 (aG a row) (aG b row):=by simp [aG,show bN 7 2=true from by decide,bJ,aT,iD,lA]
   rw [he]
   simp [rY,V.c]
   (repeat' (first|contradiction|exact .ok|apply And.intro|intro _|(refine gc (fun h=>?_) (fun h=>?_)<;>(have h':=h;(try simp at h');first|done|simp[h,h']|simp))))
   refine aA (pS 7 (aG a row) (aG b row)) (by simp [V.a]) ?_
   simp [V.a]
   all_goals exact gz
  ·obtain ⟨a,b,rfl⟩:∃ a b,ks=[a,b]:=by
    have hl:ks.length=2:=by simp [bN,bR,bQ,ops] at hcn; omega
    match ks,hl with
    | [a,b],_=>exact ⟨a,b,rfl⟩
   have he:aG (.mk 8 c n t g [a,b]) row=lB 8 (aG a row) (aG b row):=by simp [aG,show bN 8 2=true from by decide,bJ,aT,iD,lA]
   rw [he]
   simp [rY,V.c]
   (repeat' (first|contradiction|exact .ok|apply And.intro|intro _|(refine gc (fun h=>?_) (fun h=>?_)<;>(have h':=h;(try simp at h');first|done|simp[h,h']|simp))))
   refine aA (pS 8 (aG a row) (aG b row)) (by simp [V.a]) ?_
   simp [V.a]
   all_goals exact gz
  ·obtain ⟨a,b,rfl⟩:∃ a b,ks=[a,b]:=by
    have hl:ks.length=2:=by simp [bN,bR,bQ,ops] at hcn; omega
    match ks,hl with
    | [a,b],_=>exact ⟨a,b,rfl⟩
   have he:aG (.mk 9 c n t g [a,b]) row=lB 9 (aG a row) (aG b row):=by simp [aG,show bN 9 2=true from by decide,bJ,aT,iD,lA]
   rw [he]
   simp [rY,V.c]
   (repeat' (first|contradiction|exact .ok|apply And.intro|intro _|(refine gc (fun h=>?_) (fun h=>?_)<;>(have h':=h;(try simp at h');first|done|simp[h,h']|simp))))
   refine aA (pS 9 (aG a row) (aG b row)) (by simp [V.a]) ?_
   simp [V.a]
   all_goals exact gz
  ·obtain ⟨a,b,rfl⟩:∃ a b,ks=[a,b]:=by
    have hl:ks.length=2:=by simp [bN,bR,bQ,ops] at hcn; omega
    match ks,hl with
    | [a,b],_=>exact ⟨a,b,rfl⟩
   have he:aG (.mk 10 c n t g [a,b]) row=lB 10 (aG a row) (aG b row):=by simp [aG,show bN 10 2=true from by decide,bJ,aT,iD,lA]
   rw [he]
   simp [rY,V.c]
   (repeat' (first|contradiction|exact .ok|apply And.intro|intro _|(refine gc (fun h=>?_) (fun h=>?_)<;>(have h':=h;(try simp at h');first|done|simp[h,h']|simp))))
   refine aA (pS 10 (aG a row) (aG b row)) (by simp [V.a]) ?_
   simp [V.a]
   all_goals exact gz
  ·obtain ⟨a,rfl⟩:∃ a,ks=[a]:=by
    have hl:ks.length=1:=by simp [bN,bR,bQ,ops] at hcn; omega
    match ks,hl with
    | [a],_=>exact ⟨a,rfl⟩
   have he:aG (.mk 11 c n t g [a]) row=lB 7 ⟨1,0,[]⟩ (aG a row):=by simp [aG,show bN 11 1=true from by decide,bJ,aT,iD]
   rw [he]
   simp [rY,V.c]
   (repeat' (first|contradiction|exact .ok|apply And.intro|intro _|(refine gc (fun h=>?_) (fun h=>?_)<;>(have h':=h;(try simp at h');first|done|simp[h,h']|simp))))
   refine aA (pS 7 ⟨1,0,[]⟩ (aG a row)) (by simp [V.a]) ?_
   simp [V.a]
   all_goals exact gz
  ·obtain ⟨a,b,rfl⟩:∃ a b,ks=[a,b]:=by
    have hl:ks.length=2:=by simp [bN,bR,bQ,ops] at hcn; omega
    match ks,hl with
    | [a,b],_=>exact ⟨a,b,rfl⟩
   have he:aG (.mk 12 c n t g [a,b]) row=lB 12 (aG a row) (aG b row):=by simp [aG,show bN 12 2=true from by decide,bJ,aT,iD,lA]
   rw [he]
   simp [rY,V.c]
   (repeat' (first|contradiction|exact .ok|apply And.intro|intro _|(refine gc (fun h=>?_) (fun h=>?_)<;>(have h':=h;(try simp at h');first|done|simp[h,h']|simp))))
   refine aA (pS 12 (aG a row) (aG b row)) (by simp [V.a]) ?_
   simp [V.a]
   all_goals exact gz
  ·obtain ⟨a,rfl⟩:∃ a,ks=[a]:=by
    have hl:ks.length=1:=by simp [bN,bR,bQ,ops] at hcn; omega
    match ks,hl with
    | [a],_=>exact ⟨a,rfl⟩
   have he:aG (.mk 13 c n t g [a]) row=(if (aG a row).k=3 then ⟨1,(aG a row).t.length,[]⟩ else nulV):=by simp [aG,show bN 13 1=true from by decide,bJ,aT,iD]
   rw [he]
   by_cases h3:(aG a row).k=3
   ·rw [if_pos h3]
    simp [rY,V.c,V.a,h3]
    (repeat' (first|contradiction|exact .ok|apply And.intro|intro _|(refine gc (fun h=>?_) (fun h=>?_)<;>(have h':=h;(try simp at h');first|done|simp[h,h',h3]|simp[h3]))))
   ·rw [if_neg h3]
    simp [rY,V.c,V.a,h3,nulV]
    (repeat' (first|contradiction|exact .ok|apply And.intro|intro _|(refine gc (fun h=>?_) (fun h=>?_)<;>(have h':=h;(try simp at h');first|done|simp[h,h',h3]|simp[h3]))))
  ·obtain ⟨a,b,rfl⟩:∃ a b,ks=[a,b]:=by
    have hl:ks.length=2:=by simp [bN,bR,bQ,ops] at hcn; omega
    match ks,hl with
    | [a,b],_=>exact ⟨a,b,rfl⟩
   have he:aG (.mk 14 c n t g [a,b]) row=qU (aG a row) (aG b row):=by simp [aG,show bN 14 2=true from by decide,bJ,aT,iD,lA]
   rw [he]
   simp [rY,V.c]
   (repeat' (first|contradiction|exact .ok|apply And.intro|intro _|(refine gc (fun h=>?_) (fun h=>?_)<;>(have h':=h;(try simp at h');first|done|simp[h,h']|simp))))
   refine aA (aDW (aG a row) (aG b row)) (by simp [V.a]) ?_
   simp [V.a]
   all_goals exact gz
  ·obtain ⟨a,b,rfl⟩:∃ a b,ks=[a,b]:=by
    have hl:ks.length=2:=by simp [bN,bR,bQ,ops] at hcn; omega
    match ks,hl with
    | [a,b],_=>exact ⟨a,b,rfl⟩
   have he:aG (.mk 15 c n t g [a,b]) row=oO (qU (aG a row) (aG b row)):=by simp [aG,show bN 15 2=true from by decide,bJ,aT,iD,lA]
   rw [he]
   simp [rY,V.c]
   (repeat' (first|contradiction|exact .ok|apply And.intro|intro _|(refine gc (fun h=>?_) (fun h=>?_)<;>(have h':=h;(try simp at h');first|done|simp[h,h']|simp))))
   refine aA (aDW (aG a row) (aG b row)) (by simp [V.a]) ?_
   simp [V.a]
   (repeat' (first|contradiction|exact .ok|apply And.intro|intro _|(refine gc (fun h=>?_) (fun h=>?_)<;>(have h':=h;(try simp at h');first|done|simp[h,h']|simp))))
   refine aA (VF (qU (aG a row) (aG b row))) (by simp [V.a]) ?_
   simp [V.a]
   all_goals exact gz
  ·obtain ⟨a,b,rfl⟩:∃ a b,ks=[a,b]:=by
    have hl:ks.length=2:=by simp [bN,bR,bQ,ops] at hcn; omega
    match ks,hl with
    | [a,b],_=>exact ⟨a,b,rfl⟩
   have he:aG (.mk 16 c n t g [a,b]) row=eS (aG a row) (aG b row):=by simp [aG,show bN 16 2=true from by decide,bJ,aT,iD,lA]
   rw [he]
   simp [rY,V.c]
   (repeat' (first|contradiction|exact .ok|apply And.intro|intro _|(refine gc (fun h=>?_) (fun h=>?_)<;>(have h':=h;(try simp at h');first|done|simp[h,h']|simp))))
   refine aA (JY (aG a row) (aG b row)) (by simp [V.a]) ?_
   simp [V.a]
   all_goals exact gz
  ·obtain ⟨a,b,rfl⟩:∃ a b,ks=[a,b]:=by
    have hl:ks.length=2:=by simp [bN,bR,bQ,ops] at hcn; omega
    match ks,hl with
    | [a,b],_=>exact ⟨a,b,rfl⟩
   have he:aG (.mk 17 c n t g [a,b]) row=oO (eS (aG b row) (aG a row)):=by simp [aG,show bN 17 2=true from by decide,bJ,aT,iD,lA]
   rw [he]
   simp [rY,V.c]
   (repeat' (first|contradiction|exact .ok|apply And.intro|intro _|(refine gc (fun h=>?_) (fun h=>?_)<;>(have h':=h;(try simp at h');first|done|simp[h,h']|simp))))
   refine aA (JY (aG b row) (aG a row)) (by simp [V.a]) ?_
   simp [V.a]
   (repeat' (first|contradiction|exact .ok|apply And.intro|intro _|(refine gc (fun h=>?_) (fun h=>?_)<;>(have h':=h;(try simp at h');first|done|simp[h,h']|simp))))
   refine aA (VF (eS (aG b row) (aG a row))) (by simp [V.a]) ?_
   simp [V.a]
   all_goals exact gz
  ·obtain ⟨a,b,rfl⟩:∃ a b,ks=[a,b]:=by
    have hl:ks.length=2:=by simp [bN,bR,bQ,ops] at hcn; omega
    match ks,hl with
    | [a,b],_=>exact ⟨a,b,rfl⟩
   have he:aG (.mk 18 c n t g [a,b]) row=eS (aG b row) (aG a row):=by simp [aG,show bN 18 2=true from by decide,bJ,aT,iD,lA]
   rw [he]
   simp [rY,V.c]
   (repeat' (first|contradiction|exact .ok|apply And.intro|intro _|(refine gc (fun h=>?_) (fun h=>?_)<;>(have h':=h;(try simp at h');first|done|simp[h,h']|simp))))
   refine aA (JY (aG b row) (aG a row)) (by simp [V.a]) ?_
   simp [V.a]
   all_goals exact gz
  ·obtain ⟨a,b,rfl⟩:∃ a b,ks=[a,b]:=by
    have hl:ks.length=2:=by simp [bN,bR,bQ,ops] at hcn; omega
    match ks,hl with
    | [a,b],_=>exact ⟨a,b,rfl⟩
   have he:aG (.mk 19 c n t g [a,b]) row=oO (eS (aG a row) (aG b row)):=by simp [aG,show bN 19 2=true from by decide,bJ,aT,iD,lA]
   rw [he]
   simp [rY,V.c]
   (repeat' (first|contradiction|exact .ok|apply And.intro|intro _|(refine gc (fun h=>?_) (fun h=>?_)<;>(have h':=h;(try simp at h');first|done|simp[h,h']|simp))))
   refine aA (JY (aG a row) (aG b row)) (by simp [V.a]) ?_
   simp [V.a]
   (repeat' (first|contradiction|exact .ok|apply And.intro|intro _|(refine gc (fun h=>?_) (fun h=>?_)<;>(have h':=h;(try simp at h');first|done|simp[h,h']|simp))))
   refine aA (VF (eS (aG a row) (aG b row))) (by simp [V.a]) ?_
   simp [V.a]
   all_goals exact gz
  ·obtain ⟨a,b,rfl⟩:∃ a b,ks=[a,b]:=by
    have hl:ks.length=2:=by simp [bN,bR,bQ,ops] at hcn; omega
    match ks,hl with
    | [a,b],_=>exact ⟨a,b,rfl⟩
   have he:aG (.mk 20 c n t g [a,b]) row=zI ((aG a row).same (aG b row)):=by simp [aG,show bN 20 2=true from by decide,bJ,aT,iD,lA]
   rw [he]
   simp [rY,V.c]
   (repeat' (first|contradiction|exact .ok|apply And.intro|intro _|(refine gc (fun h=>?_) (fun h=>?_)<;>(have h':=h;(try simp at h');first|done|simp[h,h']|simp))))
   refine aA (TX (aG a row) (aG b row)) (by simp [V.a]) ?_
   simp [V.a,← V.same_cmp]
   (repeat' (first|contradiction|exact .ok|apply And.intro|intro _|(refine gc (fun h=>?_) (fun h=>?_)<;>(have h':=h;(try simp at h');first|done|simp[h,h']|simp))))
   refine aA (aBl ((aG a row).same (aG b row))) (by simp) ?_
   simp [V.a,← V.same_cmp]
   all_goals exact gz
  ·obtain ⟨a,rfl⟩:∃ a,ks=[a]:=by
    have hl:ks.length=1:=by simp [bN,bR,bQ,ops] at hcn; omega
    match ks,hl with
    | [a],_=>exact ⟨a,rfl⟩
   have he:aG (.mk 21 c n t g [a]) row=zI ((aG a row).k==0):=by simp [aG,show bN 21 1=true from by decide,bJ,aT,iD]
   rw [he]
   simp [rY,V.c]
   (repeat' (first|contradiction|exact .ok|apply And.intro|intro _|(refine gc (fun h=>?_) (fun h=>?_)<;>(have h':=h;(try simp at h');first|done|simp[h,h']|simp))))
   refine aA (aBl ((aG a row).k==0)) (by simp) ?_
   simp [V.a]
   all_goals exact gz
  ·obtain ⟨a,b,rfl⟩:∃ a b,ks=[a,b]:=by
    have hl:ks.length=2:=by simp [bN,bR,bQ,ops] at hcn; omega
    match ks,hl with
    | [a,b],_=>exact ⟨a,b,rfl⟩
   have he:aG (.mk 22 c n t g [a,b]) row=DC (aG a row) (aG b row):=by simp [aG,show bN 22 2=true from by decide,bJ,aT,iD,lA]
   rw [he]
   simp [rY,V.c]
   (repeat' (first|contradiction|exact .ok|apply And.intro|intro _|(refine gc (fun h=>?_) (fun h=>?_)<;>(have h':=h;(try simp at h');first|done|simp[h,h']|simp))))
   refine aA (aHN (aG a row) (aG b row)) (by simp [V.a]) ?_
   simp [V.a]
   all_goals exact gz
  ·obtain ⟨a,b,rfl⟩:∃ a b,ks=[a,b]:=by
    have hl:ks.length=2:=by simp [bN,bR,bQ,ops] at hcn; omega
    match ks,hl with
    | [a,b],_=>exact ⟨a,b,rfl⟩
   have he:aG (.mk 23 c n t g [a,b]) row=LE (aG a row) (aG b row):=by simp [aG,show bN 23 2=true from by decide,bJ,aT,iD,lA]
   rw [he]
   simp [rY,V.c]
   (repeat' (first|contradiction|exact .ok|apply And.intro|intro _|(refine gc (fun h=>?_) (fun h=>?_)<;>(have h':=h;(try simp at h');first|done|simp[h,h']|simp))))
   refine aA (aHO (aG a row) (aG b row)) (by simp [V.a]) ?_
   simp [V.a]
   all_goals exact gz
  ·obtain ⟨a,rfl⟩:∃ a,ks=[a]:=by
    have hl:ks.length=1:=by simp [bN,bR,bQ,ops] at hcn; omega
    match ks,hl with
    | [a],_=>exact ⟨a,rfl⟩
   have he:aG (.mk 24 c n t g [a]) row=oO (aG a row):=by simp [aG,show bN 24 1=true from by decide,bJ,aT,iD]
   rw [he]
   simp [rY,V.c]
   (repeat' (first|contradiction|exact .ok|apply And.intro|intro _|(refine gc (fun h=>?_) (fun h=>?_)<;>(have h':=h;(try simp at h');first|done|simp[h,h']|simp))))
   refine aA (VF (aG a row)) (by simp [V.a]) ?_
   simp [V.a]
   all_goals exact gz
  ·obtain ⟨a,rfl⟩:∃ a,ks=[a]:=by
    have hl:ks.length=1:=by simp [bN,bR,bQ,ops] at hcn; omega
    match ks,hl with
    | [a],_=>exact ⟨a,rfl⟩
   have he:aG (.mk 25 c n t g [a]) row=zI ((aG a row).tr==1):=by simp [aG,show bN 25 1=true from by decide,bJ,aT,iD]
   rw [he]
   simp [rY,V.c]
   (repeat' (first|contradiction|exact .ok|apply And.intro|intro _|(refine gc (fun h=>?_) (fun h=>?_)<;>(have h':=h;(try simp at h');first|done|simp[h,h']|simp))))
   refine aA (lK (aG a row)) (by simp [V.a]) ?_
   simp [V.a]
   (repeat' (first|contradiction|exact .ok|apply And.intro|intro _|(refine gc (fun h=>?_) (fun h=>?_)<;>(have h':=h;(try simp at h');first|done|simp[h,h']|simp))))
   refine aA (aBl ((aG a row).tr==1)) (by simp) ?_
   simp [V.a]
   all_goals exact gz
  ·obtain ⟨a,b,d,rfl⟩:∃ a b d,ks=[a,b,d]:=by
    match ks,NM hcn with
    | [a,b,d],_=>exact ⟨a,b,d,rfl⟩
   have he:aG (.mk 26 c n t g [a,b,d]) row=if (aG a row).tr=1 then aG b row else aG d row:=by
    simp [aG,show bN 26 3=true from by decide,bJ,iD,lA,at2]
   rw [he]
   by_cases h1:(aG a row).tr=1
   ·rw [if_pos h1]
    simp [rY,V.c,V.a]
    (repeat' (first|contradiction|exact .ok|apply And.intro|intro _|(refine gc (fun h=>?_) (fun h=>?_)<;>(have h':=h;(try simp at h');first|done|simp[h,h']|simp))))
    refine aA (lK (aG a row)) (by simp [V.a]) ?_
    simp [h1]
    (repeat' (first|contradiction|exact .ok|apply And.intro|intro _|(refine gc (fun h=>?_) (fun h=>?_)<;>(have h':=h;(try simp at h');first|done|simp[h,h',h1]|simp[h1]))))
   ·rw [if_neg h1]
    simp [rY,V.c,V.a]
    (repeat' (first|contradiction|exact .ok|apply And.intro|intro _|(refine gc (fun h=>?_) (fun h=>?_)<;>(have h':=h;(try simp at h');first|done|simp[h,h']|simp))))
    refine aA (lK (aG a row)) (by simp [V.a]) ?_
    simp [h1]
    (repeat' (first|contradiction|exact .ok|apply And.intro|intro _|(refine gc (fun h=>?_) (fun h=>?_)<;>(have h':=h;(try simp at h');first|done|simp[h,h',h1]|simp[h1]))))
  ·obtain ⟨a,b,rfl⟩:∃ a b,ks=[a,b]:=by
    have hl:ks.length=2:=by simp [bN,bR,bQ,ops] at hcn; omega
    match ks,hl with
    | [a,b],_=>exact ⟨a,b,rfl⟩
   have he:aG (.mk 27 c n t g [a,b]) row=(if (aG a row).k=0 then (aG b row) else (aG a row)):=by simp [aG,show bN 27 2=true from by decide,bJ,aT,iD,lA]
   rw [he]
   by_cases h3:(aG a row).k=0
   ·rw [if_pos h3]
    simp [rY,V.c,V.a,h3]
    (repeat' (first|contradiction|exact .ok|apply And.intro|intro _|(refine gc (fun h=>?_) (fun h=>?_)<;>(have h':=h;(try simp at h');first|done|simp[h,h',h3]|simp[h3]))))
   ·rw [if_neg h3]
    simp [rY,V.c,V.a,h3]
    (repeat' (first|contradiction|exact .ok|apply And.intro|intro _|(refine gc (fun h=>?_) (fun h=>?_)<;>(have h':=h;(try simp at h');first|done|simp[h,h',h3]|simp[h3]))))
  ·cases ks with
   | nil=>simp [bN,bR,bQ,ops] at hcn
   | cons a ks=>cases ks with
     | nil=>simp [bN,bR,bQ,ops] at hcn
     | cons b ks =>
       have he:aG (.mk 28 c n t g (a::b::ks)) row=inF (qU (aG a row) (aG b row)) (aG a row) (bJ ks row):=by
        have hc28:bN 28 (ks.length+2)=true:=by simpa using hcn
        simp [aG,hc28,bJ,aT,iD,aCh]
       rw [he]
       have hys:bJ ks row=ks.map fun e=>aG e row:=kW ks row
       have htk:List.take ks.length (List.map (fun e=>(aG e row).c) ks)=List.map (fun e=>(aG e row).c) ks:=List.take_of_length_le (by simp)
       simp only [V.c] at htk
       have h12:ks.length≤12:=by simp at hk; omega
       simp [rY,V.c]
       (repeat' (first|contradiction|exact .ok|apply And.intro|intro _|(refine gc (fun h=>?_) (fun h=>?_)<;>(have h':=h;(try simp at h');first|done|simp[h,h']|simp))))
       refine aA (aDW (aG a row) (aG b row)) (by simp [V.a]) ?_
       simp [V.a]
       (repeat' (first|contradiction|exact .ok|apply And.intro|intro _|(refine gc (fun h=>?_) (fun h=>?_)<;>(have h':=h;(try simp at h');first|done|simp[h,h']|simp))))
       refine aL aW (fun j:Nat=>{ s:=cE [(4,.ptr 4 0 0),(5,.d (.sl ((aG a row).c::(aG b row).c::(bJ ks row).map V.c))),(7,.ptr 7 0 0),(8,.d (.int .i64 (j+2:Nat)))],b:=cC [(4,4,.var [.d (.int .i64 0),.d (.int .i64 0),.d (.str [])]),(7,7,.var (inF (qU (aG a row) (aG b row)) (aG a row) ((bJ ks row).take j)).a.cells)] }) (fun j:Nat=>j≤ks.length) (fun j=>ks.length - j) 0 (by simp) (sM _ [(4,4,_),(7,7,_)] (by simp [aB,Blk.live,V.a,inF]) (by simp [aB,V.c,hys,htk,Function.comp_def])) ?_
       intro j hj
       have hyl:(bJ ks row).length=ks.length:=by rw [hys,List.length_map]
       by_cases hlt:j<ks.length
       ·have hg:(bJ ks row)[j]?=some (aG ks[j] row):=by rw [hys,List.getElem?_map,gE hlt]; rfl
        have ht2:=aCi (qU (aG a row) (aG b row)) (aG a row) (bJ ks row) j _ hg
        have hlt':(j:Int)<ks.length:=by omega
        have hlt2:(j:Int)+2<(ks.length:Int)+1+1:=by omega
        have hp:(0:Int)≤(j:Int)+2:=by omega
        have htn:((j:Int)+2).toNat=j+2:=by omega
        simp [hyl,hlt,hlt2,hp,htn,V.c,V.a]
        (repeat' (first|contradiction|exact .ok|apply And.intro|intro _|(refine gc (fun h=>?_) (fun h=>?_)<;>(have h':=h;(try simp at h');first|done|simp[h,h']|simp))))
        obtain ⟨hjl,hgx⟩:=List.getElem?_eq_some_iff.1 hg
        refine aA (aDW (aG a row) (aG ks[j] row)) (by simp [V.a,hgx]) ?_
        simp [V.a]
        refine aA (aHO (inF (qU (aG a row) (aG b row)) (aG a row) ((bJ ks row).take j)) (qU (aG a row) (aG ks[j] row))) (by simp [V.a]) ?_
        simp [V.a]
        (repeat' (first|contradiction|exact .ok|apply And.intro|intro _|(refine gc (fun h=>?_) (fun h=>?_)<;>(have h':=h;(try simp at h');first|done|simp[h,h']|simp))))
        refine ⟨j+1,hlt,?_,?_⟩
        ·refine sM _ [(4,4,_),(7,7,_)] (by simp [aB,Blk.live,ht2]) ?_
         simp [aB]
         rw [bL (by omega) (by omega)]
         omega
        ·simp; omega
       ·have hje:j=ks.length:=by omega
        subst hje
        have htk2:(bJ ks row).take ks.length=bJ ks row:=List.take_of_length_le (by omega)
        have hge:¬ (ks.length:Int)+2<(ks.length:Int)+1+1:=by omega
        simp [hyl,htk2,hge,V.a,V.c]
        all_goals exact gz
theorem TF (row:List V) (hrow:row.length≤9223372036854775807) (o c n g:Int) (t:List UInt8) (ks:List Ex) (hk:ks.length≤12)
  (hrec:∀ e∈ks,Cf En 103 [e.a,.d (.sl (row.map V.c))] [] (aG e row).a []) :
  Cf En 103 [(Ex.mk o c n t g ks).a,.d (.sl (row.map V.c))] [] (aG (.mk o c n t g ks) row).a []:=by
  cases hcn:bN o ks.length
  ·refine cI aW (fn:=Tryz.f103) rfl ?_
   rw [show aG (.mk o c n t g ks) row=nulV from by simp [aG,hcn]]
   by_cases ho1:o<1
   ·simp [Ex.a,Ex.c,aE,ho1,nulV,V.a]
    (repeat' (first|contradiction|exact .ok|apply And.intro|intro _|(refine gc (fun h=>?_) (fun h=>?_)<;>(have h':=h;(try simp at h');first|done|simp[h,h',ho1]|simp[ho1]))))
   by_cases ho2:28<o
   ·simp [Ex.a,Ex.c,aE,ho1,ho2,nulV,V.a]
    (repeat' (first|contradiction|exact .ok|apply And.intro|intro _|(refine gc (fun h=>?_) (fun h=>?_)<;>(have h':=h;(try simp at h');first|done|simp[h,h',ho1,ho2]|simp[ho1,ho2]))))
   have hio:bR o=true:=by unfold bR; simp; omega
   have hkc:=HC o ks.length hio
   simp [Ex.a,Ex.c,aE]
   (repeat' (first|contradiction|exact .ok|apply And.intro|intro _|(refine gc (fun h=>?_) (fun h=>?_)<;>(have h':=h;(try simp at h');first|done|simp[h',ho1,ho2]|simp[ho1,ho2]))))
   refine aP (aCg o ks.length) ?_
   rw [hkc,hcn]
   simp [nulV,V.a]
   all_goals exact gz
  ·exact TE row hrow o c n g t ks hk hrec hcn
theorem wG (row:List V) (hrow:row.length≤9223372036854775807):∀ (m:Nat) (e:Ex),SizeOf.sizeOf e<m→∀ q:Nat,e.few q=true→Cf En 103 [e.a,.d (.sl (row.map V.c))] [] (aG e row).a []
 | 0,_,h,_,_=>absurd h (by omega)
 | m+1,.mk o c n t g ks,hm,q,hq=>by
   obtain ⟨hk,ht,hfew⟩:=jI hq
   exact TF row hrow o c n g t ks hk fun e he =>
    wG row hrow m e (by have:=Ex.kid_lt (e:=.mk o c n t g ks) (k:=e) he; omega) (q+1) (hfew e he)
end Go.Proofs.Tryz
