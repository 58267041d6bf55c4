import Derived.Test.YtklnfckiabhceaaGreatDoorKCldR
set_option linter.all false
namespace Go.Proofs.Tryz
open Go.Ab
set_option maxRecDepth 100000
set_option maxHeartbeats 64000000
theorem reval_true (row:List V) (hrow:row.length≤9223372036854775807) (o c n g:Int) (t:List UInt8) (ks:List Ex) (hk:ks.length≤12)
  (hrec:∀ e∈ks,Cf En 61 [e.a,.d (.sl (row.map V.c))] [] (evalV e row).a []) (hcn:cntd o ks.length=true) :
  Cf En 61 [(Ex.mk o c n t g ks).a,.d (.sl (row.map V.c))] [] (evalV (.mk o c n t g ks) row).a []:=by
  refine cf_intro mix (fn:=Tryz.f61) (by kernel_rfl) rfl (by kernel_rfl) (by decide) (by simp) ?_
  have h1:isOp o=true:=by
   unfold cntd at hcn
   simp only [Bool.and_eq_true] at hcn
   exact hcn.1
  have h2:1≤o∧o≤28:=by simpa [isOp] using h1
  have ho1:¬ o<1:=by omega
  have ho2:¬ 28<o:=by omega
  have hkc:=kids_cntd o ks.length h1
  simp [Ex.a,Ex.c,kidsC_map]
  (repeat' (first|contradiction|exact .ok|apply And.intro|intro _|(refine gc (fun h=>?_) (fun h=>?_)<;>(have i:=h;(try simp at i);first|done|simp[h,i,ho1,ho2]|simp[ho1,ho2]))))
  refine acallT_plain (r_kids o ks.length) (by simp) ?_
  rw [hkc,hcn]
  simp
  (repeat' (first|contradiction|exact .ok|apply And.intro|intro _|(refine gc (fun h=>?_) (fun h=>?_)<;>(have i:=h;(try simp at i);first|done|simp[h,i]|simp))))
  refine aloopT mix (by decide) (rvF o c n g t ks row) (fun i:Nat=>i≤ks.length) (fun i=>ks.length - i) 0 (by simp) (sub_mk [(1,_),(2,_),(4,_),(5,_),(6,_)] [(2,2,_),(4,4,_)] ⟨by simp,by simp,by simp [renOf,Blk.live],by simp⟩ (by simp [renOf])) ?_
  intro i hi
  by_cases hlt:i<ks.length
  ·have hgi:ks[i]?=some ks[i]:=List.getElem?_eq_getElem hlt
   have c1:=Ex.clen ks[i]
   have k1:=Ex.ctake ks[i]
   have hr:=hrec ks[i] (List.getElem_mem hlt)
   have htk:List.take (i+1) (List.map (fun e=>(evalV e row).c) ks)=List.take i (List.map (fun e=>(evalV e row).c) ks)++[(evalV ks[i] row).c]:=by
    rw [List.take_add_one,List.getElem?_map,hgi]; rfl
   simp only [V.c] at htk
   cases i with
   | zero =>
     have hlt2:(0:Int)<ks.length:=by omega
     simp [rvF,hlt,hlt2,hgi,c1,k1]
     (repeat' (first|contradiction|exact .ok|apply And.intro|intro _|(refine gc (fun h=>?_) (fun h=>?_)<;>(have i:=h;(try simp at i);first|done|simp[h,i]|simp))))
     refine acallT_plain hr (by simp [Ex.a]) ?_
     simp [V.a]
     (repeat' (first|contradiction|exact .ok|apply And.intro|intro _|(refine gc (fun h=>?_) (fun h=>?_)<;>(have i:=h;(try simp at i);first|done|simp[h,i]|simp))))
     refine ⟨1,hlt,?_,?_⟩
     ·refine sub_mk [(1,_),(2,_),(4,_),(5,_),(6,_)] [(2,2,_),(4,4,_),(900,43,_)] ⟨by simp,by simp,?_,by simp⟩ ?_
      ·simp only [Nat.zero_add,List.take_zero,List.nil_append] at htk
       simp [renOf,Blk.live,htk,V.c]
      ·simp [renOf]
       exact wrap_in (by omega) (by omega)
     ·simp; omega
   | succ i =>
     have hlt2:((i+1:Nat):Int)<ks.length:=by omega
     have hlt3:(i:Int)+1<ks.length:=by omega
     have hp:(0:Int)≤(i:Int)+1:=by omega
     have hmin:min (i+1) ks.length=i+1:=by omega
     have s1:(i+1+1)*32≤140737488355328:=by omega
     have s2:i≤9223372036854775805:=by omega
     simp [rvF,hlt,hlt2,hlt3,hp,hgi,c1,k1]
     (repeat' (first|contradiction|exact .ok|apply And.intro|intro _|(refine gc (fun h=>?_) (fun h=>?_)<;>(have i:=h;(try simp at i);first|done|simp[h,i]|simp))))
     refine acallT_plain hr (by simp [Ex.a]) ?_
     simp [V.a,hmin,s1,s2]
     (repeat' (first|contradiction|exact .ok|apply And.intro|intro _|(refine gc (fun h=>?_) (fun h=>?_)<;>(have i:=h;(try simp at i);first|done|simp[h,i]|simp))))
     refine ⟨i+2,by omega,?_,?_⟩
     ·refine sub_mk [(1,_),(2,_),(4,_),(5,_),(6,_)] [(2,2,_),(4,4,_),(900,43,_)] ⟨by simp,by simp,?_,by simp⟩ ?_
      ·simp [renOf,Blk.live,htk,V.c]
      ·simp [renOf]
       rw [wrap_in (by omega) (by omega)]
     ·simp; omega
  have hie:i=ks.length:=by omega
  subst hie
  clear hrec hkc hi hlt
  have h3:o=1∨o=2∨o=3∨o=4∨o=5∨o=6∨o=7∨o=8∨o=9∨o=10∨o=11∨o=12∨o=13∨o=14∨o=15∨o=16∨o=17∨o=18∨o=19∨o=20∨o=21∨o=22∨o=23∨o=24∨o=25∨o=26∨o=27∨o=28:=by omega
  clear h1 h2 ho1 ho2
  rcases h3 with rfl | rfl | rfl | rfl | rfl | rfl | rfl | rfl | rfl | rfl | rfl | rfl | rfl | rfl | rfl | rfl | rfl | rfl | rfl | rfl | rfl | rfl | rfl | rfl | rfl | rfl | rfl | rfl
  ·have:ks=[]:=by simpa [cntd,isOp,opOf,ops] using hcn
   subst this
   rw [show evalV (.mk 1 c n t g []) row=nulV from by simp [evalV,show cntd 1 0=true from by decide,evalAll,applyV]]
   simp [rvF,V.a,nulV]
   all_goals exact gz
  ·have:ks=[]:=by simpa [cntd,isOp,opOf,ops] using hcn
   subst this
   rw [show evalV (.mk 2 c n t g []) row=⟨1,n,[]⟩ from by simp [evalV,show cntd 2 0=true from by decide,evalAll,applyV]]
   simp [rvF,V.a]
   all_goals exact gz
  ·have:ks=[]:=by simpa [cntd,isOp,opOf,ops] using hcn
   subst this
   rw [show evalV (.mk 3 c n t g []) row=⟨2,n,[]⟩ from by simp [evalV,show cntd 3 0=true from by decide,evalAll,applyV]]
   simp [rvF,V.a]
   all_goals exact gz
  ·have:ks=[]:=by simpa [cntd,isOp,opOf,ops] using hcn
   subst this
   rw [show evalV (.mk 4 c n t g []) row=⟨3,0,t⟩ from by simp [evalV,show cntd 4 0=true from by decide,evalAll,applyV]]
   simp [rvF,V.a]
   all_goals exact gz
  ·have:ks=[]:=by simpa [cntd,isOp,opOf,ops] using hcn
   subst this
   by_cases hg:0≤g∧g<row.length
   ·have hgr:row[g.toNat]?=some row[g.toNat]:=List.getElem?_eq_getElem (by omega)
    have hg1:¬ g<0:=by omega
    have hg2:¬ (row.length:Int)≤g:=by omega
    rw [show evalV (.mk 5 c n t g []) row=row[g.toNat] from by simp [evalV,show cntd 5 0=true from by decide,hg,hgr]]
    simp [rvF,V.a,hg.1,hg.2,hgr,hg1,hg2,V.c]
    (repeat' (first|contradiction|exact .ok|apply And.intro|intro _|(refine gc (fun h=>?_) (fun h=>?_)<;>(have i:=h;(try simp at i);first|done|simp[h,i,hg.1,hg.2,hgr,hg1,hg2]|simp[hg.1,hg.2,hgr,hg1,hg2]))))
   ·rw [show evalV (.mk 5 c n t g []) row=nulV from by simp [evalV,show cntd 5 0=true from by decide,hg]]
    simp [rvF,V.a,nulV]
    (repeat' (first|contradiction|exact .ok|apply And.intro|intro _|(refine gc (fun h=>?_) (fun h=>?_)<;>(have i:=h;(try simp at i);first|done|simp[h,i]|simp))))
    all_goals (exfalso; omega)
  ·obtain ⟨a,b,rfl⟩:∃ a b,ks=[a,b]:=by
    have hl:ks.length=2:=by simp [cntd,isOp,opOf,ops] at hcn; omega
    match ks,hl with
    | [a,b],_=>exact ⟨a,b,rfl⟩
   have he:evalV (.mk 6 c n t g [a,b]) row=arV 6 (evalV a row) (evalV b row):=by simp [evalV,show cntd 6 2=true from by decide,evalAll,applyV,at0,at1]
   rw [he]
   simp [rvF,V.c]
   (repeat' (first|contradiction|exact .ok|apply And.intro|intro _|(refine gc (fun h=>?_) (fun h=>?_)<;>(have i:=h;(try simp at i);first|done|simp[h,i]|simp))))
   refine acallT_plain (r_arith 6 (evalV a row) (evalV b row)) (by simp [V.a]) ?_
   simp [V.a]
   all_goals exact gz
  ·obtain ⟨a,b,rfl⟩:∃ a b,ks=[a,b]:=by
    have hl:ks.length=2:=by simp [cntd,isOp,opOf,ops] at hcn; omega
    match ks,hl with
    | [a,b],_=>exact ⟨a,b,rfl⟩
   have he:evalV (.mk 7 c n t g [a,b]) row=arV 7 (evalV a row) (evalV b row):=by simp [evalV,show cntd 7 2=true from by decide,evalAll,applyV,at0,at1]
   rw [he]
   simp [rvF,V.c]
   (repeat' (first|contradiction|exact .ok|apply And.intro|intro _|(refine gc (fun h=>?_) (fun h=>?_)<;>(have i:=h;(try simp at i);first|done|simp[h,i]|simp))))
   refine acallT_plain (r_arith 7 (evalV a row) (evalV b row)) (by simp [V.a]) ?_
   simp [V.a]
   all_goals exact gz
  ·obtain ⟨a,b,rfl⟩:∃ a b,ks=[a,b]:=by
    have hl:ks.length=2:=by simp [cntd,isOp,opOf,ops] at hcn; omega
    match ks,hl with
    | [a,b],_=>exact ⟨a,b,rfl⟩
   have he:evalV (.mk 8 c n t g [a,b]) row=arV 8 (evalV a row) (evalV b row):=by simp [evalV,show cntd 8 2=true from by decide,evalAll,applyV,at0,at1]
   rw [he]
   simp [rvF,V.c]
   (repeat' (first|contradiction|exact .ok|apply And.intro|intro _|(refine gc (fun h=>?_) (fun h=>?_)<;>(have i:=h;(try simp at i);first|done|simp[h,i]|simp))))
   refine acallT_plain (r_arith 8 (evalV a row) (evalV b row)) (by simp [V.a]) ?_
   simp [V.a]
   all_goals exact gz
  ·obtain ⟨a,b,rfl⟩:∃ a b,ks=[a,b]:=by
    have hl:ks.length=2:=by simp [cntd,isOp,opOf,ops] at hcn; omega
    match ks,hl with
    | [a,b],_=>exact ⟨a,b,rfl⟩
   have he:evalV (.mk 9 c n t g [a,b]) row=arV 9 (evalV a row) (evalV b row):=by simp [evalV,show cntd 9 2=true from by decide,evalAll,applyV,at0,at1]
   rw [he]
   simp [rvF,V.c]
   (repeat' (first|contradiction|exact .ok|apply And.intro|intro _|(refine gc (fun h=>?_) (fun h=>?_)<;>(have i:=h;(try simp at i);first|done|simp[h,i]|simp))))
   refine acallT_plain (r_arith 9 (evalV a row) (evalV b row)) (by simp [V.a]) ?_
   simp [V.a]
   all_goals exact gz
  ·obtain ⟨a,b,rfl⟩:∃ a b,ks=[a,b]:=by
    have hl:ks.length=2:=by simp [cntd,isOp,opOf,ops] at hcn; omega
    match ks,hl with
    | [a,b],_=>exact ⟨a,b,rfl⟩
   have he:evalV (.mk 10 c n t g [a,b]) row=arV 10 (evalV a row) (evalV b row):=by simp [evalV,show cntd 10 2=true from by decide,evalAll,applyV,at0,at1]
   rw [he]
   simp [rvF,V.c]
   (repeat' (first|contradiction|exact .ok|apply And.intro|intro _|(refine gc (fun h=>?_) (fun h=>?_)<;>(have i:=h;(try simp at i);first|done|simp[h,i]|simp))))
   refine acallT_plain (r_arith 10 (evalV a row) (evalV b row)) (by simp [V.a]) ?_
   simp [V.a]
   all_goals exact gz
  ·obtain ⟨a,rfl⟩:∃ a,ks=[a]:=by
    have hl:ks.length=1:=by simp [cntd,isOp,opOf,ops] at hcn; omega
    match ks,hl with
    | [a],_=>exact ⟨a,rfl⟩
   have he:evalV (.mk 11 c n t g [a]) row=arV 7 ⟨1,0,[]⟩ (evalV a row):=by simp [evalV,show cntd 11 1=true from by decide,evalAll,applyV,at0,at1]
   rw [he]
   simp [rvF,V.c]
   (repeat' (first|contradiction|exact .ok|apply And.intro|intro _|(refine gc (fun h=>?_) (fun h=>?_)<;>(have i:=h;(try simp at i);first|done|simp[h,i]|simp))))
   refine acallT_plain (r_arith 7 ⟨1,0,[]⟩ (evalV a row)) (by simp [V.a]) ?_
   simp [V.a]
   all_goals exact gz
  ·obtain ⟨a,b,rfl⟩:∃ a b,ks=[a,b]:=by
    have hl:ks.length=2:=by simp [cntd,isOp,opOf,ops] at hcn; omega
    match ks,hl with
    | [a,b],_=>exact ⟨a,b,rfl⟩
   have he:evalV (.mk 12 c n t g [a,b]) row=arV 12 (evalV a row) (evalV b row):=by simp [evalV,show cntd 12 2=true from by decide,evalAll,applyV,at0,at1]
   rw [he]
   simp [rvF,V.c]
   (repeat' (first|contradiction|exact .ok|apply And.intro|intro _|(refine gc (fun h=>?_) (fun h=>?_)<;>(have i:=h;(try simp at i);first|done|simp[h,i]|simp))))
   refine acallT_plain (r_arith 12 (evalV a row) (evalV b row)) (by simp [V.a]) ?_
   simp [V.a]
   all_goals exact gz
  ·obtain ⟨a,rfl⟩:∃ a,ks=[a]:=by
    have hl:ks.length=1:=by simp [cntd,isOp,opOf,ops] at hcn; omega
    match ks,hl with
    | [a],_=>exact ⟨a,rfl⟩
   have he:evalV (.mk 13 c n t g [a]) row=(if (evalV a row).k=3 then ⟨1,(evalV a row).t.length,[]⟩ else nulV):=by simp [evalV,show cntd 13 1=true from by decide,evalAll,applyV,at0,at1]
   rw [he]
   by_cases h3:(evalV a row).k=3
   ·rw [if_pos h3]
    simp [rvF,V.c,V.a,h3]
    (repeat' (first|contradiction|exact .ok|apply And.intro|intro _|(refine gc (fun h=>?_) (fun h=>?_)<;>(have i:=h;(try simp at i);first|done|simp[h,i,h3]|simp[h3]))))
   ·rw [if_neg h3]
    simp [rvF,V.c,V.a,h3,nulV]
    (repeat' (first|contradiction|exact .ok|apply And.intro|intro _|(refine gc (fun h=>?_) (fun h=>?_)<;>(have i:=h;(try simp at i);first|done|simp[h,i,h3]|simp[h3]))))
  ·obtain ⟨a,b,rfl⟩:∃ a b,ks=[a,b]:=by
    have hl:ks.length=2:=by simp [cntd,isOp,opOf,ops] at hcn; omega
    match ks,hl with
    | [a,b],_=>exact ⟨a,b,rfl⟩
   have he:evalV (.mk 14 c n t g [a,b]) row=eqV (evalV a row) (evalV b row):=by simp [evalV,show cntd 14 2=true from by decide,evalAll,applyV,at0,at1]
   rw [he]
   simp [rvF,V.c]
   (repeat' (first|contradiction|exact .ok|apply And.intro|intro _|(refine gc (fun h=>?_) (fun h=>?_)<;>(have i:=h;(try simp at i);first|done|simp[h,i]|simp))))
   refine acallT_plain (r_eq (evalV a row) (evalV b row)) (by simp [V.a]) ?_
   simp [V.a]
   all_goals exact gz
  ·obtain ⟨a,b,rfl⟩:∃ a b,ks=[a,b]:=by
    have hl:ks.length=2:=by simp [cntd,isOp,opOf,ops] at hcn; omega
    match ks,hl with
    | [a,b],_=>exact ⟨a,b,rfl⟩
   have he:evalV (.mk 15 c n t g [a,b]) row=notV (eqV (evalV a row) (evalV b row)):=by simp [evalV,show cntd 15 2=true from by decide,evalAll,applyV,at0,at1]
   rw [he]
   simp [rvF,V.c]
   (repeat' (first|contradiction|exact .ok|apply And.intro|intro _|(refine gc (fun h=>?_) (fun h=>?_)<;>(have i:=h;(try simp at i);first|done|simp[h,i]|simp))))
   refine acallT_plain (r_eq (evalV a row) (evalV b row)) (by simp [V.a]) ?_
   simp [V.a]
   (repeat' (first|contradiction|exact .ok|apply And.intro|intro _|(refine gc (fun h=>?_) (fun h=>?_)<;>(have i:=h;(try simp at i);first|done|simp[h,i]|simp))))
   refine acallT_plain (r_not (eqV (evalV a row) (evalV b row))) (by simp [V.a]) ?_
   simp [V.a]
   all_goals exact gz
  ·obtain ⟨a,b,rfl⟩:∃ a b,ks=[a,b]:=by
    have hl:ks.length=2:=by simp [cntd,isOp,opOf,ops] at hcn; omega
    match ks,hl with
    | [a,b],_=>exact ⟨a,b,rfl⟩
   have he:evalV (.mk 16 c n t g [a,b]) row=lessV (evalV a row) (evalV b row):=by simp [evalV,show cntd 16 2=true from by decide,evalAll,applyV,at0,at1]
   rw [he]
   simp [rvF,V.c]
   (repeat' (first|contradiction|exact .ok|apply And.intro|intro _|(refine gc (fun h=>?_) (fun h=>?_)<;>(have i:=h;(try simp at i);first|done|simp[h,i]|simp))))
   refine acallT_plain (r_less (evalV a row) (evalV b row)) (by simp [V.a]) ?_
   simp [V.a]
   all_goals exact gz
  ·obtain ⟨a,b,rfl⟩:∃ a b,ks=[a,b]:=by
    have hl:ks.length=2:=by simp [cntd,isOp,opOf,ops] at hcn; omega
    match ks,hl with
    | [a,b],_=>exact ⟨a,b,rfl⟩
   have he:evalV (.mk 17 c n t g [a,b]) row=notV (lessV (evalV b row) (evalV a row)):=by simp [evalV,show cntd 17 2=true from by decide,evalAll,applyV,at0,at1]
   rw [he]
   simp [rvF,V.c]
   (repeat' (first|contradiction|exact .ok|apply And.intro|intro _|(refine gc (fun h=>?_) (fun h=>?_)<;>(have i:=h;(try simp at i);first|done|simp[h,i]|simp))))
   refine acallT_plain (r_less (evalV b row) (evalV a row)) (by simp [V.a]) ?_
   simp [V.a]
   (repeat' (first|contradiction|exact .ok|apply And.intro|intro _|(refine gc (fun h=>?_) (fun h=>?_)<;>(have i:=h;(try simp at i);first|done|simp[h,i]|simp))))
   refine acallT_plain (r_not (lessV (evalV b row) (evalV a row))) (by simp [V.a]) ?_
   simp [V.a]
   all_goals exact gz
  ·obtain ⟨a,b,rfl⟩:∃ a b,ks=[a,b]:=by
    have hl:ks.length=2:=by simp [cntd,isOp,opOf,ops] at hcn; omega
    match ks,hl with
    | [a,b],_=>exact ⟨a,b,rfl⟩
   have he:evalV (.mk 18 c n t g [a,b]) row=lessV (evalV b row) (evalV a row):=by simp [evalV,show cntd 18 2=true from by decide,evalAll,applyV,at0,at1]
   rw [he]
   simp [rvF,V.c]
   (repeat' (first|contradiction|exact .ok|apply And.intro|intro _|(refine gc (fun h=>?_) (fun h=>?_)<;>(have i:=h;(try simp at i);first|done|simp[h,i]|simp))))
   refine acallT_plain (r_less (evalV b row) (evalV a row)) (by simp [V.a]) ?_
   simp [V.a]
   all_goals exact gz
  ·obtain ⟨a,b,rfl⟩:∃ a b,ks=[a,b]:=by
    have hl:ks.length=2:=by simp [cntd,isOp,opOf,ops] at hcn; omega
    match ks,hl with
    | [a,b],_=>exact ⟨a,b,rfl⟩
   have he:evalV (.mk 19 c n t g [a,b]) row=notV (lessV (evalV a row) (evalV b row)):=by simp [evalV,show cntd 19 2=true from by decide,evalAll,applyV,at0,at1]
   rw [he]
   simp [rvF,V.c]
   (repeat' (first|contradiction|exact .ok|apply And.intro|intro _|(refine gc (fun h=>?_) (fun h=>?_)<;>(have i:=h;(try simp at i);first|done|simp[h,i]|simp))))
   refine acallT_plain (r_less (evalV a row) (evalV b row)) (by simp [V.a]) ?_
   simp [V.a]
   (repeat' (first|contradiction|exact .ok|apply And.intro|intro _|(refine gc (fun h=>?_) (fun h=>?_)<;>(have i:=h;(try simp at i);first|done|simp[h,i]|simp))))
   refine acallT_plain (r_not (lessV (evalV a row) (evalV b row))) (by simp [V.a]) ?_
   simp [V.a]
   all_goals exact gz
  ·obtain ⟨a,b,rfl⟩:∃ a b,ks=[a,b]:=by
    have hl:ks.length=2:=by simp [cntd,isOp,opOf,ops] at hcn; omega
    match ks,hl with
    | [a,b],_=>exact ⟨a,b,rfl⟩
   have he:evalV (.mk 20 c n t g [a,b]) row=ofV ((evalV a row).same (evalV b row)):=by simp [evalV,show cntd 20 2=true from by decide,evalAll,applyV,at0,at1]
   rw [he]
   simp [rvF,V.c]
   (repeat' (first|contradiction|exact .ok|apply And.intro|intro _|(refine gc (fun h=>?_) (fun h=>?_)<;>(have i:=h;(try simp at i);first|done|simp[h,i]|simp))))
   refine acallT_plain (r_same (evalV a row) (evalV b row)) (by simp [V.a]) ?_
   simp [V.a,← V.same_cmp]
   (repeat' (first|contradiction|exact .ok|apply And.intro|intro _|(refine gc (fun h=>?_) (fun h=>?_)<;>(have i:=h;(try simp at i);first|done|simp[h,i]|simp))))
   refine acallT_plain (r_of ((evalV a row).same (evalV b row))) (by simp [V.a]) ?_
   simp [V.a,← V.same_cmp]
   all_goals exact gz
  ·obtain ⟨a,rfl⟩:∃ a,ks=[a]:=by
    have hl:ks.length=1:=by simp [cntd,isOp,opOf,ops] at hcn; omega
    match ks,hl with
    | [a],_=>exact ⟨a,rfl⟩
   have he:evalV (.mk 21 c n t g [a]) row=ofV ((evalV a row).k==0):=by simp [evalV,show cntd 21 1=true from by decide,evalAll,applyV,at0,at1]
   rw [he]
   simp [rvF,V.c]
   (repeat' (first|contradiction|exact .ok|apply And.intro|intro _|(refine gc (fun h=>?_) (fun h=>?_)<;>(have i:=h;(try simp at i);first|done|simp[h,i]|simp))))
   refine acallT_plain (r_of ((evalV a row).k==0)) (by simp [V.a]) ?_
   simp [V.a]
   all_goals exact gz
  ·obtain ⟨a,b,rfl⟩:∃ a b,ks=[a,b]:=by
    have hl:ks.length=2:=by simp [cntd,isOp,opOf,ops] at hcn; omega
    match ks,hl with
    | [a,b],_=>exact ⟨a,b,rfl⟩
   have he:evalV (.mk 22 c n t g [a,b]) row=andV (evalV a row) (evalV b row):=by simp [evalV,show cntd 22 2=true from by decide,evalAll,applyV,at0,at1]
   rw [he]
   simp [rvF,V.c]
   (repeat' (first|contradiction|exact .ok|apply And.intro|intro _|(refine gc (fun h=>?_) (fun h=>?_)<;>(have i:=h;(try simp at i);first|done|simp[h,i]|simp))))
   refine acallT_plain (r_and (evalV a row) (evalV b row)) (by simp [V.a]) ?_
   simp [V.a]
   all_goals exact gz
  ·obtain ⟨a,b,rfl⟩:∃ a b,ks=[a,b]:=by
    have hl:ks.length=2:=by simp [cntd,isOp,opOf,ops] at hcn; omega
    match ks,hl with
    | [a,b],_=>exact ⟨a,b,rfl⟩
   have he:evalV (.mk 23 c n t g [a,b]) row=orV (evalV a row) (evalV b row):=by simp [evalV,show cntd 23 2=true from by decide,evalAll,applyV,at0,at1]
   rw [he]
   simp [rvF,V.c]
   (repeat' (first|contradiction|exact .ok|apply And.intro|intro _|(refine gc (fun h=>?_) (fun h=>?_)<;>(have i:=h;(try simp at i);first|done|simp[h,i]|simp))))
   refine acallT_plain (r_or (evalV a row) (evalV b row)) (by simp [V.a]) ?_
   simp [V.a]
   all_goals exact gz
  ·obtain ⟨a,rfl⟩:∃ a,ks=[a]:=by
    have hl:ks.length=1:=by simp [cntd,isOp,opOf,ops] at hcn; omega
    match ks,hl with
    | [a],_=>exact ⟨a,rfl⟩
   have he:evalV (.mk 24 c n t g [a]) row=notV (evalV a row):=by simp [evalV,show cntd 24 1=true from by decide,evalAll,applyV,at0,at1]
   rw [he]
   simp [rvF,V.c]
   (repeat' (first|contradiction|exact .ok|apply And.intro|intro _|(refine gc (fun h=>?_) (fun h=>?_)<;>(have i:=h;(try simp at i);first|done|simp[h,i]|simp))))
   refine acallT_plain (r_not (evalV a row)) (by simp [V.a]) ?_
   simp [V.a]
   all_goals exact gz
  ·obtain ⟨a,rfl⟩:∃ a,ks=[a]:=by
    have hl:ks.length=1:=by simp [cntd,isOp,opOf,ops] at hcn; omega
    match ks,hl with
    | [a],_=>exact ⟨a,rfl⟩
   have he:evalV (.mk 25 c n t g [a]) row=ofV ((evalV a row).tr==1):=by simp [evalV,show cntd 25 1=true from by decide,evalAll,applyV,at0,at1]
   rw [he]
   simp [rvF,V.c]
   (repeat' (first|contradiction|exact .ok|apply And.intro|intro _|(refine gc (fun h=>?_) (fun h=>?_)<;>(have i:=h;(try simp at i);first|done|simp[h,i]|simp))))
   refine acallT_plain (r_truth (evalV a row)) (by simp [V.a]) ?_
   simp [V.a]
   (repeat' (first|contradiction|exact .ok|apply And.intro|intro _|(refine gc (fun h=>?_) (fun h=>?_)<;>(have i:=h;(try simp at i);first|done|simp[h,i]|simp))))
   refine acallT_plain (r_of ((evalV a row).tr==1)) (by simp [V.a]) ?_
   simp [V.a]
   all_goals exact gz
  ·obtain ⟨a,b,d,rfl⟩:∃ a b d,ks=[a,b,d]:=by
    match ks,case_len hcn with
    | [a,b,d],_=>exact ⟨a,b,d,rfl⟩
   have he:evalV (.mk 26 c n t g [a,b,d]) row=if (evalV a row).tr=1 then evalV b row else evalV d row:=by
    simp [evalV,show cntd 26 3=true from by decide,evalAll,at0,at1,at2]
   rw [he]
   by_cases h1:(evalV a row).tr=1
   ·rw [if_pos h1]
    simp [rvF,V.c,V.a]
    (repeat' (first|contradiction|exact .ok|apply And.intro|intro _|(refine gc (fun h=>?_) (fun h=>?_)<;>(have i:=h;(try simp at i);first|done|simp[h,i]|simp))))
    refine acallT_plain (r_truth (evalV a row)) (by simp [V.a]) ?_
    simp [h1,V.a]
    (repeat' (first|contradiction|exact .ok|apply And.intro|intro _|(refine gc (fun h=>?_) (fun h=>?_)<;>(have i:=h;(try simp at i);first|done|simp[h,i,h1]|simp[h1]))))
   ·rw [if_neg h1]
    simp [rvF,V.c,V.a]
    (repeat' (first|contradiction|exact .ok|apply And.intro|intro _|(refine gc (fun h=>?_) (fun h=>?_)<;>(have i:=h;(try simp at i);first|done|simp[h,i]|simp))))
    refine acallT_plain (r_truth (evalV a row)) (by simp [V.a]) ?_
    simp [h1,V.a]
    (repeat' (first|contradiction|exact .ok|apply And.intro|intro _|(refine gc (fun h=>?_) (fun h=>?_)<;>(have i:=h;(try simp at i);first|done|simp[h,i,h1]|simp[h1]))))
  ·obtain ⟨a,b,rfl⟩:∃ a b,ks=[a,b]:=by
    have hl:ks.length=2:=by simp [cntd,isOp,opOf,ops] at hcn; omega
    match ks,hl with
    | [a,b],_=>exact ⟨a,b,rfl⟩
   have he:evalV (.mk 27 c n t g [a,b]) row=(if (evalV a row).k=0 then (evalV b row) else (evalV a row)):=by simp [evalV,show cntd 27 2=true from by decide,evalAll,applyV,at0,at1]
   rw [he]
   by_cases h3:(evalV a row).k=0
   ·rw [if_pos h3]
    simp [rvF,V.c,V.a,h3]
    (repeat' (first|contradiction|exact .ok|apply And.intro|intro _|(refine gc (fun h=>?_) (fun h=>?_)<;>(have i:=h;(try simp at i);first|done|simp[h,i,h3]|simp[h3]))))
   ·rw [if_neg h3]
    simp [rvF,V.c,V.a,h3]
    (repeat' (first|contradiction|exact .ok|apply And.intro|intro _|(refine gc (fun h=>?_) (fun h=>?_)<;>(have i:=h;(try simp at i);first|done|simp[h,i,h3]|simp[h3]))))
  ·cases ks with
   | nil=>simp [cntd,isOp,opOf,ops] at hcn
   | cons a ks=>cases ks with
     | nil=>simp [cntd,isOp,opOf,ops] at hcn
     | cons b ks =>
       have he:evalV (.mk 28 c n t g (a::b::ks)) row=inF (eqV (evalV a row) (evalV b row)) (evalV a row) (evalAll ks row):=by
        have hc28:cntd 28 (ks.length+2)=true:=by simpa using hcn
        simp [evalV,hc28,evalAll,applyV,at0,inV_cons]
       rw [he]
       have hys:evalAll ks row=ks.map fun e=>evalV e row:=evalAll_map ks row
       have htk:List.take ks.length (List.map (fun e=>(evalV e row).c) ks)=List.map (fun e=>(evalV e row).c) ks:=List.take_of_length_le (by simp)
       simp only [V.c] at htk
       have h12:ks.length≤12:=by simp at hk; omega
       simp [rvF,V.c,htk]
       (repeat' (first|contradiction|exact .ok|apply And.intro|intro _|(refine gc (fun h=>?_) (fun h=>?_)<;>(have i:=h;(try simp at i);first|done|simp[h,i]|simp))))
       refine acallT_plain (r_eq (evalV a row) (evalV b row)) (by simp [V.a]) ?_
       simp [V.a]
       (repeat' (first|contradiction|exact .ok|apply And.intro|intro _|(refine gc (fun h=>?_) (fun h=>?_)<;>(have i:=h;(try simp at i);first|done|simp[h,i]|simp))))
       refine aloopT mix (by decide) (fun j:Nat=>{ s:=mkS [(4,.ptr 4 0 0),(5,.d (.sl ((evalV a row).c::(evalV b row).c::(evalAll ks row).map V.c))),(7,.ptr 7 0 0),(8,.d (.int .i64 (j+2:Nat)))],b:=mkB [(4,4,.var [.d (.int .i64 0),.d (.int .i64 0),.d (.str [])]),(7,7,.var (inF (eqV (evalV a row) (evalV b row)) (evalV a row) ((evalAll ks row).take j)).a.cells)] }) (fun j:Nat=>j≤ks.length) (fun j=>ks.length - j) 0 (by simp) (sub_mk _ [(4,4,_),(7,7,_)] ⟨by simp,by simp,by simp [renOf,Blk.live,V.a,inF],by simp⟩ (by simp [renOf,V.c,hys,htk,Function.comp_def])) ?_
       intro j hj
       have hyl:(evalAll ks row).length=ks.length:=by rw [hys,List.length_map]
       by_cases hlt:j<ks.length
       ·have hg:(evalAll ks row)[j]?=some (evalV ks[j] row):=by rw [hys,List.getElem?_map,List.getElem?_eq_getElem hlt]; rfl
        have ht2:=inF_take (eqV (evalV a row) (evalV b row)) (evalV a row) (evalAll ks row) j _ hg
        have hlt':(j:Int)<ks.length:=by omega
        have hlt2:(j:Int)+2<(ks.length:Int)+1+1:=by omega
        have hp:(0:Int)≤(j:Int)+2:=by omega
        have htn:((j:Int)+2).toNat=j+2:=by omega
        simp [hyl,hlt,hlt',hlt2,hp,htn,hg,V.c,V.a]
        (repeat' (first|contradiction|exact .ok|apply And.intro|intro _|(refine gc (fun h=>?_) (fun h=>?_)<;>(have i:=h;(try simp at i);first|done|simp[h,i]|simp))))
        obtain ⟨hjl,hgx⟩:=List.getElem?_eq_some_iff.1 hg
        refine acallT_plain (r_eq (evalV a row) (evalV ks[j] row)) (by simp [V.a,hgx]) ?_
        simp [V.a]
        refine acallT_plain (r_or (inF (eqV (evalV a row) (evalV b row)) (evalV a row) ((evalAll ks row).take j)) (eqV (evalV a row) (evalV ks[j] row))) (by simp [V.a]) ?_
        simp [V.a]
        (repeat' (first|contradiction|exact .ok|apply And.intro|intro _|(refine gc (fun h=>?_) (fun h=>?_)<;>(have i:=h;(try simp at i);first|done|simp[h,i]|simp))))
        refine ⟨j+1,hlt,?_,?_⟩
        ·refine sub_mk _ [(4,4,_),(7,7,_)] ⟨by simp,by simp,by simp [renOf,Blk.live,V.a,ht2],by simp⟩ ?_
         simp [renOf,V.c]
         rw [wrap_in (by omega) (by omega)]
         omega
        ·simp; omega
       ·have hje:j=ks.length:=by omega
        subst hje
        have htk2:(evalAll ks row).take ks.length=evalAll ks row:=List.take_of_length_le (by omega)
        have hge:¬ (ks.length:Int)+2<(ks.length:Int)+1+1:=by omega
        simp [hyl,htk2,hge,V.a,V.c]
        all_goals exact gz
theorem reval_step (row:List V) (hrow:row.length≤9223372036854775807) (o c n g:Int) (t:List UInt8) (ks:List Ex) (hk:ks.length≤12)
  (hrec:∀ e∈ks,Cf En 61 [e.a,.d (.sl (row.map V.c))] [] (evalV e row).a []) :
  Cf En 61 [(Ex.mk o c n t g ks).a,.d (.sl (row.map V.c))] [] (evalV (.mk o c n t g ks) row).a []:=by
  cases hcn:cntd o ks.length
  ·refine cf_intro mix (fn:=Tryz.f61) (by kernel_rfl) rfl (by kernel_rfl) (by decide) (by simp) ?_
   rw [show evalV (.mk o c n t g ks) row=nulV from by simp [evalV,hcn]]
   by_cases ho1:o<1
   ·simp [Ex.a,Ex.c,kidsC_map,ho1,nulV,V.a]
    (repeat' (first|contradiction|exact .ok|apply And.intro|intro _|(refine gc (fun h=>?_) (fun h=>?_)<;>(have i:=h;(try simp at i);first|done|simp[h,i,ho1]|simp[ho1]))))
   by_cases ho2:28<o
   ·simp [Ex.a,Ex.c,kidsC_map,ho1,ho2,nulV,V.a]
    (repeat' (first|contradiction|exact .ok|apply And.intro|intro _|(refine gc (fun h=>?_) (fun h=>?_)<;>(have i:=h;(try simp at i);first|done|simp[h,i,ho1,ho2]|simp[ho1,ho2]))))
   have hio:isOp o=true:=by unfold isOp; simp; omega
   have hkc:=kids_cntd o ks.length hio
   simp [Ex.a,Ex.c,kidsC_map]
   (repeat' (first|contradiction|exact .ok|apply And.intro|intro _|(refine gc (fun h=>?_) (fun h=>?_)<;>(have i:=h;(try simp at i);first|done|simp[h,i,ho1,ho2]|simp[ho1,ho2]))))
   refine acallT_plain (r_kids o ks.length) (by simp) ?_
   rw [hkc,hcn]
   simp [nulV,V.a]
   all_goals exact gz
  ·exact reval_true row hrow o c n g t ks hk hrec hcn
theorem reval_cf (row:List V) (hrow:row.length≤9223372036854775807):∀ (m:Nat) (e:Ex),SizeOf.sizeOf e<m→∀ q:Nat,e.few q=true→Cf En 61 [e.a,.d (.sl (row.map V.c))] [] (evalV e row).a []
 | 0,_,h,_,_=>absurd h (by omega)
 | m+1,.mk o c n t g ks,hm,q,hq=>by
   obtain ⟨hk,ht,hfew⟩:=few_kids hq
   exact reval_step row hrow o c n g t ks hk fun e he =>
    reval_cf row hrow m e (by have:=Ex.kid_lt (e:=.mk o c n t g ks) (k:=e) he; omega) (q+1) (hfew e he)
end Go.Proofs.Tryz
