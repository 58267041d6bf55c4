import Derived.Test.YtklnfckiabhceaaGreatDoorApp
import Derived.Test.YtklnfckiabhceaaGreatDoorClcR
import Derived.Test.YtklnfckiabhceaaGreatDoorEvl
import Derived.Test.YtklnfckiabhceaaGreatDoorKEnvR
import Derived.Test.YtklnfckiabhceaaGreatDoorKTxt
set_option linter.all false
namespace Go.Proofs.Tryz
open Go.Ab
set_option maxRecDepth 100000
set_option maxHeartbeats 4000000
def at2 (l:List V):V:=(l[2]?).getD nulV
mutual
def evalV:Ex→List V→V
 | .mk o _ n t g ks,row=>if cntd o ks.length=true then
   if o=2 then ⟨1,n,[]⟩ else if o=3 then ⟨2,n,[]⟩ else if o=4 then ⟨3,0,t⟩
   else if o=5 then (if 0≤g∧g<row.length then (row[g.toNat]?).getD nulV else nulV)
   else if o=26 then (if (at0 (evalAll ks row)).tr=1 then at1 (evalAll ks row) else at2 (evalAll ks row))
   else applyV o (evalAll ks row)
   else nulV
def evalAll:List Ex→List V→List V
 | [],_=>[]
 | e::es,row=>evalV e row::evalAll es row
end
theorem evalAll_map:∀ (l:List Ex) (row:List V),evalAll l row=l.map fun e=>evalV e row
 | [],_=>rfl
 | e::es,row=>by rw [evalAll,evalAll_map es row]; rfl
theorem few_kids {o c n:Int} {t:List UInt8} {g:Int} {ks:List Ex} {q:Nat} (hq:(Ex.mk o c n t g ks).few q=true):ks.length≤12∧t.length≤200∧∀ e∈ks,e.few (q+1)=true:=by
 rw [Ex.few] at hq
 by_cases h1:60<q
 ·simp [h1] at hq
 by_cases h2:12<ks.length
 ·simp [h1,h2] at hq
 by_cases h3:200<t.length
 ·simp [h1,h2,h3] at hq
 ·simp [h1,h2,h3] at hq
  rw [fewAll_all,List.all_eq_true] at hq
  exact ⟨by omega,by omega,hq⟩
theorem case_len {n:Nat} (h:cntd 26 n=true):n=3:=by simp [cntd,isOp,opOf,ops] at h; omega
def evF (o c n g:Int) (t:List UInt8) (ks:List Ex) (row:List V):Nat→St
 | 0=>{ s:=mkS [(1,.d (.sl (row.map V.c))),(2,.ptr 2 0 0),(4,.ptr 4 0 0),(8,.nils),(78,.d (.sl (ks.map Ex.c))),(79,.d (.int .i64 ks.length)),(80,.d (.int .i64 0))],b:=mkB [(2,2,.var [.d (.int .i64 o),.d (.int .i64 c),.d (.int .i64 n),.d (.str t),.d (.int .i64 g),.d (.sl (ks.map Ex.c))]),(4,4,.var [.d (.int .i64 0),.d (.int .i64 0),.d (.str [])])] }
 | i+1=>{ s:=mkS [(1,.d (.sl (row.map V.c))),(2,.ptr 2 0 0),(4,.ptr 4 0 0),(8,.ref 900 0 (i+1) 3),(78,.d (.sl (ks.map Ex.c))),(79,.d (.int .i64 ks.length)),(80,.d (.int .i64 (i+1:Nat)))],b:=mkB [(2,2,.var [.d (.int .i64 o),.d (.int .i64 c),.d (.int .i64 n),.d (.str t),.d (.int .i64 g),.d (.sl (ks.map Ex.c))]),(4,4,.var [.d (.int .i64 0),.d (.int .i64 0),.d (.str [])]),(900,900,.arr 79 3 ((ks.take (i+1)).map fun e=>(evalV e row).c) false)] }
theorem eval_step (row:List V) (hrow:row.length≤9223372036854775807) (o c n g:Int) (t:List UInt8) (ks:List Ex) (hk:ks.length≤12)
  (hrec:∀ e∈ks,Cf Eo 48 [e.a,.d (.sl (row.map V.c))] [] (evalV e row).a []) :
  Cf Eo 48 [(Ex.mk o c n t g ks).a,.d (.sl (row.map V.c))] [] (evalV (.mk o c n t g ks) row).a []:=by
  have hkn:=e_known o c n t g ks
  refine cf_intro mixo (fn:=Tryz.f48) (by kernel_rfl) rfl (by kernel_rfl) (by decide) (by simp) ?_
  rw [Ex.a] at hkn
  simp [Ex.a,Ex.c,kidsC_map] at hkn ⊢
  (repeat' (first|contradiction|exact .ok|apply And.intro|intro _|(refine gc (fun h=>?_) (fun h=>?_)<;>(have i:=h;(try simp at i);first|done|simp[h,i]|simp))))
  refine acallT_plain hkn (by simp) ?_
  cases hcn:cntd o ks.length
  ·rw [show evalV (.mk o c n t g ks) row=nulV from by simp [evalV,hcn]]
   simp [opA,nulV,V.a]
   all_goals exact gz
  by_cases h2:o=2
  ·rw [show evalV (.mk o c n t g ks) row=⟨1,n,[]⟩ from by rw [h2] at hcn; simp [evalV,hcn,h2]]
   simp [opA,V.a,h2]
   all_goals exact gz
  by_cases h3:o=3
  ·rw [show evalV (.mk o c n t g ks) row=⟨2,n,[]⟩ from by rw [h3] at hcn; simp [evalV,hcn,h3]]
   simp [opA,V.a,h3]
   all_goals exact gz
  by_cases h4:o=4
  ·rw [show evalV (.mk o c n t g ks) row=⟨3,0,t⟩ from by rw [h4] at hcn; simp [evalV,hcn,h4]]
   simp [opA,V.a,h4]
   all_goals exact gz
  by_cases h5:o=5
  ·by_cases hg:0≤g∧g<row.length
   ·have hgr:row[g.toNat]?=some row[g.toNat]:=List.getElem?_eq_getElem (by omega)
    rw [show evalV (.mk o c n t g ks) row=row[g.toNat] from by rw [h5] at hcn; simp [evalV,hcn,h5,hg,hgr]]
    simp [opA,V.a,h5,hg.1,hg.2,hgr,V.c]
    (repeat' (first|contradiction|exact .ok|apply And.intro|intro _|(refine gc (fun h=>?_) (fun h=>?_)<;>(have i:=h;(try simp at i);first|done|simp[h,i,hg.1,hg.2,hgr]|simp[hg.1,hg.2,hgr]))))
   ·rw [show evalV (.mk o c n t g ks) row=nulV from by rw [h5] at hcn; simp [evalV,hcn,h5,hg]]
    simp [opA,V.a,h5,nulV]
    (repeat' (first|contradiction|exact .ok|apply And.intro|intro _|(refine gc (fun h=>?_) (fun h=>?_)<;>(have i:=h;(try simp at i);first|done|simp[h,i]|simp))))
    all_goals (exfalso; omega)
  by_cases h26:o=26
  ·subst h26
   have h3k:=case_len hcn
   obtain ⟨a,b,d,rfl⟩:∃ a b d,ks=[a,b,d]:=by
    match ks,h3k with
    | [a,b,d],_=>exact ⟨a,b,d,rfl⟩
   have ca:=hrec a (by simp)
   have cb:=hrec b (by simp)
   have cd:=hrec d (by simp)
   have he:evalV (.mk 26 c n t g [a,b,d]) row=if (evalV a row).tr=1 then evalV b row else evalV d row:=by
    rw [evalV,if_pos hcn]
    simp [evalAll,at0,at1,at2]
   rw [he]
   simp [opA,Ex.clen,Ex.ctake]
   (repeat' (first|contradiction|exact .ok|apply And.intro|intro _|(refine gc (fun h=>?_) (fun h=>?_)<;>(have i:=h;(try simp at i);first|done|simp[h,i]|simp))))
   refine acallT_plain ca (by simp [Ex.a]) ?_
   simp [V.a]
   refine acallT_plain (up (v_truth (evalV a row))) (by simp [V.a]) ?_
   by_cases h1:(evalV a row).tr=1
   ·simp [h1,Ex.clen,Ex.ctake]
    (repeat' (first|contradiction|exact .ok|apply And.intro|intro _|(refine gc (fun h=>?_) (fun h=>?_)<;>(have i:=h;(try simp at i);first|done|simp[h,i]|simp))))
    refine acallT_plain cb (by simp [Ex.a]) ?_
    simp [V.a]
    (repeat' (first|contradiction|exact .ok|apply And.intro|intro _|(refine gc (fun h=>?_) (fun h=>?_)<;>(have i:=h;(try simp at i);first|done|simp[h,i]|simp))))
    all_goals simp [h1]
   ·simp [h1,Ex.clen,Ex.ctake]
    (repeat' (first|contradiction|exact .ok|apply And.intro|intro _|(refine gc (fun h=>?_) (fun h=>?_)<;>(have i:=h;(try simp at i);first|done|simp[h,i]|simp))))
    refine acallT_plain cd (by simp [Ex.a]) ?_
    simp [V.a]
    (repeat' (first|contradiction|exact .ok|apply And.intro|intro _|(refine gc (fun h=>?_) (fun h=>?_)<;>(have i:=h;(try simp at i);first|done|simp[h,i]|simp))))
    all_goals simp [h1]
  have he:evalV (.mk o c n t g ks) row=applyV o (evalAll ks row):=by
   rw [evalV,if_pos hcn,if_neg h2,if_neg h3,if_neg h4,if_neg h5,if_neg h26]
  rw [he]
  have hap:=up (apply_all o (evalAll ks row) (by rw [evalAll_map,List.length_map]; exact hcn) (by rw [evalAll_map,List.length_map]; omega) h2 h3 h4 h5 h26)
  simp [opA,h2,h3,h4,h5,h26]
  (repeat' (first|contradiction|exact .ok|apply And.intro|intro _|(refine gc (fun h=>?_) (fun h=>?_)<;>(have i:=h;(try simp at i);first|done|simp[h,i]|simp))))
  refine aloopT mixo (by decide) (evF o c n g t ks row) (fun i:Nat=>i≤ks.length) (fun i=>ks.length - i) 0 (by simp) (sub_mk [(1,_),(2,_),(4,_),(8,_),(78,_),(79,_),(80,_)] [(2,2,_),(4,4,_)] ⟨by simp,by simp,by simp [renOf,Blk.live],by simp⟩ (by simp [renOf])) ?_
  intro i hi
  by_cases hlt:i<ks.length
  ·have hgi:ks[i]?=some ks[i]:=List.getElem?_eq_getElem hlt
   have c1:=Ex.clen ks[i]
   have k1:=Ex.ctake ks[i]
   have hr:=hrec ks[i] (List.getElem_mem hlt)
   have htk:List.take (i+1) (List.map (fun e=>(evalV e row).c) ks)=List.take i (List.map (fun e=>(evalV e row).c) ks)++[(evalV ks[i] row).c]:=by
    rw [List.take_add_one,List.getElem?_map,hgi]; rfl
   simp only [V.c] at htk
   cases i with
   | zero =>
     have hlt2:(0:Int)<ks.length:=by omega
     simp [evF,hlt,hlt2,hgi,c1,k1]
     (repeat' (first|contradiction|exact .ok|apply And.intro|intro _|(refine gc (fun h=>?_) (fun h=>?_)<;>(have i:=h;(try simp at i);first|done|simp[h,i]|simp))))
     refine acallT_plain hr (by simp [Ex.a]) ?_
     simp [V.a]
     (repeat' (first|contradiction|exact .ok|apply And.intro|intro _|(refine gc (fun h=>?_) (fun h=>?_)<;>(have i:=h;(try simp at i);first|done|simp[h,i]|simp))))
     refine ⟨1,hlt,?_,?_⟩
     ·refine sub_mk [(1,_),(2,_),(4,_),(8,_),(78,_),(79,_),(80,_)] [(2,2,_),(4,4,_),(900,89,_)] ⟨by simp,by simp,?_,by simp⟩ ?_
      ·simp only [Nat.zero_add,List.take_zero,List.nil_append] at htk
       simp [renOf,Blk.live,htk,V.c]
      ·simp [renOf]
       exact wrap_in (by omega) (by omega)
     ·simp; omega
   | succ i =>
     have hlt2:((i+1:Nat):Int)<ks.length:=by omega
     have hlt3:(i:Int)+1<ks.length:=by omega
     have hp:(0:Int)≤(i:Int)+1:=by omega
     have hmin:min (i+1) ks.length=i+1:=by omega
     have s1:(i+1+1)*32≤140737488355328:=by omega
     have s2:i≤9223372036854775805:=by omega
     simp [evF,hlt,hlt2,hlt3,hp,hgi,c1,k1]
     (repeat' (first|contradiction|exact .ok|apply And.intro|intro _|(refine gc (fun h=>?_) (fun h=>?_)<;>(have i:=h;(try simp at i);first|done|simp[h,i]|simp))))
     refine acallT_plain hr (by simp [Ex.a]) ?_
     simp [V.a,hmin,s1,s2]
     (repeat' (first|contradiction|exact .ok|apply And.intro|intro _|(refine gc (fun h=>?_) (fun h=>?_)<;>(have i:=h;(try simp at i);first|done|simp[h,i]|simp))))
     refine ⟨i+2,by omega,?_,?_⟩
     ·refine sub_mk [(1,_),(2,_),(4,_),(8,_),(78,_),(79,_),(80,_)] [(2,2,_),(4,4,_),(900,89,_)] ⟨by simp,by simp,?_,by simp⟩ ?_
      ·simp [renOf,Blk.live,htk,V.c]
      ·simp [renOf]
       rw [wrap_in (by omega) (by omega)]
     ·simp; omega
  ·have hie:i=ks.length:=by omega
   subst hie
   cases hkl:ks.length with
   | zero =>
     have:ks=[]:=List.eq_nil_of_length_eq_zero hkl
     subst this
     simp [evF]
     (repeat' (first|contradiction|exact .ok|apply And.intro|intro _|(refine gc (fun h=>?_) (fun h=>?_)<;>(have i:=h;(try simp at i);first|done|simp[h,i]|simp))))
     refine acallT_plain hap (by simp [evalAll]) ?_
     simp [V.a]
     all_goals exact gz
   | succ i =>
     simp [evF,hkl]
     (repeat' (first|contradiction|exact .ok|apply And.intro|intro _|(refine gc (fun h=>?_) (fun h=>?_)<;>(have i:=h;(try simp at i);first|done|simp[h,i]|simp))))
     have htk:List.take (i+1) (List.map (fun e=>(evalV e row).c) ks)=List.map (fun e=>(evalV e row).c) ks:=List.take_of_length_le (by simp [hkl])
     have hle:i+1≤ks.length:=by omega
     refine acallT_plain hap (by simp [evalAll_map,Function.comp_def,htk,hle]) ?_
     simp [V.a,htk,hle]
     all_goals exact gz
theorem eval_cf (row:List V) (hrow:row.length≤9223372036854775807):∀ (m:Nat) (e:Ex),SizeOf.sizeOf e<m→∀ q:Nat,e.few q=true→Cf Eo 48 [e.a,.d (.sl (row.map V.c))] [] (evalV e row).a []
 | 0,_,h,_,_=>absurd h (by omega)
 | m+1,.mk o c n t g ks,hm,q,hq=>by
   obtain ⟨hk,ht,hfew⟩:=few_kids hq
   exact eval_step row hrow o c n g t ks hk fun e he =>
    eval_cf row hrow m e (by have:=Ex.kid_lt (e:=.mk o c n t g ks) (k:=e) he; omega) (q+1) (hfew e he)
end Go.Proofs.Tryz
namespace Go.Proofs.Tryz
open Go.Ab
set_option maxRecDepth 100000
set_option maxHeartbeats 64000000
def kidsOk (op:Int) (n:Nat):Bool :=
 if op≤5 then n==0 else if op=11∨op=13∨op=21∨op=24∨op=25 then n==1 else if op=26 then n==3 else if op=28 then decide (2≤n) else n==2
theorem r_kids (op:Int) (n:Nat):Cf En 105 [.d (.int .i64 op),.d (.int .i64 n)] [] (.d (.bool (kidsOk op n))) []:=by
 refine cf_intro mix (fn:=Tryz.f105) (by kernel_rfl) rfl (by kernel_rfl) (by decide) (by simp) ?_
 unfold kidsOk
 by_cases h5:op≤5
 ·simp [h5]
  (repeat' (first|contradiction|exact .ok|apply And.intro|intro _|(refine gc (fun h=>?_) (fun h=>?_)<;>(have i:=h;(try simp at i);first|done|simp[h,i,h5]|simp[h5]))))
  all_goals try (rw [Bool.eq_iff_iff]; simp; done)
  all_goals try (rw [Bool.eq_iff_iff]; simp; omega)
  all_goals try omega
 by_cases h11:op=11
 ·subst h11; simp
  (repeat' (first|contradiction|exact .ok|apply And.intro|intro _|(refine gc (fun h=>?_) (fun h=>?_)<;>(have i:=h;(try simp at i);first|done|simp[h,i]|simp))))
  all_goals try (rw [Bool.eq_iff_iff]; simp; done)
  all_goals try (rw [Bool.eq_iff_iff]; simp; omega)
  all_goals try omega
 by_cases h13:op=13
 ·subst h13; simp
  (repeat' (first|contradiction|exact .ok|apply And.intro|intro _|(refine gc (fun h=>?_) (fun h=>?_)<;>(have i:=h;(try simp at i);first|done|simp[h,i]|simp))))
  all_goals try (rw [Bool.eq_iff_iff]; simp; done)
  all_goals try (rw [Bool.eq_iff_iff]; simp; omega)
  all_goals try omega
 by_cases h21:op=21
 ·subst h21; simp
  (repeat' (first|contradiction|exact .ok|apply And.intro|intro _|(refine gc (fun h=>?_) (fun h=>?_)<;>(have i:=h;(try simp at i);first|done|simp[h,i]|simp))))
  all_goals try (rw [Bool.eq_iff_iff]; simp; done)
  all_goals try (rw [Bool.eq_iff_iff]; simp; omega)
  all_goals try omega
 by_cases h24:op=24
 ·subst h24; simp
  (repeat' (first|contradiction|exact .ok|apply And.intro|intro _|(refine gc (fun h=>?_) (fun h=>?_)<;>(have i:=h;(try simp at i);first|done|simp[h,i]|simp))))
  all_goals try (rw [Bool.eq_iff_iff]; simp; done)
  all_goals try (rw [Bool.eq_iff_iff]; simp; omega)
  all_goals try omega
 by_cases h25:op=25
 ·subst h25; simp
  (repeat' (first|contradiction|exact .ok|apply And.intro|intro _|(refine gc (fun h=>?_) (fun h=>?_)<;>(have i:=h;(try simp at i);first|done|simp[h,i]|simp))))
  all_goals try (rw [Bool.eq_iff_iff]; simp; done)
  all_goals try (rw [Bool.eq_iff_iff]; simp; omega)
  all_goals try omega
 by_cases h26:op=26
 ·subst h26; simp
  (repeat' (first|contradiction|exact .ok|apply And.intro|intro _|(refine gc (fun h=>?_) (fun h=>?_)<;>(have i:=h;(try simp at i);first|done|simp[h,i]|simp))))
  all_goals try (rw [Bool.eq_iff_iff]; simp; done)
  all_goals try (rw [Bool.eq_iff_iff]; simp; omega)
  all_goals try omega
 by_cases h28:op=28
 ·subst h28; simp
  (repeat' (first|contradiction|exact .ok|apply And.intro|intro _|(refine gc (fun h=>?_) (fun h=>?_)<;>(have i:=h;(try simp at i);first|done|simp[h,i]|simp))))
  all_goals try (rw [Bool.eq_iff_iff]; simp; done)
  all_goals try (rw [Bool.eq_iff_iff]; simp; omega)
  all_goals try omega
 simp [h5,h11,h13,h21,h24,h25,h26,h28]
 (repeat' (first|contradiction|exact .ok|apply And.intro|intro _|(refine gc (fun h=>?_) (fun h=>?_)<;>(have i:=h;(try simp at i);first|done|simp[h,i,h5,h11,h13,h21,h24,h25,h26,h28]|simp[h5,h11,h13,h21,h24,h25,h26,h28]))))
 all_goals try (rw [Bool.eq_iff_iff]; simp; done)
 all_goals try (rw [Bool.eq_iff_iff]; simp; omega)
 all_goals try omega
theorem kids_cntd (op:Int) (n:Nat) (h:isOp op=true):kidsOk op n=cntd op n:=by
 have h2:1≤op∧op≤28:=by simpa [isOp] using h
 have h3:op=1∨op=2∨op=3∨op=4∨op=5∨op=6∨op=7∨op=8∨op=9∨op=10∨op=11∨op=12∨op=13∨op=14∨op=15∨op=16∨op=17∨op=18∨op=19∨op=20∨op=21∨op=22∨op=23∨op=24∨op=25∨op=26∨op=27∨op=28:=by omega
 clear h h2
 rcases h3 with rfl | rfl | rfl | rfl | rfl | rfl | rfl | rfl | rfl | rfl | rfl | rfl | rfl | rfl | rfl | rfl | rfl | rfl | rfl | rfl | rfl | rfl | rfl | rfl | rfl | rfl | rfl | rfl <;> (rw [Bool.eq_iff_iff]; simp [kidsOk,cntd,isOp,opOf,ops]; try omega)
theorem orF (x y:V):orV ⟨2,0,[]⟩ (eqV x y)=eqV x y:=by
 unfold eqV
 split
 ·simp [orV,V.tr,nulV]
 ·cases x.same y <;> simp [orV,V.tr,ofV]
def inF (o:V) (x:V) (ys:List V):V:=ys.foldl (fun o y=>orV o (eqV x y)) o
theorem inV_cons (x y:V) (ys:List V):inV x (y::ys)=inF (eqV x y) x ys:=by
 unfold inV inF
 rw [List.foldl_cons,orF]
theorem inF_take (o x:V) (ys:List V) (i:Nat) (y:V) (h:ys[i]?=some y):inF o x (ys.take (i+1))=orV (inF o x (ys.take i)) (eqV x y):=by
 unfold inF
 rw [List.take_add_one,h]
 simp
def rvF (o c n g:Int) (t:List UInt8) (ks:List Ex) (row:List V):Nat→St
 | 0=>{ s:=mkS [(1,.d (.sl (row.map V.c))),(2,.ptr 2 0 0),(4,.ptr 4 0 0),(5,.nils),(6,.d (.int .i64 0))],b:=mkB [(2,2,.var [.d (.int .i64 o),.d (.int .i64 c),.d (.int .i64 n),.d (.str t),.d (.int .i64 g),.d (.sl (ks.map Ex.c))]),(4,4,.var [.d (.int .i64 0),.d (.int .i64 0),.d (.str [])])] }
 | i+1=>{ s:=mkS [(1,.d (.sl (row.map V.c))),(2,.ptr 2 0 0),(4,.ptr 4 0 0),(5,.ref 900 0 (i+1) 3),(6,.d (.int .i64 (i+1:Nat)))],b:=mkB [(2,2,.var [.d (.int .i64 o),.d (.int .i64 c),.d (.int .i64 n),.d (.str t),.d (.int .i64 g),.d (.sl (ks.map Ex.c))]),(4,4,.var [.d (.int .i64 0),.d (.int .i64 0),.d (.str [])]),(900,900,.arr 79 3 ((ks.take (i+1)).map fun e=>(evalV e row).c) false)] }
end Go.Proofs.Tryz
namespace Go.Proofs.Tryz
open Go.Ab
set_option maxRecDepth 100000
set_option maxHeartbeats 2000000
def eachG {α β:Type} (f:α→β×Int):List α→List β×Int
 | []=>([],0)
 | x::xs=>if (f x).2=0 then (if (eachG f xs).2=0 then ((f x).1::(eachG f xs).1,0) else ([],(eachG f xs).2)) else ([],(f x).2)
theorem eachG_ok {α β:Type} {f:α→β×Int}:∀ {l:List α},(∀ x∈l,(f x).2=0)→eachG f l=(l.map fun x=>(f x).1,0)
 | [],_=>rfl
 | x::xs,h=>by
   rw [eachG,if_pos (h x List.mem_cons_self),eachG_ok fun y hy=>h y (List.mem_cons_of_mem _ hy),if_pos rfl]; rfl
theorem eachG_bad {α β:Type} {f:α→β×Int}:∀ {l:List α} {i:Nat} {x:α},(∀ j y,j<i→l[j]?=some y→(f y).2=0)→l[i]?=some x→(f x).2 ≠ 0→eachG f l=([],(f x).2)
 | [],i,x,_,h,_=>by simp at h
 | y::ys,0,x,_,h,hn=>by
   have:y=x:=by simpa using h
   subst this
   rw [eachG,if_neg hn]
 | y::ys,i+1,x,ho,h,hn=>by
   have h0:=ho 0 y (by omega) rfl
   have h1:=eachG_bad (l:=ys) (i:=i) (x:=x) (fun j z hj hz=>ho (j+1) z (by omega) (by simpa using hz)) (by simpa using h) hn
   rw [eachG,if_pos h0,h1,if_neg hn]
theorem eachG_all {α β:Type} {f:α→β×Int}:∀ (l:List α),(eachG f l).2=0→∀ x∈l,(f x).2=0
 | [],_,x,hx=>by cases hx
 | y::ys,h,x,hx=>by
   rw [eachG] at h
   split at h
   ·rename_i h1
    split at h
    ·rename_i h2
     rcases List.mem_cons.1 hx with rfl | hx
     ·exact h1
     ·exact eachG_all ys h2 x hx
    ·exact absurd h (by assumption)
   ·exact absurd h (by assumption)
theorem op_cases {o:Int} (h1:6≤o) (h2:o≤28):o=6∨o=7∨o=8∨o=9∨o=10∨o=11∨o=12∨o=13∨o=14∨o=15∨o=16∨o=17∨o=18∨o=19∨o=20∨o=21∨o=22∨o=23∨o=24∨o=25∨o=26∨o=27∨o=28:=by omega
def fitOk (ty:Int) (l:List Int):Bool :=
 if ty=1 then l.all (·==1) else if ty=2 then l.all (·==3) else if ty=3 then l.all (·==2)
 else if ty=4 then l.all (·==(l[0]?).getD 0) else if ty=6 then (l[0]?).getD 0==2&&(l[1]?).getD 0==(l[2]?).getD 0 else true
def tyRes (ts:List Int) (o c g:Int) (kts:List Int):Int :=
 if o=5 then (ts[g.toNat]?).getD 0 else if o=1 then c else if (opOf o).2.2.2=0 then (kts[kts.length - 1]?).getD 0 else (opOf o).2.2.2
def nodeTy (ts:List Int) (o c g:Int) (kts:List Int):Int×Int :=
 if o=5 then (if 1≤(ts[g.toNat]?).getD 0∧(ts[g.toNat]?).getD 0≤3 then ((ts[g.toNat]?).getD 0,0) else (0,4))
 else if fitOk (opOf o).2.2.1 kts=true then (tyRes ts o c g kts,0) else (0,4)
def resG (ts:List Int) (o c g:Int) (k:List Int):Int :=
 if o=1 then c else if o=2 then 1 else if o=3 then 2 else if o=4 then 3 else if o=5 then (ts[g.toNat]?).getD 0
 else if o≤11 then (if k.all (·==1)=true then 1 else 0)
 else if o=12 then (if k.all (·==3)=true then 3 else 0)
 else if o=13 then (if k.all (·==3)=true then 1 else 0)
 else if o=21 then 2
 else if o=22∨o=23∨o=24∨o=25 then (if k.all (·==2)=true then 2 else 0)
 else if o=26 then (if (k[0]?).getD 0=2∧(k[1]?).getD 0=(k[2]?).getD 0 then (k[1]?).getD 0 else 0)
 else if o=27 then (if (k[0]?).getD 0=(k[1]?).getD 0 then (k[0]?).getD 0 else 0)
 else (if k.all (·==(k[0]?).getD 0)=true then 2 else 0)
theorem cnt_of {o:Int} {k:Nat} (h:cntd o k=true) (h1:6≤o):if o=11∨o=13∨o=21∨o=24∨o=25 then k=1 else if o=26 then k=3 else if o=28 then 2≤k else k=2:=by
 have h2:o≤28:=by
  unfold cntd isOp at h
  simp only [Bool.and_eq_true,decide_eq_true_eq] at h
  omega
 rcases op_cases h1 h2 with rfl | rfl | rfl | rfl | rfl | rfl | rfl | rfl | rfl | rfl | rfl | rfl | rfl | rfl | rfl | rfl | rfl | rfl | rfl | rfl | rfl | rfl | rfl <;> simp [cntd,isOp,opOf,ops] at h <;> simp <;> omega
theorem res_node (ts:List Int) (o c g:Int) (k:List Int) (h1:6≤o) (h2:o≤28) (hc:cntd o k.length=true) (hk:∀ x∈k,1≤x∧x≤3) :
  nodeTy ts o c g k=if resG ts o c g k<1∨3<resG ts o c g k then (0,4) else (resG ts o c g k,0):=by
 have hcn:=cnt_of hc h1
 rcases op_cases h1 h2 with rfl | rfl | rfl | rfl | rfl | rfl | rfl | rfl | rfl | rfl | rfl | rfl | rfl | rfl | rfl | rfl | rfl | rfl | rfl | rfl | rfl | rfl | rfl
 case inr.inr.inr.inr.inr.inr.inr.inr.inr.inr.inr.inr.inr.inr.inr.inr.inr.inr.inr.inr.inr.inr =>
  simp only [nodeTy,resG,fitOk,tyRes,opOf,ops]
  simp
  split <;> simp_all
 case inr.inr.inr.inr.inr.inr.inr.inr.inr.inr.inr.inr.inr.inr.inr.inr.inr.inr.inr.inr.inl =>
  have h3:k.length=3:=by simpa using hcn
  match k,h3 with
  | [a,b,d],_ =>
    have ha:=hk a (by simp)
    have hb:=hk b (by simp)
    have hd:=hk d (by simp)
    simp [nodeTy,resG,fitOk,tyRes,opOf,ops]
    by_cases e1:a=2 <;> by_cases e2:b=d <;> simp_all
    try omega
 case inr.inr.inr.inr.inr.inr.inr.inr.inr.inr.inr.inr.inr.inr.inr.inr.inr.inr.inr.inr.inr.inl =>
  have h3:k.length=2:=by simpa using hcn
  match k,h3 with
  | [a,b],_ =>
    have ha:=hk a (by simp)
    have hb:=hk b (by simp)
    simp [nodeTy,resG,fitOk,tyRes,opOf,ops]
    by_cases e1:a=b
    ·subst e1
     simp
     omega
    ·simp [e1,Ne.symm e1]
     try exact fun h=>absurd h.symm e1
 all_goals
  simp [nodeTy,resG,fitOk,tyRes,opOf,ops]
  try (split <;> simp_all)
theorem res_leaf (ts:List Int) (o c g:Int) (h1:1≤o) (h2:o≤5) (hc:o=1→1≤c∧c≤3) :
  nodeTy ts o c g []=if resG ts o c g []<1∨3<resG ts o c g [] then (0,4) else (resG ts o c g [],0):=by
 have ho:o=1∨o=2∨o=3∨o=4∨o=5:=by omega
 rcases ho with rfl | rfl | rfl | rfl | rfl
 ·have:=hc rfl
  simp [nodeTy,resG,fitOk,tyRes,opOf,ops]
  omega
 ·simp [nodeTy,resG,fitOk,tyRes,opOf,ops]
 ·simp [nodeTy,resG,fitOk,tyRes,opOf,ops]
 ·simp [nodeTy,resG,fitOk,tyRes,opOf,ops]
 ·simp only [nodeTy,resG]
  simp
  split <;> split <;> first | rfl | omega
theorem node_in (ts:List Int) (o c g:Int) (k:List Int) (h:nodeTy ts o c g k=if resG ts o c g k<1∨3<resG ts o c g k then (0,4) else (resG ts o c g k,0)) (h0:(nodeTy ts o c g k).2=0):1≤(nodeTy ts o c g k).1∧(nodeTy ts o c g k).1≤3:=by
 rw [h] at h0 ⊢
 split at h0
 ·exact absurd h0 (by decide)
 ·rename_i h1
  rw [if_neg h1]
  simp only
  omega
end Go.Proofs.Tryz
namespace Go.Proofs.Tryz
def fidx {α:Type} (p:α→Bool):List α→Nat→Int
 | [],_=>-1
 | x::l,i=>if p x=true then i else fidx p l (i+1)
theorem fidx_drop {α:Type} {p:α→Bool} {l:List α} {i k:Nat} (h:i<l.length):fidx p (l.drop i) k=if p l[i]=true then (k:Int) else fidx p (l.drop (i+1)) (k+1):=by
 rw [List.drop_eq_getElem_cons h,fidx]
end Go.Proofs.Tryz
namespace Go.Proofs.Tryz
open Go.Ab
set_option maxRecDepth 100000
set_option maxHeartbeats 4000000
theorem c_cols:∀ (m:Nat) (e:Ex),SizeOf.sizeOf e<m→∀ q:Nat,e.few q=true→e.nodes≤1048576→Cf En 75 [e.a] [] (.d (nums e.cols)) []
 | 0,_,h,_,_,_=>absurd h (by omega)
 | m+1,.mk o c n t g ks,hm,q,hq,hn=>by
   obtain ⟨hk,ht,hfew⟩:=fewC_kids hq
   rw [Ex.nodes] at hn
   have:=colsAll_len ks
   exact c_cols_step o c n g t ks hk (by omega) fun e he=>by
    have:=nodesAll_get ks e he
    exact c_cols m e (by have:=Ex.kid_lt (e:=.mk o c n t g ks) (k:=e) he; omega) (q+1) (hfew e he) (by omega)
theorem r_cols:∀ (m:Nat) (e:Ex),SizeOf.sizeOf e<m→∀ q:Nat,e.few q=true→e.nodes≤1048576→Cf En 33 [e.a] [] (.d (nums e.rcols)) []
 | 0,_,h,_,_,_=>absurd h (by omega)
 | m+1,.mk o c n t g ks,hm,q,hq,hn=>by
   obtain ⟨hk,ht,hfew⟩:=fewC_kids hq
   rw [Ex.nodes] at hn
   exact r_cols_step o c n g t ks hk (by omega) fun e he=>by
    have:=nodesAll_get ks e he
    exact r_cols m e (by have:=Ex.kid_lt (e:=.mk o c n t g ks) (k:=e) he; omega) (q+1) (hfew e he) (by omega)
end Go.Proofs.Tryz
