import Derived.Test.YthpmjipkofbeiaaGreatDoorTLvl
import Derived.Test.YthpmjipkofbeiaaGreatDoorTUna
import Derived.Test.YthpmjipkofbeiaaGreatDoorTFtt
import Derived.Test.YthpmjipkofbeiaaGreatDoorVfo
import Derived.Test.YthpmjipkofbeiaaGreatDoorTTxt
import Derived.Test.YthpmjipkofbeiaaGreatDoorAbB
import Derived.Test.YthpmjipkofbeiaaGreatDoorTFdx
import Derived.Test.YthpmjipkofbeiaaGreatDoorTSqyRow
import Derived.Deep.DeepHandedRow
import Derived.Deep.DeepWitnessRowRef
set_option linter.all false
namespace Go.Proofs.Tryz
open Go.Ab
set_option maxRecDepth 100000
set_option maxHeartbeats 4000000
theorem sgB_sop:∀ n:Nat,n<24→sgB n=if isSop n=true then some ((sopOf n).1,(sopOf n).2.1.toNat,(sopOf n).2.2.1.toNat,(sopOf n).2.2.2.toNat) else none:=by decide
theorem sop_nat:∀ n:Nat,n<24→0≤(sopOf n).2.1∧0≤(sopOf n).2.2.1∧0≤(sopOf n).2.2.2∧(sopOf n).2.1≤7∧(sopOf n).2.2.1≤7∧(sopOf n).2.2.2≤7:=by decide
theorem isSop_lt {o:Int} (h:isSop o=true):∃ n:Nat,o=n∧n<24:=by
 unfold isSop at h
 simp only [Bool.and_eq_true,decide_eq_true_eq] at h
 exact ⟨o.toNat,by omega,by omega⟩
theorem sgB_none {o:Int} (h:isSop o=false):sgB o=none:=by
 by_cases h1:0≤o∧o<24
 ·obtain ⟨n,rfl⟩:∃ n:Nat,o=n:=⟨o.toNat,by omega⟩
  rw [sgB_sop n (by omega),h]
  rfl
 ·unfold sgB
  repeat' split
  all_goals first | omega | rfl
theorem p_rank (x:Tm):Cf Es 86 [x.a] [] (.d (.int .i64 (rkT x))) []:=by
 refine cf_intro mixs (fn:=Tryz.f86) (by kernel_rfl) rfl (by kernel_rfl) (by decide) (by simp) ?_
 obtain ⟨o,y,n,t,q,ks⟩:=x
 have ho:=s_operatorOf o
 rw [rkT,rkO]
 cases hs:isSop o with
 | true =>
   rw [hs] at ho
   obtain ⟨k,rfl,hk⟩:=isSop_lt hs
   rw [sgB_sop k hk,if_pos hs]
   have hn:=(sop_nat k hk).1
   simp only
   rw [Int.toNat_of_nonneg hn]
   generalize sopOf k=z at *
   simp [Tm.a,Tm.c,tmsC_map]
   (repeat refine ⟨.of (by kernel_rfl),?_⟩)
   refine acallT_plain ho (by simp) ?_
   simp [sopA]
   all_goals exact gz
 | false =>
   rw [hs] at ho
   rw [sgB_none hs]
   simp only
   simp [Tm.a,Tm.c,tmsC_map]
   (repeat refine ⟨.of (by kernel_rfl),?_⟩)
   refine acallT_plain ho (by simp) ?_
   simp [sopA,zsop]
   (repeat' (first|contradiction|exact .ok|apply And.intro|intro _|(refine gc (fun h=>?_) (fun h=>?_)<;>(have h':=h;(try simp at h');first|done|simp[h,h']|simp))))
   all_goals (first | (simp_all; done) | (simp_all; omega) | (simp_all; split <;> omega))
theorem p_place (x:Tm) (want:Nat) (hw:want≤7) (hl:(wr x).length≤1099511627776) (h:Cf Es 23 [x.a] [] (.d (.str (wr x))) []) :
  Cf Es 49 [x.a,.d (.int .i64 want)] [] (.d (.str (plB want (rkT x) (wr x)))) []:=by
 refine cf_intro mixs (fn:=Tryz.f49) (by kernel_rfl) rfl (by kernel_rfl) (by decide) (by simp) ?_
 have hr:=p_rank x
 have c1:=x.clen
 have k1:=x.ctake
 unfold plB
 generalize wr x=W at *
 have l1:1+W.length≤9223372036854775807:=by omega
 have l2:1+W.length+1≤9223372036854775807:=by omega
 have l3:W.length+1≤9223372036854775807:=by omega
 have l4:W.length+1+1≤9223372036854775807:=by omega
 simp [Tm.a,c1,k1]
 (repeat refine ⟨.of (by kernel_rfl),?_⟩)
 refine acallT_plain hr (by simp [Tm.a]) ?_
 by_cases hlt:rkT x<want
 ·have hlt':(rkT x:Int)<want:=by omega
  simp [hlt,hlt',c1,k1]
  (repeat' (first|contradiction|exact .ok|apply And.intro|intro _|(refine gc (fun h=>?_) (fun h=>?_)<;>(have h':=h;(try simp at h');first|done|simp[h,h',hlt,hlt',c1,k1]|simp[hlt,hlt',c1,k1]))))
  refine acallT_plain h (by simp [Tm.a]) ?_
  simp [l1,l2,l3,l4]
  (repeat' (first|contradiction|exact .ok|apply And.intro|intro _|(refine gc (fun h=>?_) (fun h=>?_)<;>(have h':=h;(try simp at h');first|done|simp[h,h',l1,l2,l3,l4]|simp[l1,l2,l3,l4]))))
  all_goals (first | omega | skip)
 ·have hlt':¬ (rkT x:Int)<want:=by omega
  simp [hlt,hlt',c1,k1]
  (repeat' (first|contradiction|exact .ok|apply And.intro|intro _|(refine gc (fun h=>?_) (fun h=>?_)<;>(have h':=h;(try simp at h');first|done|simp[h,h',hlt,hlt',c1,k1]|simp[hlt,hlt',c1,k1]))))
  refine acallT_plain h (by simp [Tm.a]) ?_
  simp
  all_goals exact gz

theorem all_drop {α:Type} {p:α→Bool} {l:List α} {i:Nat} {x:α} (h:l[i]?=some x):(l.drop i).all p=(p x&&(l.drop (i+1)).all p):=by
 obtain ⟨hi,rfl⟩:=List.getElem?_eq_some_iff.1 h
 rw [List.drop_eq_getElem_cons hi,List.all_cons]
theorem all_end {α:Type} {p:α→Bool} {l:List α} {i:Nat} (h:l.length≤i):(l.drop i).all p=true:=by rw [List.drop_eq_nil_of_le h]; rfl
theorem r_rights (l:List Tm) (hl:l.length≤9223372036854775807) (h:∀ x∈l,Cf Es 24 [x.a] [] (.d (.bool x.right)) []) :
  Cf Es 54 [.d (.sl (l.map Tm.c))] [] (.d (.bool (l.all Tm.right))) []:=by
 refine cf_intro mixs (fn:=Tryz.f54) (by kernel_rfl) rfl (by kernel_rfl) (by decide) (by simp) ?_
 generalize hR:l.all Tm.right=R
 simp
 (repeat refine ⟨.of (by kernel_rfl),?_⟩)
 refine aloopT mixs (by decide) (fun i:Nat=>{ s:=mkS [(0,.d (.sl (l.map Tm.c))),(3,.d (.int .i64 i))],b:=mkB [] }) (fun i:Nat=>i≤l.length∧(l.drop i).all Tm.right=R) (fun i=>l.length - i) 0 (by simp [hR]) (sub_mk _ [] .nil (by simp)) ?_
 rintro i ⟨hi,ho⟩
 by_cases hlt:i<l.length
 ·have hlt':(i:Int)<l.length:=by omega
  obtain ⟨x,hg⟩:∃ x,l[i]?=some x:=⟨_,List.getElem?_eq_getElem hlt⟩
  have hgi:∀ h,l[i]'h=x:=fun h=>(List.getElem?_eq_some_iff.1 hg).2
  have hx:=h x (List.mem_of_getElem? hg)
  rw [all_drop hg] at ho
  have c1:=x.clen
  have k1:=x.ctake
  generalize x.right=X at *
  simp [hlt,hlt',hg,hgi,c1,k1]
  (repeat refine ⟨.of (by kernel_rfl),?_⟩)
  refine acallT_plain hx (by simp [Tm.a]) ?_
  simp
  refine ⟨.of (by kernel_rfl),fun h=>⟨.of (by kernel_rfl),?_⟩,fun h=>⟨.of (by kernel_rfl),i+1,⟨hlt,?_⟩,sub_mk _ [] .nil ?_,?_⟩⟩
  ·rw [← ho,h]; rfl
  ·rw [← ho,h]; rfl
  ·simp; exact wrap_in (by omega) (by omega)
  ·simp; omega
 ·have hlt':¬ (i:Int)<l.length:=by omega
  rw [all_end (by omega)] at ho
  simp [hlt,hlt']
  (repeat refine ⟨.of (by kernel_rfl),?_⟩)
  exact ho.symm
theorem r_right:∀ (m:Nat) (x:Tm),SizeOf.sizeOf x<m→x.fits→Cf Es 24 [x.a] [] (.d (.bool x.right)) []
 | 0,_,h,_=>absurd h (by omega)
 | m+1,.mk o y n t q ks,hm,hfit=>by
   refine cf_intro mixs (fn:=Tryz.f24) (by kernel_rfl) rfl (by kernel_rfl) (by decide) (by simp) ?_
   rw [Tm.fits] at hfit
   have h1:=r_plain o y n t q ks ks.length
   have h2:=r_rights ks hfit.1 fun x hx=>r_right m x (by
    have:=Tm.kid_lt (e:=.mk o y n t q ks) (k:=x) hx
    omega) (tmsFits_get ks hfit.2 x hx)
   rw [Tm.right,tmsRight_all]
   generalize hK:ks.all Tm.right=K at *
   generalize hO:okK o y n t q ks.length=O at *
   simp [Tm.a,Tm.c,tmsC_map]
   (repeat refine ⟨.of (by kernel_rfl),?_⟩)
   refine acallT_plain h1 (by simp [Tm.a,Tm.c,tmsC_map]) ?_
   simp [tmsC_map]
   (repeat' (first|contradiction|exact .ok|apply And.intro|intro _|(refine gc (fun h=>?_) (fun h=>?_)<;>(have h':=h;(try simp at h');first|done|simp[h,h',tmsC_map]|simp[tmsC_map]))))
   all_goals first | (refine acallT_plain h2 (by simp) ?_; simp; (repeat' (first | contradiction | exact .of (by kernel_rfl) | refine And.intro ?_ ?_ | intro _ | (refine agrd_cases (fun h=>?_) (fun h=>?_) <;> (have h':=h; (try simp at h'); first | done | simp [h,h'] | simp))))) | skip
   all_goals simp_all
theorem r_validTerm (x:Tm) (hf:x.fits):Cf Es 8 [x.a] [] (.d (.bool (decide (x.dep≤24)&&x.right))) []:=by
 refine cf_intro mixs (fn:=Tryz.f8) (by kernel_rfl) rfl (by kernel_rfl) (by decide) (by simp) ?_
 have h1:=r_right _ x (Nat.lt_succ_self _) hf
 have h2:=ups (r_termDepth _ x (Nat.lt_succ_self _) hf)
 have c1:=x.clen
 have k1:=x.ctake
 simp [Tm.a,c1,k1]
 (repeat refine ⟨.of (by kernel_rfl),?_⟩)
 refine acallT_plain h1 (by simp [Tm.a]) ?_
 simp [c1,k1]
 (repeat' (first|contradiction|exact .ok|apply And.intro|intro _|(refine gc (fun h=>?_) (fun h=>?_)<;>(have h':=h;(try simp at h');first|done|simp[h,h',c1,k1]|simp[c1,k1]))))
 all_goals first | (refine acallT_plain h2 (by simp [Tm.a]) ?_; simp; (repeat' (first | contradiction | exact .of (by kernel_rfl) | refine And.intro ?_ ?_ | intro _ | (refine agrd_cases (fun h=>?_) (fun h=>?_) <;> (have h':=h; (try simp at h'); first | done | simp [h,h'] | simp))))) | skip
 all_goals simp_all
mutual
def Tm.few (d:Int):Tm→Bool
 | .mk _ _ _ t q ks=>decide (d≤40)&&(decide (ks.length≤8)&&(decide (t.length≤100)&&(decide (q.length≤100)&&tmsFew (up1 d) ks)))
def tmsFew (d:Int):List Tm→Bool
 | []=>true
 | e::es=>e.few d&&tmsFew d es
end
theorem tmsFew_all (d:Int):∀ l:List Tm,tmsFew d l=l.all fun e=>e.few d
 | []=>by rw [tmsFew]; rfl
 | e::es=>by rw [tmsFew,tmsFew_all d es]; rfl
def tsFew (l:List Tm):Bool:=decide (l.length≤10)&&tmsFew 0 l
mutual
def Sm.few (d:Int):Sm→Bool
 | .mk _ _ _ _ is ft fq fn js w g h ks=>decide (d≤30)&&(decide (is.length≤10)&&(decide (js.length≤8)&&(decide (ks.length≤6)&&(tsFew w&&(tsFew g&&(tsFew h &&
   ((decide (fq.length≤6)&&(decide (fn.length≤100)&&(decide (ft.length≤100)&&smsFew (up1 d) fq)))&&((is.all fun i=>i.t.few 0)&&(josFew d js&&smsFew (up1 d) ks)))))))))
def Jo.few (d:Int):Jo→Bool
 | .mk _ t q n o=>tsFew o&&(decide (q.length≤6)&&(decide (n.length≤100)&&(decide (t.length≤100)&&smsFew (up1 d) q)))
def smsFew (d:Int):List Sm→Bool
 | []=>true
 | e::es=>e.few d&&smsFew d es
def josFew (d:Int):List Jo→Bool
 | []=>true
 | e::es=>e.few d&&josFew d es
end
theorem l_termFew:∀ (m:Nat) (x:Tm) (d:Int),SizeOf.sizeOf x<m→Cf En 19 [x.a,.d (.int .i64 d)] [] (.d (.bool (x.few d))) []
 | 0,_,_,h=>absurd h (by omega)
 | m+1,.mk o y n t q ks,d,hm=>by
   refine cf_intro mix (fn:=Tryz.f19) (by kernel_rfl) rfl (by kernel_rfl) (by decide) (by simp) ?_
   have hq:=fun (x:Tm) (hx:x∈ks)=>l_termFew m x (up1 d) (by
    have:=Tm.kid_lt (e:=.mk o y n t q ks) (k:=x) hx
    omega)
   rw [Tm.few,tmsFew_all]
   generalize hR:(ks.all fun e=>e.few (up1 d))=R
   by_cases hA:d≤40∧ks.length≤8∧t.length≤100∧q.length≤100
   ·obtain ⟨a1,a2,a3,a4⟩:=hA
    have b1:¬ (40:Int)<d:=by omega
    have b2:¬ (8:Int)<ks.length:=by omega
    have b3:¬ (100:Int)<t.length:=by omega
    have b4:¬ (100:Int)<q.length:=by omega
    rw [show (decide (d≤40)&&(decide (ks.length≤8)&&(decide (t.length≤100)&&(decide (q.length≤100)&&R))))=R by simp [a1,a2,a3,a4]]
    simp [Tm.a,Tm.c,tmsC_map,a1,a2,a3,a4,b1,b2,b3,b4]
    (repeat refine ⟨.of (by kernel_rfl),?_⟩)
    refine aloopT mix (by decide) (fun i:Nat=>{ s:=mkS [(1,.d (.int .i64 d)),(2,.ptr 2 0 0),(5,.d (.int .i64 i))],b:=mkB [(2,2,.var (Tm.a (.mk o y n t q ks)).cells)] }) (fun i:Nat=>i≤ks.length∧((ks.drop i).all fun e=>e.few (up1 d))=R) (fun i=>ks.length - i) 0 (by simp [hR]) (sub_mk _ _ ⟨by simp,by simp,by simp [renOf,Blk.live,Tm.a,Tm.c,tmsC_map],by simp⟩ (by simp [renOf])) ?_
    rintro i ⟨hi,ho⟩
    by_cases hlt:i<ks.length
    ·have hlt':(i:Int)<ks.length:=by omega
     obtain ⟨x,hg⟩:∃ x,ks[i]?=some x:=⟨_,List.getElem?_eq_getElem hlt⟩
     have hgi:∀ h,ks[i]'h=x:=fun h=>(List.getElem?_eq_some_iff.1 hg).2
     rw [all_drop hg] at ho
     have hx:=hq x (List.mem_of_getElem? hg)
     have c1:=x.clen
     have k1:=x.ctake
     generalize x.few (up1 d)=X at *
     have hu:up1 d=IntKind.i64.wrap (d+1):=rfl
     simp [Tm.a,Tm.c,tmsC_map,hlt,hlt',hg,hgi,c1,k1]
     (repeat refine ⟨.of (by kernel_rfl),?_⟩)
     refine acallT_plain hx (by simp [Tm.a,hu]) ?_
     simp
     refine ⟨.of (by kernel_rfl),fun h=>⟨.of (by kernel_rfl),?_⟩,fun h=>⟨.of (by kernel_rfl),i+1,⟨hlt,?_⟩,sub_mk _ [(2,2,_)] ⟨by simp,by simp,by simp [renOf,Blk.live,Tm.a,Tm.c,tmsC_map],by simp⟩ ?_,?_⟩⟩
     ·rw [← ho,h]; rfl
     ·rw [← ho,h]; rfl
     ·simp [renOf]; exact wrap_in (by omega) (by omega)
     ·simp; omega
    ·have hlt':¬ (i:Int)<ks.length:=by omega
     rw [all_end (by omega)] at ho
     simp [Tm.a,Tm.c,tmsC_map,hlt,hlt']
     (repeat refine ⟨.of (by kernel_rfl),?_⟩)
     exact ho.symm
   ·have hF:(decide (d≤40)&&(decide (ks.length≤8)&&(decide (t.length≤100)&&(decide (q.length≤100)&&R))))=false:=by
     cases hx:(decide (d≤40)&&(decide (ks.length≤8)&&(decide (t.length≤100)&&(decide (q.length≤100)&&R)))) with
     | false=>rfl
     | true =>
       simp only [Bool.and_eq_true,decide_eq_true_eq] at hx
       exact absurd ⟨hx.1,hx.2.1,hx.2.2.1,hx.2.2.2.1⟩ hA
    rw [hF]
    clear hF hq hR
    simp [Tm.a,Tm.c,tmsC_map]
    (repeat' (first|contradiction|exact .ok|apply And.intro|intro _|(refine gc (fun h=>?_) (fun h=>?_)<;>(have h':=h;(try simp at h');first|done|simp[h,h',tmsC_map]|simp[tmsC_map]))))
    all_goals (exfalso; apply hA; refine ⟨?_,?_,?_,?_⟩ <;> omega)
theorem up1_nat {d:Nat} (h:d≤100000):up1 (d:Int)=((d+1:Nat):Int):=by unfold up1; rw [wrap_in (by omega) (by omega)]; omega
theorem tm_few {o y n:Int} {t q:List UInt8} {ks:List Tm} {d:Nat} (h:(Tm.mk o y n t q ks).few d=true):d≤40∧ks.length≤8∧t.length≤100∧∀ x∈ks,x.few ((d+1:Nat):Int)=true:=by
 rw [Tm.few] at h
 simp only [Bool.and_eq_true,decide_eq_true_eq] at h
 obtain ⟨hd,hk,ht,_,hl⟩:=h
 have hd':d≤40:=by omega
 rw [tmsFew_all,List.all_eq_true,up1_nat (by omega)] at hl
 exact ⟨hd',hk,ht,hl⟩
def tapB (L:List Int) (i:Int):Blk:=.var [.d (.sl (L.map fun n=>[.int .i64 n])),.d (.int .i64 i)]
def nextV (L:List Int) (i:Nat) (n:Int):Int :=
 if n<1 then 0 else
  let x:=match L[i]? with
   | some z=>z.tmod n
   | none=>0
  if x<0 then x+n else x
def nextI (i:Nat) (n:Int):Nat:=if n<1 then i else i+1
theorem nextV_in (L:List Int) (i:Nat) {n:Int} (h:1≤n):0≤nextV L i n∧nextV L i n<n:=by
 unfold nextV
 rw [if_neg (by omega)]
 cases L[i]? with
 | none=>simp; omega
 | some z =>
   have h1:=Int.natAbs_tmod z n
   have h2:=Nat.mod_lt z.natAbs (show 0<n.natAbs by omega)
   simp only
   split <;> omega
theorem t_next (L:List Int) (i:Nat) (hi:i≤1000000000) (n:Int) (hn:n≤1000000) :
  Cf En 20 [.ptr 1000000 0 0,.d (.int .i64 n)] [tapB L i] (.d (.int .i64 (nextV L i n))) [tapB L (nextI i n)]:=by
 refine cf_intro mix (fn:=Tryz.f20) (by kernel_rfl) rfl (by kernel_rfl) (by decide) (by simp) ?_
 simp [tapB]
 (repeat' (first|contradiction|exact .ok|apply And.intro|intro _|(refine gc (fun h=>?_) (fun h=>?_)<;>(have h':=h;(try simp at h');first|done|simp[h,h']|simp))))
 ·rename_i h
  simp [nextI,h]
 ·rename_i h
  simp [nextV,h]
 ·rename_i h1 h2
  have hg:L[i]?=some L[i]:=List.getElem?_eq_getElem h2
  have hn0:¬ n<1:=by omega
  have hz:¬ n=0:=by omega
  have hw:=wrap_in (n:=(i:Int)+1) (by omega) (by omega)
  have e1:=Int.natAbs_tmod L[i] n
  have e2:=Nat.mod_lt L[i].natAbs (show 0<n.natAbs by omega)
  have hw2:=wrap_in (n:=L[i].tmod n+n) (by omega) (by omega)
  have hV:nextV L i n=if L[i].tmod n<0 then L[i].tmod n+n else L[i].tmod n:=by simp [nextV,hn0,hg]
  have hI:nextI i n=i+1:=by simp [nextI,hn0]
  rw [hV,hI]
  clear hV hI
  by_cases hneg:L[i].tmod n<0
  ·simp [hg,hz,hneg,hw,hw2]
   all_goals exact gz
  ·simp [hg,hz,hneg,hw]
   all_goals exact gz
 ·rename_i h1 h2
  simp [nextI,show ¬ n<1 by omega]
  exact wrap_in (by omega) (by omega)
 ·rename_i h1 h2
  simp [nextV,show ¬ n<1 by omega,List.getElem?_eq_none h2]
def intsL:List Int:=[0,1,2,-1,5,7,-7,100,1000000000000,-1000000000000,999999999999,1000000]
def textsL:List (List UInt8):=[[],[97],[98],[97,98],[48],[32],[97,98,99,100,101,102,103,104,105,106,107,108,109,110,111,112,113,114,115,116,117,118,119,120]]
def valuesOf (k:Int):List V :=
 if k=1 then nulV::intsL.map fun n=>⟨1,n,[]⟩ else if k=2 then [nulV,⟨2,0,[]⟩,⟨2,1,[]⟩] else if k=3 then nulV::textsL.map fun t=>⟨3,0,t⟩ else [nulV]
theorem t_values (k:Int):Cf En 46 [.d (.int .i64 k)] [] (.d (.sl ((valuesOf k).map V.c))) []:=by
 refine cf_intro mix (fn:=Tryz.f46) (by kernel_rfl) rfl (by kernel_rfl) (by decide) (by simp) ?_
 by_cases h1:k=1
 ·subst h1
  simp
  (repeat' (first|contradiction|exact .ok|apply And.intro|intro _|(refine gc (fun h=>?_) (fun h=>?_)<;>(have h':=h;(try simp at h');first|done|simp[h,h']|simp))))
  have hlen:intsL.length=12:=by decide
  refine aloopT mix (by decide) (fun i:Nat=>{ s:=mkS [(3,.ref 900 0 (i+1) 3),(4,.d (.sl (intsL.map fun n=>[.int .i64 n]))),(5,.d (.int .i64 i))],b:=mkB [(900,900,.arr 55 3 ((nulV::(intsL.take i).map fun n=>⟨1,n,[]⟩).map V.c) false)] }) (fun i:Nat=>i≤12) (fun i=>12 - i) 0 (by simp) (sub_mk _ [(900,9,_)] ⟨by simp,by simp,by simp [renOf,Blk.live,nulV,V.c],by simp⟩ (by simp [renOf,intsL])) ?_
  intro i hi
  by_cases hlt:i<12
  ·have hlt':(i:Int)<12:=by omega
   have hg:intsL[i]?=some intsL[i]:=List.getElem?_eq_getElem (by omega)
   have htk:intsL.take (i+1)=intsL.take i++[intsL[i]]:=by rw [List.take_add_one,hg]; rfl
   have hmin:min i 12=i:=by omega
   have s1:(i+1+1)*32≤140737488355328:=by omega
   have s2:i+1+1≤9223372036854775807:=by omega
   have s3:i≤9223372036854775805:=by omega
   simp [hlt,hlt',hlen,hg,hmin,s1,s2,s3]
   (repeat' (first|contradiction|exact .ok|apply And.intro|intro _|(refine gc (fun h=>?_) (fun h=>?_)<;>(have h':=h;(try simp at h');first|done|simp[h,h']|simp))))
   refine ⟨i+1,by omega,?_,?_⟩
   ·refine sub_mk _ [(900,27,_)] ⟨by simp,by simp,?_,by simp⟩ ?_
    ·simp [renOf,Blk.live,htk,V.c,hmin,hlen]
     try rfl
    ·simp [renOf]
     exact wrap_in (by omega) (by omega)
   ·simp; omega
  ·have hlt':¬ (i:Int)<12:=by omega
   have hi12:i=12:=by omega
   subst hi12
   have htk:intsL.take 12=intsL:=List.take_of_length_le (by omega)
   simp [hlen,htk]
   (repeat' (first|contradiction|exact .ok|apply And.intro|intro _|(refine gc (fun h=>?_) (fun h=>?_)<;>(have h':=h;(try simp at h');first|done|simp[h,h']|simp))))
   all_goals (simp [valuesOf,hlen]; rw [← List.map_take,htk])
 by_cases h2:k=2
 ·subst h2
  simp
  (repeat' (first|contradiction|exact .ok|apply And.intro|intro _|(refine gc (fun h=>?_) (fun h=>?_)<;>(have h':=h;(try simp at h');first|done|simp[h,h']|simp))))
  refine acallT_plain (rb_bool 0) (by simp [V.a]) ?_
  simp [V.a,boolV0]
  refine acallT_plain (rb_bool 1) (by simp [V.a]) ?_
  simp [V.a,boolV1]
  (repeat' (first|contradiction|exact .ok|apply And.intro|intro _|(refine gc (fun h=>?_) (fun h=>?_)<;>(have h':=h;(try simp at h');first|done|simp[h,h']|simp))))
  all_goals simp [valuesOf,V.c,nulV]
 by_cases h3:k=3
 ·subst h3
  simp
  (repeat' (first|contradiction|exact .ok|apply And.intro|intro _|(refine gc (fun h=>?_) (fun h=>?_)<;>(have h':=h;(try simp at h');first|done|simp[h,h']|simp))))
  have hlen:textsL.length=7:=by decide
  refine aloopT mix (by decide) (fun i:Nat=>{ s:=mkS [(3,.ref 900 0 (i+1) 3),(6,.d (.sl (textsL.map fun n=>[.str n]))),(7,.d (.int .i64 i))],b:=mkB [(900,900,.arr 55 3 ((nulV::(textsL.take i).map fun n=>⟨3,0,n⟩).map V.c) false)] }) (fun i:Nat=>i≤7) (fun i=>7 - i) 0 (by simp) (sub_mk _ [(900,9,_)] ⟨by simp,by simp,by simp [renOf,Blk.live,nulV,V.c],by simp⟩ (by simp [renOf,textsL])) ?_
  intro i hi
  by_cases hlt:i<7
  ·have hlt':(i:Int)<7:=by omega
   have hg:textsL[i]?=some textsL[i]:=List.getElem?_eq_getElem (by omega)
   have htk:textsL.take (i+1)=textsL.take i++[textsL[i]]:=by rw [List.take_add_one,hg]; rfl
   have hmin:min i 7=i:=by omega
   have s1:(i+1+1)*32≤140737488355328:=by omega
   have s2:i+1+1≤9223372036854775807:=by omega
   have s3:i≤9223372036854775805:=by omega
   simp [hlt,hlt',hlen,hg,hmin,s1,s2,s3]
   (repeat' (first|contradiction|exact .ok|apply And.intro|intro _|(refine gc (fun h=>?_) (fun h=>?_)<;>(have h':=h;(try simp at h');first|done|simp[h,h']|simp))))
   refine ⟨i+1,by omega,?_,?_⟩
   ·refine sub_mk _ [(900,51,_)] ⟨by simp,by simp,?_,by simp⟩ ?_
    ·simp [renOf,Blk.live,htk,V.c,hmin,hlen]
     try rfl
    ·simp [renOf]
     exact wrap_in (by omega) (by omega)
   ·simp; omega
  ·have hlt':¬ (i:Int)<7:=by omega
   have hi12:i=7:=by omega
   subst hi12
   have htk:textsL.take 7=textsL:=List.take_of_length_le (by omega)
   simp [hlen,htk]
   (repeat' (first|contradiction|exact .ok|apply And.intro|intro _|(refine gc (fun h=>?_) (fun h=>?_)<;>(have h':=h;(try simp at h');first|done|simp[h,h']|simp))))
   all_goals (simp [valuesOf,hlen]; rw [← List.map_take,htk])
 simp [h1,h2,h3]
 (repeat' (first|contradiction|exact .ok|apply And.intro|intro _|(refine gc (fun h=>?_) (fun h=>?_)<;>(have h':=h;(try simp at h');first|done|simp[h,h']|simp))))
 all_goals simp [valuesOf,h1,h2,h3,V.c,nulV]
theorem values_len (k:Int):1≤(valuesOf k).length∧(valuesOf k).length≤13:=by
 unfold valuesOf
 repeat' split
 all_goals decide
def nmsT:List (List UInt8):=[[97],[98],[105,100],[99,48],[99,49]]
def qlsT:List (List UInt8):=[[116,48],[120]]
def valW (L:List Int) (i:Nat) (k:Int):V:=((valuesOf k)[(1+nextV L i ((valuesOf k).length - 1)).toNat]?).getD nulV
def nmT (z:Int):List UInt8:=(nmsT[z.toNat]?).getD []
def qlT (z:Int):List UInt8:=(qlsT[z.toNat]?).getD []
def leafT (L:List Int) (i:Nat):Tm×Nat :=
 if nextV L i 6=0 then (.mk 1 (1+nextV L (i+1) 3) 0 [] [] [],i+2)
 else if nextV L i 6=1 then (.mk 2 0 (valW L (i+1) 1).n [] [] [],i+2)
 else if nextV L i 6=2 then (.mk 3 0 (nextV L (i+1) 2) [] [] [],i+2)
 else if nextV L i 6=3 then (.mk 4 0 0 (valW L (i+1) 3).t [] [],i+2)
 else if nextV L i 6=4 then (.mk 40 0 0 (nmT (nextV L (i+1) 5)) (qlT (nextV L (i+2) 2)) [],i+3)
 else (.mk 40 0 0 (nmT (nextV L (i+1) 5)) [] [],i+2)
def kidsT (g:Nat→Tm×Nat):Nat→Nat→List Tm×Nat
 | 0,s=>([],s)
 | n+1,s=>((kidsT g n s).1++[(g (kidsT g n s).2).1],(g (kidsT g n s).2).2)
theorem kidsT_len (g:Nat→Tm×Nat):∀ (n s:Nat),(kidsT g n s).1.length=n
 | 0,_=>rfl
 | n+1,s=>by simp [kidsT,kidsT_len g n s]
def ndT (g:Nat→Tm×Nat) (op:Int) (n s:Nat):Tm×Nat:=(.mk op 0 0 [] [] (kidsT g n s).1,(kidsT g n s).2)
def nodeT (L:List Int) (g:Nat→Tm×Nat) (i:Nat):Tm×Nat :=
 if nextV L i 8=0 then
  (if nextV L (i+1) 6=0 then (.mk 41 0 1 [] [] [],i+2) else (.mk 41 0 (1+nextV L (i+1) 6) [] [] [(g (i+2)).1],(g (i+2)).2))
 else if 6+nextV L (i+1) 23=11∨6+nextV L (i+1) 23=13∨6+nextV L (i+1) 23=21∨6+nextV L (i+1) 23=24∨6+nextV L (i+1) 23=25 then ndT g (6+nextV L (i+1) 23) 1 (i+2)
 else if 6+nextV L (i+1) 23=26 then ndT g 26 3 (i+2)
 else if 6+nextV L (i+1) 23=28 then ndT g 28 (2+nextV L (i+2) 3).toNat (i+3)
 else ndT g (6+nextV L (i+1) 23) 2 (i+2)
def termG (L:List Int):Nat→Nat→Tm×Nat
 | 0,i=>leafT L i
 | d+1,i=>if d=0 then leafT L i else if nextV L i 4=0 then leafT L (i+1) else nodeT L (termG L d) (i+1)
def tb:Nat→Nat
 | 0=>3
 | d+1=>10+5*tb d
theorem leafT_le (L:List Int) (i:Nat):(leafT L i).2≤i+3:=by
 unfold leafT
 repeat' split
 all_goals simp
theorem kidsT_le (g:Nat→Tm×Nat) (G:Nat) (hle:∀ j:Nat,j+G≤1000000→(g j).2≤j+G):∀ (n i:Nat),i+n*G≤1000000→(kidsT g n i).2≤i+n*G
 | 0,i,_=>by simp [kidsT]
 | n+1,i,h=>by
   rw [Nat.succ_mul] at h
   have h1:=kidsT_le g G hle n i (by omega)
   have h2:=hle (kidsT g n i).2 (by omega)
   simp only [kidsT]
   rw [Nat.succ_mul]
   omega
theorem nodeT_le (L:List Int) (g:Nat→Tm×Nat) (G:Nat) (hle:∀ j:Nat,j+G≤1000000→(g j).2≤j+G) (i:Nat) (hi:i+3+5*G≤1000000):(nodeT L g i).2≤i+3+5*G:=by
 have k:∀ (op:Int) (n s:Nat),n≤4→s≤i+3→(ndT g op n s).2≤i+3+5*G:=fun op n s hn hs=>by
  have hm:n*G≤4*G:=Nat.mul_le_mul_right _ hn
  have:=kidsT_le g G hle n s (by omega)
  simp only [ndT]; omega
 have h3:=nextV_in L (i+2) (n:=3) (by omega)
 have h1:=hle (i+2) (by omega)
 unfold nodeT
 split
 ·split
  ·simp; omega
  ·simp; omega
 split
 ·exact k _ 1 _ (by omega) (by omega)
 split
 ·exact k _ 3 _ (by omega) (by omega)
 split
 ·exact k _ _ _ (by omega) (by omega)
 ·exact k _ 2 _ (by omega) (by omega)
theorem termG_le (L:List Int):∀ (d i:Nat),i+tb d≤1000000→(termG L d i).2≤i+tb d
 | 0,i,_=>leafT_le L i
 | d+1,i,h=>by
   have hl:=leafT_le L i
   have hl1:=leafT_le L (i+1)
   simp only [tb] at h ⊢
   rw [termG]
   split
   ·omega
   split
   ·omega
   ·have:=nodeT_le L (termG L d) (tb d) (fun j hj=>termG_le L d j hj) (i+1) (by omega)
    omega
theorem valW_mem (L:List Int) (i:Nat) (k:Int) (h:2≤(valuesOf k).length):valW L i k∈valuesOf k:=by
 have hn:=nextV_in L i (n:=(valuesOf k).length - 1) (by omega)
 have hlt:(1+nextV L i ((valuesOf k).length - 1)).toNat<(valuesOf k).length:=by omega
 unfold valW
 rw [List.getElem?_eq_getElem hlt]
 exact List.getElem_mem hlt
theorem few_nil (o y n:Int) (t q:List UInt8) (d:Nat) (hd:d≤40) (ht:t.length≤100) (hq:q.length≤100):(Tm.mk o y n t q []).few d=true:=by
 rw [Tm.few,tmsFew]
 simp; omega
theorem nmT_len (z:Int):(nmT z).length≤100:=by
 have:∀ x∈nmsT,x.length≤100:=by decide
 unfold nmT
 cases h:nmsT[z.toNat]? with
 | none=>simp
 | some x=>exact this x (List.mem_of_getElem? h)
theorem qlT_len (z:Int):(qlT z).length≤100:=by
 have:∀ x∈qlsT,x.length≤100:=by decide
 unfold qlT
 cases h:qlsT[z.toNat]? with
 | none=>simp
 | some x=>exact this x (List.mem_of_getElem? h)
theorem leafT_few (L:List Int) (i d:Nat) (hd:d≤40):(leafT L i).1.few d=true:=by
 have h3:∀ x∈valuesOf 3,x.t.length≤100:=by decide
 have hv:=h3 _ (valW_mem L (i+1) 3 (by decide))
 unfold leafT
 repeat' split
 all_goals exact few_nil _ _ _ _ _ d hd (by first | exact Nat.zero_le _ | exact hv | exact nmT_len _) (by first | exact Nat.zero_le _ | exact qlT_len _)
theorem few_node (o y n:Int) (ks:List Tm) (d:Nat) (hd:d≤40) (hk:ks.length≤8) (h:∀ x∈ks,x.few ((d+1:Nat):Int)=true):(Tm.mk o y n [] [] ks).few d=true:=by
 rw [Tm.few,tmsFew_all,up1_nat (by omega)]
 simp only [Bool.and_eq_true,decide_eq_true_eq,List.all_eq_true]
 exact ⟨by omega,hk,by simp,by simp,h⟩
theorem kidsT_few (g:Nat→Tm×Nat) (p:Tm→Prop) (h:∀ j,p (g j).1):∀ (n s:Nat),∀ x∈(kidsT g n s).1,p x
 | 0,s,x,hx=>by cases hx
 | n+1,s,x,hx=>by
   simp only [kidsT,List.mem_append,List.mem_singleton] at hx
   rcases hx with hx | rfl
   ·exact kidsT_few g p h n s x hx
   ·exact h _
theorem termG_few (L:List Int):∀ (d i q:Nat),q+d≤40→(termG L d i).1.few q=true
 | 0,i,q,h=>leafT_few L i q (by omega)
 | d+1,i,q,h=>by
   have hl:=leafT_few L i q (by omega)
   have hl1:=leafT_few L (i+1) q (by omega)
   have k:∀ (op:Int) (n s:Nat),n≤4→(ndT (termG L d) op n s).1.few q=true:=fun op n s hn=>by
    simp only [ndT]
    exact few_node _ _ _ _ q (by omega) (by rw [kidsT_len]; omega) (kidsT_few _ (fun x=>x.few ((q+1:Nat):Int)=true) (fun j=>termG_few L d j (q+1) (by omega)) n s)
   have h3:=nextV_in L (i+1+2) (n:=3) (by omega)
   rw [termG]
   split
   ·exact hl
   split
   ·exact hl1
   unfold nodeT
   split
   ·split
    ·exact few_nil _ _ _ _ _ q (by omega) (by simp) (by simp)
    ·refine few_node _ _ _ _ q (by omega) (by simp) ?_
     intro x hx
     simp only [List.mem_singleton] at hx
     subst hx
     exact termG_few L d _ (q+1) (by omega)
   split
   ·exact k _ 1 _ (by omega)
   split
   ·exact k _ 3 _ (by omega)
   split
   ·exact k _ _ _ (by omega)
   ·exact k _ 2 _ (by omega)
theorem fits_of_few:∀ (m:Nat) (x:Tm),SizeOf.sizeOf x<m→∀ d:Nat,x.few d=true→x.fits
 | 0,_,h,_,_=>absurd h (by omega)
 | m+1,.mk o y n t q ks,hm,d,h=>by
   obtain ⟨hd,hk,ht,hl⟩:=tm_few h
   rw [Tm.fits]
   refine ⟨by omega,?_⟩
   have:∀ l:List Tm,(∀ x∈l,x.fits)→tmsFits l:=by
    intro l
    induction l with
    | nil=>intro _; rw [tmsFits]; trivial
    | cons e es ih=>intro h; rw [tmsFits]; exact ⟨h e List.mem_cons_self,ih fun x hx=>h x (List.mem_cons_of_mem _ hx)⟩
   exact this ks fun x hx=>fits_of_few m x (by have:=Tm.kid_lt (e:=.mk o y n t q ks) (k:=x) hx; omega) (d+1) (hl x hx)
def wbT:Nat→Nat
 | 0=>300
 | d+1=>300+4*wbT d
theorem leafT_wgt (L:List Int) (i:Nat):(leafT L i).1.wgt≤300:=by
 have h3:∀ x∈valuesOf 3,x.t.length≤100:=by decide
 have hv:=h3 _ (valW_mem L (i+1) 3 (by decide))
 have hn:=nmT_len
 have hq:=qlT_len
 unfold leafT
 repeat' split
 all_goals (simp only [Tm.wgt,tmsWgt,List.length_nil]; try omega)
 ·have:=hn (nextV L (i+1) 5); have:=hq (nextV L (i+2) 2); omega
 ·have:=hn (nextV L (i+1) 5); omega
theorem tmsWgt_app:∀ (a b:List Tm),tmsWgt (a++b)=tmsWgt a+tmsWgt b
 | [],b=>by rw [List.nil_append,tmsWgt]; omega
 | x::a,b=>by rw [List.cons_append,tmsWgt,tmsWgt,tmsWgt_app a b]; omega
theorem kidsT_wgt (g:Nat→Tm×Nat) (K:Nat) (h:∀ j,(g j).1.wgt≤K):∀ (n s:Nat),tmsWgt (kidsT g n s).1≤n*K
 | 0,s=>by simp [kidsT,tmsWgt]
 | n+1,s=>by
   have h1:=kidsT_wgt g K h n s
   have h2:=h (kidsT g n s).2
   rw [kidsT,tmsWgt_app,Nat.succ_mul]
   simp only [tmsWgt]
   omega
theorem termG_wgt (L:List Int):∀ (d i:Nat),(termG L d i).1.wgt≤wbT d
 | 0,i=>leafT_wgt L i
 | d+1,i=>by
   have hl:=leafT_wgt L i
   have hl1:=leafT_wgt L (i+1)
   have k:∀ (op:Int) (n s:Nat),n≤4→(ndT (termG L d) op n s).1.wgt≤wbT (d+1):=fun op n s hn=>by
    have h1:=kidsT_wgt (termG L d) (wbT d) (fun j=>termG_wgt L d j) n s
    have h2:n*wbT d≤4*wbT d:=Nat.mul_le_mul_right _ hn
    simp only [ndT,Tm.wgt,wbT,List.length_nil]
    omega
   have h3:=nextV_in L (i+1+2) (n:=3) (by omega)
   have hw:wbT (d+1)=300+4*wbT d:=rfl
   rw [termG]
   split
   ·omega
   split
   ·omega
   unfold nodeT
   split
   ·split
    ·simp only [Tm.wgt,tmsWgt,List.length_nil]; omega
    ·have:=termG_wgt L d (i+1+2)
     simp only [Tm.wgt,tmsWgt,List.length_nil]; omega
   split
   ·exact k _ 1 _ (by omega)
   split
   ·exact k _ 3 _ (by omega)
   split
   ·exact k _ _ _ (by omega)
   ·exact k _ 2 _ (by omega)
end Go.Proofs.Tryz
namespace Go.Proofs.YthpmjipkofbeiaaGreatDoor
open Go.ChangeShapes Go.WideShapes Go.ChangeAt Go.RowKit Go.Ab Go.Proofs.Tryz
set_option maxRecDepth 100000
theorem RepL_get {μ:Nat→Nat→Option Value}:∀ {vs:List Value} {cs:List D},RepL μ vs cs→∀ (j:Nat) (c:D),cs[j]?=some c→∃ v,vs[j]?=some v∧RepD μ v c
 | [],[],_,j,c,h=>by simp at h
 | v::vs,c0::cs,h,0,c,e=>by
   cases e
   exact ⟨v,rfl,h.1⟩
 | v::vs,c0::cs,h,j+1,c,e=>by simpa using RepL_get h.2 j c (by simpa using e)
theorem RepL_as {μ:Nat→Nat→Option Value} {L:Nat→Option Go.Ab.Loc}:∀ {vs:List Value} {cs:List D},RepL μ vs cs→RepAs ⟨μ,L⟩ vs (cs.map AV.d)
 | [],[],_=>by simp [RepAs]
 | v::vs,c::cs,h=>by
   rw [List.map_cons,RepAs]
   refine ⟨v,vs,rfl,?_,RepL_as h.2⟩
   simp only [RepA]
   exact h.1
theorem sl_repR {w:World} {a:Addr} {len cap sz:Nat} {α:Type} (f:α→List D) (R:Nat→α→Prop) (hl:len≤cap) (hsz:∀ u,(f u).length=sz) (hsz0:0<sz)
  (hi:∀ i,i<len→∃ u:α,R i u∧∀ (j:Nat) (c:D),(f u)[j]?=some c→∃ v,w.cell? (a.add (i*sz+j))=some v∧RepD (memOf w) v c) :
  ∃ l:List α,l.length=len∧(∀ i u,l[i]?=some u→R i u)∧RepD (memOf w) (.slice (some a) len cap) (.sl (l.map f)):=by
 obtain ⟨l,h1,h2⟩:=choose_list hi
 refine ⟨l,h1,fun i u e=>(h2 i u e).1,?_⟩
 simp only [RepD]
 refine ⟨some a,cap,by simp [h1],by simp [h1]; exact hl,?_⟩
 by_cases h0:l=[]
 ·left; simp [h0]
 ·right
  have hpos:0<l.length:=List.length_pos_iff.2 h0
  have hsp:a.spot=none:=by
   have hg:l[0]?=some l[0]:=List.getElem?_eq_getElem hpos
   obtain ⟨v,hv,_⟩:=(h2 0 _ hg).2 0 _ (List.getElem?_eq_getElem (by rw [hsz]; exact hsz0))
   have:=cell_spot hv
   simpa [Addr.add] using this
  obtain ⟨b,o,sp⟩:=a
  simp only at hsp
  subst hsp
  refine ⟨b,o,sz,rfl,RepEls_iff.2 fun i x hx=>?_⟩
  rw [List.getElem?_map] at hx
  cases hg:l[i]? with
  | none=>rw [hg] at hx; cases hx
  | some u =>
    rw [hg] at hx
    simp only [Option.map_some,Option.some.injEq] at hx
    subst hx
    refine ⟨hsz u,RepCells_iff.2 fun j c hc=>?_⟩
    obtain ⟨v,hv,hr⟩:=(h2 i u hg).2 j c hc
    refine ⟨v,?_,hr⟩
    simp only [memOf,Addr.add] at hv ⊢
    rw [Nat.add_assoc]
    split at hv
    ·rename_i e0; rw [e0]; exact hv
    ·exact hv
def sumW {α:Type} (wt:α→Nat):List α→Nat
 | []=>0
 | u::l=>wt u+sumW wt l
theorem sumW_bulk {α H:Type} {wt:α→Nat}:∀ (l:List α) (ds:List (DataW H)),l.length=ds.length→(∀ (i:Nat) (e:α) (d:DataW H),l[i]?=some e→ds[i]?=some d→wt e≤60*Rows.uptoBulk d)→sumW wt l≤60*Rows.uptoBulkAll ds
 | [],_,_,_=>by rw [sumW]; omega
 | e::es,[],h,_=>by cases h
 | e::es,d::ds,h,hb=>by
   have h1:=hb 0 e d rfl rfl
   have h2:=sumW_bulk es ds (by simpa using h) fun i x y hx hy=>hb (i+1) x y (by simpa using hx) (by simpa using hy)
   rw [sumW,Rows.uptoBulkAll]
   omega
theorem slice_readW {α H:Type} {enc:TypeId×Value→H} {W:World} {base:Nat} {spare:Nat→Bool} {held:Bool} (f:α→List D) (Pr:α→Prop) (wt:α→Nat) {sz e t n:Nat} {c:Value} {x:DataW H×List MemPlace}
  (hu:Tryz.prog.underlying t=some (.slice e)) (hcs:Tryz.prog.cellsOf e=sz) (hf:∀ u,(f u).length=sz) (h0:0<sz) (h:DataW.trod enc Tryz.prog W base spare held n t [c]=some x)
  (elem:∀ n2,n2<n→∀ cs y,DataW.trod enc Tryz.prog W base spare held n2 e cs=some y→cs.length=sz→∃ u,Pr u∧wt u≤60*Rows.uptoBulk y.1∧RepL (memOf W) cs (f u)) :
  ∃ l:List α,l.length≤9223372036854775807∧(∀ u∈l,Pr u)∧sumW wt l+60≤60*Rows.uptoBulk x.1∧RepD (memOf W) c (.sl (l.map f)):=by
 rcases DataW.trod_slice (e:=e) hu h with ⟨hc,hx⟩ | ⟨a,len,cap,elems,rest,n2,hn2,hc,hx,_,hlc,hcm,hel,hi,_,_⟩
 ·simp only [List.cons.injEq,and_true] at hc
  subst hc
  exact ⟨[],by simp,by simp,by rw [hx]; simp [sumW,Rows.uptoBulk],by simp only [RepD]; exact ⟨none,0,rfl,Nat.le_refl _,.inl rfl⟩⟩
 ·simp only [List.cons.injEq,and_true] at hc
  subst hc
  obtain ⟨l,hll,hR,hr⟩:=sl_repR (w:=W) (a:=a) (len:=len) (cap:=cap) (sz:=sz) (α:=α) f (fun i u=>Pr u∧∀ d,elems[i]?=some d→wt u≤60*Rows.uptoBulk d.1) hlc hf h0 fun i hlt=>by
   have hi':=hi i hlt
   have hg:elems[i]?=some (elems[i]'(by omega)):=List.getElem?_eq_getElem _
   rw [hg] at hi'
   rw [Option.bind_eq_some_iff] at hi'
   obtain ⟨cs,hcs',ht⟩:=hi'
   rw [hcs] at hcs'
   obtain ⟨_,hcl,hat⟩:=World.cells?_some hcs'
   obtain ⟨u,hu,hw,hr⟩:=elem n2 (by omega) cs _ ht hcl
   refine ⟨u,⟨hu,fun d hd=>by rw [hg,Option.some.injEq] at hd; subst hd; exact hw⟩,fun j c hj=>?_⟩
   obtain ⟨v,hv,hr⟩:=RepL_get hr j c hj
   refine ⟨v,?_,hr⟩
   have hj6:j<sz:=by have:=(List.getElem?_eq_some_iff.1 hj).1; rw [hf] at this; exact this
   rw [← Go.Deep.add_add,hat j hj6,hv]
  refine ⟨l,?_,fun u hu=>?_,?_,hr⟩
  ·simp only [maxLen] at hcm
   omega
  ·obtain ⟨i,hi⟩:=List.mem_iff_getElem?.1 hu
   exact (hR i u hi).1
  ·have h1:=sumW_bulk (wt:=wt) l (elems.map (·.1)) (by rw [List.length_map]; omega) fun i e d hx hy=>by
    rw [List.getElem?_map,Option.map_eq_some_iff] at hy
    obtain ⟨d0,hd0,rfl⟩:=hy
    exact (hR i e hx).2 d0 hd0
   rw [hx]
   simp only [Rows.uptoBulk]
   omega
theorem int_read {H:Type} {enc:TypeId×Value→H} {W:World} {base:Nat} {spare:Nat→Bool} {held:Bool} {n t:Nat} {c:Value} {x:DataW H×List MemPlace} (hu:Tryz.prog.underlying t=some (.int .i64)) (h:DataW.trod enc Tryz.prog W base spare held n t [c]=some x) :
  ∃ k:Int,c=.int .i64 k:=by
 obtain ⟨k,e,_,_⟩:=DataW.trod_int (k:=.i64) hu h
 simp only [List.cons.injEq,and_true] at e
 exact ⟨k,e⟩
theorem str_readW {H:Type} {enc:TypeId×Value→H} {W:World} {base:Nat} {spare:Nat→Bool} {held:Bool} {n t:Nat} {c:Value} {x:DataW H×List MemPlace} (hu:Tryz.prog.underlying t=some .string) (h:DataW.trod enc Tryz.prog W base spare held n t [c]=some x) :
  ∃ s:List UInt8,s.length+1≤Rows.uptoBulk x.1∧RepD (memOf W) c (.str s):=by
 obtain ⟨k,e,hx,_⟩:=DataW.trod_string hu h
 simp only [List.cons.injEq,and_true] at e
 subst e
 exact ⟨k.data.toList,by rw [hx]; simp [Rows.uptoBulk],by simp [RepD]⟩
theorem tmsFits_of:∀ l:List Tm,(∀ e∈l,e.fits)→tmsFits l
 | [],_=>by rw [tmsFits]; trivial
 | e::es,h=>by rw [tmsFits]; exact ⟨h e List.mem_cons_self,tmsFits_of es fun x hx=>h x (List.mem_cons_of_mem _ hx)⟩
theorem sum_tms:∀ l:List Tm,sumW Tm.wgt l=tmsWgt l
 | []=>rfl
 | e::es=>by rw [sumW,tmsWgt,sum_tms es]
theorem cells1 {t:Nat} (h:(Tryz.prog.cellsOf t==1)=true):Tryz.prog.cellsOf t=1:=by simpa using h
theorem cellsTm:Tryz.prog.cellsOf 25=6:=by
 have:(Tryz.prog.cellsOf 25==6)=true:=by kernel_rfl
 simpa using this
theorem all_bulk {H:Type}:∀ (ys:List (DataW H×List MemPlace)),Rows.uptoBulkAll (ys.map (·.1))=sumW (fun y=>Rows.uptoBulk y.1) ys
 | []=>rfl
 | y::ys=>by rw [List.map_cons,Rows.uptoBulkAll,sumW,all_bulk ys]
theorem tm_readW {H:Type} {enc:TypeId×Value→H} {W:World} {base:Nat} {spare:Nat→Bool} {held:Bool}:∀ (n:Nat) (cs:List Value) (x:DataW H×List MemPlace),DataW.trod enc Tryz.prog W base spare held n 25 cs=some x→cs.length=6 →
  ∃ e:Tm,e.fits∧e.wgt≤60*Rows.uptoBulk x.1∧RepL (memOf W) cs e.c:=by
 intro n
 induction n using Nat.strongRecOn with
 | _ n ih =>
 intro cs x h hc
 obtain ⟨c0,c1,c2,c3,c4,c5,rfl⟩:∃ c0 c1 c2 c3 c4 c5,cs=[c0,c1,c2,c3,c4,c5]:=by
  match cs,hc with
  | [c0,c1,c2,c3,c4,c5],_=>exact ⟨c0,c1,c2,c3,c4,c5,rfl⟩
 obtain ⟨ys,n',hn',hx,_,hyl,hf⟩:=DataW.trod_struct Tryz.underlying25 h
 have hl:ys.length=6:=hyl
 obtain ⟨y0,y1,y2,y3,y4,y5,rfl⟩:∃ y0 y1 y2 y3 y4 y5,ys=[y0,y1,y2,y3,y4,y5]:=by
  match ys,hl with
  | [y0,y1,y2,y3,y4,y5],_=>exact ⟨y0,y1,y2,y3,y4,y5,rfl⟩
 have h0:DataW.trod enc Tryz.prog W base spare held n' 3 (([c0,c1,c2,c3,c4,c5].drop 0).take (Tryz.prog.cellsOf 3))=some y0:=hf 0 _ rfl
 have h1:DataW.trod enc Tryz.prog W base spare held n' 3 (([c0,c1,c2,c3,c4,c5].drop 1).take (Tryz.prog.cellsOf 3))=some y1:=hf 1 _ rfl
 have h2:DataW.trod enc Tryz.prog W base spare held n' 2 (([c0,c1,c2,c3,c4,c5].drop 2).take (Tryz.prog.cellsOf 2))=some y2:=hf 2 _ rfl
 have h3:DataW.trod enc Tryz.prog W base spare held n' 9 (([c0,c1,c2,c3,c4,c5].drop 3).take (Tryz.prog.cellsOf 9))=some y3:=hf 3 _ rfl
 have h4:DataW.trod enc Tryz.prog W base spare held n' 9 (([c0,c1,c2,c3,c4,c5].drop 4).take (Tryz.prog.cellsOf 9))=some y4:=hf 4 _ rfl
 have h5:DataW.trod enc Tryz.prog W base spare held n' 23 (([c0,c1,c2,c3,c4,c5].drop 5).take (Tryz.prog.cellsOf 23))=some y5:=hf 5 _ rfl
 simp only [cells1 (t:=3) (by kernel_rfl),cells1 (t:=2) (by kernel_rfl),cells1 (t:=9) (by kernel_rfl),cells1 (t:=23) (by kernel_rfl),List.drop_zero,List.drop_succ_cons,List.take_succ_cons,List.take_zero] at h0 h1 h2 h3 h4 h5
 obtain ⟨a0,rfl⟩:=int_read (by kernel_rfl) h0
 obtain ⟨a1,rfl⟩:=int_read (by kernel_rfl) h1
 obtain ⟨a2,rfl⟩:=int_read (by kernel_rfl) h2
 obtain ⟨a3,b3,r3⟩:=str_readW (by kernel_rfl) h3
 obtain ⟨a4,b4,r4⟩:=str_readW (by kernel_rfl) h4
 obtain ⟨l,l1,l2,l3,r5⟩:=slice_readW Tm.c Tm.fits Tm.wgt (by kernel_rfl) cellsTm Tm.clen (by decide) h5 fun n2 hn2 cs y ht hcl=>ih n2 (by omega) cs y ht hcl
 refine ⟨.mk a0 a1 a2 a3 a4 l,by rw [Tm.fits]; exact ⟨l1,tmsFits_of l l2⟩,?_,?_⟩
 ·rw [sum_tms] at l3
  rw [hx,Tm.wgt]
  simp only [Rows.uptoBulk,all_bulk,sumW]
  omega
 ·rw [Tm.c,tmsC_map]
  exact ⟨by simp only [RepD],by simp only [RepD],by simp only [RepD],r3,r4,r5,trivial⟩
theorem tm_openW {H:Type} {enc:TypeId×Value→H} {W:World} {base:Nat} {r:Reach} {b0:Nat} {spare:Nat→Bool} {held:Bool} {v:Value} {d:DataW H} {p:List MemPlace}
  (hv:Value.okWide Tryz.prog W r b0 25 v) (h:DataW.Trod enc Tryz.prog W base spare held 25 v d p):∃ e:Tm,e.fits∧e.wgt≤60*Rows.uptoBulk d∧RepA ⟨memOf W,fun _=>none⟩ v e.a:=by
 obtain ⟨cs,rfl,hsz⟩:=okWide_struct Tryz.underlying25 hv
 obtain ⟨n,h⟩:=h
 have hl:cs.toList.length=6:=by simpa [cellsTm] using hsz
 obtain ⟨e,he,hw,hu⟩:=tm_readW n cs.toList _ h hl
 refine ⟨e,he,hw,?_⟩
 simp only [Tm.a,RepA]
 exact ⟨cs.toList,rfl,RepL_as hu⟩
end Go.Proofs.YthpmjipkofbeiaaGreatDoor
