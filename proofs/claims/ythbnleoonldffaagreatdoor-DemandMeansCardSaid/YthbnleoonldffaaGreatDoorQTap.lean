import Derived.Test.YthbnleoonldffaaGreatDoorQEnvR
import Derived.Test.YthbnleoonldffaaGreatDoorLog
import Derived.Test.YthbnleoonldffaaGreatDoorAbB
set_option linter.all false
namespace Go.Proofs.Tryz
open Go.Ab
set_option maxRecDepth 100000
set_option maxHeartbeats 64000000
def at2 (l:List V):V:=(l[2]?).getD nulV
mutual
def aI:Ex→List V→V
 | .mk o _ n t g ks,row=>if bI o ks.length=true then
   if o=2 then ⟨1,n,[]⟩ else if o=3 then ⟨2,n,[]⟩ else if o=4 then ⟨3,0,t⟩
   else if o=5 then (if 0≤g∧g<row.length then (row[g.toNat]?).getD nulV else nulV)
   else if o=26 then (if (gH (bH ks row)).tr=1 then iF (bH ks row) else at2 (bH ks row))
   else aQ o (bH ks row)
   else nulV
def bH:List Ex→List V→List V
 | [],_=>[]
 | e::es,row=>aI e row::bH es row
end
theorem jN:∀ (l:List Ex) (row:List V),bH l row=l.map fun e=>aI e row
 | [],_=>rfl
 | e::es,row=>by rw [bH,jN es row]; rfl
theorem iN {o c n:Int} {t:List UInt8} {g:Int} {ks:List Ex} {q:Nat} (hq:(Ex.mk o c n t g ks).few q=true):ks.length≤12∧t.length≤200∧∀ e∈ks,e.few (q+1)=true:=by
 rw [Ex.few] at hq
 by_cases h1:60<q
 ·simp [h1] at hq
 by_cases h2:12<ks.length
 ·simp [h1,h2] at hq
 by_cases h3:200<t.length
 ·simp [h1,h2,h3] at hq
 ·simp [h1,h2,h3] at hq
  rw [oP,List.all_eq_true] at hq
  exact ⟨by omega,by omega,hq⟩
theorem JX {n:Nat} (h:bI 26 n=true):n=3:=by simp [bI,bL,bK,ops] at h; omega
def evF (o c n g:Int) (t:List UInt8) (ks:List Ex) (row:List V):Nat→St
 | 0=>{ s:=cG [(1,.d (.sl (row.map V.c))),(2,.ptr 2 0 0),(4,.ptr 4 0 0),(8,.nils),(78,.d (.sl (ks.map Ex.c))),(79,.d (.int .i64 ks.length)),(80,.d (.int .i64 0))],b:=cE [(2,2,.var [.d (.int .i64 o),.d (.int .i64 c),.d (.int .i64 n),.d (.str t),.d (.int .i64 g),.d (.sl (ks.map Ex.c))]),(4,4,.var [.d (.int .i64 0),.d (.int .i64 0),.d (.str [])])] }
 | i+1=>{ s:=cG [(1,.d (.sl (row.map V.c))),(2,.ptr 2 0 0),(4,.ptr 4 0 0),(8,.ref 900 0 (i+1) 3),(78,.d (.sl (ks.map Ex.c))),(79,.d (.int .i64 ks.length)),(80,.d (.int .i64 (i+1:Nat)))],b:=cE [(2,2,.var [.d (.int .i64 o),.d (.int .i64 c),.d (.int .i64 n),.d (.str t),.d (.int .i64 g),.d (.sl (ks.map Ex.c))]),(4,4,.var [.d (.int .i64 0),.d (.int .i64 0),.d (.str [])]),(900,900,.arr 111 3 ((ks.take (i+1)).map fun e=>(aI e row).c) false)] }
theorem TX (row:List V) (hrow:row.length≤9223372036854775807) (o c n g:Int) (t:List UInt8) (ks:List Ex) (hk:ks.length≤12)
  (hrec:∀ e∈ks,Cf Eo 127 [e.a,.d (.sl (row.map V.c))] [] (aI e row).a []) :
  Cf Eo 127 [(Ex.mk o c n t g ks).a,.d (.sl (row.map V.c))] [] (aI (.mk o c n t g ks) row).a []:=by
  have hkn:=QV o c n t g ks
  refine aD aBC (fn:=Tryz.f127) (by kernel_rfl) rfl (by kernel_rfl) (by decide) (by simp) ?_
  rw [Ex.a] at hkn
  simp [Ex.a,Ex.c,aC] at hkn ⊢
  (repeat' (first|contradiction|exact .ok|apply And.intro|intro _|(refine gc (fun h=>?_) (fun h=>?_)<;>(have h':=h;(try simp at h');first|done|simp[h,h']|simp))))
  refine aA hkn (by simp) ?_
  cases hcn:bI o ks.length
  ·rw [show aI (.mk o c n t g ks) row=nulV from by simp [aI,hcn]]
   simp [JY,nulV,V.a]
   all_goals exact gz
  by_cases h2:o=2
  ·rw [show aI (.mk o c n t g ks) row=⟨1,n,[]⟩ from by rw [h2] at hcn; simp [aI,hcn,h2]]
   simp [JY,V.a,h2]
   all_goals exact gz
  by_cases h3:o=3
  ·rw [show aI (.mk o c n t g ks) row=⟨2,n,[]⟩ from by rw [h3] at hcn; simp [aI,hcn,h3]]
   simp [JY,V.a,h3]
   all_goals exact gz
  by_cases h4:o=4
  ·rw [show aI (.mk o c n t g ks) row=⟨3,0,t⟩ from by rw [h4] at hcn; simp [aI,hcn,h4]]
   simp [JY,V.a,h4]
   all_goals exact gz
  by_cases h5:o=5
  ·by_cases hg:0≤g∧g<row.length
   ·have hgr:row[g.toNat]?=some row[g.toNat]:=List.getElem?_eq_getElem (by omega)
    rw [show aI (.mk o c n t g ks) row=row[g.toNat] from by rw [h5] at hcn; simp [aI,hcn,h5,hg,hgr]]
    simp [JY,V.a,h5,hg.1,hg.2,hgr,V.c]
    (repeat' (first|contradiction|exact .ok|apply And.intro|intro _|(refine gc (fun h=>?_) (fun h=>?_)<;>(have h':=h;(try simp at h');first|done|simp[h,h',hg.1,hg.2,hgr]|simp[hg.1,hg.2,hgr]))))
   ·rw [show aI (.mk o c n t g ks) row=nulV from by rw [h5] at hcn; simp [aI,hcn,h5,hg]]
    simp [JY,V.a,h5,nulV]
    (repeat' (first|contradiction|exact .ok|apply And.intro|intro _|(refine gc (fun h=>?_) (fun h=>?_)<;>(have h':=h;(try simp at h');first|done|simp[h,h']|simp))))
    all_goals (exfalso; omega)
  by_cases h26:o=26
  ·subst h26
   have h3k:=JX hcn
   obtain ⟨a,b,d,rfl⟩:∃ a b d,ks=[a,b,d]:=by
    match ks,h3k with
    | [a,b,d],_=>exact ⟨a,b,d,rfl⟩
   have ca:=hrec a (by simp)
   have cb:=hrec b (by simp)
   have cd:=hrec d (by simp)
   have he:aI (.mk 26 c n t g [a,b,d]) row=if (aI a row).tr=1 then aI b row else aI d row:=by
    rw [aI,if_pos hcn]
    simp [bH,gH,iF,at2]
   rw [he]
   simp [JY,Ex.clen,Ex.ctake]
   (repeat' (first|contradiction|exact .ok|apply And.intro|intro _|(refine gc (fun h=>?_) (fun h=>?_)<;>(have h':=h;(try simp at h');first|done|simp[h,h']|simp))))
   refine aA ca (by simp [Ex.a]) ?_
   simp [V.a]
   refine aA (up (mK (aI a row))) (by simp [V.a]) ?_
   by_cases h1:(aI a row).tr=1
   ·simp [h1,Ex.clen,Ex.ctake]
    (repeat' (first|contradiction|exact .ok|apply And.intro|intro _|(refine gc (fun h=>?_) (fun h=>?_)<;>(have h':=h;(try simp at h');first|done|simp[h,h']|simp))))
    refine aA cb (by simp [Ex.a]) ?_
    simp [V.a]
    (repeat' (first|contradiction|exact .ok|apply And.intro|intro _|(refine gc (fun h=>?_) (fun h=>?_)<;>(have h':=h;(try simp at h');first|done|simp[h,h']|simp))))
    all_goals simp [h1]
   ·simp [h1,Ex.clen,Ex.ctake]
    (repeat' (first|contradiction|exact .ok|apply And.intro|intro _|(refine gc (fun h=>?_) (fun h=>?_)<;>(have h':=h;(try simp at h');first|done|simp[h,h']|simp))))
    refine aA cd (by simp [Ex.a]) ?_
    simp [V.a]
    (repeat' (first|contradiction|exact .ok|apply And.intro|intro _|(refine gc (fun h=>?_) (fun h=>?_)<;>(have h':=h;(try simp at h');first|done|simp[h,h']|simp))))
    all_goals simp [h1]
  have he:aI (.mk o c n t g ks) row=aQ o (bH ks row):=by
   rw [aI,if_pos hcn,if_neg h2,if_neg h3,if_neg h4,if_neg h5,if_neg h26]
  rw [he]
  have hap:=up (TO o (bH ks row) (by rw [jN,List.length_map]; exact hcn) (by rw [jN,List.length_map]; omega) h2 h3 h4 h5 h26)
  simp [JY,h2,h3,h4,h5,h26]
  (repeat' (first|contradiction|exact .ok|apply And.intro|intro _|(refine gc (fun h=>?_) (fun h=>?_)<;>(have h':=h;(try simp at h');first|done|simp[h,h']|simp))))
  refine aL aBC (by decide) (evF o c n g t ks row) (fun i:Nat=>i≤ks.length) (fun i=>ks.length - i) 0 (by simp) (aE [(1,_),(2,_),(4,_),(8,_),(78,_),(79,_),(80,_)] [(2,2,_),(4,4,_)] ⟨by simp,by simp,by simp [aB,Blk.live],by simp⟩ (by simp [aB])) ?_
  intro i hi
  by_cases hlt:i<ks.length
  ·have hgi:ks[i]?=some ks[i]:=List.getElem?_eq_getElem hlt
   have c1:=Ex.clen ks[i]
   have k1:=Ex.ctake ks[i]
   have hr:=hrec ks[i] (List.getElem_mem hlt)
   have htk:List.take (i+1) (List.map (fun e=>(aI e row).c) ks)=List.take i (List.map (fun e=>(aI e row).c) ks)++[(aI ks[i] row).c]:=by
    rw [List.take_add_one,List.getElem?_map,hgi]; rfl
   simp only [V.c] at htk
   cases i with
   | zero =>
     have hlt2:(0:Int)<ks.length:=by omega
     simp [evF,hlt,hlt2,hgi,c1,k1]
     (repeat' (first|contradiction|exact .ok|apply And.intro|intro _|(refine gc (fun h=>?_) (fun h=>?_)<;>(have h':=h;(try simp at h');first|done|simp[h,h']|simp))))
     refine aA hr (by simp [Ex.a]) ?_
     simp [V.a]
     (repeat' (first|contradiction|exact .ok|apply And.intro|intro _|(refine gc (fun h=>?_) (fun h=>?_)<;>(have h':=h;(try simp at h');first|done|simp[h,h']|simp))))
     refine ⟨1,hlt,?_,?_⟩
     ·refine aE [(1,_),(2,_),(4,_),(8,_),(78,_),(79,_),(80,_)] [(2,2,_),(4,4,_),(900,89,_)] ⟨by simp,by simp,?_,by simp⟩ ?_
      ·simp only [Nat.zero_add,List.take_zero,List.nil_append] at htk
       simp [aB,Blk.live,htk,V.c]
      ·simp [aB]
       exact aH (by omega) (by omega)
     ·simp; omega
   | succ i =>
     have hlt2:((i+1:Nat):Int)<ks.length:=by omega
     have hlt3:(i:Int)+1<ks.length:=by omega
     have hp:(0:Int)≤(i:Int)+1:=by omega
     have hmin:min (i+1) ks.length=i+1:=by omega
     have s1:(i+1+1)*32≤140737488355328:=by omega
     have s2:i≤9223372036854775805:=by omega
     simp [evF,hlt,hlt2,hlt3,hp,hgi,c1,k1]
     (repeat' (first|contradiction|exact .ok|apply And.intro|intro _|(refine gc (fun h=>?_) (fun h=>?_)<;>(have h':=h;(try simp at h');first|done|simp[h,h']|simp))))
     refine aA hr (by simp [Ex.a]) ?_
     simp [V.a,hmin,s1,s2]
     (repeat' (first|contradiction|exact .ok|apply And.intro|intro _|(refine gc (fun h=>?_) (fun h=>?_)<;>(have h':=h;(try simp at h');first|done|simp[h,h']|simp))))
     refine ⟨i+2,by omega,?_,?_⟩
     ·refine aE [(1,_),(2,_),(4,_),(8,_),(78,_),(79,_),(80,_)] [(2,2,_),(4,4,_),(900,89,_)] ⟨by simp,by simp,?_,by simp⟩ ?_
      ·simp [aB,Blk.live,htk,V.c]
      ·simp [aB]
       rw [aH (by omega) (by omega)]
     ·simp; omega
  ·have hie:i=ks.length:=by omega
   subst hie
   cases hkl:ks.length with
   | zero =>
     have:ks=[]:=List.eq_nil_of_length_eq_zero hkl
     subst this
     simp [evF]
     (repeat' (first|contradiction|exact .ok|apply And.intro|intro _|(refine gc (fun h=>?_) (fun h=>?_)<;>(have h':=h;(try simp at h');first|done|simp[h,h']|simp))))
     refine aA hap (by simp [bH]) ?_
     simp [V.a]
     all_goals exact gz
   | succ i =>
     simp [evF,hkl]
     (repeat' (first|contradiction|exact .ok|apply And.intro|intro _|(refine gc (fun h=>?_) (fun h=>?_)<;>(have h':=h;(try simp at h');first|done|simp[h,h']|simp))))
     have htk:List.take (i+1) (List.map (fun e=>(aI e row).c) ks)=List.map (fun e=>(aI e row).c) ks:=List.take_of_length_le (by simp [hkl])
     have hle:i+1≤ks.length:=by omega
     refine aA hap (by simp [jN,Function.comp_def,htk,hle]) ?_
     simp [V.a,htk,hle]
     all_goals exact gz
theorem GM (row:List V) (hrow:row.length≤9223372036854775807):∀ (m:Nat) (e:Ex),SizeOf.sizeOf e<m→∀ q:Nat,e.few q=true→Cf Eo 127 [e.a,.d (.sl (row.map V.c))] [] (aI e row).a []
 | 0,_,h,_,_=>absurd h (by omega)
 | m+1,.mk o c n t g ks,hm,q,hq=>by
   obtain ⟨hk,ht,hfew⟩:=iN hq
   exact TX row hrow o c n g t ks hk fun e he =>
    GM row hrow m e (by have:=Ex.kid_lt (e:=.mk o c n t g ks) (k:=e) he; omega) (q+1) (hfew e he)
def HD (op:Int) (n:Nat):Bool :=
 if op≤5 then n==0 else if op=11∨op=13∨op=21∨op=24∨op=25 then n==1 else if op=26 then n==3 else if op=28 then decide (2≤n) else n==2
theorem aAc (op:Int) (n:Nat):Cf En 169 [.d (.int .i64 op),.d (.int .i64 n)] [] (.d (.bool (HD op n))) []:=by
 refine aD aW (fn:=Tryz.f169) (by kernel_rfl) rfl (by kernel_rfl) (by decide) (by simp) ?_
 unfold HD
 by_cases h5:op≤5
 ·simp [h5]
  (repeat' first|contradiction|exact .ok|apply And.intro|intro _|(apply gc<;>simp+contextual[h5]))
  all_goals try (rw [Bool.eq_iff_iff]; simp; done)
  all_goals try (rw [Bool.eq_iff_iff]; simp; omega)
  all_goals try omega
 by_cases h11:op=11
 ·subst h11; simp
  (repeat' first|contradiction|exact .ok|apply And.intro|intro _|(apply gc<;>simp+contextual))
  all_goals try (rw [Bool.eq_iff_iff]; simp; done)
  all_goals try (rw [Bool.eq_iff_iff]; simp; omega)
  all_goals try omega
 by_cases h13:op=13
 ·subst h13; simp
  (repeat' first|contradiction|exact .ok|apply And.intro|intro _|(apply gc<;>simp+contextual))
  all_goals try (rw [Bool.eq_iff_iff]; simp; done)
  all_goals try (rw [Bool.eq_iff_iff]; simp; omega)
  all_goals try omega
 by_cases h21:op=21
 ·subst h21; simp
  (repeat' first|contradiction|exact .ok|apply And.intro|intro _|(apply gc<;>simp+contextual))
  all_goals try (rw [Bool.eq_iff_iff]; simp; done)
  all_goals try (rw [Bool.eq_iff_iff]; simp; omega)
  all_goals try omega
 by_cases h24:op=24
 ·subst h24; simp
  (repeat' first|contradiction|exact .ok|apply And.intro|intro _|(apply gc<;>simp+contextual))
  all_goals try (rw [Bool.eq_iff_iff]; simp; done)
  all_goals try (rw [Bool.eq_iff_iff]; simp; omega)
  all_goals try omega
 by_cases h25:op=25
 ·subst h25; simp
  (repeat' first|contradiction|exact .ok|apply And.intro|intro _|(apply gc<;>simp+contextual))
  all_goals try (rw [Bool.eq_iff_iff]; simp; done)
  all_goals try (rw [Bool.eq_iff_iff]; simp; omega)
  all_goals try omega
 by_cases h26:op=26
 ·subst h26; simp
  (repeat' first|contradiction|exact .ok|apply And.intro|intro _|(apply gc<;>simp+contextual))
  all_goals try (rw [Bool.eq_iff_iff]; simp; done)
  all_goals try (rw [Bool.eq_iff_iff]; simp; omega)
  all_goals try omega
 by_cases h28:op=28
 ·subst h28; simp
  (repeat' first|contradiction|exact .ok|apply And.intro|intro _|(apply gc<;>simp+contextual))
  all_goals try (rw [Bool.eq_iff_iff]; simp; done)
  all_goals try (rw [Bool.eq_iff_iff]; simp; omega)
  all_goals try omega
 simp [h5,h11,h13,h21,h24,h25,h26,h28]
 (repeat' first|contradiction|exact .ok|apply And.intro|intro _|(apply gc<;>simp+contextual[h5,h11,h13,h21,h24,h25,h26,h28]))
 all_goals try (rw [Bool.eq_iff_iff]; simp; done)
 all_goals try (rw [Bool.eq_iff_iff]; simp; omega)
 all_goals try omega
theorem EI (op:Int) (n:Nat) (h:bL op=true):HD op n=bI op n:=by
 have h2:1≤op∧op≤28:=by simpa [bL] using h
 have h3:op=1∨op=2∨op=3∨op=4∨op=5∨op=6∨op=7∨op=8∨op=9∨op=10∨op=11∨op=12∨op=13∨op=14∨op=15∨op=16∨op=17∨op=18∨op=19∨op=20∨op=21∨op=22∨op=23∨op=24∨op=25∨op=26∨op=27∨op=28:=by omega
 clear h h2
 rcases h3 with rfl | rfl | rfl | rfl | rfl | rfl | rfl | rfl | rfl | rfl | rfl | rfl | rfl | rfl | rfl | rfl | rfl | rfl | rfl | rfl | rfl | rfl | rfl | rfl | rfl | rfl | rfl | rfl <;> (rw [Bool.eq_iff_iff]; simp [HD,bI,bL,bK,ops]; try omega)
theorem orF (x y:V):HV ⟨2,0,[]⟩ (pD x y)=pD x y:=by
 unfold pD
 split
 ·simp [HV,V.tr,nulV]
 ·cases x.same y <;> simp [HV,V.tr,vR]
def inF (o:V) (x:V) (ys:List V):V:=ys.foldl (fun o y=>HV o (pD x y)) o
theorem aAd (x y:V) (ys:List V):inV x (y::ys)=inF (pD x y) x ys:=by
 unfold inV inF
 rw [List.foldl_cons,orF]
theorem aAe (o x:V) (ys:List V) (i:Nat) (y:V) (h:ys[i]?=some y):inF o x (ys.take (i+1))=HV (inF o x (ys.take i)) (pD x y):=by
 unfold inF
 rw [List.take_add_one,h]
 simp
def qJ (o c n g:Int) (t:List UInt8) (ks:List Ex) (row:List V):Nat→St
 | 0=>{ s:=cG [(1,.d (.sl (row.map V.c))),(2,.ptr 2 0 0),(4,.ptr 4 0 0),(5,.nils),(6,.d (.int .i64 0))],b:=cE [(2,2,.var [.d (.int .i64 o),.d (.int .i64 c),.d (.int .i64 n),.d (.str t),.d (.int .i64 g),.d (.sl (ks.map Ex.c))]),(4,4,.var [.d (.int .i64 0),.d (.int .i64 0),.d (.str [])])] }
 | i+1=>{ s:=cG [(1,.d (.sl (row.map V.c))),(2,.ptr 2 0 0),(4,.ptr 4 0 0),(5,.ref 900 0 (i+1) 3),(6,.d (.int .i64 (i+1:Nat)))],b:=cE [(2,2,.var [.d (.int .i64 o),.d (.int .i64 c),.d (.int .i64 n),.d (.str t),.d (.int .i64 g),.d (.sl (ks.map Ex.c))]),(4,4,.var [.d (.int .i64 0),.d (.int .i64 0),.d (.str [])]),(900,900,.arr 111 3 ((ks.take (i+1)).map fun e=>(aI e row).c) false)] }
def aS (L:List Int) (i:Int):Blk:=.var [.d (.sl (L.map fun n=>[.int .i64 n])),.d (.int .i64 i)]
def aU (L:List Int) (i:Nat) (n:Int):Int :=
 if n<1 then 0 else
  let x:=match L[i]? with
   | some z=>z.tmod n
   | none=>0
  if x<0 then x+n else x
def BQ (i:Nat) (n:Int):Nat:=if n<1 then i else i+1
theorem bG (L:List Int) (i:Nat) {n:Int} (h:1≤n):0≤aU L i n∧aU L i n<n:=by
 unfold aU
 rw [if_neg (by omega)]
 cases L[i]? with
 | none=>simp; omega
 | some z =>
   have h1:=Int.natAbs_tmod z n
   have h2:=Nat.mod_lt z.natAbs (show 0<n.natAbs by omega)
   simp only
   split <;> omega
theorem aEu (L:List Int) (i:Nat) (hi:i≤1000000000) (n:Int) (hn:n≤1000000) :
  Cf En 27 [.ptr 1000000 0 0,.d (.int .i64 n)] [aS L i] (.d (.int .i64 (aU L i n))) [aS L (BQ i n)]:=by
 refine aD aW (fn:=Tryz.f27) (by kernel_rfl) rfl (by kernel_rfl) (by decide) (by simp) ?_
 simp [aS]
 (repeat' first|contradiction|exact .ok|apply And.intro|intro _|(apply gc<;>simp+contextual))
 ·rename_i h
  simp [BQ,h]
 ·rename_i h
  simp [aU,h]
 ·rename_i h1 h2
  have hg:L[i]?=some L[i]:=List.getElem?_eq_getElem h2
  have hn0:¬ n<1:=by omega
  have hz:¬ n=0:=by omega
  have hw:=aH (n:=(i:Int)+1) (by omega) (by omega)
  have e1:=Int.natAbs_tmod L[i] n
  have e2:=Nat.mod_lt L[i].natAbs (show 0<n.natAbs by omega)
  have hw2:=aH (n:=L[i].tmod n+n) (by omega) (by omega)
  have hV:aU L i n=if L[i].tmod n<0 then L[i].tmod n+n else L[i].tmod n:=by simp [aU,hn0,hg]
  have hI:BQ i n=i+1:=by simp [BQ,hn0]
  rw [hV,hI]
  clear hV hI
  by_cases hneg:L[i].tmod n<0
  ·simp [hg,hz,hneg,hw,hw2]
   all_goals exact gz
  ·simp [hg,hz,hneg,hw]
   all_goals exact gz
 ·rename_i h1 h2
  simp [BQ,show ¬ n<1 by omega]
  exact aH (by omega) (by omega)
 ·rename_i h1 h2
  simp [aU,show ¬ n<1 by omega,List.getElem?_eq_none h2]
def intsL:List Int:=[0,1,2,-1,5,7,-7,100,1000000000000,-1000000000000,999999999999,1000000]
def textsL:List (List UInt8):=[[],[97],[98],[97,98],[48],[32],[97,98,99,100,101,102,103,104,105,106,107,108,109,110,111,112,113,114,115,116,117,118,119,120]]
def bB (k:Int):List V :=
 if k=1 then nulV::intsL.map fun n=>⟨1,n,[]⟩ else if k=2 then [nulV,⟨2,0,[]⟩,⟨2,1,[]⟩] else if k=3 then nulV::textsL.map fun t=>⟨3,0,t⟩ else [nulV]
theorem LS (k:Int):Cf En 105 [.d (.int .i64 k)] [] (.d (.sl ((bB k).map V.c))) []:=by
 refine aD aW (fn:=Tryz.f105) (by kernel_rfl) rfl (by kernel_rfl) (by decide) (by simp) ?_
 by_cases h1:k=1
 ·subst h1
  simp
  (repeat' first|contradiction|exact .ok|apply And.intro|intro _|(apply gc<;>simp+contextual))
  have hlen:intsL.length=12:=by decide
  refine aL aW (by decide) (fun i:Nat=>{ s:=cG [(3,.ref 900 0 (i+1) 3),(4,.d (.sl (intsL.map fun n=>[.int .i64 n]))),(5,.d (.int .i64 i))],b:=cE [(900,900,.arr 111 3 ((nulV::(intsL.take i).map fun n=>⟨1,n,[]⟩).map V.c) false)] }) (fun i:Nat=>i≤12) (fun i=>12 - i) 0 (by simp) (aE _ [(900,9,_)] ⟨by simp,by simp,by simp [aB,Blk.live,nulV,V.c],by simp⟩ (by simp [aB,intsL])) ?_
  intro i hi
  by_cases hlt:i<12
  ·have hlt':(i:Int)<12:=by omega
   have hg:intsL[i]?=some intsL[i]:=List.getElem?_eq_getElem (by omega)
   have htk:intsL.take (i+1)=intsL.take i++[intsL[i]]:=by rw [List.take_add_one,hg]; rfl
   have hmin:min i 12=i:=by omega
   have s1:(i+1+1)*32≤140737488355328:=by omega
   have s2:i+1+1≤9223372036854775807:=by omega
   have s3:i≤9223372036854775805:=by omega
   simp [hlt,hlt',hlen,hg,hmin,s1,s2,s3]
   (repeat' first|contradiction|exact .ok|apply And.intro|intro _|(apply gc<;>simp+contextual))
   refine ⟨i+1,by omega,?_,?_⟩
   ·refine aE _ [(900,27,_)] ⟨by simp,by simp,?_,by simp⟩ ?_
    ·simp [aB,Blk.live,htk,V.c,hmin,hlen]
     try rfl
    ·simp [aB]
     exact aH (by omega) (by omega)
   ·simp; omega
  ·have hlt':¬ (i:Int)<12:=by omega
   have hi12:i=12:=by omega
   subst hi12
   have htk:intsL.take 12=intsL:=List.take_of_length_le (by omega)
   simp [hlen,htk]
   (repeat' first|contradiction|exact .ok|apply And.intro|intro _|(apply gc<;>simp+contextual))
   all_goals (simp [bB,hlen]; rw [← List.map_take,htk])
 by_cases h2:k=2
 ·subst h2
  simp
  (repeat' first|contradiction|exact .ok|apply And.intro|intro _|(apply gc<;>simp+contextual))
  refine aA (mV 0) (by simp [V.a]) ?_
  simp [V.a,lJ]
  refine aA (mV 1) (by simp [V.a]) ?_
  simp [V.a,mU]
  (repeat' first|contradiction|exact .ok|apply And.intro|intro _|(apply gc<;>simp+contextual))
  all_goals simp [bB,V.c,nulV]
 by_cases h3:k=3
 ·subst h3
  simp
  (repeat' first|contradiction|exact .ok|apply And.intro|intro _|(apply gc<;>simp+contextual))
  have hlen:textsL.length=7:=by decide
  refine aL aW (by decide) (fun i:Nat=>{ s:=cG [(3,.ref 900 0 (i+1) 3),(6,.d (.sl (textsL.map fun n=>[.str n]))),(7,.d (.int .i64 i))],b:=cE [(900,900,.arr 111 3 ((nulV::(textsL.take i).map fun n=>⟨3,0,n⟩).map V.c) false)] }) (fun i:Nat=>i≤7) (fun i=>7 - i) 0 (by simp) (aE _ [(900,9,_)] ⟨by simp,by simp,by simp [aB,Blk.live,nulV,V.c],by simp⟩ (by simp [aB,textsL])) ?_
  intro i hi
  by_cases hlt:i<7
  ·have hlt':(i:Int)<7:=by omega
   have hg:textsL[i]?=some textsL[i]:=List.getElem?_eq_getElem (by omega)
   have htk:textsL.take (i+1)=textsL.take i++[textsL[i]]:=by rw [List.take_add_one,hg]; rfl
   have hmin:min i 7=i:=by omega
   have s1:(i+1+1)*32≤140737488355328:=by omega
   have s2:i+1+1≤9223372036854775807:=by omega
   have s3:i≤9223372036854775805:=by omega
   simp [hlt,hlt',hlen,hg,hmin,s1,s2,s3]
   (repeat' first|contradiction|exact .ok|apply And.intro|intro _|(apply gc<;>simp+contextual))
   refine ⟨i+1,by omega,?_,?_⟩
   ·refine aE _ [(900,51,_)] ⟨by simp,by simp,?_,by simp⟩ ?_
    ·simp [aB,Blk.live,htk,V.c,hmin,hlen]
     try rfl
    ·simp [aB]
     exact aH (by omega) (by omega)
   ·simp; omega
  ·have hlt':¬ (i:Int)<7:=by omega
   have hi12:i=7:=by omega
   subst hi12
   have htk:textsL.take 7=textsL:=List.take_of_length_le (by omega)
   simp [hlen,htk]
   (repeat' first|contradiction|exact .ok|apply And.intro|intro _|(apply gc<;>simp+contextual))
   all_goals (simp [bB,hlen]; rw [← List.map_take,htk])
 simp [h1,h2,h3]
 (repeat' first|contradiction|exact .ok|apply And.intro|intro _|(apply gc<;>simp+contextual))
 all_goals simp [bB,h1,h2,h3,V.c,nulV]
end Go.Proofs.Tryz
