import Derived.Test.YtkkbepgccddjoaaGreatDoorCRnw
import Derived.Test.YtkkbepgccddjoaaGreatDoorGue
import Derived.Test.YtkkbepgccddjoaaGreatDoorCSmc
set_option linter.all false
namespace Go.Proofs.Tryz
open Go.Ab
set_option maxRecDepth 100000
set_option maxHeartbeats 8000000
def TQ (L:List Int) (S:List Tb) (x:Tb) (T:Nat→List Bk) (most:Nat) (y:List Bk×Nat):List Bk×Nat:=(if tN S x T x.fk.length=true then y.1++[(yB L S x T most y.2).1] else y.1,(yB L S x T most y.2).2)
theorem uG (L:List Int) (S:List Tb) (x:Tb) (T:Nat→List Bk) (most:Nat):∀ (k:Nat) (y:List Bk×Nat),jT L S x T most (k+1) y=TQ L S x T most (jT L S x T most k y)
 | 0,y=>rfl
 | k+1,y=>by rw [jT,uG L S x T most k]; rfl
theorem KP (L:List Int) (S:List Tb) (x:Tb) (T:Nat→List Bk) (b:Nat):∀ f,(lN L S x T b f).2≤b+f
 | 0=>by simp [lN]
 | f+1=>by
   have:=KP L S x T b f
   rw [lN]
   split
   ·simp only [sG]; split <;> omega
   ·omega
theorem PA (L:List Int) (S:List Tb) (x:Tb) (T:Nat→List Bk) (b:Nat):∀ f,f≤x.fk.length→(lN L S x T b f).1.length=f
 | 0,_=>rfl
 | f+1,h=>by
   have:=PA L S x T b f (by omega)
   rw [lN,gE (show f<x.fk.length by omega)]
   simp [this]
theorem aEU (L:List Int) (S:List Tb) (x:Tb) (T:Nat→List Bk) (most a:Nat):(yB L S x T most a).2≤a+(1+x.cols.length+x.fk.length):=by
 have:=KP L S x T (a+1+x.cols.length) x.fk.length
 unfold yB
 simp only
 omega
theorem DW (L:List Int) (S:List Tb) (x:Tb) (T:Nat→List Bk) (most:Nat) (y:List Bk×Nat):∀ k,(jT L S x T most k y).2≤y.2+k*(1+x.cols.length+x.fk.length)∧(jT L S x T most k y).1.length≤y.1.length+k
 | 0=>by simp [jT]
 | k+1=>by
   obtain ⟨h1,h2⟩:=DW L S x T most y k
   have h3:=aEU L S x T most (jT L S x T most k y).2
   rw [uG]
   unfold TQ
   refine ⟨?_,?_⟩
   ·simp only
    rw [Nat.add_mul,Nat.one_mul]
    omega
   ·simp only
    split
    ·simp; omega
    ·omega
theorem HK (L:List Int) (S:List Tb) (blocks most:Nat) (z:Int):∀ (r:List Int) (y:(Nat→List Bk)×Nat),FI L S blocks most (r++[z]) y=DY L S blocks most z.toNat (FI L S blocks most r y)
 | [],y=>rfl
 | q::r,y=>by rw [List.cons_append,FI,FI,HK L S blocks most z r]
theorem PC:∀ (n j:Nat),zY j (n+1)=zY j n++[((j+n:Nat):Int)]
 | 0,j=>by simp [zY]
 | n+1,j=>by
   rw [zY,PC n (j+1),zY,List.cons_append]
   rw [show j+1+n=j+(n+1) from by omega]
theorem WB:∀ (n j o:Nat),o<n→(zY j n)[o]?=some ((j+o:Nat):Int)
 | 0,j,o,h=>by omega
 | n+1,j,0,_=>by simp [zY]
 | n+1,j,o+1,h=>by
   rw [zY,List.getElem?_cons_succ,WB n (j+1) o (by omega)]
   rw [show j+1+o=j+(o+1) from by omega]
def nZ (L:List Int) (S:List Tb) (blocks most a o:Nat):(Nat→List Bk)×Nat:=FI L S blocks most (zY 0 o) (fun _=>[],a)
theorem yA (L:List Int) (S:List Tb) (blocks most a o:Nat):nZ L S blocks most a (o+1)=DY L S blocks most o (nZ L S blocks most a o):=by
 unfold nZ
 rw [PC,HK,Nat.zero_add,Int.toNat_natCast]
theorem ZL {S:List Tb} (h:iP S) (i:Nat):(aR S i).cols.length≤20∧(aR S i).fk.length≤8:=by
 unfold aR
 cases hi:S[i]? with
 | none=>simp
 | some x=>exact ⟨h.cols x (List.mem_of_getElem? hi),(h.fk x (List.mem_of_getElem? hi)).1⟩
theorem AI (L:List Int) {S:List Tb} (h:iP S) {blocks most a:Nat} (hb:blocks≤100):∀ o,(nZ L S blocks most a o).2≤a+o*2901∧∀ j,((nZ L S blocks most a o).1 j).length≤blocks
 | 0=>⟨by simp [nZ,FI,zY],fun j=>by simp [nZ,FI,zY]⟩
 | o+1=>by
   obtain ⟨h1,h2⟩:=AI L h hb (most:=most) (a:=a) o
   obtain ⟨c1,c2⟩:=ZL h o
   have hn:=bB L (nZ L S blocks most a o).2 (n:=(blocks:Int)+1) (by omega)
   obtain ⟨g1,g2⟩:=DW L S (aR S o) (nZ L S blocks most a o).1 most ([],(nZ L S blocks most a o).2+1) (aS L (nZ L S blocks most a o).2 (blocks+1)).toNat
   rw [yA]
   unfold DY
   have hm:(aS L (nZ L S blocks most a o).2 (blocks+1)).toNat*(1+(aR S o).cols.length+(aR S o).fk.length)≤100*29:=Nat.mul_le_mul (by omega) (by omega)
   refine ⟨?_,fun j=>?_⟩
   ·simp only at g1 ⊢
    omega
   ·simp only [bP]
    split
    ·simp at g2; omega
    ·exact h2 j
def ZM (T:Nat→List Bk) (o j:Nat):AV:=if j<o then .d (.sl ((T j).map Bk.c)) else .nils
def DX (T:Nat→List Bk) (o j:Nat):List AV:=[ZM T o j]
def EK (T:Nat→List Bk) (o:Nat) (q:AV) (j:Nat):List AV:=if j=o then [q] else [ZM T o j]
theorem aCE {T:Nat→List Bk} {o j:Nat} {r:Nat→Option Nat} {bl:Nat→Blk}:(dP r bl true (ZM T o j)).1=ZM T o j:=by
 unfold ZM
 split <;> simp [dP]
theorem aCF {T:Nat→List Bk} {o N:Nat} {r:Nat→Option Nat} {bl:Nat→Blk}:(aO (DX T o) N).map (fun x=>(cS r bl true x).1)=aO (DX T o) N:=by
 rw [dB]
 refine bV fun j _=>?_
 simp [DX,cS,aCE]
theorem kH {T:Nat→List Bk} {o:Nat} {q:AV} {N:Nat} {r:Nat→Option Nat} {bl:Nat→Blk}:(aO (EK T o q) N).map (fun x=>(cS r bl true x).1)=aO (EK T o (dP r bl true q).1) N:=by
 rw [dB]
 refine bV fun j _=>?_
 unfold EK
 split
 ·simp [cS]
 ·simp [cS,aCE]
theorem WC {T:Nat→List Bk} {o:Nat}:EK T o .nils=DX T o:=by
 funext j
 unfold EK DX
 split
 ·rename_i e
  subst e
  unfold ZM
  rw [if_neg (by omega)]
 ·rfl
theorem PD {T:Nat→List Bk} {o:Nat} {R:List Bk}:EK T o (.d (.sl (R.map Bk.c)))=DX (bP T o R) (o+1):=by
 funext j
 unfold EK DX ZM bP
 by_cases e:j=o
 ·subst e
  simp
 ·by_cases h:j<o
  ·simp [e,h,show j<o+1 from by omega]
  ·simp [e,h,show ¬ j<o+1 from by omega]
theorem AJ {T:Nat→List Bk} {o N:Nat} {q q':AV}:(aO (EK T o q) N).set o [q']=aO (EK T o q') N:=by
 rw [kR]
 refine bV fun j _=>?_
 unfold EK
 split <;> rfl
theorem PE {T:Nat→List Bk} {N:Nat}:aO (DX T 0) N=List.replicate N [.nils]:=by
 rw [lY]
 exact bV fun j _=>by simp [DX,ZM]
theorem HL (L:List Int) (S:List Tb) (h:iP S) (hd:NJ S) (blocks most:Nat) (hb:blocks≤100) (hm1:1≤most) (hm:most≤1000) (a:Nat) (ha:a≤800000) :
  Cf En 10 [.ptr 1000000 0 0,aN S,.d (.int .i64 blocks),.d (.int .i64 most)] [aQ L a] (cP (aO (nZ L S blocks most a S.length).1 S.length)) [aQ L (nZ L S blocks most a S.length).2]:=by
 refine cI aW (fn:=Tryz.f10) rfl ?_
 have hl:=h.ok.len
 have hfew:=h.few
 have hor:=DI S hl h.ok.ok
 rw [wA hd] at hor
 have hOl:=VG S.length 0
 have hOg:∀ o,o<S.length→(zY 0 S.length)[o]?=some (o:Int):=fun o ho=>by
  have:=WB S.length 0 o ho
  rwa [Nat.zero_add] at this
 obtain ⟨O,hOe⟩:∃ O,O=zY 0 S.length:=⟨_,rfl⟩
 rw [← hOe] at hor hOl hOg
 clear hOe
 have hbound:=AI L h hb (most:=most) (a:=a)
 have hstep:=yA L S blocks most a
 have hz0:nZ L S blocks most a 0=(fun _=>[],a):=rfl
 generalize nZ L S blocks most a=Z at *
 have hsz2:=(mk8 S.length hl).1
 simp [aN,aQ,hsz2,show 24*(S.length:Int)≤281474976710656 from by omega]
 (repeat' first|contradiction|exact .ok|apply And.intro|intro _|(apply gc<;>simp+contextual))
 refine aA hor (by simp [aN]) ?_
 simp
 (repeat' first|contradiction|exact .ok|apply And.intro|intro _|(apply gc<;>simp+contextual))
 refine xA aW (by decide) (fun o:Nat=>{ s:=cE [(0,.ptr 1000000 0 0),(2,.d (.int .i64 blocks)),(3,.d (.int .i64 most)),(5,.ptr 5 0 0),(8,.ptr 8 0 0),(9,.ptr 9 0 0),(10,.d (.sl (aD O))),(12,.d (.int .i64 o))],b:=cC [(1000000,1000000,aQ L (Z o).2),(5,5,.var [.d (.sl (S.map Tb.c))]),(8,8,.var [.nils]),(9,9,.var [.ref 901 0 S.length 1]),(901,901,.varr 103 1 (aO (DX (Z o).1 o) S.length))] })
  (fun o=>o≤S.length) (fun o=>S.length - o) 0 (by simp) 0
  { s:=cE [(8,.ptr 8 0 0),(9,.ptr 9 0 0)],b:=cC [(1000000,1000000,aQ L (Z S.length).2),(8,8,.var [.nils]),(9,9,.var [.ref 901 0 S.length 1]),(901,901,.arr 103 1 (aO (fun j=>[.sl (((Z S.length).1 j).map Bk.c)]) S.length) false)] }
  ((lX 26 (m:=S.length) (ety:=103) (by simp [EM])).trans (aI _ [(1000000,1000000,_),(5,5,_),(8,8,_),(9,9,_),(901,26,_)] ⟨by simp,by simp,by simp [aB,Blk.live,aQ,hz0,PE],bK⟩ (by simp [aB]))) ?_ ?_
 rotate_left
 ·have htk:∀ f:Nat→List D,(aO f S.length).take S.length=aO f S.length:=fun f=>List.take_of_length_le (by simp)
  simp [aQ,htk,cP,dB,iG]
  (repeat' first|contradiction|exact .ok|apply And.intro|intro _|(apply gc<;>simp+contextual))
  all_goals (try simp [aQ,htk,cP,dB,iG])
 intro o ho
 by_cases hol:o<S.length
 ·obtain ⟨x,hx⟩:∃ x,x=S[o]:=⟨_,rfl⟩
  have hgx:∀ h,S[o]'h=x:=fun _=>hx.symm
  have hxm:x∈S:=by rw [hx]; exact List.getElem_mem hol
  have hoO:o<O.length:=by omega
  have hgo:∀ h,O[o]'h=(o:Int):=fun h=>by
   have:=hOg o hol
   rw [gE h] at this
   exact Option.some.inj this
  have htab:aR S o=x:=by unfold aR; rw [gE hol,← hx]; rfl
  have hcols:=h.cols x hxm
  obtain ⟨hf8,hfx⟩:=h.fk x hxm
  have htyx:=h.ty x hxm
  have hdo:=hd o hol
  rw [htab] at hdo
  have hwo:=wI (n:=(o:Int)+1)
  have hw1:=wI (n:=(blocks:Int)+1)
  have hst:=hstep o
  obtain ⟨hZ1,hZ2⟩:=hbound o
  obtain ⟨T,e0,hZ⟩:∃ T e0,Z o=(T,e0):=⟨_,_,rfl⟩
  rw [hZ] at hst hZ1 hZ2
  unfold DY at hst
  rw [htab] at hst
  simp only [hZ] at hst hZ1 hZ2 ⊢
  have he0:e0≤840000:=by omega
  have hn:=bB L e0 (n:=(blocks:Int)+1) (by omega)
  have htn:=dH L e0 (by omega) ((blocks:Int)+1) (by omega) (by omega)
  obtain ⟨n,hne⟩:∃ n:Nat,aS L e0 ((blocks:Int)+1)=n:=⟨(aS L e0 ((blocks:Int)+1)).toNat,by omega⟩
  rw [hne] at htn hn hst
  rw [Int.toNat_natCast] at hst
  have hWs:=fun k=>uG L S x T most k ([],e0+1)
  have hWl:=fun k=>DW L S x T most ([],e0+1) k
  have hW0:jT L S x T most 0 ([],e0+1)=([],e0+1):=rfl
  obtain ⟨W,hWe⟩:∃ W:Nat→List Bk×Nat,W=fun k=>jT L S x T most k ([],e0+1):=⟨_,rfl⟩
  have hWk:∀ k,jT L S x T most k ([],e0+1)=W k:=fun k=>by rw [hWe]
  simp only [hWk] at hWs hWl hW0 hst
  clear hWe hWk hne
  have hci:(aO (DX T o) S.length)[o]?=some [.nils]:=by
   rw [bE,if_pos hol]
   unfold DX ZM
   rw [if_neg (by omega)]
  have hset0:(aO (DX T o) S.length).set o [.ref 905 0 0 3]=aO (EK T o (.ref 905 0 0 3)) S.length:=by rw [← WC,AJ]
  simp [aQ,hol,hgo,hgx,hOl,Tb.c,hw1]
  (repeat' first|contradiction|exact .ok|apply And.intro|intro _|(apply gc<;>simp+contextual))
  refine aH [1000000] htn (by simp [aQ]) (by simp) ?_
  simp [aQ]
  (repeat' first|contradiction|exact .ok|apply And.intro|intro _|(apply gc<;>simp+contextual))
  refine aL aW (fun k:Nat=>{ s:=cE [(0,.ptr 1000000 0 0),(2,.d (.int .i64 blocks)),(3,.d (.int .i64 most)),(5,.ptr 5 0 0),(8,.ptr 8 0 0),(9,.ptr 9 0 0),(10,.d (.sl (aD O))),(12,.d (.int .i64 o)),(13,.d (.int .i64 o)),(14,.ptr 14 0 0),(15,.d (.int .i64 n)),(16,.d (.int .i64 k))],b:=cC [(1000000,1000000,aQ L (W k).2),(5,5,.var [.d (.sl (S.map Tb.c))]),(8,8,.var [.nils]),(9,9,.var [.ref 901 0 S.length 1]),(901,901,.varr 103 1 (aO (EK T o (.ref 905 0 (W k).1.length 3)) S.length)),(14,14,.var (x.c.map AV.d)),(905,905,.arr 99 3 ((W k).1.map Bk.c) false)] })
   (fun k=>k≤n) (fun k=>n - k) 0 (by simp)
   ((jF 901 905 99 3 o (ety2:=103) (sz2:=1) (cells:=aO (DX T o) S.length) (by simp) hci (by simp) (by decide) (by decide)).trans (aI _ [(1000000,1000000,_),(5,5,_),(8,8,_),(9,9,_),(901,901,_),(14,14,_),(905,905,_)] ⟨by simp,by simp,by simp [aB,Blk.live,aQ,Tb.c,hset0,kH,dP,hW0],bK⟩ (by simp [aB]))) ?_
  intro k hk
  obtain ⟨hWl1,hWl2⟩:=hWl k
  have hkw:k*(1+x.cols.length+x.fk.length)≤100*29:=Nat.mul_le_mul (by omega) (by omega)
  have hBl:(W k).1.length≤100:=by simp at hWl2; omega
  have hcx:∀ hh,(aO (EK T o (.ref 905 0 (W k).1.length 3)) S.length)[o]'hh=[.ref 905 0 (W k).1.length 3]:=fun hh=>by rw [xN hol]; unfold EK; rw [if_pos rfl]
  by_cases hkn:k<n
  ·have hkn':(k:Int)<n:=by omega
   have hwk:=wI (n:=(k:Int)+1)
   have hWn:=hWs k
   generalize hWk1:W (k+1)=W1 at *
   obtain ⟨B,e,hBe⟩:∃ B e,W k=(B,e):=⟨_,_,rfl⟩
   simp only [hBe] at hWl1 hBl hcx hWn ⊢
   clear hWl hWs
   have hee:e≤850000:=by omega
   have hm0:=bB L e (n:=(most:Int)) (by omega)
   have htm:=dH L e (by omega) (most:Int) (by omega) (by omega)
   obtain ⟨q,hq⟩:∃ q:Nat,1+aS L e (most:Int)=q:=⟨(1+aS L e (most:Int)).toNat,by omega⟩
   have hqw:IntKind.i64.wrap (1+aS L e (most:Int))=q:=by rw [hq]; exact bL (by omega) (by omega)
   have hblk:yB L S x T most e=(⟨q,mO L x (e+1) x.cols.length,(lN L S x T (e+1+x.cols.length) x.fk.length).1⟩,(lN L S x T (e+1+x.cols.length) x.fk.length).2):=by
    unfold yB
    rw [hq,Int.toNat_natCast]
   unfold TQ at hWn
   rw [hblk] at hWn
   simp only at hWn
   simp [aQ,hkn',Tb.c]
   (repeat' first|contradiction|exact .ok|apply And.intro|intro _|(apply gc<;>simp+contextual))
   refine aH [1000000] htm (by simp [aQ]) (by simp) ?_
   simp [aQ,hqw]
   (repeat' first|contradiction|exact .ok|apply And.intro|intro _|(apply gc<;>simp+contextual))
   refine aL aW (fun c:Nat=>{ s:=cE [(0,.ptr 1000000 0 0),(2,.d (.int .i64 blocks)),(3,.d (.int .i64 most)),(5,.ptr 5 0 0),(8,.ptr 8 0 0),(9,.ptr 9 0 0),(10,.d (.sl (aD O))),(12,.d (.int .i64 o)),(13,.d (.int .i64 o)),(14,.ptr 14 0 0),(15,.d (.int .i64 n)),(16,.d (.int .i64 k)),(17,.ptr 17 0 0),(18,.d (.int .i64 c))],b:=cC [(1000000,1000000,aQ L (e+1+c:Nat)),(5,5,.var [.d (.sl (S.map Tb.c))]),(8,8,.var [.nils]),(9,9,.var [.ref 901 0 S.length 1]),(901,901,.varr 103 1 (aO (EK T o (.ref 905 0 B.length 3)) S.length)),(14,14,.var (x.c.map AV.d)),(905,905,.arr 99 3 (B.map Bk.c) false),(17,17,.var [.d (.int .i64 q),.ref 906 0 c 3,.nils]),(906,906,.arr 92 3 ((mO L x (e+1) c).map V.c) false)] })
    (fun c=>c≤x.cols.length) (fun c=>x.cols.length - c) 0 (by simp)
    ((iH 17 906 92 3 1 (cells:=[.d (.int .i64 q),.nils,.nils]) (by simp) rfl (by simp) (by decide) (by decide)).trans (aI _ [(1000000,1000000,_),(5,5,_),(8,8,_),(9,9,_),(901,901,_),(14,14,_),(905,905,_),(17,17,_),(906,906,_)] ⟨by simp,by simp,by simp [aB,Blk.live,aQ,Tb.c,kH,dP,mO,aO,bP],bK⟩ (by simp [aB]))) ?_
   intro c hc
   have hVl:(mO L x (e+1) c).length=c:=by unfold mO; rw [dR]
   by_cases hcl:c<x.cols.length
   ·obtain ⟨u,hu⟩:∃ g,g=x.cols[c]:=⟨_,rfl⟩
    have hgu:∀ h,x.cols[c]'h=u:=fun _=>hu.symm
    have hum:u∈x.cols:=by rw [hu]; exact List.getElem_mem hcl
    have hwc:=wI (n:=(c:Int)+1)
    have hsm:=OW L (e+1+c) (by omega) u.t (htyx u hum) u.b
    have hcs:mO L x (e+1) (c+1)=mO L x (e+1) c++[kG L (e+1+c) u.t u.b]:=by
     unfold mO
     rw [aO]
     unfold smC mX
     rw [gE hcl,← hu]
     rfl
    have htk:((mO L x (e+1) c).map V.c).take c=(mO L x (e+1) c).map V.c:=List.take_of_length_le (by simp [hVl])
    generalize kG L (e+1+c) u.t u.b=v at *
    generalize mO L x (e+1) c=VV at *
    simp [aQ,hcl,hgu,Tb.c,Col.c]
    (repeat' first|contradiction|exact .ok|apply And.intro|intro _|(apply gc<;>simp+contextual))
    refine aH [1000000] hsm (by simp [aQ]) (by simp) ?_
    simp [aQ,hVl,V.a,gF (c+1) (by omega) 32 (by decide)]
    (repeat' first|contradiction|exact .ok|apply And.intro|intro _|(apply gc<;>simp+contextual))
    refine ⟨c+1,by omega,?_,by simp; omega⟩
    simp only [hcs]
    refine aI _ [(1000000,1000000,_),(5,5,_),(8,8,_),(9,9,_),(901,901,_),(14,14,_),(905,905,_),(17,17,_),(906,86,_)] ⟨by simp,by simp,by simp [aB,Blk.live,kH,dP,V.c]; try omega,bK⟩ (by simp [aB,hwc])
   obtain rfl:c=x.cols.length:=by omega
   obtain ⟨e2,he2⟩:∃ e2,e2=e+1+x.cols.length:=⟨_,rfl⟩
   rw [← he2] at hWn ⊢
   have hpl:=PA L S x T e2
   have hple:=KP L S x T e2
   have hps:∀ f (hf:f<x.fk.length),lN L S x T e2 (f+1)=((lN L S x T e2 f).1++[aS L (lN L S x T e2 f).2 (T (eR S x.fk[f])).length],sG (lN L S x T e2 f).2 (T (eR S x.fk[f])).length):=fun f hf=>by
    rw [lN,gE hf]
   have hp0:lN L S x T e2 0=([],e2):=rfl
   have hfs:∀ f (hf:f<x.fk.length),tN S x T (f+1)=(tN S x T f&&decide (0<(T (eR S x.fk[f])).length)):=fun f hf=>by
    unfold tN
    rw [bI hf,List.all_append]
    simp
   have hf0:tN S x T 0=true:=rfl
   generalize lN L S x T e2=PB at *
   generalize mO L x (e+1) x.cols.length=VV at *
   generalize tN S x T=FB at *
   simp [aQ,Tb.c]
   (repeat' first|contradiction|exact .ok|apply And.intro|intro _|(apply gc<;>simp+contextual))
   refine aL aW (fun f:Nat=>{ s:=cE [(0,.ptr 1000000 0 0),(2,.d (.int .i64 blocks)),(3,.d (.int .i64 most)),(5,.ptr 5 0 0),(8,.ptr 8 0 0),(9,.ptr 9 0 0),(10,.d (.sl (aD O))),(12,.d (.int .i64 o)),(13,.d (.int .i64 o)),(14,.ptr 14 0 0),(15,.d (.int .i64 n)),(16,.d (.int .i64 k)),(17,.ptr 17 0 0),(19,.d (.bool (FB f))),(20,.d (.int .i64 f))],b:=cC [(1000000,1000000,aQ L (PB f).2),(5,5,.var [.d (.sl (S.map Tb.c))]),(8,8,.var [.nils]),(9,9,.var [.ref 901 0 S.length 1]),(901,901,.varr 103 1 (aO (EK T o (.ref 905 0 B.length 3)) S.length)),(14,14,.var (x.c.map AV.d)),(905,905,.arr 99 3 (B.map Bk.c) false),(17,17,.var [.d (.int .i64 q),.ref 906 0 x.cols.length 3,.ref 907 0 f 1]),(906,906,.arr 92 3 (VV.map V.c) false),(907,907,.arr 3 1 (aD (PB f).1) false)] })
    (fun f=>f≤x.fk.length) (fun f=>x.fk.length - f) 0 (by simp)
    ((iH 17 907 3 1 2 (cells:=[.d (.int .i64 q),.ref 906 0 x.cols.length 3,.nils]) (by simp) rfl (by simp) (by decide) (by decide)).trans (aI _ [(1000000,1000000,_),(5,5,_),(8,8,_),(9,9,_),(901,901,_),(14,14,_),(905,905,_),(17,17,_),(906,906,_),(907,907,_)] ⟨by simp,by simp,by simp [aB,Blk.live,aQ,Tb.c,kH,dP,hp0,bP,aD],bK⟩ (by simp [aB,hf0]))) ?_
   intro f hf
   have hPl:=hpl f hf
   have hPle:=hple f
   by_cases hfl:f<x.fk.length
   ·obtain ⟨g,hg⟩:∃ g,g=x.fk[f]:=⟨_,rfl⟩
    have hgm:g∈x.fk:=by rw [hg]; exact List.getElem_mem hfl
    have hwf:=wI (n:=(f:Int)+1)
    obtain ⟨ht0,ht1⟩:=hdo g hgm
    obtain ⟨to,hte⟩:∃ t:Nat,tgt S g=t:=⟨(tgt S g).toNat,by omega⟩
    have htg:eR S g=to:=by unfold eR; rw [hte]; rfl
    rw [htg] at ht1
    have htl:to<S.length:=by omega
    have hcell:∀ h,(aO (EK T o (.ref 905 0 B.length 3)) S.length)[to]'h=[.d (.sl ((T to).map Bk.c))]:=fun hh=>by rw [xN htl]; unfold EK ZM; rw [if_neg (by omega),if_pos ht1]
    have hTto:=hZ2 to
    have hpsf:=hps f hfl
    have hfsf:=hfs f hfl
    rw [← hg,htg] at hpsf hfsf
    have htz:=aCS L (PB f).2 (by omega) ((T to).length:Int) (by omega)
    generalize aS L (PB f).2 ((T to).length:Int)=nv at *
    generalize sG (PB f).2 ((T to).length:Int)=ni at *
    have hta:=gH S hl h.ok.ok hol hx.symm hfl hg.symm
    rw [cN (show aV (fun y:Tb=>y.n==g.t) S 0=to from hte)] at hta
    have htk:(aD (PB f).1).take f=aD (PB f).1:=List.take_of_length_le (by simp [aD,hPl])
    cases hFB:FB f with
    | false =>
      rw [hFB,Bool.false_and] at hfsf
      simp [aQ,hfl,Tb.c]
      (repeat' first|contradiction|exact .ok|apply And.intro|intro _|(apply gc<;>simp+contextual))
      refine aA hta (by simp [aN]) ?_
      simp [htl,hcell]
      (repeat' first|contradiction|exact .ok|apply And.intro|intro _|(apply gc<;>simp+contextual))
      refine aH [1000000] htz (by simp [aQ]) (by simp) ?_
      simp [aQ,hPl,gF (f+1) (by omega) 8 (by decide)]
      (repeat' first|contradiction|exact .ok|apply And.intro|intro _|(apply gc<;>simp+contextual))
      refine ⟨f+1,by omega,?_,by simp; omega⟩
      refine aI _ [(1000000,1000000,_),(5,5,_),(8,8,_),(9,9,_),(901,901,_),(14,14,_),(905,905,_),(17,17,_),(906,906,_),(907,123,_)] ⟨by simp,by simp,by simp [aB,Blk.live,kH,dP,hpsf,aD],bK⟩ (by simp [aB,hwf,hfsf])
    | true =>
      rw [hFB,Bool.true_and] at hfsf
      have hpos:((0:Int)<(T to).length)↔0<(T to).length:=by omega
      by_cases h0:0<(T to).length
      ·have h0i:(0:Int)<(T to).length:=by omega
       rw [decide_eq_true h0] at hfsf
       simp [aQ,hfl,Tb.c]
       (repeat' first|contradiction|exact .ok|apply And.intro|intro _|(apply gc<;>simp+contextual))
       refine aA hta (by simp [aN]) ?_
       simp [htl,hcell,h0]
       (repeat' first|contradiction|exact .ok|apply And.intro|intro _|(apply gc<;>simp+contextual[h0,h0i]))
       refine aH [1000000] htz (by simp [aQ]) (by simp) ?_
       simp [aQ,hPl,gF (f+1) (by omega) 8 (by decide)]
       (repeat' first|contradiction|exact .ok|apply And.intro|intro _|(apply gc<;>simp+contextual))
       refine ⟨f+1,by omega,?_,by simp; omega⟩
       refine aI _ [(1000000,1000000,_),(5,5,_),(8,8,_),(9,9,_),(901,901,_),(14,14,_),(905,905,_),(17,17,_),(906,906,_),(907,123,_)] ⟨by simp,by simp,by simp [aB,Blk.live,kH,dP,hpsf,aD],bK⟩ (by simp [aB,hwf,hfsf])
      ·have h0i:¬ (0:Int)<(T to).length:=by omega
       rw [decide_eq_false h0] at hfsf
       simp [aQ,hfl,Tb.c]
       (repeat' first|contradiction|exact .ok|apply And.intro|intro _|(apply gc<;>simp+contextual))
       refine aA hta (by simp [aN]) ?_
       simp [htl,hcell,h0]
       (repeat' first|contradiction|exact .ok|apply And.intro|intro _|(apply gc<;>simp+contextual[h0,h0i]))
       refine aH [1000000] htz (by simp [aQ]) (by simp) ?_
       simp [aQ,hPl,gF (f+1) (by omega) 8 (by decide)]
       (repeat' first|contradiction|exact .ok|apply And.intro|intro _|(apply gc<;>simp+contextual))
       refine ⟨f+1,by omega,?_,by simp; omega⟩
       refine aI _ [(1000000,1000000,_),(5,5,_),(8,8,_),(9,9,_),(901,901,_),(14,14,_),(905,905,_),(17,17,_),(906,906,_),(907,123,_)] ⟨by simp,by simp,by simp [aB,Blk.live,kH,dP,hpsf,aD],bK⟩ (by simp [aB,hwf,hfsf])
   obtain rfl:f=x.fk.length:=by omega
   have htV:(VV.map V.c).take x.cols.length=VV.map V.c:=List.take_of_length_le (by simp [hVl])
   have htP:(aD (PB x.fk.length).1).take x.fk.length=aD (PB x.fk.length).1:=List.take_of_length_le (by simp [aD,hPl])
   have htB:(B.map Bk.c).take B.length=B.map Bk.c:=List.take_of_length_le (by simp)
   cases hFB:FB x.fk.length with
   | false =>
     rw [hFB,if_neg (by simp)] at hWn
     simp [aQ,Tb.c]
     (repeat' first|contradiction|exact .ok|apply And.intro|intro _|(apply gc<;>simp+contextual))
     refine ⟨k+1,by omega,?_,by simp; omega⟩
     simp only [hWk1,hWn]
     exact aI _ [(1000000,1000000,_),(5,5,_),(8,8,_),(9,9,_),(901,901,_),(14,14,_),(905,905,_)] ⟨by simp,by simp,by simp [aB,Blk.live,kH,dP],bK⟩ (by simp [aB,hwk])
   | true =>
     rw [hFB,if_pos rfl] at hWn
     simp [aQ,Tb.c,hol,hcx,hVl,hPl,htV,htP,gF (B.length+1) (by omega) 56 (by decide),mU]
     (repeat' first|contradiction|exact .ok|apply And.intro|intro _|(apply gc<;>simp+contextual))
     refine ⟨k+1,by omega,?_,by simp; omega⟩
     simp only [hWk1,hWn]
     exact aI _ [(1000000,1000000,_),(5,5,_),(8,8,_),(9,9,_),(901,901,_),(14,14,_),(905,136,_)] ⟨by simp,by simp,by simp [aB,Blk.live,AJ,kH,dP,Bk.c],bK⟩ (by simp [aB,hwk])
  obtain rfl:k=n:=by omega
  have htB:((W k).1.map Bk.c).take (W k).1.length=(W k).1.map Bk.c:=List.take_of_length_le (by simp)
  simp [aQ,Tb.c]
  (repeat' first|contradiction|exact .ok|apply And.intro|intro _|(apply gc<;>simp+contextual))
  refine ⟨o+1,by omega,?_,by simp; omega⟩
  simp only [hst]
  have hdn:=PD (T:=T) (o:=o) (R:=(W k).1)
  generalize W k=Wk at *
  refine aI _ [(1000000,1000000,_),(5,5,_),(8,8,_),(9,9,_),(901,901,_)] ⟨by simp,by simp,?_,bK⟩ (by simp [aB,hwo])
  simp [aB,Blk.live,kH,dP,EJ,htB,hdn]
 obtain rfl:o=S.length:=by omega
 simp [aQ,hOl]
 (repeat' first|contradiction|exact .ok|apply And.intro|intro _|(apply gc<;>simp+contextual))
 refine AExitTo.mk rfl ?_
 have hdt:Sub En 139 1 { s:=cE [(8,.ptr 8 0 0),(9,.ptr 9 0 0)],b:=cC [(1000000,1000000,aQ L (Z S.length).2),(8,8,.var [.nils]),(9,9,.var [.ref 901 0 S.length 1]),(901,901,.varr 103 1 (aO (DX (Z S.length).1 S.length) S.length))] }
   { s:=cE [(8,.ptr 8 0 0),(9,.ptr 9 0 0)],b:=cC [(1000000,1000000,aQ L (Z S.length).2),(8,8,.var [.nils]),(9,9,.var [.ref 901 0 S.length 1]),(901,901,.arr 103 1 (aO (fun j=>[.sl (((Z S.length).1 j).map Bk.c)]) S.length) false)] }:=by
  refine (zO 901 (ety:=103) (xs:=aO (DX (Z S.length).1 S.length) S.length) (aO (fun j=>[.sl (((Z S.length).1 j).map Bk.c)]) S.length) (by simp) (by simp) ?_).trans (aI _ [(1000000,1000000,_),(8,8,_),(9,9,_),(901,901,_)] ⟨by simp,by simp,by simp [aB,Blk.live,aQ],bK⟩ (by simp [aB]))
  intro j x y hx hy
  rw [bE] at hx hy
  split at hx <;> simp only [Option.some.injEq,reduceCtorEq] at hx
  rename_i hj
  rw [if_pos hj,Option.some.injEq] at hy
  subst hx hy
  refine ⟨_,_,rfl,rfl,?_⟩
  unfold ZM
  rw [if_pos hj]
  rfl
 refine .trans ?_ hdt
 exact aI _ [(1000000,1000000,_),(8,8,_),(9,9,_),(901,901,_)] ⟨by simp,by simp,by simp [aB,Blk.live,aQ,aCF],bK⟩ (by simp [aB])
end Go.Proofs.Tryz
