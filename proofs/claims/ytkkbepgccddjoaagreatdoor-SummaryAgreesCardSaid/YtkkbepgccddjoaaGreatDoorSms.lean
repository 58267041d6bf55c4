import Derived.Test.YtkkbepgccddjoaaGreatDoorASmo
import Derived.Test.YtkkbepgccddjoaaGreatDoorGue
import Derived.Test.YtkkbepgccddjoaaGreatDoorARko
set_option linter.all false
namespace Go.Proofs.Tryz
open Go.Ab
set_option maxRecDepth 100000
set_option maxHeartbeats 8000000
def bstepG (L:List Int) (S:List Tb) (x:Tb) (T:Nat→List Bk) (most:Nat) (y:List Bk×Nat):List Bk×Nat:=(if fineB S x T x.fk.length=true then y.1++[(blkG L S x T most y.2).1] else y.1,(blkG L S x T most y.2).2)
theorem blksG_snoc (L:List Int) (S:List Tb) (x:Tb) (T:Nat→List Bk) (most:Nat):∀ (k:Nat) (y:List Bk×Nat),blksG L S x T most (k+1) y=bstepG L S x T most (blksG L S x T most k y)
 | 0,y=>rfl
 | k+1,y=>by rw [blksG,blksG_snoc L S x T most k]; rfl
theorem parB_le (L:List Int) (S:List Tb) (x:Tb) (T:Nat→List Bk) (b:Nat):∀ f,(parB L S x T b f).2≤b+f
 | 0=>by simp [parB]
 | f+1=>by
   have:=parB_le L S x T b f
   rw [parB]
   split
   ·simp only [nextI]; split <;> omega
   ·omega
theorem parB_len (L:List Int) (S:List Tb) (x:Tb) (T:Nat→List Bk) (b:Nat):∀ f,f≤x.fk.length→(parB L S x T b f).1.length=f
 | 0,_=>rfl
 | f+1,h=>by
   have:=parB_len L S x T b f (by omega)
   rw [parB,List.getElem?_eq_getElem (show f<x.fk.length by omega)]
   simp [this]
theorem blkG_le (L:List Int) (S:List Tb) (x:Tb) (T:Nat→List Bk) (most a:Nat):(blkG L S x T most a).2≤a+(1+x.cols.length+x.fk.length):=by
 have:=parB_le L S x T (a+1+x.cols.length) x.fk.length
 unfold blkG
 simp only
 omega
theorem blksG_le (L:List Int) (S:List Tb) (x:Tb) (T:Nat→List Bk) (most:Nat) (y:List Bk×Nat):∀ k,(blksG L S x T most k y).2≤y.2+k*(1+x.cols.length+x.fk.length)∧(blksG L S x T most k y).1.length≤y.1.length+k
 | 0=>by simp [blksG]
 | k+1=>by
   obtain ⟨h1,h2⟩:=blksG_le L S x T most y k
   have h3:=blkG_le L S x T most (blksG L S x T most k y).2
   rw [blksG_snoc]
   unfold bstepG
   refine ⟨?_,?_⟩
   ·simp only
    rw [Nat.add_mul,Nat.one_mul]
    omega
   ·simp only
    split
    ·simp; omega
    ·omega
theorem smyG_snoc (L:List Int) (S:List Tb) (blocks most:Nat) (z:Int):∀ (r:List Int) (y:(Nat→List Bk)×Nat),smyG L S blocks most (r++[z]) y=smyS L S blocks most z.toNat (smyG L S blocks most r y)
 | [],y=>rfl
 | q::r,y=>by rw [List.cons_append,smyG,smyG,smyG_snoc L S blocks most z r]
theorem upN_snoc:∀ (n j:Nat),upN j (n+1)=upN j n++[((j+n:Nat):Int)]
 | 0,j=>by simp [upN]
 | n+1,j=>by
   rw [upN,upN_snoc n (j+1),upN,List.cons_append]
   rw [show j+1+n=j+(n+1) from by omega]
theorem upN_get:∀ (n j o:Nat),o<n→(upN j n)[o]?=some ((j+o:Nat):Int)
 | 0,j,o,h=>by omega
 | n+1,j,0,_=>by simp [upN]
 | n+1,j,o+1,h=>by
   rw [upN,List.getElem?_cons_succ,upN_get n (j+1) o (by omega)]
   rw [show j+1+o=j+(o+1) from by omega]
def smyT (L:List Int) (S:List Tb) (blocks most a o:Nat):(Nat→List Bk)×Nat:=smyG L S blocks most (upN 0 o) (fun _=>[],a)
theorem smyT_succ (L:List Int) (S:List Tb) (blocks most a o:Nat):smyT L S blocks most a (o+1)=smyS L S blocks most o (smyT L S blocks most a o):=by
 unfold smyT
 rw [upN_snoc,smyG_snoc,Nat.zero_add,Int.toNat_natCast]
theorem tabO_fill {S:List Tb} (h:FillOk S) (i:Nat):(tabO S i).cols.length≤20∧(tabO S i).fk.length≤8:=by
 unfold tabO
 cases hi:S[i]? with
 | none=>simp
 | some x=>exact ⟨h.cols x (List.mem_of_getElem? hi),(h.fk x (List.mem_of_getElem? hi)).1⟩
theorem smyT_le (L:List Int) {S:List Tb} (h:FillOk S) {blocks most a:Nat} (hb:blocks≤100):∀ o,(smyT L S blocks most a o).2≤a+o*2901∧∀ j,((smyT L S blocks most a o).1 j).length≤blocks
 | 0=>⟨by simp [smyT,smyG,upN],fun j=>by simp [smyT,smyG,upN]⟩
 | o+1=>by
   obtain ⟨h1,h2⟩:=smyT_le L h hb (most:=most) (a:=a) o
   obtain ⟨c1,c2⟩:=tabO_fill h o
   have hn:=nextV_in L (smyT L S blocks most a o).2 (n:=(blocks:Int)+1) (by omega)
   obtain ⟨g1,g2⟩:=blksG_le L S (tabO S o) (smyT L S blocks most a o).1 most ([],(smyT L S blocks most a o).2+1) (nextV L (smyT L S blocks most a o).2 (blocks+1)).toNat
   rw [smyT_succ]
   unfold smyS
   have hm:(nextV L (smyT L S blocks most a o).2 (blocks+1)).toNat*(1+(tabO S o).cols.length+(tabO S o).fk.length)≤100*29:=Nat.mul_le_mul (by omega) (by omega)
   refine ⟨?_,fun j=>?_⟩
   ·simp only at g1 ⊢
    omega
   ·simp only [upd]
    split
    ·simp at g2; omega
    ·exact h2 j
def suC (T:Nat→List Bk) (o j:Nat):AV:=if j<o then .d (.sl ((T j).map Bk.c)) else .nils
def suQ (T:Nat→List Bk) (o j:Nat):List AV:=[suC T o j]
def suR (T:Nat→List Bk) (o:Nat) (q:AV) (j:Nat):List AV:=if j=o then [q] else [suC T o j]
theorem cv_suC {T:Nat→List Bk} {o j:Nat} {r:Nat→Option Nat} {bl:Nat→Blk}:(cvA r bl true (suC T o j)).1=suC T o j:=by
 unfold suC
 split <;> simp [cvA]
theorem cv_suQ {T:Nat→List Bk} {o N:Nat} {r:Nat→Option Nat} {bl:Nat→Blk}:(seqF (suQ T o) N).map (fun x=>(cvAs r bl true x).1)=seqF (suQ T o) N:=by
 rw [seqF_map]
 refine seqF_congr fun j _=>?_
 simp [suQ,cvAs,cv_suC]
theorem cv_suR {T:Nat→List Bk} {o:Nat} {q:AV} {N:Nat} {r:Nat→Option Nat} {bl:Nat→Blk}:(seqF (suR T o q) N).map (fun x=>(cvAs r bl true x).1)=seqF (suR T o (cvA r bl true q).1) N:=by
 rw [seqF_map]
 refine seqF_congr fun j _=>?_
 unfold suR
 split
 ·simp [cvAs]
 ·simp [cvAs,cv_suC]
theorem suR_nil {T:Nat→List Bk} {o:Nat}:suR T o .nils=suQ T o:=by
 funext j
 unfold suR suQ
 split
 ·rename_i e
  subst e
  unfold suC
  rw [if_neg (by omega)]
 ·rfl
theorem suR_done {T:Nat→List Bk} {o:Nat} {R:List Bk}:suR T o (.d (.sl (R.map Bk.c)))=suQ (upd T o R) (o+1):=by
 funext j
 unfold suR suQ suC upd
 by_cases e:j=o
 ·subst e
  simp
 ·by_cases h:j<o
  ·simp [e,h,show j<o+1 from by omega]
  ·simp [e,h,show ¬ j<o+1 from by omega]
theorem suR_set {T:Nat→List Bk} {o N:Nat} {q q':AV}:(seqF (suR T o q) N).set o [q']=seqF (suR T o q') N:=by
 rw [seqF_set]
 refine seqF_congr fun j _=>?_
 unfold suR
 split <;> rfl
theorem suQ_zero {T:Nat→List Bk} {N:Nat}:seqF (suQ T 0) N=List.replicate N [.nils]:=by
 rw [seqF_rep]
 exact seqF_congr fun j _=>by simp [suQ,suC]
theorem t_summary (L:List Int) (S:List Tb) (h:FillOk S) (hd:Dec S) (blocks most:Nat) (hb:blocks≤100) (hm1:1≤most) (hm:most≤1000) (a:Nat) (ha:a≤800000) :
  Cf En 10 [.ptr 1000000 0 0,schA S,.d (.int .i64 blocks),.d (.int .i64 most)] [tapB L a] (smyA (seqF (smyT L S blocks most a S.length).1 S.length)) [tapB L (smyT L S blocks most a S.length).2]:=by
 refine cf_intro mix (fn:=Tryz.f10) (by kernel_rfl) rfl (by kernel_rfl) (by decide) (by simp) ?_
 have hl:=h.ok.len
 have hfew:=h.few
 have hor:=r3_order S hl h.ok.ok
 rw [ordS_dec hd] at hor
 have hOl:=upN_len S.length 0
 have hOg:∀ o,o<S.length→(upN 0 S.length)[o]?=some (o:Int):=fun o ho=>by
  have:=upN_get S.length 0 o ho
  rwa [Nat.zero_add] at this
 obtain ⟨O,hOe⟩:∃ O,O=upN 0 S.length:=⟨_,rfl⟩
 rw [← hOe] at hor hOl hOg
 clear hOe
 have hbound:=smyT_le L h hb (most:=most) (a:=a)
 have hstep:=smyT_succ L S blocks most a
 have hz0:smyT L S blocks most a 0=(fun _=>[],a):=rfl
 generalize smyT L S blocks most a=Z at *
 have hsz2:=(mk8 S.length hl).1
 simp [schA,tapB,hsz2,show 24*(S.length:Int)≤281474976710656 from by omega]
 (repeat' (first|contradiction|exact .ok|apply And.intro|intro _|(refine gc (fun h=>?_) (fun h=>?_)<;>(have h':=h;(try simp at h');first|done|simp[h,h']|simp))))
 refine acallT_plain hor (by simp [schA]) ?_
 simp
 (repeat' (first|contradiction|exact .ok|apply And.intro|intro _|(refine gc (fun h=>?_) (fun h=>?_)<;>(have h':=h;(try simp at h');first|done|simp[h,h']|simp))))
 refine aloopC mix (by decide) (fun o:Nat=>{ s:=mkS [(0,.ptr 1000000 0 0),(2,.d (.int .i64 blocks)),(3,.d (.int .i64 most)),(5,.ptr 5 0 0),(8,.ptr 8 0 0),(9,.ptr 9 0 0),(10,.d (.sl (ints O))),(12,.d (.int .i64 o))],b:=mkB [(1000000,1000000,tapB L (Z o).2),(5,5,.var [.d (.sl (S.map Tb.c))]),(8,8,.var [.nils]),(9,9,.var [.ref 901 0 S.length 1]),(901,901,.varr 103 1 (seqF (suQ (Z o).1 o) S.length))] })
  (fun o=>o≤S.length) (fun o=>S.length - o) 0 (by simp) 0
  { s:=mkS [(8,.ptr 8 0 0),(9,.ptr 9 0 0)],b:=mkB [(1000000,1000000,tapB L (Z S.length).2),(8,8,.var [.nils]),(9,9,.var [.ref 901 0 S.length 1]),(901,901,.arr 103 1 (seqF (fun j=>[.sl (((Z S.length).1 j).map Bk.c)]) S.length) false)] }
  ((sub_nils 26 (m:=S.length) (ety:=103) (by simp [nilD])).trans (sub_mk _ [(1000000,1000000,_),(5,5,_),(8,8,_),(9,9,_),(901,26,_)] ⟨by simp,by simp,by simp [renOf,Blk.live,tapB,hz0,suQ_zero],base1⟩ (by simp [renOf]))) ?_ ?_
 rotate_left
 ·have htk:∀ f:Nat→List D,(seqF f S.length).take S.length=seqF f S.length:=fun f=>List.take_of_length_le (by simp)
  simp [tapB,htk,smyA,seqF_map,bkD]
  (repeat' (first|contradiction|exact .ok|apply And.intro|intro _|(refine gc (fun h=>?_) (fun h=>?_)<;>(have h':=h;(try simp at h');first|done|simp[h,h']|simp))))
  all_goals (try simp [tapB,htk,smyA,seqF_map,bkD])
 intro o ho
 by_cases hol:o<S.length
 ·obtain ⟨x,hx⟩:∃ x,x=S[o]:=⟨_,rfl⟩
  have hgx:∀ h,S[o]'h=x:=fun _=>hx.symm
  have hxm:x∈S:=by rw [hx]; exact List.getElem_mem hol
  have hoO:o<O.length:=by omega
  have hgo:∀ h,O[o]'h=(o:Int):=fun h=>by
   have:=hOg o hol
   rw [List.getElem?_eq_getElem h] at this
   exact Option.some.inj this
  have htab:tabO S o=x:=by unfold tabO; rw [List.getElem?_eq_getElem hol,← hx]; rfl
  have hcols:=h.cols x hxm
  obtain ⟨hf8,hfx⟩:=h.fk x hxm
  have htyx:=h.ty x hxm
  have hdo:=hd o hol
  rw [htab] at hdo
  have hwo:=wrap_in (n:=(o:Int)+1) (by omega) (by omega)
  have hw1:=wrap_in (n:=(blocks:Int)+1) (by omega) (by omega)
  have hst:=hstep o
  obtain ⟨hZ1,hZ2⟩:=hbound o
  obtain ⟨T,e0,hZ⟩:∃ T e0,Z o=(T,e0):=⟨_,_,rfl⟩
  rw [hZ] at hst hZ1 hZ2
  unfold smyS at hst
  rw [htab] at hst
  simp only [hZ] at hst hZ1 hZ2 ⊢
  have he0:e0≤840000:=by omega
  have hn:=nextV_in L e0 (n:=(blocks:Int)+1) (by omega)
  have htn:=t_next1 L e0 (by omega) ((blocks:Int)+1) (by omega) (by omega)
  obtain ⟨n,hne⟩:∃ n:Nat,nextV L e0 ((blocks:Int)+1)=n:=⟨(nextV L e0 ((blocks:Int)+1)).toNat,by omega⟩
  rw [hne] at htn hn hst
  rw [Int.toNat_natCast] at hst
  have hWs:=fun k=>blksG_snoc L S x T most k ([],e0+1)
  have hWl:=fun k=>blksG_le L S x T most ([],e0+1) k
  have hW0:blksG L S x T most 0 ([],e0+1)=([],e0+1):=rfl
  obtain ⟨W,hWe⟩:∃ W:Nat→List Bk×Nat,W=fun k=>blksG L S x T most k ([],e0+1):=⟨_,rfl⟩
  have hWk:∀ k,blksG L S x T most k ([],e0+1)=W k:=fun k=>by rw [hWe]
  simp only [hWk] at hWs hWl hW0 hst
  clear hWe hWk hne
  have hci:(seqF (suQ T o) S.length)[o]?=some [.nils]:=by
   rw [seqF_get,if_pos hol]
   unfold suQ suC
   rw [if_neg (by omega)]
  have hset0:(seqF (suQ T o) S.length).set o [.ref 905 0 0 3]=seqF (suR T o (.ref 905 0 0 3)) S.length:=by rw [← suR_nil,suR_set]
  simp [tapB,hol,hoO,hgo,hgx,hOl,Tb.c,hw1]
  (repeat' (first|contradiction|exact .ok|apply And.intro|intro _|(refine gc (fun h=>?_) (fun h=>?_)<;>(have h':=h;(try simp at h');first|done|simp[h,h']|simp))))
  refine acallT_hand [1000000] htn (by simp) (by simp) (by simp) (by simp [tapB]) (by simp [hw1]) ?_
  simp [tapB,Tb.c]
  (repeat' (first|contradiction|exact .ok|apply And.intro|intro _|(refine gc (fun h=>?_) (fun h=>?_)<;>(have h':=h;(try simp at h');first|done|simp[h,h']|simp))))
  refine aloopT mix (by decide) (fun k:Nat=>{ s:=mkS [(0,.ptr 1000000 0 0),(2,.d (.int .i64 blocks)),(3,.d (.int .i64 most)),(5,.ptr 5 0 0),(8,.ptr 8 0 0),(9,.ptr 9 0 0),(10,.d (.sl (ints O))),(12,.d (.int .i64 o)),(13,.d (.int .i64 o)),(14,.ptr 14 0 0),(15,.d (.int .i64 n)),(16,.d (.int .i64 k))],b:=mkB [(1000000,1000000,tapB L (W k).2),(5,5,.var [.d (.sl (S.map Tb.c))]),(8,8,.var [.nils]),(9,9,.var [.ref 901 0 S.length 1]),(901,901,.varr 103 1 (seqF (suR T o (.ref 905 0 (W k).1.length 3)) S.length)),(14,14,.var (x.c.map AV.d)),(905,905,.arr 99 3 ((W k).1.map Bk.c) false)] })
   (fun k=>k≤n) (fun k=>n - k) 0 (by simp)
   ((sub_nilv 901 905 99 3 o (ety2:=103) (sz2:=1) (cells:=seqF (suQ T o) S.length) (by simp) hci (by simp) (by decide) (by decide)).trans (sub_mk _ [(1000000,1000000,_),(5,5,_),(8,8,_),(9,9,_),(901,901,_),(14,14,_),(905,905,_)] ⟨by simp,by simp,by simp [renOf,Blk.live,tapB,Tb.c,hset0,cv_suR,cvA,hW0],base1⟩ (by simp [renOf]))) ?_
  intro k hk
  obtain ⟨hWl1,hWl2⟩:=hWl k
  have hkw:k*(1+x.cols.length+x.fk.length)≤100*29:=Nat.mul_le_mul (by omega) (by omega)
  have hBl:(W k).1.length≤100:=by simp at hWl2; omega
  have hcx:∀ hh,(seqF (suR T o (.ref 905 0 (W k).1.length 3)) S.length)[o]'hh=[.ref 905 0 (W k).1.length 3]:=fun hh=>by rw [gd_get hol]; unfold suR; rw [if_pos rfl]
  by_cases hkn:k<n
  ·have hkn':(k:Int)<n:=by omega
   have hwk:=wrap_in (n:=(k:Int)+1) (by omega) (by omega)
   have hWn:=hWs k
   generalize hWk1:W (k+1)=W1 at *
   obtain ⟨B,e,hBe⟩:∃ B e,W k=(B,e):=⟨_,_,rfl⟩
   simp only [hBe] at hWl1 hBl hcx hWn ⊢
   clear hWl hWs
   have hee:e≤850000:=by omega
   have hm0:=nextV_in L e (n:=(most:Int)) (by omega)
   have htm:=t_next1 L e (by omega) (most:Int) (by omega) (by omega)
   obtain ⟨q,hq⟩:∃ q:Nat,1+nextV L e (most:Int)=q:=⟨(1+nextV L e (most:Int)).toNat,by omega⟩
   have hqw:IntKind.i64.wrap (1+nextV L e (most:Int))=q:=by rw [hq]; exact wrap_in (by omega) (by omega)
   have hblk:blkG L S x T most e=(⟨q,valB2 L x (e+1) x.cols.length,(parB L S x T (e+1+x.cols.length) x.fk.length).1⟩,(parB L S x T (e+1+x.cols.length) x.fk.length).2):=by
    unfold blkG
    rw [hq,Int.toNat_natCast]
   unfold bstepG at hWn
   rw [hblk] at hWn
   simp only at hWn
   simp [tapB,hkn,hkn',Tb.c]
   (repeat' (first|contradiction|exact .ok|apply And.intro|intro _|(refine gc (fun h=>?_) (fun h=>?_)<;>(have h':=h;(try simp at h');first|done|simp[h,h']|simp))))
   refine acallT_hand [1000000] htm (by simp) (by simp) (by simp) (by simp [tapB]) (by simp) ?_
   simp [tapB,hqw,Tb.c]
   (repeat' (first|contradiction|exact .ok|apply And.intro|intro _|(refine gc (fun h=>?_) (fun h=>?_)<;>(have h':=h;(try simp at h');first|done|simp[h,h']|simp))))
   refine aloopT mix (by decide) (fun c:Nat=>{ s:=mkS [(0,.ptr 1000000 0 0),(2,.d (.int .i64 blocks)),(3,.d (.int .i64 most)),(5,.ptr 5 0 0),(8,.ptr 8 0 0),(9,.ptr 9 0 0),(10,.d (.sl (ints O))),(12,.d (.int .i64 o)),(13,.d (.int .i64 o)),(14,.ptr 14 0 0),(15,.d (.int .i64 n)),(16,.d (.int .i64 k)),(17,.ptr 17 0 0),(18,.d (.int .i64 c))],b:=mkB [(1000000,1000000,tapB L (e+1+c:Nat)),(5,5,.var [.d (.sl (S.map Tb.c))]),(8,8,.var [.nils]),(9,9,.var [.ref 901 0 S.length 1]),(901,901,.varr 103 1 (seqF (suR T o (.ref 905 0 B.length 3)) S.length)),(14,14,.var (x.c.map AV.d)),(905,905,.arr 99 3 (B.map Bk.c) false),(17,17,.var [.d (.int .i64 q),.ref 906 0 c 3,.nils]),(906,906,.arr 92 3 ((valB2 L x (e+1) c).map V.c) false)] })
    (fun c=>c≤x.cols.length) (fun c=>x.cols.length - c) 0 (by simp)
    ((sub_nilc 17 906 92 3 1 (cells:=[.d (.int .i64 q),.nils,.nils]) (by simp) rfl (by simp) (by decide) (by decide)).trans (sub_mk _ [(1000000,1000000,_),(5,5,_),(8,8,_),(9,9,_),(901,901,_),(14,14,_),(905,905,_),(17,17,_),(906,906,_)] ⟨by simp,by simp,by simp [renOf,Blk.live,tapB,Tb.c,cv_suR,cvA,valB2,seqF,upd],base1⟩ (by simp [renOf]))) ?_
   intro c hc
   have hVl:(valB2 L x (e+1) c).length=c:=by unfold valB2; rw [seqF_len]
   by_cases hcl:c<x.cols.length
   ·obtain ⟨u,hu⟩:∃ g,g=x.cols[c]:=⟨_,rfl⟩
    have hgu:∀ h,x.cols[c]'h=u:=fun _=>hu.symm
    have hum:u∈x.cols:=by rw [hu]; exact List.getElem_mem hcl
    have hwc:=wrap_in (n:=(c:Int)+1) (by omega) (by omega)
    have hsm:=t_smallB L (e+1+c) (by omega) u.t (htyx u hum) u.b
    have hcs:valB2 L x (e+1) (c+1)=valB2 L x (e+1) c++[smallB L (e+1+c) u.t u.b]:=by
     unfold valB2
     rw [seqF]
     unfold smC colO
     rw [List.getElem?_eq_getElem hcl,← hu]
     rfl
    have htk:((valB2 L x (e+1) c).map V.c).take c=(valB2 L x (e+1) c).map V.c:=List.take_of_length_le (by simp [hVl])
    generalize smallB L (e+1+c) u.t u.b=v at *
    generalize valB2 L x (e+1) c=VV at *
    simp [tapB,hcl,hgu,Tb.c,Col.c]
    (repeat' (first|contradiction|exact .ok|apply And.intro|intro _|(refine gc (fun h=>?_) (fun h=>?_)<;>(have h':=h;(try simp at h');first|done|simp[h,h']|simp))))
    refine acallT_hand [1000000] hsm (by simp) (by simp) (by simp) (by simp [tapB]) (by simp) ?_
    simp [tapB,hVl,htk,V.a,V.c,szs c (by omega) 32 (by decide),szs (c+1) (by omega) 32 (by decide)]
    (repeat' (first|contradiction|exact .ok|apply And.intro|intro _|(refine gc (fun h=>?_) (fun h=>?_)<;>(have h':=h;(try simp at h');first|done|simp[h,h']|simp))))
    refine ⟨c+1,by omega,?_,by simp; omega⟩
    simp only [hcs]
    refine sub_mk _ [(1000000,1000000,_),(5,5,_),(8,8,_),(9,9,_),(901,901,_),(14,14,_),(905,905,_),(17,17,_),(906,86,_)] ⟨by simp,by simp,by simp [renOf,Blk.live,tapB,Tb.c,cv_suR,cvA,V.c]; try omega,base1⟩ (by simp [renOf,hwc])
   obtain rfl:c=x.cols.length:=by omega
   obtain ⟨e2,he2⟩:∃ e2,e2=e+1+x.cols.length:=⟨_,rfl⟩
   rw [← he2] at hWn ⊢
   have hpl:=parB_len L S x T e2
   have hple:=parB_le L S x T e2
   have hps:∀ f (hf:f<x.fk.length),parB L S x T e2 (f+1)=((parB L S x T e2 f).1++[nextV L (parB L S x T e2 f).2 (T (tgN S x.fk[f])).length],nextI (parB L S x T e2 f).2 (T (tgN S x.fk[f])).length):=fun f hf=>by
    rw [parB,List.getElem?_eq_getElem hf]
   have hp0:parB L S x T e2 0=([],e2):=rfl
   have hfs:∀ f (hf:f<x.fk.length),fineB S x T (f+1)=(fineB S x T f&&decide (0<(T (tgN S x.fk[f])).length)):=fun f hf=>by
    unfold fineB
    rw [take_snoc hf,List.all_append]
    simp
   have hf0:fineB S x T 0=true:=rfl
   generalize parB L S x T e2=PB at *
   generalize valB2 L x (e+1) x.cols.length=VV at *
   generalize fineB S x T=FB at *
   simp [tapB,Tb.c]
   (repeat' (first|contradiction|exact .ok|apply And.intro|intro _|(refine gc (fun h=>?_) (fun h=>?_)<;>(have h':=h;(try simp at h');first|done|simp[h,h']|simp))))
   refine aloopT mix (by decide) (fun f:Nat=>{ s:=mkS [(0,.ptr 1000000 0 0),(2,.d (.int .i64 blocks)),(3,.d (.int .i64 most)),(5,.ptr 5 0 0),(8,.ptr 8 0 0),(9,.ptr 9 0 0),(10,.d (.sl (ints O))),(12,.d (.int .i64 o)),(13,.d (.int .i64 o)),(14,.ptr 14 0 0),(15,.d (.int .i64 n)),(16,.d (.int .i64 k)),(17,.ptr 17 0 0),(19,.d (.bool (FB f))),(20,.d (.int .i64 f))],b:=mkB [(1000000,1000000,tapB L (PB f).2),(5,5,.var [.d (.sl (S.map Tb.c))]),(8,8,.var [.nils]),(9,9,.var [.ref 901 0 S.length 1]),(901,901,.varr 103 1 (seqF (suR T o (.ref 905 0 B.length 3)) S.length)),(14,14,.var (x.c.map AV.d)),(905,905,.arr 99 3 (B.map Bk.c) false),(17,17,.var [.d (.int .i64 q),.ref 906 0 x.cols.length 3,.ref 907 0 f 1]),(906,906,.arr 92 3 (VV.map V.c) false),(907,907,.arr 3 1 (ints (PB f).1) false)] })
    (fun f=>f≤x.fk.length) (fun f=>x.fk.length - f) 0 (by simp)
    ((sub_nilc 17 907 3 1 2 (cells:=[.d (.int .i64 q),.ref 906 0 x.cols.length 3,.nils]) (by simp) rfl (by simp) (by decide) (by decide)).trans (sub_mk _ [(1000000,1000000,_),(5,5,_),(8,8,_),(9,9,_),(901,901,_),(14,14,_),(905,905,_),(17,17,_),(906,906,_),(907,907,_)] ⟨by simp,by simp,by simp [renOf,Blk.live,tapB,Tb.c,cv_suR,cvA,hp0,upd,ints],base1⟩ (by simp [renOf,hf0]))) ?_
   intro f hf
   have hPl:=hpl f hf
   have hPle:=hple f
   by_cases hfl:f<x.fk.length
   ·obtain ⟨g,hg⟩:∃ g,g=x.fk[f]:=⟨_,rfl⟩
    have hgm:g∈x.fk:=by rw [hg]; exact List.getElem_mem hfl
    have hwf:=wrap_in (n:=(f:Int)+1) (by omega) (by omega)
    obtain ⟨ht0,ht1⟩:=hdo g hgm
    obtain ⟨to,hte⟩:∃ t:Nat,tgt S g=t:=⟨(tgt S g).toNat,by omega⟩
    have htg:tgN S g=to:=by unfold tgN; rw [hte]; rfl
    rw [htg] at ht1
    have htl:to<S.length:=by omega
    have hcell:∀ h,(seqF (suR T o (.ref 905 0 B.length 3)) S.length)[to]'h=[.d (.sl ((T to).map Bk.c))]:=fun hh=>by rw [gd_get htl]; unfold suR suC; rw [if_neg (by omega),if_pos ht1]
    have hTto:=hZ2 to
    have hpsf:=hps f hfl
    have hfsf:=hfs f hfl
    rw [← hg,htg] at hpsf hfsf
    have htz:=t_next L (PB f).2 (by omega) ((T to).length:Int) (by omega)
    generalize nextV L (PB f).2 ((T to).length:Int)=nv at *
    generalize nextI (PB f).2 ((T to).length:Int)=ni at *
    have hta:=r3_target S hl h.ok.ok hol hx.symm hfl hg.symm
    rw [place_at (show fidx (fun y:Tb=>y.n==g.t) S 0=to from hte)] at hta
    have htk:(ints (PB f).1).take f=ints (PB f).1:=List.take_of_length_le (by simp [ints,hPl])
    cases hFB:FB f with
    | false =>
      rw [hFB,Bool.false_and] at hfsf
      simp [tapB,hfl,Tb.c]
      (repeat' (first|contradiction|exact .ok|apply And.intro|intro _|(refine gc (fun h=>?_) (fun h=>?_)<;>(have h':=h;(try simp at h');first|done|simp[h,h']|simp))))
      refine acallT_plain hta (by simp [schA]) ?_
      simp [tapB,htl,hcell]
      (repeat' (first|contradiction|exact .ok|apply And.intro|intro _|(refine gc (fun h=>?_) (fun h=>?_)<;>(have h':=h;(try simp at h');first|done|simp[h,h']|simp))))
      refine acallT_hand [1000000] htz (by simp) (by simp) (by simp) (by simp [tapB]) (by simp) ?_
      simp [tapB,hPl,htk,szs f (by omega) 8 (by decide),szs (f+1) (by omega) 8 (by decide)]
      (repeat' (first|contradiction|exact .ok|apply And.intro|intro _|(refine gc (fun h=>?_) (fun h=>?_)<;>(have h':=h;(try simp at h');first|done|simp[h,h']|simp))))
      refine ⟨f+1,by omega,?_,by simp; omega⟩
      refine sub_mk _ [(1000000,1000000,_),(5,5,_),(8,8,_),(9,9,_),(901,901,_),(14,14,_),(905,905,_),(17,17,_),(906,906,_),(907,123,_)] ⟨by simp,by simp,by simp [renOf,Blk.live,tapB,Tb.c,cv_suR,cvA,hpsf,ints],base1⟩ (by simp [renOf,hwf,hfsf])
    | true =>
      rw [hFB,Bool.true_and] at hfsf
      have hpos:((0:Int)<(T to).length)↔0<(T to).length:=by omega
      by_cases h0:0<(T to).length
      ·have h0i:(0:Int)<(T to).length:=by omega
       rw [decide_eq_true h0] at hfsf
       simp [tapB,hfl,Tb.c]
       (repeat' (first|contradiction|exact .ok|apply And.intro|intro _|(refine gc (fun h=>?_) (fun h=>?_)<;>(have h':=h;(try simp at h');first|done|simp[h,h']|simp))))
       refine acallT_plain hta (by simp [schA]) ?_
       simp [tapB,htl,hcell,h0,h0i]
       (repeat' (first|contradiction|exact .ok|apply And.intro|intro _|(refine gc (fun h=>?_) (fun h=>?_)<;>(have h':=h;(try simp at h');first|done|simp[h,h',h0,h0i]|simp[h0,h0i]))))
       refine acallT_hand [1000000] htz (by simp) (by simp) (by simp) (by simp [tapB]) (by simp) ?_
       simp [tapB,hPl,htk,szs f (by omega) 8 (by decide),szs (f+1) (by omega) 8 (by decide)]
       (repeat' (first|contradiction|exact .ok|apply And.intro|intro _|(refine gc (fun h=>?_) (fun h=>?_)<;>(have h':=h;(try simp at h');first|done|simp[h,h']|simp))))
       refine ⟨f+1,by omega,?_,by simp; omega⟩
       refine sub_mk _ [(1000000,1000000,_),(5,5,_),(8,8,_),(9,9,_),(901,901,_),(14,14,_),(905,905,_),(17,17,_),(906,906,_),(907,123,_)] ⟨by simp,by simp,by simp [renOf,Blk.live,tapB,Tb.c,cv_suR,cvA,hpsf,ints],base1⟩ (by simp [renOf,hwf,hfsf])
      ·have h0i:¬ (0:Int)<(T to).length:=by omega
       rw [decide_eq_false h0] at hfsf
       simp [tapB,hfl,Tb.c]
       (repeat' (first|contradiction|exact .ok|apply And.intro|intro _|(refine gc (fun h=>?_) (fun h=>?_)<;>(have h':=h;(try simp at h');first|done|simp[h,h']|simp))))
       refine acallT_plain hta (by simp [schA]) ?_
       simp [tapB,htl,hcell,h0,h0i]
       (repeat' (first|contradiction|exact .ok|apply And.intro|intro _|(refine gc (fun h=>?_) (fun h=>?_)<;>(have h':=h;(try simp at h');first|done|simp[h,h',h0,h0i]|simp[h0,h0i]))))
       refine acallT_hand [1000000] htz (by simp) (by simp) (by simp) (by simp [tapB]) (by simp) ?_
       simp [tapB,hPl,htk,szs f (by omega) 8 (by decide),szs (f+1) (by omega) 8 (by decide)]
       (repeat' (first|contradiction|exact .ok|apply And.intro|intro _|(refine gc (fun h=>?_) (fun h=>?_)<;>(have h':=h;(try simp at h');first|done|simp[h,h']|simp))))
       refine ⟨f+1,by omega,?_,by simp; omega⟩
       refine sub_mk _ [(1000000,1000000,_),(5,5,_),(8,8,_),(9,9,_),(901,901,_),(14,14,_),(905,905,_),(17,17,_),(906,906,_),(907,123,_)] ⟨by simp,by simp,by simp [renOf,Blk.live,tapB,Tb.c,cv_suR,cvA,hpsf,ints],base1⟩ (by simp [renOf,hwf,hfsf])
   obtain rfl:f=x.fk.length:=by omega
   have htV:(VV.map V.c).take x.cols.length=VV.map V.c:=List.take_of_length_le (by simp [hVl])
   have htP:(ints (PB x.fk.length).1).take x.fk.length=ints (PB x.fk.length).1:=List.take_of_length_le (by simp [ints,hPl])
   have htB:(B.map Bk.c).take B.length=B.map Bk.c:=List.take_of_length_le (by simp)
   cases hFB:FB x.fk.length with
   | false =>
     rw [hFB,if_neg (by simp)] at hWn
     simp [tapB,Tb.c]
     (repeat' (first|contradiction|exact .ok|apply And.intro|intro _|(refine gc (fun h=>?_) (fun h=>?_)<;>(have h':=h;(try simp at h');first|done|simp[h,h']|simp))))
     refine ⟨k+1,by omega,?_,by simp; omega⟩
     simp only [hWk1,hWn]
     exact sub_mk _ [(1000000,1000000,_),(5,5,_),(8,8,_),(9,9,_),(901,901,_),(14,14,_),(905,905,_)] ⟨by simp,by simp,by simp [renOf,Blk.live,tapB,Tb.c,cv_suR,cvA],base1⟩ (by simp [renOf,hwk])
   | true =>
     rw [hFB,if_pos rfl] at hWn
     simp [tapB,Tb.c,hol,hcx,hVl,hPl,htV,htP,htB,szs B.length (by omega) 56 (by decide),szs (B.length+1) (by omega) 56 (by decide),ints_len]
     (repeat' (first|contradiction|exact .ok|apply And.intro|intro _|(refine gc (fun h=>?_) (fun h=>?_)<;>(have h':=h;(try simp at h');first|done|simp[h,h']|simp))))
     refine ⟨k+1,by omega,?_,by simp; omega⟩
     simp only [hWk1,hWn]
     exact sub_mk _ [(1000000,1000000,_),(5,5,_),(8,8,_),(9,9,_),(901,901,_),(14,14,_),(905,136,_)] ⟨by simp,by simp,by simp [renOf,Blk.live,tapB,Tb.c,suR_set,cv_suR,cvA,Bk.c],base1⟩ (by simp [renOf,hwk])
  obtain rfl:k=n:=by omega
  have htB:((W k).1.map Bk.c).take (W k).1.length=(W k).1.map Bk.c:=List.take_of_length_le (by simp)
  simp [tapB,Tb.c]
  (repeat' (first|contradiction|exact .ok|apply And.intro|intro _|(refine gc (fun h=>?_) (fun h=>?_)<;>(have h':=h;(try simp at h');first|done|simp[h,h']|simp))))
  refine ⟨o+1,by omega,?_,by simp; omega⟩
  simp only [hst]
  have hdn:=suR_done (T:=T) (o:=o) (R:=(W k).1)
  generalize W k=Wk at *
  refine sub_mk _ [(1000000,1000000,_),(5,5,_),(8,8,_),(9,9,_),(901,901,_)] ⟨by simp,by simp,?_,base1⟩ (by simp [renOf,hwo])
  simp [renOf,Blk.live,tapB,cv_suR,cvA,toD,htB,hdn]
 obtain rfl:o=S.length:=by omega
 simp [tapB,hOl]
 (repeat' (first|contradiction|exact .ok|apply And.intro|intro _|(refine gc (fun h=>?_) (fun h=>?_)<;>(have h':=h;(try simp at h');first|done|simp[h,h']|simp))))
 refine AExitTo.mk rfl ?_
 have hdt:Sub En 139 1 { s:=mkS [(8,.ptr 8 0 0),(9,.ptr 9 0 0)],b:=mkB [(1000000,1000000,tapB L (Z S.length).2),(8,8,.var [.nils]),(9,9,.var [.ref 901 0 S.length 1]),(901,901,.varr 103 1 (seqF (suQ (Z S.length).1 S.length) S.length))] }
   { s:=mkS [(8,.ptr 8 0 0),(9,.ptr 9 0 0)],b:=mkB [(1000000,1000000,tapB L (Z S.length).2),(8,8,.var [.nils]),(9,9,.var [.ref 901 0 S.length 1]),(901,901,.arr 103 1 (seqF (fun j=>[.sl (((Z S.length).1 j).map Bk.c)]) S.length) false)] }:=by
  refine (sub_dat 901 (ety:=103) (xs:=seqF (suQ (Z S.length).1 S.length) S.length) (seqF (fun j=>[.sl (((Z S.length).1 j).map Bk.c)]) S.length) (by simp) (by simp) ?_).trans (sub_mk _ [(1000000,1000000,_),(8,8,_),(9,9,_),(901,901,_)] ⟨by simp,by simp,by simp [renOf,Blk.live,tapB],base1⟩ (by simp [renOf]))
  intro j x y hx hy
  rw [seqF_get] at hx hy
  split at hx <;> simp only [Option.some.injEq,reduceCtorEq] at hx
  rename_i hj
  rw [if_pos hj,Option.some.injEq] at hy
  subst hx hy
  refine ⟨_,_,rfl,rfl,?_⟩
  unfold suC
  rw [if_pos hj]
  rfl
 refine .trans ?_ hdt
 exact sub_mk _ [(1000000,1000000,_),(8,8,_),(9,9,_),(901,901,_)] ⟨by simp,by simp,by simp [renOf,Blk.live,tapB,cv_suQ],base1⟩ (by simp [renOf])
end Go.Proofs.Tryz
