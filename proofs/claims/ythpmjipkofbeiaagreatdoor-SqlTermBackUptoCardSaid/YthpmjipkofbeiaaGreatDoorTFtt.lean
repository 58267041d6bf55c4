import Derived.Test.YthpmjipkofbeiaaGreatDoorNamS
import Derived.Test.YthpmjipkofbeiaaGreatDoorTShy
import Derived.Test.YthpmjipkofbeiaaGreatDoorTFdx
import Derived.Test.YthpmjipkofbeiaaGreatDoorTSqyRow
import Derived.Test.YthpmjipkofbeiaaGreatDoorAbB
import Derived.Shelf.Small.Strs
import Derived.Test.YthpmjipkofbeiaaGreatDoorProg
import Derived.Test.YthpmjipkofbeiaaGreatDoorTPru
set_option linter.all false
namespace Go.Proofs.Tryz

end Go.Proofs.Tryz
namespace Go.Proofs.Tryz
open Go.Ab
set_option maxRecDepth 100000
set_option maxHeartbeats 2000000
def arity (o:Int) (k:Nat):Bool :=
 if o=11∨o=13∨o=21∨o=24∨o=25 then k==1
 else if o=26 then k==3
 else if o=28 then decide (2≤k)
 else decide (6≤o)&&(decide (o≤28)&&k==2)
def okK (o y n:Int) (t q:List UInt8) (k:Nat):Bool :=
 if o=1 then decide (1≤y)&&(decide (y≤3)&&(k==0&&(n==0&&(t==[]&&q==[]))))
 else if o=2 then (V.mk 1 n []).valid&&(k==0&&(y==0&&(t==[]&&q==[])))
 else if o=3 then (n==0||n==1)&&(k==0&&(y==0&&(t==[]&&q==[])))
 else if o=4 then (V.mk 3 0 t).valid&&(k==0&&(y==0&&(n==0&&q==[])))
 else if o=40 then nameOk words t&&((q==[]||nameOk words q)&&(k==0&&(y==0&&n==0)))
 else if o=41 then decide (1≤n)&&(decide (n≤6)&&((if n=1 then k==0 else k==1)&&(y==0&&(t==[]&&q==[]))))
 else arity o k&&(y==0&&(n==0&&(t==[]&&q==[])))
mutual
def Tm.right:Tm→Bool
 | .mk o y n t q ks=>okK o y n t q ks.length&&tmsRight ks
def tmsRight:List Tm→Bool
 | []=>true
 | e::es=>e.right&&tmsRight es
end
theorem tmsRight_all:∀ l:List Tm,tmsRight l=l.all Tm.right
 | []=>by rw [tmsRight]; rfl
 | e::es=>by rw [tmsRight,tmsRight_all es]; rfl
def nameOr (s:List UInt8):Bool:=s==[]||nameOk words s
def itRight (i:It):Bool:=i.t.right&&nameOr i.n
mutual
def Sm.right:Sm→Bool
 | .mk f a d s is ft fq fn js w g h ks =>
   if f=1 then !a&&(ks.length==0&&(s==(is.length==0)&&(decide (w.length≤1)&&(decide (h.length≤1) &&
    ((if fq.length=0 then nameOk words ft&&nameOr fn else fq.length==1&&(ft==[]&&(nameOk words fn&&smsRight fq))) &&
    (is.all itRight&&(josRight js&&(tmsRight w&&(tmsRight g&&tmsRight h)))))))))
   else if f=2∨f=3∨f=4 then ks.length==2&&(smsRight ks&&(!d&&(!s&&(is.length==0&&(ft==[]&&(fq.length==0&&(fn==[]&&(js.length==0&&(w.length==0&&(g.length==0&&h.length==0))))))))))
   else false
def Jo.right:Jo→Bool
 | .mk k t q n o=>decide (0≤k)&&(decide (k≤6)&&(o.length==(if k=0 then 0 else 1)&&(tmsRight o &&
   (if q.length=0 then nameOk words t&&nameOr n else q.length==1&&(t==[]&&(nameOk words n&&smsRight q))))))
def smsRight:List Sm→Bool
 | []=>true
 | e::es=>e.right&&smsRight es
def josRight:List Jo→Bool
 | []=>true
 | e::es=>e.right&&josRight es
end
theorem sopsC_len:sopsC.length=96:=by decide
theorem drop_sops:∀ (l:List Sop) (o:Nat),(l.flatMap sopC).drop (o*4)=(l.drop o).flatMap sopC
 | [],o=>by simp
 | x::l,0=>by simp
 | x::l,o+1=>by
   rw [List.flatMap_cons,show (o+1)*4=(sopC x).length+o*4 from by simp [sopC]; omega,← List.drop_drop,List.drop_left,drop_sops l o,List.drop_succ_cons]
def zsop:Sop:=([],0,0,0)
def sopOf (o:Int):Sop:=(sops[o.toNat]?).getD zsop
theorem sops_row {o:Nat} (h:o<24):∃ rest,sopsC.drop (o*4)=.str (sopOf o).1::.int .i64 (sopOf o).2.1::.int .i64 (sopOf o).2.2.1::.int .i64 (sopOf o).2.2.2::rest:=by
 have hl:o<sops.length:=h
 refine ⟨(sops.drop (o+1)).flatMap sopC,?_⟩
 unfold sopsC
 rw [drop_sops,List.drop_eq_getElem_cons hl,List.flatMap_cons]
 unfold sopOf
 rw [Int.toNat_natCast,List.getElem?_eq_getElem hl]
 rfl
def isSop (o:Int):Bool:=decide (0≤o)&&(decide (o<24)&&!((sopOf o).1==[]))
def sopA (o:Sop):AV:=.agg [.d (.str o.1),.d (.int .i64 o.2.1),.d (.int .i64 o.2.2.1),.d (.int .i64 o.2.2.2)]
theorem isSop_iff:∀ n:Nat,n<24→isSop n=(decide (6≤n)&&!(n==11||n==13||n==21)):=by decide
theorem s_operatorOf (o:Int):Cf Es 48 [.d (.int .i64 o)] [] (.tup [sopA (if isSop o=true then sopOf o else zsop),.d (.bool (isSop o))]) []:=by
 refine cf_intro mixs (fn:=Tryz.f48) (by kernel_rfl) rfl (by kernel_rfl) (by decide) (by simp) ?_
 by_cases h1:o<0
 ·have hi:isSop o=false:=by unfold isSop; simp; omega
  simp [hi,sopA,zsop,h1]
  (repeat' (first|contradiction|exact .ok|apply And.intro|intro _|(refine gc (fun h=>?_) (fun h=>?_)<;>(have h':=h;(try simp at h');first|done|simp[h,h',h1]|simp[h1]))))
 by_cases h2:24≤o
 ·have hi:isSop o=false:=by unfold isSop; simp; omega
  simp [hi,sopA,zsop,h1,h2]
  (repeat' (first|contradiction|exact .ok|apply And.intro|intro _|(refine gc (fun h=>?_) (fun h=>?_)<;>(have h':=h;(try simp at h');first|done|simp[h,h',h1,h2]|simp[h1,h2]))))
  all_goals omega
 obtain ⟨n,rfl⟩:∃ n:Nat,o=n:=⟨o.toNat,by omega⟩
 have hn:n<24:=by omega
 obtain ⟨rest,hr⟩:=sops_row hn
 have hb:n*4≤96:=by omega
 have hlt:(n:Int)<24:=by omega
 have hnl:¬ 24≤n:=by omega
 have h4:n*4≤sopsC.length:=by rw [sopsC_len]; omega
 by_cases h0:(sopOf n).1=[]
 ·have hi:isSop n=false:=by unfold isSop; rw [h0]; simp
  simp [hi,sopA,zsop,sopsC_len,h1,hlt,hb,hr,hnl,h0]
  (repeat' (first|contradiction|exact .ok|apply And.intro|intro _|(refine gc (fun h=>?_) (fun h=>?_)<;>(have h':=h;(try simp at h');first|done|simp[h,h',hr,h1,hlt,hb,sopsC_len,hnl,h0]|simp[hr,h1,hlt,hb,sopsC_len,hnl,h0]))))
  all_goals simp_all
 ·have hi:isSop n=true:=by unfold isSop; simp [h0]; omega
  simp [hi,sopA,sopsC_len,h1,hlt,hb,hr,hnl,h0]
  (repeat' (first|contradiction|exact .ok|apply And.intro|intro _|(refine gc (fun h=>?_) (fun h=>?_)<;>(have h':=h;(try simp at h');first|done|simp[h,h',hr,h1,hlt,hb,sopsC_len,hnl,h0]|simp[hr,h1,hlt,hb,sopsC_len,hnl,h0]))))
  all_goals simp_all
def kidsN (o:Int):Int×Bool :=
 if o=1∨o=2∨o=3∨o=4∨o=40 then (0,true)
 else if o=24∨o=21∨o=25∨o=11∨o=13 then (1,true)
 else if o=27 then (2,true)
 else if o=26 then (3,true)
 else (0,false)
theorem s_kids (o:Int):Cf Es 120 [.d (.int .i64 o)] [] (.tup [.d (.int .i64 (kidsN o).1),.d (.bool (kidsN o).2)]) []:=by
 refine cf_intro mixs (fn:=Tryz.f120) (by kernel_rfl) rfl (by kernel_rfl) (by decide) (by simp) ?_
 simp
 (repeat' (first|contradiction|exact .ok|apply And.intro|intro _|(refine gc (fun h=>?_) (fun h=>?_)<;>(have h':=h;(try simp at h');first|done|simp[h,h']|simp))))
 all_goals simp_all [kidsN]


def Jo.on:Jo→List Tm | .mk _ _ _ _ o=>o
abbrev S3:=List UInt8×List Sm×List UInt8
def S3.c (s:S3):List D:=soC s.1 s.2.1 s.2.2
theorem S3.clen (s:S3):(S3.c s).length=3:=rfl
def S3.dep (s:S3):Int:=smsDep s.2.1

end Go.Proofs.Tryz
namespace Go.Proofs
open Go.Shelf
def Tryz.lays137_ren:Go.Shelf.Ren:=⟨fun | 137=>141 | 217=>176 | 266=>194 | n=>n,fun | 9=>9 | 5=>5 | 3=>3 | n=>n,fun | n=>n⟩
theorem Tryz.lays137:Go.Proofs.Lays.n137 Tryz.prog Tryz.lays137_ren:={
 mixed:=by kernel_rfl
 f137:=Tryz.func141.trans (congrArg some (by kernel_rfl))
 f217:=Tryz.func176.trans (congrArg some (by kernel_rfl))
 f266:=Tryz.func194.trans (congrArg some (by kernel_rfl))
 t3:=Tryz.underlying3
 a3:=Tryz.isAgg3
 z3:=Tryz.sizeOf3
 v3:=Tryz.zeroValue3
 t5:=Tryz.underlying5
 a5:=Tryz.isAgg5
 z5:=Tryz.sizeOf5
 v5:=Tryz.zeroValue5
 t9:=Tryz.underlying9
 a9:=Tryz.isAgg9
 z9:=Tryz.sizeOf9
 v9:=Tryz.zeroValue9 }
open Go.RowKit in
theorem Tryz.strings_IndexByte (s:ByteArray) (c:Int) (w:World) :
  Calls Tryz.prog 141 #[.string s,.int .u8 c] w fun e w'=>e=.returned (.int .i64 (Lib.indexByte s.data.toList c.toNat.toUInt8))∧w'=w:=Any.strings_IndexByte Tryz.lays137 s c w
end Go.Proofs
namespace Go.Proofs.Tryz
open Go.Ab
set_option maxRecDepth 100000
def FitT (r:Res Tm):Prop:=∀ t m,r=.ok (t,m)→t.fits
def FitL (r:Res (List Tm)):Prop:=∀ ks m,r=.ok (ks,m)→tmsFits ks∧ks.length≤2000000
theorem FitT.ok {t:Tm} {m:List Tk} (h:t.fits):FitT (.ok (t,m)):=fun _ _ e=>by cases e; exact h
theorem FitT.err (p:Nat):FitT (.error p):=fun _ _ e=>by cases e
theorem FitL.ok {t:List Tm} {m:List Tk} (h:tmsFits t∧t.length≤2000000):FitL (.ok (t,m)):=fun _ _ e=>by cases e; exact h
theorem fit2 {α:Type} {r:Res α} {l:List Tk} (hs:SfxOk r l) {f:α→List Tk→Res Tm} (h:∀ t m,r=.ok (t,m)→m.length≤l.length→FitT (f t m)):FitT (bind2 r f):=by
 cases hr:r with
 | error p=>exact .err p
 | ok x=>obtain ⟨t,m⟩:=x; exact h t m hr (sfx_len hs hr)
theorem fitL2 {α:Type} {r:Res α} {l:List Tk} (hs:SfxOk r l) {f:α→List Tk→Res (List Tm)} (h:∀ t m,r=.ok (t,m)→m.length≤l.length→FitL (f t m)):FitL (bind2 r f):=by
 cases hr:r with
 | error p=>exact fun _ _ e=>by cases e
 | ok x=>obtain ⟨t,m⟩:=x; exact h t m hr (sfx_len hs hr)
theorem fit1 {ws:List (List UInt8)} {l:List Tk} {f:List Tk→Res Tm} (h:∀ m,m.length≤l.length→FitT (f m)):FitT (bind1 (expS ws l) f):=by
 cases hr:expS ws l with
 | error p=>exact .err p
 | ok m=>exact h m (exp_len hr)
theorem fitL1 {ws:List (List UInt8)} {l:List Tk} {f:List Tk→Res (List Tm)} (h:∀ m,m.length≤l.length→FitL (f m)):FitL (bind1 (expS ws l) f):=by
 cases hr:expS ws l with
 | error p=>exact fun _ _ e=>by cases e
 | ok m=>exact h m (exp_len hr)
theorem fits_mk {o y n:Int} {t q:List UInt8} {ks:List Tm} (h:tmsFits ks∧ks.length≤2000000):(Tm.mk o y n t q ks).fits:=by
 rw [Tm.fits]
 exact ⟨by omega,h.1⟩
theorem fits_mkT {o:Int} {ks:List Tm} (h:tmsFits ks∧ks.length≤2000000):(mkT o ks).fits:=fits_mk h
theorem fits0:tmsFits []∧([]:List Tm).length≤2000000:=⟨trivial,by decide⟩
theorem fitsS {a:Tm} (ha:a.fits):tmsFits [a]∧[a].length≤2000000:=⟨⟨ha,trivial⟩,by simp⟩
theorem fitsP {a b:Tm} (ha:a.fits) (hb:b.fits):tmsFits [a,b]∧[a,b].length≤2000000:=⟨⟨ha,hb,trivial⟩,by simp⟩
section
variable {p:List Tk→Res Tm} (hs:∀ l,SfxOk (p l) l) (hp:∀ l,l.length≤1000000→FitT (p l))
include hs hp
theorem chain_fit (sg:List (List UInt8)) (ops:List Int):∀ (k:Nat) (out:Tm) (l:List Tk),l.length≤1000000→out.fits→FitT (chainS p sg ops k out l)
 | 0,out,l,_,ho=>.ok ho
 | k+1,out,l,hl,ho=>by
   rw [chainS]
   split
   ·exact .ok ho
   ·split
    ·exact .err _
    ·rename_i t l' h
     have h1:=sfx_len (hs l.tail) h
     have h2:l.tail.length≤l.length:=(tail_sfx l).length_le
     exact chain_fit sg ops k _ l' (by omega) (fits_mkT (fitsP ho (hp _ (by omega) t l' h)))
theorem more_fit:∀ (k:Nat) (ks:List Tm) (l:List Tk),l.length≤1000000→tmsFits ks→ks.length+k≤2000000→FitL (moreS p k ks l)
 | 0,ks,l,_,hk,hn=>.ok ⟨hk,by omega⟩
 | k+1,ks,l,hl,hk,hn=>by
   rw [moreS]
   have h2:l.tail.length≤l.length:=(tail_sfx l).length_le
   split
   ·exact fitL2 (hs _) fun t m ht hm=>more_fit k _ m (by omega) (tmsFits_app _ _ hk ⟨hp _ (by omega) t m ht,trivial⟩) (by simp; omega)
   ·exact .ok ⟨hk,by omega⟩
theorem rest_fit:∀ (k:Nat) (ks:List Tm) (l:List Tk),l.length≤1000000→tmsFits ks→ks.length+k≤2000000→FitL (restS p k ks l)
 | 0,ks,l,_,hk,hn=>.ok ⟨hk,by omega⟩
 | k+1,ks,l,hl,hk,hn=>by
   rw [restS]
   exact fitL1 fun l1 h1=>fitL2 (hs l1) fun t m ht hm=>rest_fit k _ m (by omega) (tmsFits_app _ _ hk ⟨hp _ (by omega) t m ht,trivial⟩) (by simp; omega)
theorem list_fit (k:Nat) (hk:k≤10) (l:List Tk) (hl:l.length≤1000000):FitL (listS p k l) :=
 fitL1 fun l1 h1=>fitL2 (hs l1) fun t l2 ht h2=>fitL2 (rest_sfx hs k [t] l2) fun ks l3 hk3 h3=>fitL1 fun l4 h4=>.ok (rest_fit hs hp k [t] l2 (by omega) ⟨hp _ (by omega) t l2 ht,trivial⟩ (by simp; omega) ks l3 hk3)
theorem case_fit:∀ (ws:List (List UInt8)) (ks:List Tm) (l:List Tk),l.length≤1000000→tmsFits ks→ks.length+ws.length≤2000000→FitL (caseS p ws ks l)
 | [],ks,l,_,hk,hn=>.ok ⟨hk,by simpa using hn⟩
 | w::ws,ks,l,hl,hk,hn=>by
   rw [caseS]
   exact fitL1 fun l1 h1=>fitL2 (hs l1) fun t m ht hm=>case_fit ws _ m (by omega) (tmsFits_app _ _ hk ⟨hp _ (by omega) t m ht,trivial⟩) (by simp at hn ⊢; omega)
theorem agg_fit (i:Nat) (l:List Tk) (hl:l.length≤1000000):FitT (aggS p i l):=by
 unfold aggS
 refine fit1 fun l1 h1=>?_
 have h2:l1.tail.length≤l1.length:=(tail_sfx l1).length_le
 split
 ·exact fit1 fun l2 _=>.ok (fits_mk fits0)
 ·split
  ·exact fit2 (hs _) fun t l2 ht _=>fit1 fun l3 _=>.ok (fits_mk (fitsS (hp _ (by omega) t l2 ht)))
  ·exact fit2 (hs _) fun t l2 ht _=>fit1 fun l3 _=>.ok (fits_mk (fitsS (hp _ (by omega) t l2 ht)))
theorem level_fit (sg:List (List UInt8)) (ops:List Int) (l:List Tk) (hl:l.length≤1000000):FitT (bind2 (p l) fun t l'=>chainS p sg ops l'.length t l') :=
 fit2 (hs l) fun t m ht hm=>chain_fit hs hp sg ops _ t m (by omega) (hp l hl t m ht)
theorem mapT_fit {g:Tm→Tm} (hg:∀ t:Tm,t.fits→(g t).fits) (l:List Tk) (hl:l.length≤1000000):FitT (mapT g (p l)) :=
 fit2 (hs l) fun t m ht _=>.ok (hg t (hp l hl t m ht))
end
theorem par_fit:∀ (n lvl:Nat) (l:List Tk),l.length≤1000000→FitT (parP n lvl l)
 | 0,lvl,l,_=>.err _
 | n+1,0,l,hl=>by rw [parP]; exact level_fit (par_sfx n 1) (par_fit n 1) _ _ l hl
 | n+1,1,l,hl=>by rw [parP]; exact level_fit (par_sfx n 2) (par_fit n 2) _ _ l hl
 | n+1,2,l,hl=>by
   rw [parP]
   have h2:l.tail.length≤l.length:=(tail_sfx l).length_le
   split
   ·exact mapT_fit (par_sfx n 2) (par_fit n 2) (fun t ht=>fits_mkT (fitsS ht)) _ (by omega)
   ·exact par_fit n 3 l hl
 | n+1,3,l,hl=>by
   rw [parP]
   refine fit2 (par_sfx n 4 l) fun a l' ha hl'=>?_
   have fa:=par_fit n 4 l hl a l' ha
   have h2:l'.tail.length≤l'.length:=(tail_sfx l').length_le
   split
   ·exact mapT_fit (par_sfx n 4) (par_fit n 4) (fun t ht=>fits_mkT (fitsP fa ht)) _ (by omega)
   ·split
    ·split
     ·exact .ok (fits_mkT (fitsS fa))
     ·split
      ·exact .ok (fits_mkT (fitsS fa))
      ·exact fit1 fun l2 _=>.ok (fits_mkT (fitsS (fits_mkT (fitsS fa))))
    ·split
     ·exact fit1 fun l2 h2'=>fit2 (par_sfx n 0 l2) fun b l3 hb h3=>fit2 (more_sfx (par_sfx n 0) _ _ l3) fun ks l4 hk h4=>fit1 fun l5 _ =>
       .ok (fits_mkT (more_fit (par_sfx n 0) (par_fit n 0) _ [a,b] l3 (by omega) (fitsP fa (par_fit n 0 l2 (by omega) b l3 hb)).1 (by simp; omega) ks l4 hk))
     ·exact .ok fa
 | n+1,4,l,hl=>by rw [parP]; exact level_fit (par_sfx n 5) (par_fit n 5) _ _ l hl
 | n+1,5,l,hl=>by rw [parP]; exact level_fit (par_sfx n 6) (par_fit n 6) _ _ l hl
 | n+1,6,l,hl=>by
   rw [parP]
   have h2:l.tail.length≤l.length:=(tail_sfx l).length_le
   split
   ·split
    ·exact .ok (fits_mk fits0)
    ·exact mapT_fit (par_sfx n 6) (par_fit n 6) (fun t ht=>fits_mkT (fitsS ht)) _ (by omega)
   ·exact par_fit n 7 l hl
 | n+1,m+7,[],_=>by rw [parP]; exact .err _
 | n+1,m+7,t::r,hl=>by
   have hr:r.length≤1000000:=by simp only [List.length_cons] at hl; omega
   have h2:r.tail.length≤r.length:=(tail_sfx r).length_le
   rw [parP]
   split
   ·exact .ok (fits_mk fits0)
   split
   ·exact .ok (fits_mk fits0)
   split
   ·exact .ok (fits_mk fits0)
   split
   ·exact .ok (fits_mkT fits0)
   split
   ·split
    ·exact .ok (fits_mk fits0)
    ·exact .err _
   split
   ·exact fit2 (par_sfx n 0 r) fun x l2 hx _=>fit1 fun l3 _=>.ok (par_fit n 0 r hr x l2 hx)
   split
   ·exact fit2 (list_sfx (par_sfx n 0) 0 r) fun ks l2 hk _=>.ok (fits_mkT (list_fit (par_sfx n 0) (par_fit n 0) 0 (by decide) r hr ks l2 hk))
   split
   ·exact fit2 (list_sfx (par_sfx n 0) 1 r) fun ks l2 hk _=>.ok (fits_mkT (list_fit (par_sfx n 0) (par_fit n 0) 1 (by decide) r hr ks l2 hk))
   split
   ·exact fit2 (case_sfx (par_sfx n 0) _ _ r) fun ks l2 hk _=>fit1 fun l3 _=>.ok (fits_mkT (case_fit (par_sfx n 0) (par_fit n 0) _ [] r hr trivial (by simp) ks l2 hk))
   split
   ·exact agg_fit (par_sfx n 0) (par_fit n 0) _ r hr
   ·refine fit2 (name_sfx (t::r)) fun a l1 _ _=>?_
    split
    ·exact fit2 (name_sfx _) fun b l2 _ _=>.ok (fits_mk fits0)
    ·exact .ok (fits_mk fits0)
end Go.Proofs.Tryz
