import Derived.Test.YthpmjipkofbeiaaGreatDoorBcr
import Derived.Test.YthpmjipkofbeiaaGreatDoorURkp
import Derived.Test.YthpmjipkofbeiaaGreatDoorUVrp
import Derived.Test.YthpmjipkofbeiaaGreatDoorAbD
set_option linter.all false
namespace Go.Proofs.Tryz
open Go.Ab
set_option maxRecDepth 100000
set_option maxHeartbeats 8000000
def aGY (r:List UInt8):Tz:=((cP r).1,r.take (cP r).2.1,(cP r).2.2.1,(cP r).2.2.2)
def pC:Nat→List UInt8→List Tz
 | 0,_=>[]
 | k+1,s =>
   let r:=s.dropWhile dU
   if (cP r).1=0∨(cP r).1=5 then [aGY r] else aGY r::pC k (r.drop (cP r).2.1)
theorem aCc (p:UInt8→Bool):∀ l:List UInt8,l.drop (l.takeWhile p).length=l.dropWhile p
 | []=>rfl
 | c::l=>by
   rw [List.takeWhile_cons,List.dropWhile_cons]
   split
   ·rw [List.length_cons,List.drop_succ_cons,aCc p l]
   ·rfl
theorem aJr (s:List UInt8) (a:Nat):(dP s a).er=aGY ((s.drop a).dropWhile dU)∧s.drop (dP s a).to=((s.drop a).dropWhile dU).drop (cP ((s.drop a).dropWhile dU)).2.1:=by
 have e:s.drop (gI s a)=(s.drop a).dropWhile dU:=by
  unfold gI
  rw [← List.drop_drop,aCc]
 unfold dP Tk.er aGY
 simp only
 refine ⟨by rw [e],?_⟩
 rw [← e,List.drop_drop]
theorem aCd (s:List UInt8):∀ (k a:Nat),er (sI s k a)=pC k (s.drop a)
 | 0,a=>rfl
 | k+1,a=>by
   obtain ⟨h1,h2⟩:=aJr s a
   rw [sI,pC]
   have he:(dP s a).ends=true↔((cP ((s.drop a).dropWhile dU)).1=0∨(cP ((s.drop a).dropWhile dU)).1=5):=by
    have:(dP s a).kd=(cP ((s.drop a).dropWhile dU)).1:=congrArg (·.1) h1
    unfold Tk.ends
    rw [this]
    simp
   by_cases h:(dP s a).ends=true
   ·rw [if_pos h,if_pos (he.1 h)]
    show [(dP s a).er]=_
    rw [h1]
   ·rw [if_neg h,if_neg (fun c=>h (he.2 c))]
    show (dP s a).er::er (sI s k (dP s a).to)=_
    rw [h1,aCd s k,h2]
def Sep (r:List UInt8):Prop:=r=[]∨∃ c q,r=c::q∧(c=32∨c=41∨c=44∨c=46∨c=40)
def cL (s:List UInt8) (w:List Tz):Prop:=∀ (rest:List UInt8) (k:Nat),Sep rest→pC (k+w.length) (s++rest)=w++pC k rest
theorem aJs:Sep []:=.inl rfl
theorem sY {c:UInt8} (h:c=32∨c=41∨c=44∨c=46∨c=40) (q:List UInt8):Sep (c::q):=.inr ⟨c,q,rfl,h⟩
theorem aDw {s1 s2:List UInt8} {w1 w2:List Tz} (h1:cL s1 w1) (h2:cL s2 w2) (hs:∀ rest,Sep rest→Sep (s2++rest)):cL (s1++s2) (w1++w2):=fun rest k hr=>by
 rw [List.append_assoc,List.length_append,show k+(w1.length+w2.length)=(k+w2.length)+w1.length from by omega,h1 _ _ (hs rest hr),h2 rest k hr,List.append_assoc]
theorem aAH (k:Nat) (s:List UInt8):pC (k+1) (32::s)=pC (k+1) s:=by
 rw [pC,pC]
 have:(32::s).dropWhile dU=s.dropWhile dU:=by rw [List.dropWhile_cons]; rfl
 rw [this]
theorem wC {s:List UInt8} {w:List Tz} (h:cL s w) (hw:w ≠ []):cL (32::s) w:=fun rest k hr=>by
 obtain ⟨n,hn⟩:∃ n,k+w.length=n+1:=⟨k+w.length - 1,by have:=List.length_pos_iff.2 hw; omega⟩
 rw [List.cons_append,hn,aAH,← hn]
 exact h rest k hr
theorem KM {s rest:List UInt8} {z:Tz} (hb:∀ c q,s=c::q→dU c=false) (hne:s ≠ []) (h:cP (s++rest)=(z.1,s.length,z.2.2.1,z.2.2.2)) (hz:z.2.1=s) (h0:z.1 ≠ 0) (h5:z.1 ≠ 5) (k:Nat):pC (k+1) (s++rest)=z::pC k rest:=by
 obtain ⟨c,q,rfl⟩:=List.exists_cons_of_ne_nil hne
 have hd:(c::q++rest).dropWhile dU=c::q++rest:=by
  rw [List.cons_append,List.dropWhile_cons,hb c q rfl]; rfl
 rw [pC,hd]
 simp only [h]
 rw [if_neg (by simp [h0,h5])]
 unfold aGY
 rw [h]
 simp only [List.take_left',List.drop_left']
 rw [← hz]
theorem xC {s:List UInt8} {z:Tz} (hb:∀ c q,s=c::q→dU c=false) (hne:s ≠ []) (h:∀ rest,Sep rest→cP (s++rest)=(z.1,s.length,z.2.2.1,z.2.2.2)) (hz:z.2.1=s) (h0:z.1 ≠ 0) (h5:z.1 ≠ 5):cL s [z]:=fun rest k hr=>KM hb hne (h rest hr) hz h0 h5 k
theorem aGZ {p:UInt8→Bool} (hp:p 32=false∧p 41=false∧p 44=false∧p 46=false∧p 40=false) {q rest:List UInt8} (hq:∀ c∈q,p c=true) (hs:Sep rest):(q++rest).takeWhile p=q:=by
 rw [List.takeWhile_append_of_pos hq]
 rcases hs with rfl | ⟨c,r,rfl,h⟩
 ·simp
 ·have:p c=false:=by rcases h with rfl | rfl | rfl | rfl | rfl <;> simp [hp]
  rw [List.takeWhile_cons,this]
  simp
theorem yR {c:UInt8} {q:List UInt8} (hc:jO c=true) (hq:∀ x∈q,dR x=true) (hl:q.length≤15):cL (c::q) [wd (c::q)]:=by
 refine xC (fun a b e=>?_) (by simp) (fun rest hr=>?_) rfl (show (1:Int) ≠ 0 by decide) (show (1:Int) ≠ 5 by decide)
 ·cases e
  unfold dU
  unfold jO at hc
  simp only [Bool.and_eq_true,decide_eq_true_eq] at hc
  have:¬ c=32∧¬ c=10:=⟨fun e=>by subst e; revert hc; decide,fun e=>by subst e; revert hc; decide⟩
  simp [this]
 ·have ht:=aGZ (p:=dR) (by decide) hq hr
  rw [List.cons_append]
  unfold cP
  simp only
  rw [if_pos hc,ht,if_pos (by omega)]
  simp only [wd,Prod.mk.injEq,List.length_cons,true_and]
  refine ⟨by omega,?_,trivial⟩
  rw [show 1+q.length=(c::q).length from by simp; omega,← List.cons_append,List.take_left']
  rfl
theorem qC {t:List UInt8} (ht:bP jZ t=true):cL t [wd t]:=by
 unfold bP at ht
 simp only [Bool.and_eq_true,decide_eq_true_eq] at ht
 obtain ⟨h1,h2,h3,_⟩:=ht
 cases t with
 | nil=>cases h2
 | cons c q =>
   simp only [tO] at h2
   simp only [List.all_cons,Bool.and_eq_true,List.all_eq_true] at h3
   exact yR h2 h3.2 (by simp at h1; omega)
theorem WU {c:UInt8} (hc:jO c=false∧cU c=false∧¬ c=39∧dU c=false∧oneB.contains c=true) (h2:∀ d,twoW.contains [c,d]=false):∀ (rest:List UInt8) (k:Nat),pC (k+1) (c::rest)=sg [c]::pC k rest:=by
 intro rest k
 obtain ⟨c1,c2,c3,c4,c5⟩:=hc
 have h:cP ([c]++rest)=(4,1,[c],0):=by
  show cP (c::rest)=_
  unfold cP
  simp only
  rw [if_neg (by rw [c1]; decide),if_neg (by rw [c2]; decide),if_neg c3]
  cases rest with
  | nil=>rw [if_neg (by simp),if_pos c5]
  | cons d r=>rw [if_neg (by rw [show (c::d::r).take 2=[c,d] from rfl,h2 d]; simp),if_pos c5]
 exact KM (s:=[c]) (z:=sg [c]) (fun a q e=>by cases e; exact c4) (by simp) h rfl (show (4:Int) ≠ 0 by decide) (show (4:Int) ≠ 5 by decide) k
theorem aJt {c:UInt8} (h:∀ w∈twoW,w.head? ≠ some c) (d:UInt8):twoW.contains [c,d]=false:=by
 cases hc:twoW.contains [c,d] with
 | false=>rfl
 | true =>
   rw [List.contains_iff_mem] at hc
   exact absurd rfl (h _ hc)
theorem mP (c:UInt8) (h:c=40∨c=41∨c=44∨c=46∨c=42∨c=45∨c=43∨c=47∨c=61) (rest:List UInt8) (k:Nat):pC (k+1) (c::rest)=sg [c]::pC k rest:=by
 refine WU ?_ (aJt ?_) rest k <;> rcases h with rfl | rfl | rfl | rfl | rfl | rfl | rfl | rfl | rfl <;> decide
theorem pK {s:List UInt8} {w:List Tz} (h:cL s w):cL (40::(s++[41])) (sg bF::(w++[sg aY])):=fun rest k hr=>by
 have e:40::(s++[41])++rest=40::(s++41::rest):=by simp
 rw [e,show k+(sg bF::(w++[sg aY])).length=(k+1+w.length)+1 from by simp; omega,mP 40 (by decide),h _ _ (sY (by decide) rest),mP 41 (by decide)]
 simp [bF,aY]
theorem wD {s:List UInt8} {w:List Tz} (h:cL s w):cL (45::s) (sg gB::w):=fun rest k hr=>by
 rw [List.cons_append,List.length_cons,show k+(w.length+1)=(k+w.length)+1 from by omega,mP 45 (by decide),h _ _ hr]
 rfl
theorem gH {s1 s2:List UInt8} {w1 w2:List Tz} (h1:cL s1 w1) (h2:cL s2 w2) (hw:w2 ≠ []):cL (s1++32::s2) (w1++w2):=aDw h1 (wC h2 hw) fun rest _=>sY (by decide) _
theorem wE {s1 s2:List UInt8} {w1 w2:List Tz} (h1:cL s1 w1) (h2:cL s2 w2) (hw:w2 ≠ []):cL (s1++44::32::s2) (w1++(sg bQ::w2)):=by
 refine aDw h1 (fun rest k hr=>?_) fun rest _=>sY (by decide) _
 rw [List.cons_append,List.length_cons,show k+(w2.length+1)=(k+w2.length)+1 from by omega,mP 44 (by decide),wC h2 hw _ _ hr]
 rfl
def aHa:List (List UInt8):=[RI,tQ]++(cmpW++(mM++mC))
theorem xD {a b:UInt8} (h:[a,b]∈twoW):cL [a,b] [sg [a,b]]:=by
 have hc:jO a=false∧cU a=false∧¬ a=39∧dU a=false∧twoW.contains [a,b]=true:=by
  simp only [twoW,List.mem_cons,List.cons.injEq,and_true,List.not_mem_nil,or_false] at h
  rcases h with ⟨rfl,rfl⟩ | ⟨rfl,rfl⟩ | ⟨rfl,rfl⟩ | ⟨rfl,rfl⟩ <;> decide
 obtain ⟨c1,c2,c3,c4,c5⟩:=hc
 refine xC (fun c q e=>by cases e; exact c4) (by simp) (fun rest hr=>?_) rfl (show (4:Int) ≠ 0 by decide) (show (4:Int) ≠ 5 by decide)
 show cP (a::b::rest)=_
 unfold cP
 simp only
 rw [if_neg (by rw [c1]; decide),if_neg (by rw [c2]; decide),if_neg c3,if_pos ⟨by simp,by rw [show (a::b::rest).take 2=[a,b] from rfl]; exact c5⟩]
 rfl
def tY (y:List UInt8):Bool:=match y with
 | c::q=>jO c&&(q.all dR&&decide (q.length≤15))
 | []=>false
theorem aEe {x:List UInt8} (hx:x∈aHa) {s:List UInt8} {w:List Tz} (h:cL s w) (hw:w ≠ []):cL (x++32::s) (tz x::w):=by
 have word:∀ y,(tY y=true)→cL (y++32::s) (wd y::w):=fun y hy=>by
  unfold tY at hy
  cases y with
  | nil=>cases hy
  | cons c q =>
    simp only [Bool.and_eq_true,List.all_eq_true,decide_eq_true_eq] at hy
    exact gH (yR hy.1 hy.2.1 hy.2.2) h hw
 have one:∀ c:UInt8,(jO c=false∧cU c=false∧¬ c=39∧dU c=false∧oneB.contains c=true)→twoW.contains [c,32]=false→cL ([c]++32::s) (sg [c]::w):=fun c ⟨c1,c2,c3,c4,c5⟩ ht rest k hr=>by
  have hl:cP ([c]++(32::s++rest))=(4,1,[c],0):=by
   show cP (c::32::(s++rest))=_
   unfold cP
   simp only
   rw [if_neg (by rw [c1]; decide),if_neg (by rw [c2]; decide),if_neg c3,if_neg (by rw [show (c::32::(s++rest)).take 2=[c,32] from rfl,ht]; simp),if_pos c5]
  rw [List.append_assoc,List.length_cons,show k+(w.length+1)=(k+w.length)+1 from by omega,KM (s:=[c]) (z:=sg [c]) (fun a q e=>by cases e; exact c4) (by simp) hl rfl (show (4:Int) ≠ 0 by decide) (show (4:Int) ≠ 5 by decide),wC h hw _ _ hr]
  rfl
 simp only [aHa,cmpW,mM,mC,RI,tQ,List.cons_append,List.nil_append,List.mem_cons,List.not_mem_nil,or_false] at hx
 rcases hx with rfl | rfl | rfl | rfl | rfl | rfl | rfl | rfl | rfl | rfl | rfl | rfl | rfl | rfl | rfl
 ·exact word _ (by decide)
 ·exact word _ (by decide)
 ·exact one 61 (by decide) (by decide)
 ·exact gH (xD (by decide)) h hw
 ·exact one 60 (by decide) (by decide)
 ·exact gH (xD (by decide)) h hw
 ·exact one 62 (by decide) (by decide)
 ·exact gH (xD (by decide)) h hw
 ·exact word _ (by decide)
 ·exact one 43 (by decide) (by decide)
 ·exact one 45 (by decide) (by decide)
 ·exact gH (xD (by decide)) h hw
 ·exact one 42 (by decide) (by decide)
 ·exact one 47 (by decide) (by decide)
 ·exact word _ (by decide)
theorem NV {n:Nat} (h:n≤1000000000000):cL (Lib.decDigits n) [(2,Lib.decDigits n,Lib.decDigits n,(n:Int))]:=by
 have hd:=jT n
 obtain ⟨c,q,e⟩:=List.exists_cons_of_ne_nil (oX n)
 have hv:(V.mk 1 n []).valid=true:=by unfold V.valid; simp; omega
 have hp:=CQ hv
 have ht:gC (V.mk 1 n [])=Lib.decDigits n:=by
  unfold gC
  rw [if_pos hv,if_pos rfl]
  exact Lib.itoa_nonneg n
 rw [ht] at hp
 rw [e] at hd hp ⊢
 have hc:=hd c List.mem_cons_self
 have hlow:jO c=false:=by
  unfold cU at hc
  unfold jO
  simp only [Bool.and_eq_true,decide_eq_true_eq] at hc
  have:¬ 97≤c.toNat:=by omega
  simp [this]
 refine xC (fun a b e2=>?_) (by simp) (fun rest hr=>?_) rfl (show (2:Int) ≠ 0 by decide) (show (2:Int) ≠ 5 by decide)
 ·cases e2
  unfold dU
  have:¬ c=32∧¬ c=10:=⟨fun e=>by subst e; revert hc; decide,fun e=>by subst e; revert hc; decide⟩
  simp [this]
 ·have htw:=aGZ (p:=cU) (by decide) (fun x hx=>hd x (List.mem_cons_of_mem _ hx)) hr
  have hlen:1+q.length=(c::q).length:=by simp; omega
  rw [List.cons_append]
  unfold cP
  simp only
  rw [if_neg (by rw [hlow]; decide),if_pos hc,htw,hlen,← List.cons_append,List.take_left' rfl,hp,if_pos ⟨rfl,rfl⟩]
theorem aAI {t:List UInt8} (h:oK t=true):cL (39::(t++[39])) [(3,39::(t++[39]),t,0)]:=by
 have hv:(V.mk 3 0 t).valid=true:=by unfold V.valid; simpa using h
 have hp:=CQ hv
 have ht:gC (V.mk 3 0 t)=39::(t++[39]):=by
  unfold gC
  rw [if_pos hv]
  rfl
 rw [ht] at hp
 have hq:∀ c∈t,(c==39)=false:=fun c hc=>by
  unfold oK at h
  simp only [Bool.and_eq_true,Bool.not_eq_true',List.any_eq_false] at h
  have:=h.2 c hc
  unfold uK KH at this
  simp at this
  rw [beq_eq_false_iff_ne]
  rintro rfl
  simp at this
 refine xC (fun a b e=>by cases e; decide) (by simp) (fun rest hr=>?_) rfl (show (3:Int) ≠ 0 by decide) (show (3:Int) ≠ 5 by decide)
 have hf:(t++[39]++rest).findIdx? (·==39)=some t.length:=by
  rw [List.append_assoc,List.findIdx?_append,List.findIdx?_eq_none_iff.2 hq]
  simp [List.findIdx?_cons]
 have hlen:t.length+2=(39::(t++[39])).length:=by simp
 rw [List.cons_append]
 unfold cP
 simp only
 rw [if_neg (by decide),if_neg (by decide),if_pos trivial,hf]
 have ht2:(39::(t++[39]++rest)).take (39::(t++[39])).length=39::(t++[39]):=by
  rw [show 39::(t++[39]++rest)=(39::(t++[39]))++rest from rfl]
  exact List.take_left' rfl
 simp only
 rw [hlen,ht2,hp,if_pos rfl]
theorem aBN {d:Nat} (h:d≤100000):yO (d:Int)=((d+1:Nat):Int):=by unfold yO; rw [aZ (by omega) (by omega)]; omega
theorem aLO {o y n:Int} {t q:List UInt8} {ks:List Tm} {d:Nat} (h:(Tm.mk o y n t q ks).few d=true):d≤40∧ks.length≤8∧t.length≤100∧∀ x∈ks,x.few ((d+1:Nat):Int)=true:=by
 rw [Tm.few] at h
 simp only [Bool.and_eq_true,decide_eq_true_eq] at h
 obtain ⟨hd,hk,ht,_,hl⟩:=h
 have hd':d≤40:=by omega
 rw [pS,List.all_eq_true,aBN (by omega)] at hl
 exact ⟨hd',hk,ht,hl⟩
def intsL:List Int:=[0,1,2,-1,5,7,-7,100,1000000000000,-1000000000000,999999999999,1000000]
def textsL:List (List UInt8):=[[],[97],[98],[97,98],[48],[32],[97,98,99,100,101,102,103,104,105,106,107,108,109,110,111,112,113,114,115,116,117,118,119,120]]
def cS (k:Int):List V :=
 if k=1 then cF::intsL.map fun n=>⟨1,n,[]⟩ else if k=2 then [cF,⟨2,0,[]⟩,⟨2,1,[]⟩] else if k=3 then cF::textsL.map fun t=>⟨3,0,t⟩ else [cF]
theorem aGv (k:Int):Cf En 46 [.d (.int .i64 k)] [] (.d (.sl ((cS k).map V.c))) []:=by
 refine cI fQ (fn:=Tryz.f46) rfl ?_
 by_cases h1:k=1
 ·subst h1
  refine gs ?_
  have hlen:intsL.length=12:=by decide
  refine aL fQ (fun i:Nat=>{ s:=eP [(3,.ref 900 0 (i+1) 3),(4,.d (.sl (intsL.map fun n=>[.int .i64 n]))),(5,.d (.int .i64 i))],b:=eG [(900,900,.arr 55 3 ((cF::(intsL.take i).map fun n=>⟨1,n,[]⟩).map V.c) false)] }) (fun i:Nat=>i≤12) (fun i=>12 - i) 0 (by simp) (sM _ [(900,9,_)] (by simp [aD,Blk.live,cF,V.c]) (by simp [aD,intsL])) ?_
  intro i hi
  by_cases hlt:i<12
  ·have hlt':(i:Int)<12:=by omega
   have hg:intsL[i]?=some intsL[i]:=gE (by omega)
   have htk:intsL.take (i+1)=intsL.take i++[intsL[i]]:=by rw [List.take_add_one,hg]; rfl
   have hmin:min i 12=i:=by omega
   have s1:(i+1+1)*32≤140737488355328:=by omega
   have s2:i+1+1≤9223372036854775807:=by omega
   have s3:i≤9223372036854775805:=by omega
   simp [hlt,hlt',hlen,hmin,s1,s2]
   refine gw ?_
   refine ⟨i+1,by omega,?_,?_⟩
   ·refine sM _ [(900,27,_)] (?_) ?_
    ·simp [aD,Blk.live,htk,V.c]
     try rfl
    ·simp [aD]
     exact aZ (by omega) (by omega)
   ·simp; omega
  ·have hlt':¬ (i:Int)<12:=by omega
   have hi12:i=12:=by omega
   subst hi12
   have htk:intsL.take 12=intsL:=List.take_of_length_le (by omega)
   simp [hlen,htk]
   refine gw ?_
   all_goals (simp [cS]; rw [← List.map_take,htk])
 by_cases h2:k=2
 ·subst h2
  refine gs ?_
  refine aP (aAX 0) ?_
  simp [V.a,aKx]
  refine aP (aAX 1) ?_
  simp [V.a,aKy]
  refine gw ?_
  all_goals simp [cS,V.c,cF]
 by_cases h3:k=3
 ·subst h3
  refine gs ?_
  have hlen:textsL.length=7:=by decide
  refine aL fQ (fun i:Nat=>{ s:=eP [(3,.ref 900 0 (i+1) 3),(6,.d (.sl (textsL.map fun n=>[.str n]))),(7,.d (.int .i64 i))],b:=eG [(900,900,.arr 55 3 ((cF::(textsL.take i).map fun n=>⟨3,0,n⟩).map V.c) false)] }) (fun i:Nat=>i≤7) (fun i=>7 - i) 0 (by simp) (sM _ [(900,9,_)] (by simp [aD,Blk.live,cF,V.c]) (by simp [aD,textsL])) ?_
  intro i hi
  by_cases hlt:i<7
  ·have hlt':(i:Int)<7:=by omega
   have hg:textsL[i]?=some textsL[i]:=gE (by omega)
   have htk:textsL.take (i+1)=textsL.take i++[textsL[i]]:=by rw [List.take_add_one,hg]; rfl
   have hmin:min i 7=i:=by omega
   have s1:(i+1+1)*32≤140737488355328:=by omega
   have s2:i+1+1≤9223372036854775807:=by omega
   have s3:i≤9223372036854775805:=by omega
   simp [hlt,hlt',hlen,hmin,s1,s2]
   refine gw ?_
   refine ⟨i+1,by omega,?_,?_⟩
   ·refine sM _ [(900,51,_)] (?_) ?_
    ·simp [aD,Blk.live,htk,V.c]
     try rfl
    ·simp [aD]
     exact aZ (by omega) (by omega)
   ·simp; omega
  ·have hlt':¬ (i:Int)<7:=by omega
   have hi12:i=7:=by omega
   subst hi12
   have htk:textsL.take 7=textsL:=List.take_of_length_le (by omega)
   simp [hlen,htk]
   refine gw ?_
   all_goals (simp [cS]; rw [← List.map_take,htk])
 simp [h1,h2,h3]
 refine gw ?_
 all_goals simp [cS,h1,h2,h3,V.c,cF]
theorem aAx (k:Int):1≤(cS k).length∧(cS k).length≤13:=by
 unfold cS
 repeat' split
 all_goals decide
def aJb:List (List UInt8):=[[97],[98],[105,100],[99,48],[99,49]]
def aJc:List (List UInt8):=[[116,48],[120]]
def LP (L:List Int) (i:Nat) (k:Int):V:=((cS k)[(1+aQ L i ((cS k).length - 1)).toNat]?).getD cF
def nmT (z:Int):List UInt8:=(aJb[z.toNat]?).getD []
def qlT (z:Int):List UInt8:=(aJc[z.toNat]?).getD []
def eW (L:List Int) (i:Nat):Tm×Nat :=
 if aQ L i 6=0 then (.mk 1 (1+aQ L (i+1) 3) 0 [] [] [],i+2)
 else if aQ L i 6=1 then (.mk 2 0 (LP L (i+1) 1).n [] [] [],i+2)
 else if aQ L i 6=2 then (.mk 3 0 (aQ L (i+1) 2) [] [] [],i+2)
 else if aQ L i 6=3 then (.mk 4 0 0 (LP L (i+1) 3).t [] [],i+2)
 else if aQ L i 6=4 then (.mk 40 0 0 (nmT (aQ L (i+1) 5)) (qlT (aQ L (i+2) 2)) [],i+3)
 else (.mk 40 0 0 (nmT (aQ L (i+1) 5)) [] [],i+2)
def gF (g:Nat→Tm×Nat):Nat→Nat→List Tm×Nat
 | 0,s=>([],s)
 | n+1,s=>((gF g n s).1++[(g (gF g n s).2).1],(g (gF g n s).2).2)
theorem DC (g:Nat→Tm×Nat):∀ (n s:Nat),(gF g n s).1.length=n
 | 0,_=>rfl
 | n+1,s=>by simp [gF,DC g n s]
def DD (g:Nat→Tm×Nat) (op:Int) (n s:Nat):Tm×Nat:=(.mk op 0 0 [] [] (gF g n s).1,(gF g n s).2)
def sW (L:List Int) (g:Nat→Tm×Nat) (i:Nat):Tm×Nat :=
 if aQ L i 8=0 then
  (if aQ L (i+1) 6=0 then (.mk 41 0 1 [] [] [],i+2) else (.mk 41 0 (1+aQ L (i+1) 6) [] [] [(g (i+2)).1],(g (i+2)).2))
 else if 6+aQ L (i+1) 23=11∨6+aQ L (i+1) 23=13∨6+aQ L (i+1) 23=21∨6+aQ L (i+1) 23=24∨6+aQ L (i+1) 23=25 then DD g (6+aQ L (i+1) 23) 1 (i+2)
 else if 6+aQ L (i+1) 23=26 then DD g 26 3 (i+2)
 else if 6+aQ L (i+1) 23=28 then DD g 28 (2+aQ L (i+2) 3).toNat (i+3)
 else DD g (6+aQ L (i+1) 23) 2 (i+2)
def eA (L:List Int):Nat→Nat→Tm×Nat
 | 0,i=>eW L i
 | d+1,i=>if d=0 then eW L i else if aQ L i 4=0 then eW L (i+1) else sW L (eA L d) (i+1)
def tb:Nat→Nat
 | 0=>3
 | d+1=>10+5*tb d
theorem KF (L:List Int) (i:Nat):(eW L i).2≤i+3:=by
 unfold eW
 repeat' split
 all_goals simp
theorem KG (g:Nat→Tm×Nat) (G:Nat) (hle:∀ j:Nat,j+G≤1000000→(g j).2≤j+G):∀ (n i:Nat),i+n*G≤1000000→(gF g n i).2≤i+n*G
 | 0,i,_=>by simp [gF]
 | n+1,i,h=>by
   rw [Nat.succ_mul] at h
   have h1:=KG g G hle n i (by omega)
   have h2:=hle (gF g n i).2 (by omega)
   simp only [gF]
   rw [Nat.succ_mul]
   omega
theorem aGx (L:List Int) (g:Nat→Tm×Nat) (G:Nat) (hle:∀ j:Nat,j+G≤1000000→(g j).2≤j+G) (i:Nat) (hi:i+3+5*G≤1000000):(sW L g i).2≤i+3+5*G:=by
 have k:∀ (op:Int) (n s:Nat),n≤4→s≤i+3→(DD g op n s).2≤i+3+5*G:=fun op n s hn hs=>by
  have hm:n*G≤4*G:=Nat.mul_le_mul_right _ hn
  have:=KG g G hle n s (by omega)
  simp only [DD]; omega
 have h3:=cT L (i+2) (n:=3) (by omega)
 have h1:=hle (i+2) (by omega)
 unfold sW
 split
 ·split
  ·simp; omega
  ·simp; omega
 split
 ·exact k _ 1 _ (by omega) (by omega)
 split
 ·exact k _ 3 _ (by omega) (by omega)
 split
 ·exact k _ _ _ (by omega) (by omega)
 ·exact k _ 2 _ (by omega) (by omega)
theorem vZ (L:List Int):∀ (d i:Nat),i+tb d≤1000000→(eA L d i).2≤i+tb d
 | 0,i,_=>KF L i
 | d+1,i,h=>by
   have hl:=KF L i
   have hl1:=KF L (i+1)
   simp only [tb] at h ⊢
   rw [eA]
   split
   ·omega
   split
   ·omega
   ·have:=aGx L (eA L d) (tb d) (fun j hj=>vZ L d j hj) (i+1) (by omega)
    omega
theorem WG (L:List Int) (i:Nat) (k:Int) (h:2≤(cS k).length):LP L i k∈cS k:=by
 have hn:=cT L i (n:=(cS k).length - 1) (by omega)
 have hlt:(1+aQ L i ((cS k).length - 1)).toNat<(cS k).length:=by omega
 unfold LP
 rw [gE hlt]
 exact List.getElem_mem hlt
theorem aBR (o y n:Int) (t q:List UInt8) (d:Nat) (hd:d≤40) (ht:t.length≤100) (hq:q.length≤100):(Tm.mk o y n t q []).few d=true:=by
 rw [Tm.few,xW]
 simp; omega
theorem aBS (z:Int):(nmT z).length≤100:=by
 have:∀ x∈aJb,x.length≤100:=by decide
 unfold nmT
 cases h:aJb[z.toNat]? with
 | none=>simp
 | some x=>exact this x (List.mem_of_getElem? h)
theorem aBT (z:Int):(qlT z).length≤100:=by
 have:∀ x∈aJc,x.length≤100:=by decide
 unfold qlT
 cases h:aJc[z.toNat]? with
 | none=>simp
 | some x=>exact this x (List.mem_of_getElem? h)
theorem DE (L:List Int) (i d:Nat) (hd:d≤40):(eW L i).1.few d=true:=by
 have h3:∀ x∈cS 3,x.t.length≤100:=by decide
 have hv:=h3 _ (WG L (i+1) 3 (by decide))
 unfold eW
 repeat' split
 all_goals exact aBR _ _ _ _ _ d hd (by first | exact Nat.zero_le _ | exact hv | exact aBS _) (by first | exact Nat.zero_le _ | exact aBT _)
theorem WH (o y n:Int) (ks:List Tm) (d:Nat) (hd:d≤40) (hk:ks.length≤8) (h:∀ x∈ks,x.few ((d+1:Nat):Int)=true):(Tm.mk o y n [] [] ks).few d=true:=by
 rw [Tm.few,pS,aBN (by omega)]
 simp only [Bool.and_eq_true,decide_eq_true_eq,List.all_eq_true]
 exact ⟨by omega,hk,by simp,by simp,h⟩
theorem NO (g:Nat→Tm×Nat) (p:Tm→Prop) (h:∀ j,p (g j).1):∀ (n s:Nat),∀ x∈(gF g n s).1,p x
 | 0,s,x,hx=>by cases hx
 | n+1,s,x,hx=>by
   simp only [gF,List.mem_append,List.mem_singleton] at hx
   rcases hx with hx | rfl
   ·exact NO g p h n s x hx
   ·exact h _
theorem DF (L:List Int):∀ (d i q:Nat),q+d≤40→(eA L d i).1.few q=true
 | 0,i,q,h=>DE L i q (by omega)
 | d+1,i,q,h=>by
   have hl:=DE L i q (by omega)
   have hl1:=DE L (i+1) q (by omega)
   have k:∀ (op:Int) (n s:Nat),n≤4→(DD (eA L d) op n s).1.few q=true:=fun op n s hn=>by
    simp only [DD]
    exact WH _ _ _ _ q (by omega) (by rw [DC]; omega) (NO _ (fun x=>x.few ((q+1:Nat):Int)=true) (fun j=>DF L d j (q+1) (by omega)) n s)
   have h3:=cT L (i+1+2) (n:=3) (by omega)
   rw [eA]
   split
   ·exact hl
   split
   ·exact hl1
   unfold sW
   split
   ·split
    ·exact aBR _ _ _ _ _ q (by omega) (by simp) (by simp)
    ·refine WH _ _ _ _ q (by omega) (by simp) ?_
     intro x hx
     simp only [List.mem_singleton] at hx
     subst hx
     exact DF L d _ (q+1) (by omega)
   split
   ·exact k _ 1 _ (by omega)
   split
   ·exact k _ 3 _ (by omega)
   split
   ·exact k _ _ _ (by omega)
   ·exact k _ 2 _ (by omega)
theorem EJ:∀ (m:Nat) (x:Tm),SizeOf.sizeOf x<m→∀ d:Nat,x.few d=true→x.fits
 | 0,_,h,_,_=>absurd h (by omega)
 | m+1,.mk o y n t q ks,hm,d,h=>by
   obtain ⟨hd,hk,ht,hl⟩:=aLO h
   rw [Tm.fits]
   refine ⟨by omega,?_⟩
   have:∀ l:List Tm,(∀ x∈l,x.fits)→cC l:=by
    intro l
    induction l with
    | nil=>intro _; rw [cC]; trivial
    | cons e es ih=>intro h; rw [cC]; exact ⟨h e List.mem_cons_self,ih fun x hx=>h x (List.mem_cons_of_mem _ hx)⟩
   exact this ks fun x hx=>EJ m x (by have:=Tm.kid_lt (e:=.mk o y n t q ks) (k:=x) hx; omega) (d+1) (hl x hx)
section
variable (b s:List UInt8)
variable {b s}
theorem aFf {c:UInt8} {q:List UInt8}:(cP (c::q)).1 ≠ 5:=by
 unfold cP
 simp only
 repeat' split
 all_goals simp
end
theorem MN {s:List UInt8}:∀ {l:List Tk},IE s l→okE l
 | [],h=>h.elim
 | [t],h=>⟨[],t,rfl,h⟩
 | t::u::r,h=>by
   obtain ⟨l,e,h1,h2⟩:=MN h.2.2
   exact ⟨t::l,e,by rw [h1]; rfl,h2⟩
theorem HY (s:List UInt8):okE (bX s):=MN (IF s)
def LI {α:Type} (rule:List Tk→cY α) (s:List UInt8):Except Nat α:=match rule (bX s) with
 | .error p=>.error p
 | .ok (x,m)=>if (eU m).kd=5 then .ok x else .error (lN m)
theorem KC {s:List UInt8} (h:(dD s).2=0):(dD s).1.valid=true∧gC (dD s).1=s:=by
 unfold dD at *
 cases hc:jD s with
 | none=>simp [hc] at h
 | some v =>
   rw [hc] at h
   simp only at h ⊢
   by_cases hg:cA s v=true
   ·rw [if_pos hg]
    unfold cA at hg
    simp only [Bool.and_eq_true,beq_iff_eq] at hg
    exact hg
   ·rw [if_neg hg] at h
    exact absurd (h:(2:Int)=0) (by decide)
theorem NN:gC (V.mk 1 0 [])=[48]:=by
 unfold gC
 rw [if_pos (by decide),if_pos rfl]
 show Lib.itoa ((0:Nat):Int)=[48]
 rw [Lib.itoa_nonneg]
 unfold Lib.decDigits
 decide
theorem aGw {s:List UInt8} (h:(dD s).2=0) (hk:(dD s).1.k=1):(dD s).1.n=0↔s=[48]:=by
 obtain ⟨h1,h2⟩:=KC h
 constructor
 ·intro h0
  generalize (dD s).1=v at *
  obtain ⟨k,n,t⟩:=v
  simp only at hk h0
  subst hk h0
  have ht:t=[]:=by
   unfold V.valid at h1
   simpa using h1
  subst ht
  rw [← h2,NN]
 ·rintro rfl
  have:=CQ (v:=V.mk 1 0 []) (by decide)
  rw [NN] at this
  rw [this]
theorem aIZ (s:List UInt8) (a:Nat):aKN (dP s a):=by
 unfold dP
 generalize s.drop (gI s a)=r
 generalize gI s a=z
 suffices h:((cP r).1=1∨(cP r).1=4→(cP r).2.2.1=r.take (cP r).2.1)∧((cP r).1=2→((cP r).2.2.2=0↔r.take (cP r).2.1=[48])) from { tx:=h.1,num:=h.2 }
 cases r with
 | nil=>exact ⟨fun h=>by simp [cP] at h,fun h=>by simp [cP] at h⟩
 | cons c q =>
   unfold cP
   simp only
   by_cases h1:jO c=true
   ·rw [if_pos h1]
    split
    ·exact ⟨fun _=>rfl,fun h=>by simp at h⟩
    ·exact ⟨fun h=>by simp at h,fun h=>by simp at h⟩
   rw [if_neg h1]
   by_cases h2:cU c=true
   ·rw [if_pos h2]
    split
    ·rename_i hr
     exact ⟨fun h=>by simp at h,fun _=>aGw hr.1 hr.2⟩
    ·exact ⟨fun h=>by simp at h,fun h=>by simp at h⟩
   rw [if_neg h2]
   by_cases h3:c=39
   ·rw [if_pos h3]
    cases q.findIdx? (·==39) with
    | none=>exact ⟨fun h=>by simp at h,fun h=>by simp at h⟩
    | some i =>
      simp only
      split
      ·exact ⟨fun h=>by simp at h,fun h=>by simp at h⟩
      ·exact ⟨fun h=>by simp at h,fun h=>by simp at h⟩
   rw [if_neg h3]
   split
   ·exact ⟨fun _=>rfl,fun h=>by simp at h⟩
   ·split
    ·exact ⟨fun _=>rfl,fun h=>by simp at h⟩
    ·exact ⟨fun h=>by simp at h,fun h=>by simp at h⟩
theorem KD (s:List UInt8):∀ (k a:Nat) (t:Tk),t∈sI s k a→∃ b,t=dP s b
 | 0,a,t,h=>by cases h
 | k+1,a,t,h=>by
   rw [sI] at h
   split at h
   ·exact ⟨a,List.mem_singleton.1 h⟩
   ·rcases List.mem_cons.1 h with e | h
    ·exact ⟨a,e⟩
    ·exact KD s k _ t h
theorem aBO (s:List UInt8):okL (bX s):=fun t ht=>by
 obtain ⟨b,rfl⟩:=KD s _ _ t ht
 exact aIZ s b
def aBP {α:Type} (rule:RS→α×RS) (s:List UInt8):Except Nat α :=
 let x:=rule (bX s,-1)
 let y:=if (eU x.2.1).kd=5 then x.2 else jC x.2
 if 0≤y.2 then .error y.2.toNat else .ok x.1
theorem aJa {α:Type} {rp:List Tk→cY α} {rr:RS→α×RS} {s:List UInt8} (h:EF (rp (bX s)) (rr (bX s,-1))):aBP rr s=LI rp s:=by
 unfold aBP LI
 cases hp:rp (bX s) with
 | error p =>
   rw [hp] at h
   have h':(rr (bX s,-1)).2.2=(p:Int):=h
   simp only
   have e:(if (eU (rr (bX s,-1)).2.1).kd=5 then (rr (bX s,-1)).2 else jC (rr (bX s,-1)).2).2=(p:Int):=by
    split
    ·exact h'
    ·rw [sL (by omega)]; exact h'
   rw [e,if_pos (by omega)]
   rfl
 | ok y =>
   obtain ⟨x,m⟩:=y
   rw [hp] at h
   have h':rr (bX s,-1)=(x,(m,-1)):=h
   rw [h']
   simp only
   by_cases h5:(eU m).kd=5
   ·rw [if_pos h5,if_pos h5]
    rfl
   ·rw [if_neg h5,if_neg h5,kF]
    simp
theorem aBQ (N n:Nat) (s:List UInt8):aBP (kX N n) s=LI (eV N n) s:=aJa (IX N n _ (aBO s))
def rS (t:Tk):List D:=[.int .i64 (if t.kd=5 then 0 else t.kd),.str t.rw,.int .i64 t.fr]
def tkA (t:Tk):AV:=.agg ((rS t).map AV.d)
def dE (T l:List Tk):Blk:=.var [.d (.sl (T.map rS)),.d (.int .i64 ((T.length - l.length:Nat):Int))]
theorem aKU {T l:List Tk} (hs:l <:+ T) (hn:l ≠ []):T.length - l.length<T.length∧∀ h,T[T.length - l.length]'h=eU l:=by
 obtain ⟨p,rfl⟩:=hs
 have hl:=List.length_pos_iff.2 hn
 refine ⟨by simp; omega,fun h=>?_⟩
 cases l with
 | nil=>exact absurd rfl hn
 | cons t r =>
   rw [List.getElem_append_right (by simp)]
   simp [eU]
theorem tR {T l:List Tk} (hs:l <:+ T) (hn:l ≠ []) (hT:T.length≤10000):Cf En 61 [.ptr 1000000 0 0] [dE T l] (tkA (eU l)) [dE T l]:=by
 obtain ⟨h1,h2⟩:=aKU hs hn
 refine cI fQ (fn:=Tryz.f61) rfl ?_
 unfold dE tkA
 generalize T.length - l.length=i at *
 have hw:=wI (n:=(T.length:Int) - 1)
 have hm:¬ ((T.length:Int) - 1<(i:Int)):=by omega
 generalize eU l=e at *
 simp [hw,hm,h1,h2,rS]
 all_goals exact gz
theorem aKV {T l:List Tk} (hs:l <:+ T) (hn:l ≠ []) (hT:T.length≤10000) (w:List UInt8):Cf En 118 [.ptr 1000000 0 0,.d (.str w)] [dE T l] (.d (.bool (isW w l))) [dE T l]:=by
 have hp:=tR hs hn hT
 have hw:isW w l=(((eU l).kd==1||(eU l).kd==4)&&(eU l).rw==w):=by
  cases l with
  | nil=>exact absurd rfl hn
  | cons t r=>rfl
 rw [hw]
 refine cI fQ (fn:=Tryz.f118) rfl ?_
 unfold dE tkA at *
 generalize T.length - l.length=i at *
 generalize eU l=e at *
 simp [rS] at hp ⊢
 (repeat' first|contradiction|exact .ok|apply And.intro|intro _|(apply gc<;>simp+contextual[rS]))
 refine kZ hp ?_
 simp<;>(repeat' first|contradiction|exact .ok|apply And.intro|intro _|(apply gc<;>simp+contextual))
 all_goals (by_cases k5:e.kd=5 <;> simp_all)
theorem JD {T l:List Tk} (hs:l <:+ T) (hn:l ≠ []) (hT:T.length≤10000) (w:List UInt8):Cf En 78 [.ptr 1000000 0 0,.d (.str w)] [dE T l] (.d (.bool (isW w l))) [dE T (if isW w l=true then l.tail else l)]:=by
 have hp:=aKV hs hn hT w
 have hlen:=hs.length_le
 have hpos:=List.length_pos_iff.2 hn
 refine cI fQ (fn:=Tryz.f78) rfl ?_
 cases hw:isW w l with
 | false =>
   rw [hw] at hp
   simp only [Bool.false_eq_true,if_false]
   unfold dE at *
   generalize T.length - l.length=i at *
   simp at hp ⊢
   (repeat' first|contradiction|exact .ok|apply And.intro|intro _|(apply gc<;>simp+contextual))
   refine kZ hp ?_
   simp
   all_goals exact gz
 | true =>
   rw [hw] at hp
   have hi:T.length - l.tail.length=T.length - l.length+1:=by rw [List.length_tail]; omega
   have hb:T.length - l.length≤10000:=by omega
   simp only [if_true]
   unfold dE at *
   rw [hi]
   generalize T.length - l.length=i at *
   have hwr:=wI (n:=(i:Int)+1)
   simp at hp ⊢
   (repeat' first|contradiction|exact .ok|apply And.intro|intro _|(apply gc<;>simp+contextual))
   refine kZ hp ?_
   simp [hwr] <;> exact gz
theorem VY (c:UInt8):Cf En 137 [.d (.int .u8 c.toNat)] [] (.d (.bool (jO c))) []:=by
 refine cI fQ (fn:=Tryz.f137) rfl ?_
 unfold jO
 simp
 (repeat' (first|contradiction|exact .ok|apply And.intro|intro _|(refine gc (fun h=>?_) (fun h=>?_)<;>(have h':=h;(try simp at h');first|done|simp[h,h']|simp))))
 all_goals first | done | omega | (rw [Bool.eq_iff_iff]; simp; omega) | (simp_all; done) | (simp_all; omega)
theorem QI (c:UInt8):Cf En 139 [.d (.int .u8 c.toNat)] [] (.d (.bool (cU c))) []:=by
 refine cI fQ (fn:=Tryz.f139) rfl ?_
 unfold cU
 simp
 (repeat' (first|contradiction|exact .ok|apply And.intro|intro _|(refine gc (fun h=>?_) (fun h=>?_)<;>(have h':=h;(try simp at h');first|done|simp[h,h']|simp))))
 all_goals first | done | omega | (rw [Bool.eq_iff_iff]; simp; omega) | (simp_all; done) | (simp_all; omega)
theorem NL (c:UInt8):dU c=((c.toNat:Int)==32||(c.toNat:Int)==10):=by
 unfold dU
 rw [Bool.eq_iff_iff]
 simp
 constructor
 ·rintro (rfl | rfl) <;> simp
 ·rintro (h | h)
  ·exact .inl (UInt8.toNat_inj.1 (by simpa using (by omega:c.toNat=32)))
  ·exact .inr (UInt8.toNat_inj.1 (by simpa using (by omega:c.toNat=10)))
theorem aIG (c:UInt8):Cf En 98 [.d (.int .u8 c.toNat)] [] (.d (.bool (dU c))) []:=by
 refine cI fQ (fn:=Tryz.f98) rfl ?_
 rw [NL]
 simp
 (repeat' (first|contradiction|exact .ok|apply And.intro|intro _|(refine gc (fun h=>?_) (fun h=>?_)<;>(have h':=h;(try simp at h');first|done|simp[h,h']|simp))))
 all_goals first | done | omega | (rw [Bool.eq_iff_iff]; simp; omega) | (simp_all; done) | (simp_all; omega)
theorem aIH (c:UInt8):Cf En 138 [.d (.int .u8 c.toNat)] [] (.d (.bool (dR c))) []:=by
 have h1:=VY c
 have h2:=QI c
 have hn:dR c=(jO c||(cU c||c.toNat==95)):=rfl
 rw [hn]
 generalize jO c=L at *
 generalize cU c=D at *
 refine cI fQ (fn:=Tryz.f138) rfl ?_
 simp
 (repeat' (first|contradiction|exact .ok|apply And.intro|intro _|(refine gc (fun h=>?_) (fun h=>?_)<;>(have h':=h;(try simp at h');first|done|simp[h,h']|simp))))
 refine aP h1 ?_
 simp
 (repeat' (first|contradiction|exact .ok|apply And.intro|intro _|(refine gc (fun h=>?_) (fun h=>?_)<;>(have h':=h;(try simp at h');first|done|simp[h]|simp))))
 all_goals first | (refine aP h2 ?_; simp; (repeat' (first | contradiction | exact .of (by kernel_rfl) | refine And.intro ?_ ?_ | intro _ | (refine aI (fun h=>?_) (fun h=>?_) <;> (have h':=h; (try simp at h'); first | done | simp [h] | simp))))) | skip
 all_goals first | (simp_all; done) | (simp only [*,Bool.false_or]; rw [Bool.eq_iff_iff]; simp; omega)
theorem aGc (fc:Nat) (p:UInt8→Bool) (hc:∀ c:UInt8,Cf En fc [.d (.int .u8 c.toNat)] [] (.d (.bool (p c))) []) (s:List UInt8) (hs:s.length≤10000) :
  Cf En 97 [.d (.str s),.clo fc []] [] (.d (.int .i64 (s.takeWhile p).length)) []:=by
 refine cI fQ (fn:=Tryz.f97) rfl ?_
 simp
 (repeat' (first|contradiction|exact .ok|apply And.intro|intro _|(refine gc (fun h=>?_) (fun h=>?_)<;>(have h':=h;(try simp at h');first|done|simp[h,h']|simp))))
 refine aL fQ (fun i:Nat=>{ s:=eP [(0,.d (.str s)),(1,.clo fc []),(5,.d (.int .i64 i))],b:=eG [] }) (fun i=>i≤s.length∧(s.takeWhile p).length=i+((s.drop i).takeWhile p).length) (fun i=>s.length - i) 0 ⟨by simp,by simp⟩ (aJ _ [] .nil (by simp)) ?_
 rintro i ⟨hi,hl⟩
 by_cases hlt:i<s.length
 ·have h1:=hc s[i]
  have hw:=wI (n:=(i:Int)+1)
  rw [List.drop_eq_getElem_cons hlt,List.takeWhile_cons] at hl
  obtain ⟨e,he⟩:∃ e,e=s[i]:=⟨_,rfl⟩
  have hge:∀ h,s[i]'h=e:=fun _=>he.symm
  rw [hge] at h1 hl
  cases hp:p e with
  | true =>
    rw [hp,if_pos rfl,List.length_cons] at hl
    rw [hp] at h1
    simp [hlt,hge]
    (repeat' (first|contradiction|exact .ok|apply And.intro|intro _|(refine gc (fun h=>?_) (fun h=>?_)<;>(have h':=h;(try simp at h');first|done|simp[h,h',hlt,hge]|simp[hlt,hge]))))
    refine aP h1 ?_
    simp [hw]
    (repeat' (first|contradiction|exact .ok|apply And.intro|intro _|(refine gc (fun h=>?_) (fun h=>?_)<;>(have h':=h;(try simp at h');first|done|simp[h,h',hw]|simp[hw]))))
    refine ⟨i+1,⟨by omega,by omega⟩,?_,by simp; omega⟩
    exact aJ _ [] .nil (by simp)
  | false =>
    rw [hp,if_neg (by simp)] at hl
    rw [hp] at h1
    simp at hl
    rw [hl]
    simp [hlt,hge]
    (repeat' (first|contradiction|exact .ok|apply And.intro|intro _|(refine gc (fun h=>?_) (fun h=>?_)<;>(have h':=h;(try simp at h');first|done|simp[h,h',hlt,hge]|simp[hlt,hge]))))
    refine aP h1 ?_
    simp
    all_goals exact gz
 ·obtain rfl:i=s.length:=by omega
  simp at hl
  rw [hl]
  simp
  all_goals exact gz
end Go.Proofs.Tryz
