import Derived.Test.YtklnfckiabhceaaGreatDoorWor
import Derived.Test.YtklnfckiabhceaaGreatDoorKGoo
import Derived.Test.YtklnfckiabhceaaGreatDoorOfz
set_option linter.all false
namespace Go.Proofs.Tryz
open Go.Ab
set_option maxRecDepth 100000
set_option maxHeartbeats 8000000
theorem of_made {S:List Tb} {w:W} (h:WOk S w.A w.R) (hS:S.length≤10) {I:List (List (List V))} (hI:I.length≤1000∧∀ t∈I,t.length≤1000∧∀ r∈t,r.length≤9223372036854775807):OfOk I (outL w.R S.length) (outL w.A S.length):=by
 refine ⟨hI.1,by rw [outL_len]; omega,by rw [outL_len]; omega,hI.2,fun l hl=>?_,fun l hl=>?_⟩
 ·rcases outL_mem hl with rfl | ⟨j,e⟩
  ·simp
  ·obtain ⟨h1,h2⟩:=h.r j l e
   exact ⟨by omega,fun x hx=>by have:=h2 x hx; omega⟩
 ·rcases outL_mem hl with rfl | ⟨j,e⟩
  ·simp
  ·obtain ⟨h1,h2⟩:=h.a j l e
   exact ⟨by omega,fun x hx=>by have:=(h2 x hx).len; omega⟩
theorem worldG_i (L:List Int) (S:List Tb):∀ (l:List Int) (A:WA) (R:WR) (i:Nat),(worldG L S l A R i).i≤i+11*l.length
 | [],A,R,i=>by simp [worldG]
 | z::l,A,R,i=>by
   have h1:=wA_le L S i z.toNat
   rw [worldG]
   split
   ·simp only [List.length_cons]; omega
   ·have:=worldG_i L S l (upd A z.toNat (some (wL L S i z.toNat))) (upd R z.toNat (some (wQ L S R i z.toNat).2)) (wA L S i z.toNat).2
    simp only [List.length_cons]; omega
theorem region_of (L:List Int) (I:List (List (List V))) (hI:I.length≤9223372036854775807∧∀ t∈I,t.length≤9223372036854775807∧∀ r∈t,r.length≤9223372036854775807) (t r:Int) :
  Cf Es 4 [.d (.sl (ints L)),instA I,.d (.int .i64 t),.d (.int .i64 r)] [] (.d (.bool true)) []:=by
 refine cf_intro mixs (fn:=Tryz.f4) (by kernel_rfl) rfl (by kernel_rfl) (by decide) (by simp) ?_
 by_cases c6:6<I.length
 ·have c6i:(6:Int)<I.length:=by omega
  simp [instA,c6i]
  (repeat' (first|contradiction|exact .ok|apply And.intro|intro _|(refine gc (fun h=>?_) (fun h=>?_)<;>(have h':=h;(try simp at h');first|done|simp[h,h',c6i]|simp[c6i]))))
 have c6i:¬ (6:Int)<I.length:=by omega
 simp [instA,c6i]
 (repeat' (first|contradiction|exact .ok|apply And.intro|intro _|(refine gc (fun h=>?_) (fun h=>?_)<;>(have h':=h;(try simp at h');first|done|simp[h,h',c6i]|simp[c6i]))))
 refine aloopT mixs (by decide) (fun k:Nat=>{ s:=mkS [(0,.d (.sl (ints L))),(2,.d (.int .i64 t)),(3,.d (.int .i64 r)),(5,.ptr 5 0 0),(9,.d (.int .i64 k))],b:=mkB [(5,5,.var [.d (.sl (I.map tabD))])] })
  (fun k=>k≤I.length∧∀ t∈I.take k,t.length≤20) (fun k=>I.length - k) 0 ⟨by simp,by simp⟩ (sub_mk _ [(5,5,_)] ⟨by simp,by simp,by simp [renOf,Blk.live],by simp⟩ (by simp [renOf])) ?_
 rintro k ⟨hk,h20⟩
 by_cases hkl:k<I.length
 ·obtain ⟨u,hu⟩:∃ u,u=I[k]:=⟨_,rfl⟩
  have hgu:∀ h,I[k]'h=u:=fun _=>hu.symm
  have hwk:=wrap_in (n:=(k:Int)+1) (by omega) (by omega)
  by_cases c20:20<u.length
  ·have c20i:(20:Int)<u.length:=by omega
   simp [hkl,hgu,tabD,c20i]
   (repeat' (first|contradiction|exact .ok|apply And.intro|intro _|(refine gc (fun h=>?_) (fun h=>?_)<;>(have h':=h;(try simp at h');first|done|simp[h,h',c20i]|simp[c20i]))))
  ·have c20i:¬ (20:Int)<u.length:=by omega
   simp [hkl,hgu,tabD,c20i]
   (repeat' (first|contradiction|exact .ok|apply And.intro|intro _|(refine gc (fun h=>?_) (fun h=>?_)<;>(have h':=h;(try simp at h');first|done|simp[h,h',c20i]|simp[c20i]))))
   refine ⟨k+1,⟨by omega,fun t ht=>?_⟩,?_,by simp; omega⟩
   ·rw [take_snoc hkl,← hu] at ht
    rcases List.mem_append.1 ht with ht | ht
    ·exact h20 t ht
    ·rw [List.mem_singleton] at ht; subst ht; omega
   ·exact sub_mk _ [(5,5,_)] ⟨by simp,by simp,by simp [renOf,Blk.live],by simp⟩ (by simp [renOf,hwk])
 obtain rfl:k=I.length:=by omega
 rw [List.take_length] at h20
 clear hk hkl
 obtain ⟨N,hN⟩:∃ N,N=(1+nextV L 0 3).toNat:=⟨_,rfl⟩
 have hn3:=nextV_in L 0 (n:=3) (by omega)
 obtain ⟨S,hS⟩:∃ S,S=(tabsP L (0+1) N).1:=⟨_,rfl⟩
 obtain ⟨b,hb⟩:∃ b,b=(tabsP L (0+1) N).2:=⟨_,rfl⟩
 have hM:MadeS S:=by rw [hS]; exact made_made L _ N (by omega)
 have hF:FillOk (freS S):=by rw [hS]; exact fill_free L _ N (by omega)
 have hD:Dec S:=dec_of hM.dec
 have hDf:Dec (freS S):=dec_of (dec_free hM.dec)
 have hw:=t_world L 0 (by omega) S b (by rw [hS,hN]) (by rw [hb,hN]) hM
 have hbl:=tabsP_le L (0+1) N
 rw [← hb] at hbl
 have hfew:=hM.fill.few
 have hOr:=ordS_ok S
 have hOl:=ordS_len S
 have hwi:=worldG_i L S (ordS S).1 (fun _=>none) (fun _=>none) b
 have hwk:=worldG_ok L hM (ordS S).1 (fun _=>none) (fun _=>none) b hOr.rng ⟨(fun _ _ h=>by cases h),(fun _ _ h=>by cases h)⟩
 generalize worldG L S (ordS S).1 (fun _=>none) (fun _=>none) b=w at *
 have hN3:N≤3:=by omega
 clear hS hb hN hOr
 simp [tapB] at hw ⊢
 (repeat' (first|contradiction|exact .ok|apply And.intro|intro _|(refine gc (fun h=>?_) (fun h=>?_)<;>(have h':=h;(try simp at h');first|done|simp[h,h']|simp))))
 refine acallT_hand [46] hw (by simp) (by simp) (by simp) (by simp [tapB,ints]) (by simp) ?_
 cases hok:w.ok with
 | false =>
   simp [worldA,hok,schA]
   all_goals exact gz
 | true =>
 have hWk:=hwk hok
 have hof:=of_made hWk (by omega) (I:=I) ⟨by omega,fun t ht=>⟨by have:=h20 t ht; omega,(hI.2 t ht).2⟩⟩
 have h1:=p_Of S hM.fill hD I (outL w.R S.length) (outL w.A S.length) hof t r
 have h2:=r_Of S hM.fill hD I (outL w.R S.length) (outL w.A S.length) hof t r
 have hfree:=ups (t_free S (by omega))
 have hgood:=ups (t_good L (freS S) hF 5 (by omega) w.i (by omega))
 have hgk:=good_ok L hF 5 w.i (by omega)
 obtain ⟨J,e2,hJ⟩:∃ J e2,goodG L (freS S) 5 w.i=(J,e2):=⟨_,_,rfl⟩
 rw [hJ] at hgood hgk
 simp only at hgood hgk
 have hofJ:=of_made hWk (by omega) (I:=J) ⟨hgk.1,fun t ht=>⟨by have:=(hgk.2 t ht).1; omega,fun r hr=>by have:=(hgk.2 t ht).2 r hr; omega⟩⟩
 have h1J:=fun t r=>p_Of (freS S) hF hDf J (outL w.R S.length) (outL w.A S.length) hofJ t r
 have h2J:=fun t r=>r_Of (freS S) hF hDf J (outL w.R S.length) (outL w.A S.length) hofJ t r
 unfold worldA
 rw [hok]
 generalize ofZ S I (outL w.R S.length) (outL w.A S.length) t r=Z at *
 generalize ofZ (freS S) J (outL w.R S.length) (outL w.A S.length)=ZJ at *
 generalize outL w.R S.length=R at *
 generalize outL w.A S.length=A at *
 clear hJ hofJ hof hwk hWk
 simp [schA]
 (repeat' (first|contradiction|exact .ok|apply And.intro|intro _|(refine gc (fun h=>?_) (fun h=>?_)<;>(have h':=h;(try simp at h');first|done|simp[h,h']|simp))))
 refine acallT_plain h1 (by simp [schA,instA]) ?_
 simp [pairO]
 (repeat' (first|contradiction|exact .ok|apply And.intro|intro _|(refine gc (fun h=>?_) (fun h=>?_)<;>(have h':=h;(try simp at h');first|done|simp[h,h']|simp))))
 refine acallT_plain h2 (by simp [schA,instA]) ?_
 simp [pairO]
 (repeat' (first|contradiction|exact .ok|apply And.intro|intro _|(refine gc (fun h=>?_) (fun h=>?_)<;>(have h':=h;(try simp at h');first|done|simp[h,h']|simp))))
 refine acallT_plain hfree (by simp [schA]) ?_
 simp [schA]
 (repeat' (first|contradiction|exact .ok|apply And.intro|intro _|(refine gc (fun h=>?_) (fun h=>?_)<;>(have h':=h;(try simp at h');first|done|simp[h,h']|simp))))
 simp [tapB] at hgood
 refine acallT_hand [46] hgood (by simp) (by simp) (by simp) (by simp [tapB,ints]) (by simp [schA]) ?_
 simp [instA]
 (repeat' (first|contradiction|exact .ok|apply And.intro|intro _|(refine gc (fun h=>?_) (fun h=>?_)<;>(have h':=h;(try simp at h');first|done|simp[h,h']|simp))))
 have hJl:=hgk.1
 refine aloopT mixs (by decide) (fun k:Nat=>{ s:=mkS [(11,.ptr 11 0 0),(12,.d (.sl (A.map atD))),(13,.d (.sl (R.map rgD))),(19,.ptr 19 0 0),(20,.d (.int .i64 k))],b:=mkB [(11,11,.var [.d (.sl ((freS S).map Tb.c))]),(19,19,.var [.d (.sl (J.map tabD))])] })
  (fun k=>k≤J.length) (fun k=>J.length - k) 0 (by simp) (sub_mk _ [(11,11,_),(19,19,_)] ⟨by simp,by simp,by simp [renOf,Blk.live],by simp⟩ (by simp [renOf])) ?_
 intro k hk
 by_cases hkl:k<J.length
 ·obtain ⟨u,hu⟩:∃ u,u=J[k]:=⟨_,rfl⟩
  have hgu:∀ h,J[k]'h=u:=fun _=>hu.symm
  have hul:=(hgk.2 u (by rw [hu]; exact List.getElem_mem hkl)).1
  have hwk:=wrap_in (n:=(k:Int)+1) (by omega) (by omega)
  simp [hkl]
  (repeat' (first|contradiction|exact .ok|apply And.intro|intro _|(refine gc (fun h=>?_) (fun h=>?_)<;>(have h':=h;(try simp at h');first|done|simp[h,h']|simp))))
  refine aloopT mixs (by decide) (fun n:Nat=>{ s:=mkS [(11,.ptr 11 0 0),(12,.d (.sl (A.map atD))),(13,.d (.sl (R.map rgD))),(19,.ptr 19 0 0),(20,.d (.int .i64 k)),(21,.d (.int .i64 n))],b:=mkB [(11,11,.var [.d (.sl ((freS S).map Tb.c))]),(19,19,.var [.d (.sl (J.map tabD))])] })
   (fun n=>n≤u.length) (fun n=>u.length - n) 0 (by simp) (sub_mk _ [(11,11,_),(19,19,_)] ⟨by simp,by simp,by simp [renOf,Blk.live],by simp⟩ (by simp [renOf])) ?_
  intro n hn
  by_cases hnl:n<u.length
  ·have hwn:=wrap_in (n:=(n:Int)+1) (by omega) (by omega)
   have g1:=h1J k n
   have g2:=h2J k n
   generalize ZJ k n=z at *
   simp [hkl,hgu,tabD,hnl]
   (repeat' (first|contradiction|exact .ok|apply And.intro|intro _|(refine gc (fun h=>?_) (fun h=>?_)<;>(have h':=h;(try simp at h');first|done|simp[h,h']|simp))))
   refine acallT_plain g1 (by simp [schA,instA]) ?_
   simp [pairO]
   (repeat' (first|contradiction|exact .ok|apply And.intro|intro _|(refine gc (fun h=>?_) (fun h=>?_)<;>(have h':=h;(try simp at h');first|done|simp[h,h']|simp))))
   refine acallT_plain g2 (by simp [schA,instA]) ?_
   simp [pairO]
   (repeat' (first|contradiction|exact .ok|apply And.intro|intro _|(refine gc (fun h=>?_) (fun h=>?_)<;>(have h':=h;(try simp at h');first|done|simp[h,h']|simp))))
   refine ⟨n+1,by omega,?_,by simp; omega⟩
   exact sub_mk _ [(11,11,_),(19,19,_)] ⟨by simp,by simp,by simp [renOf,Blk.live],by simp⟩ (by simp [renOf,hwn])
  obtain rfl:n=u.length:=by omega
  simp [hkl,hgu,tabD]
  (repeat' (first|contradiction|exact .ok|apply And.intro|intro _|(refine gc (fun h=>?_) (fun h=>?_)<;>(have h':=h;(try simp at h');first|done|simp[h,h']|simp))))
  refine ⟨k+1,by omega,?_,by simp; omega⟩
  exact sub_mk _ [(11,11,_),(19,19,_)] ⟨by simp,by simp,by simp [renOf,Blk.live],by simp⟩ (by simp [renOf,hwk])
 obtain rfl:k=J.length:=by omega
 simp
 all_goals exact gz
end Go.Proofs.Tryz
