import Derived.Test.YthpmjipkofbeiaaGreatDoorTLvl
set_option linter.all false
namespace Go.Proofs.Tryz
open Go.Ab
set_option maxRecDepth 100000
set_option maxHeartbeats 4000000
def cprS (p q:List Tk→Res Tm) (l:List Tk):Res Tm:=bind2 (p l) fun a l'=>match oneOf cmpW l' with
    | some i=>mapT (fun b=>mkT (14+i) [a,b]) (p l'.tail)
    | none =>
      if isW wIs l'=true then
       if isW wNull l'.tail=true then .ok (mkT 21 [a],l'.tail.tail)
       else if isW wTrue l'.tail=true then .ok (mkT 25 [a],l'.tail.tail)
       else bind1 (expS [wNot,wNull] l'.tail) fun l2=>.ok (mkT 24 [mkT 21 [a]],l2)
      else if isW wIn l'=true then
       bind1 (expS [wOpen] l'.tail) fun l2=>bind2 (q l2) fun b l3=>bind2 (moreS q l3.length [a,b] l3) fun ks l4=>bind1 (expS [wShut] l4) fun l5=>.ok (mkT 28 ks,l5)
      else .ok (a,l')
section
variable {fD:Nat→D} {T l:List Tk} {L:Nat} {p q:List Tk→Res Tm}
theorem p_comparison (hF:FailOk fD) (hp:Rule Es fD T (L+1) 178 p) (hq:Rule Es fD T L 31 q) (hT:T.length≤10000) (ha:At T l) (hl:l.length≤L+1) :
  CfO Es 143 [.ptr 1000000 0 0] [rdB T l] (outS fD T (cprS p q l)):=by
 generalize ho:outS fD T (cprS p q l)=o
 unfold cprS at ho
 refine cfO_intro mixs (fn:=Tryz.f143) (by kernel_rfl) rfl (by kernel_rfl) (by decide) o (by simp) (by simp [rdB]) ?_
 simp<;>(repeat' first|contradiction|exact .ok|apply And.intro|intro _|(refine gc (fun h=>?_) (fun h=>?_)<;>(have h':=h;(try simp at h');first|done|simp[h,h']|simp)))
 rcases hp.step ha hl with ⟨e,he,hc⟩ | ⟨a,l1,he,h1,hl1,hc⟩
 ·rw [he,bind2_err] at ho
  subst ho
  exact acallP_pan [1000000] (hc) (by simp) (by simp) (by simp) (by simp) (by kernel_rfl)
 rw [he,bind2_ok] at ho
 refine acallP_of (acallT_hand [1000000] (hc) (by simp) (by simp) (by simp) (by simp) (by simp) ?_)
 simp<;>(repeat' first|contradiction|exact .ok|apply And.intro|intro _|(refine gc (fun h=>?_) (fun h=>?_)<;>(have h':=h;(try simp at h');first|done|simp[h,h']|simp)))
 cases hi:oneOf cmpW l1 with
 | some i =>
   rw [hi] at ho
   simp only at ho
   have hlen:=one_len hi
   have hil:i<7:=by
    unfold oneOf at hi
    exact (List.findIdx?_eq_some_iff_getElem.1 hi).1
   have hwr:=wrap_in (n:=14+(i:Int)) (by omega) (by omega)
   refine acallP_of (acallT_hand [1000000] (one_yes h1 hT (by decide) hi) (by simp) (by simp) (by simp) (by simp) (by simp) ?_)
   simp [hwr]<;>(repeat' first|contradiction|exact .ok|apply And.intro|intro _|(refine gc (fun h=>?_) (fun h=>?_)<;>(have h':=h;(try simp at h');first|done|simp[h,h',hwr]|simp[hwr])))
   rcases hp.step (h1.tl1 hi) (by omega) with ⟨e,he2,hc2⟩ | ⟨b,l2,he2,h2,hl2,hc2⟩
   ·rw [he2] at ho
    subst ho
    exact acallP_pan [1000000] (hc2) (by simp) (by simp) (by simp) (by simp) (by kernel_rfl)
   rw [he2] at ho
   subst ho
   refine acallP_of (acallT_hand [1000000] (hc2) (by simp) (by simp) (by simp) (by simp) (by simp) ?_)
   simp<;>(repeat' first|contradiction|exact .ok|apply And.intro|intro _|(refine gc (fun h=>?_) (fun h=>?_)<;>(have h':=h;(try simp at h');first|done|simp[h,h']|simp)))
   refine acallP_of (acallT_plain (ups (p_made (14+i) [a,b])) (by simp) ?_)
   simp only [mapT,bind2,outS]
   simp<;>(repeat' first|contradiction|exact .ok|apply And.intro|intro _|(refine gc (fun h=>?_) (fun h=>?_)<;>(have h':=h;(try simp at h');first|done|simp[h,h']|simp)))
 | none =>
   rw [hi] at ho
   simp only at ho
   refine acallP_of (acallT_hand [1000000] (one_no h1 hT (by decide) hi) (by simp) (by simp) (by simp) (by simp) (by simp) ?_)
   simp<;>(repeat' first|contradiction|exact .ok|apply And.intro|intro _|(refine gc (fun h=>?_) (fun h=>?_)<;>(have h':=h;(try simp at h');first|done|simp[h,h']|simp)))
   cases hs:isW wIs l1 with
   | true =>
     rw [hs,if_pos rfl] at ho
     have h2:=h1.tl hs
     refine acallP_of (acallT_hand [1000000] (take_yes h1 hT hs) (by simp) (by simp) (by simp) (by simp) (by simp) ?_)
     simp<;>(repeat' first|contradiction|exact .ok|apply And.intro|intro _|(refine gc (fun h=>?_) (fun h=>?_)<;>(have h':=h;(try simp at h');first|done|simp[h,h']|simp)))
     cases hn:isW wNull l1.tail with
     | true =>
       rw [hn,if_pos rfl] at ho
       subst ho
       refine acallP_of (acallT_hand [1000000] (take_yes h2 hT hn) (by simp) (by simp) (by simp) (by simp) (by simp) ?_)
       simp<;>(repeat' first|contradiction|exact .ok|apply And.intro|intro _|(refine gc (fun h=>?_) (fun h=>?_)<;>(have h':=h;(try simp at h');first|done|simp[h,h']|simp)))
       refine acallP_of (acallT_plain (ups (p_made 21 [a])) (by simp) ?_)
       simp only [outS]
       simp<;>(repeat' first|contradiction|exact .ok|apply And.intro|intro _|(refine gc (fun h=>?_) (fun h=>?_)<;>(have h':=h;(try simp at h');first|done|simp[h,h']|simp)))
     | false =>
       rw [hn,if_neg (by simp)] at ho
       refine acallP_of (acallT_hand [1000000] (take_no h2 hT hn) (by simp) (by simp) (by simp) (by simp) (by simp) ?_)
       simp<;>(repeat' first|contradiction|exact .ok|apply And.intro|intro _|(refine gc (fun h=>?_) (fun h=>?_)<;>(have h':=h;(try simp at h');first|done|simp[h,h']|simp)))
       cases ht:isW wTrue l1.tail with
       | true =>
         rw [ht,if_pos rfl] at ho
         subst ho
         refine acallP_of (acallT_hand [1000000] (take_yes h2 hT ht) (by simp) (by simp) (by simp) (by simp) (by simp) ?_)
         simp<;>(repeat' first|contradiction|exact .ok|apply And.intro|intro _|(refine gc (fun h=>?_) (fun h=>?_)<;>(have h':=h;(try simp at h');first|done|simp[h,h']|simp)))
         refine acallP_of (acallT_plain (ups (p_made 25 [a])) (by simp) ?_)
         simp only [outS]
         simp<;>(repeat' first|contradiction|exact .ok|apply And.intro|intro _|(refine gc (fun h=>?_) (fun h=>?_)<;>(have h':=h;(try simp at h');first|done|simp[h,h']|simp)))
       | false =>
         rw [ht,if_neg (by simp)] at ho
         refine acallP_of (acallT_hand [1000000] (take_no h2 hT ht) (by simp) (by simp) (by simp) (by simp) (by simp) ?_)
         simp<;>(repeat' first|contradiction|exact .ok|apply And.intro|intro _|(refine gc (fun h=>?_) (fun h=>?_)<;>(have h':=h;(try simp at h');first|done|simp[h,h']|simp)))
         rcases exp_step hF h2 hT [wNot,wNull] (by decide) with ⟨e,he3,hc3⟩ | ⟨l4,he3,h4,hl4,hc3⟩
         ·rw [he3] at ho
          subst ho
          exact acallP_pan [1000000] (hc3) (by simp) (by simp) (by simp) (by simp) (by kernel_rfl)
         rw [he3,bind1_ok] at ho
         subst ho
         refine acallP_of (acallT_hand [1000000] (hc3) (by simp) (by simp) (by simp) (by simp) (by simp) ?_)
         simp<;>(repeat' first|contradiction|exact .ok|apply And.intro|intro _|(refine gc (fun h=>?_) (fun h=>?_)<;>(have h':=h;(try simp at h');first|done|simp[h,h']|simp)))
         refine acallP_of (acallT_plain (ups (p_made 21 [a])) (by simp) ?_)
         simp<;>(repeat' first|contradiction|exact .ok|apply And.intro|intro _|(refine gc (fun h=>?_) (fun h=>?_)<;>(have h':=h;(try simp at h');first|done|simp[h,h']|simp)))
         refine acallP_of (acallT_plain (ups (p_made 24 [mkT 21 [a]])) (by simp) ?_)
         simp only [outS]
         simp<;>(repeat' first|contradiction|exact .ok|apply And.intro|intro _|(refine gc (fun h=>?_) (fun h=>?_)<;>(have h':=h;(try simp at h');first|done|simp[h,h']|simp)))
   | false =>
     rw [hs,if_neg (by simp)] at ho
     refine acallP_of (acallT_hand [1000000] (take_no h1 hT hs) (by simp) (by simp) (by simp) (by simp) (by simp) ?_)
     simp<;>(repeat' first|contradiction|exact .ok|apply And.intro|intro _|(refine gc (fun h=>?_) (fun h=>?_)<;>(have h':=h;(try simp at h');first|done|simp[h,h']|simp)))
     cases hn:isW wIn l1 with
     | false =>
       rw [hn,if_neg (by simp)] at ho
       subst ho
       refine acallP_of (acallT_hand [1000000] (take_no h1 hT hn) (by simp) (by simp) (by simp) (by simp) (by simp) ?_)
       simp only [outS]
       simp<;>(repeat' first|contradiction|exact .ok|apply And.intro|intro _|(refine gc (fun h=>?_) (fun h=>?_)<;>(have h':=h;(try simp at h');first|done|simp[h,h']|simp)))
     | true =>
       rw [hn,if_pos rfl] at ho
       have hlen:=isW_len hn
       refine acallP_of (acallT_hand [1000000] (take_yes h1 hT hn) (by simp) (by simp) (by simp) (by simp) (by simp) ?_)
       simp<;>(repeat' first|contradiction|exact .ok|apply And.intro|intro _|(refine gc (fun h=>?_) (fun h=>?_)<;>(have h':=h;(try simp at h');first|done|simp[h,h']|simp)))
       rcases exp_step hF (h1.tl hn) hT [wOpen] (by decide) with ⟨e,he3,hc3⟩ | ⟨l2,he3,h2,hl2,hc3⟩
       ·rw [he3] at ho
        subst ho
        exact acallP_pan [1000000] (hc3) (by simp) (by simp) (by simp) (by simp) (by kernel_rfl)
       rw [he3,bind1_ok] at ho
       refine acallP_of (acallT_hand [1000000] (hc3) (by simp) (by simp) (by simp) (by simp) (by simp) ?_)
       simp<;>(repeat' first|contradiction|exact .ok|apply And.intro|intro _|(refine gc (fun h=>?_) (fun h=>?_)<;>(have h':=h;(try simp at h');first|done|simp[h,h']|simp)))
       rcases hq.step h2 (by omega) with ⟨e,he4,hc4⟩ | ⟨b,l3,he4,h3,hl3,hc4⟩
       ·rw [he4,bind2_err] at ho
        subst ho
        exact acallP_pan [1000000] (hc4) (by simp) (by simp) (by simp) (by simp) (by kernel_rfl)
       rw [he4,bind2_ok] at ho
       refine acallP_of (acallT_hand [1000000] (hc4) (by simp) (by simp) (by simp) (by simp) (by simp) ?_)
       simp<;>(repeat' first|contradiction|exact .ok|apply And.intro|intro _|(refine gc (fun h=>?_) (fun h=>?_)<;>(have h':=h;(try simp at h');first|done|simp[h,h']|simp)))
       have hTl:=ha.sfx.length_le
       refine aloopPT mixs (by decide) (fun y:List Tm×List Tk=>{ s:=mkS [(0,.ptr 1000000 0 0),(2,.ptr 2 0 0),(3,.ptr 3 0 0),(5,.ref 900 0 y.1.length 6)],b:=mkB [(1000000,1000000,rdB T y.2),(2,2,.var zTm),(3,3,.var (a.c.map AV.d)),(900,900,.arr 25 6 (y.1.map Tm.c) false)] })
        (fun y=>At T y.2∧y.2.length≤L∧y.1.length+y.2.length≤10002∧∃ k,y.2.length≤k∧outS fD T (bind2 (moreS q k y.1 y.2) fun ks l4=>bind1 (expS [wShut] l4) fun l5=>.ok (mkT 28 ks,l5))=o) (fun y=>y.2.length) ([a,b],l3) ⟨h3,by simp only; omega,by simp; omega,_,Nat.le_refl _,ho⟩
        (sub_mk _ [(1000000,1000000,_),(2,2,_),(3,3,_),(900,52,_)] ⟨by simp,by simp,by simp [renOf,Blk.live],base1⟩ (by simp [renOf])) ?_
       rintro ⟨ks,l5⟩ ⟨h5,hl5,hk2,k,hk,ho3⟩
       simp only at h5 hl5 hk hk2 ho3
       cases hcm:isW wComma l5 with
       | true =>
         have hlen5:=isW_len hcm
         obtain ⟨k,rfl⟩:∃ z,k=z+1:=⟨k - 1,by omega⟩
         rw [moreS,hcm,if_pos rfl] at ho3
         simp<;>(repeat' first|contradiction|exact .ok|apply And.intro|intro _|(refine gc (fun h=>?_) (fun h=>?_)<;>(have h':=h;(try simp at h');first|done|simp[h,h']|simp)))
         refine acallP_of (acallT_hand [1000000] (take_yes h5 hT hcm) (by simp) (by simp) (by simp) (by simp) (by simp) ?_)
         simp<;>(repeat' first|contradiction|exact .ok|apply And.intro|intro _|(refine gc (fun h=>?_) (fun h=>?_)<;>(have h':=h;(try simp at h');first|done|simp[h,h']|simp)))
         rcases hq.step (h5.tl hcm) (by omega) with ⟨e,he6,hc6⟩ | ⟨t6,l6,he6,h6,hl6,hc6⟩
         ·rw [he6,bind2_err,bind2_err] at ho3
          subst ho3
          exact acallP_pan [1000000] (hc6) (by simp) (by simp) (by simp) (by simp) (by kernel_rfl)
         rw [he6,bind2_ok] at ho3
         have hb:(ks.length+1)*80≤140737488355328∧ks.length≤9223372036854775806:=by omega
         refine acallP_of (acallT_hand [1000000] (hc6) (by simp) (by simp) (by simp) (by simp) (by simp) ?_)
         simp [hb]<;>(repeat' first|contradiction|exact .ok|apply And.intro|intro _|(refine gc (fun h=>?_) (fun h=>?_)<;>(have h':=h;(try simp at h');first|done|simp[h,h',hb]|simp[hb])))
         refine ⟨(ks++[t6],l6),⟨h6,by simp only; omega,by simp; omega,k,by simp only; omega,ho3⟩,?_,by simp only; omega⟩
         exact sub_mk _ [(1000000,1000000,_),(2,2,_),(3,3,_),(900,59,_)] ⟨by simp,by simp,by simp [renOf,Blk.live],base1⟩ (by simp [renOf])
       | false =>
         have hmr:moreS q k ks l5=.ok (ks,l5):=by
          cases k with
          | zero=>rfl
          | succ k=>rw [moreS,hcm,if_neg (by simp)]
         rw [hmr,bind2_ok] at ho3
         simp<;>(repeat' first|contradiction|exact .ok|apply And.intro|intro _|(refine gc (fun h=>?_) (fun h=>?_)<;>(have h':=h;(try simp at h');first|done|simp[h,h']|simp)))
         refine acallP_of (acallT_hand [1000000] (take_no h5 hT hcm) (by simp) (by simp) (by simp) (by simp) (by simp) ?_)
         simp<;>(repeat' first|contradiction|exact .ok|apply And.intro|intro _|(refine gc (fun h=>?_) (fun h=>?_)<;>(have h':=h;(try simp at h');first|done|simp[h,h']|simp)))
         rcases exp_step hF h5 hT [wShut] (by decide) with ⟨e,he7,hc7⟩ | ⟨l7,he7,h7,hl7,hc7⟩
         ·rw [he7] at ho3
          subst ho3
          exact acallP_pan [1000000] (hc7) (by simp) (by simp) (by simp) (by simp) (by kernel_rfl)
         rw [he7,bind1_ok] at ho3
         subst ho3
         refine acallP_of (acallT_hand [1000000] (hc7) (by simp) (by simp) (by simp) (by simp) (by simp) ?_)
         simp<;>(repeat' first|contradiction|exact .ok|apply And.intro|intro _|(refine gc (fun h=>?_) (fun h=>?_)<;>(have h':=h;(try simp at h');first|done|simp[h,h']|simp)))
         refine acallP_of (acallT_plain (ups (p_made 28 ks)) (by simp) ?_)
         simp only [outS]
         simp<;>(repeat' first|contradiction|exact .ok|apply And.intro|intro _|(refine gc (fun h=>?_) (fun h=>?_)<;>(have h':=h;(try simp at h');first|done|simp[h,h']|simp)))
end
end Go.Proofs.Tryz
