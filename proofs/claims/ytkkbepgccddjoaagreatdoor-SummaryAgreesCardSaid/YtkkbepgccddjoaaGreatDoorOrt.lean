import Derived.Test.YtkkbepgccddjoaaGreatDoorAClo
set_option linter.all false
namespace Go.Proofs.Tryz
open Go.Ab
set_option maxRecDepth 100000
set_option maxHeartbeats 4000000
theorem r3_target (S:List Tb) (hl:S.length≤1000) (hS:∀ x∈S,x.ok) {i k:Nat} {u:Tb} {f:Fk} (hi:i<S.length) (hu:S[i]=u) (hk:k<u.fk.length) (hf:u.fk[k]=f) :
  Cf En 43 [schA S,.d (.int .i64 i),.d (.int .i64 k)] [] (place (fun x:Tb=>x.n==f.t) S) []:=by
 refine cf_intro mix (fn:=Tryz.f43) (by kernel_rfl) rfl (by kernel_rfl) (by decide) (by simp) ?_
 have h1:¬ (i:Int)<0:=by omega
 have h2:¬ (k:Int)<0:=by omega
 have h3:¬ (S.length:Int)≤i:=by omega
 have h4:¬ (u.fk.length:Int)≤k:=by omega
 have hgi:∀ h,S[i]'h=u:=fun _=>hu
 have hgf:∀ h,u.fk[k]'h=f:=fun _=>hf
 have hgf2:u.fk[k]?=some f:=by rw [List.getElem?_eq_getElem hk,hf]
 simp [schA,h1,h2,h3,h4,hi,hgi,Tb.c]
 (repeat' (first|contradiction|exact .ok|apply And.intro|intro _|(refine gc (fun h=>?_) (fun h=>?_)<;>(have h':=h;(try simp at h');first|done|simp[h,h',h1,h2,h3,h4,hi,hgi,Tb.c,hk,hgf,hgf2,Fk.c]|simp[h1,h2,h3,h4,hi,hgi,Tb.c,hk,hgf,hgf2,Fk.c]))))
 simp [hgf2,Fk.c]
 (repeat' (first|contradiction|exact .ok|apply And.intro|intro _|(refine gc (fun h=>?_) (fun h=>?_)<;>(have h':=h;(try simp at h');first|done|simp[h,h']|simp))))
 refine acallT_plain (r3_find S hl f.t) (by simp [schA]) ?_
 unfold place
 simp
 all_goals exact gz
def dnB (N:Nat) (done:Nat→Bool) (out:List Int) (S:List Tb):Nat→Blk:=mkB [(1,1,.var [.d (.sl (S.map Tb.c))]),(900,900,.arr 4 1 (seqF (fun k=>[.bool (done k)]) N) false),(901,901,.arr 3 1 (ints out) false)]
theorem r3_order (S:List Tb) (hl:S.length≤1000) (hS:∀ x∈S,x.ok):Cf En 41 [schA S] [] (.tup [.d (.sl (ints (ordS S).1)),.d (.int .i64 (ordS S).2)]) []:=by
 refine cf_intro mix (fn:=Tryz.f41) (by kernel_rfl) rfl (by kernel_rfl) (by decide) (by simp) ?_
 simp [schA]
 (repeat' (first|contradiction|exact .ok|apply And.intro|intro _|(refine gc (fun h=>?_) (fun h=>?_)<;>(have h':=h;(try simp at h');first|done|simp[h,h']|simp))))
 refine aloopT mix (by decide) (fun i:Nat=>{ s:=mkS [(1,.ptr 1 0 0),(4,.d (.int .i64 i))],b:=mkB [(1,1,.var [.d (.sl (S.map Tb.c))])] }) (fun i=>i≤S.length∧∀ x∈S.take i,∀ f∈x.fk,0≤tgt S f) (fun i=>S.length - i) 0 (by simp) (sub_mk _ [(1,1,_)] ⟨by simp,by simp,by simp [renOf,Blk.live],by simp⟩ (by simp [renOf])) ?_
 rintro i ⟨hi,hall⟩
 by_cases hlt:i<S.length
 ·obtain ⟨u,hu⟩:∃ u,u=S[i]:=⟨_,rfl⟩
  have hgi:∀ h,S[i]'h=u:=fun _=>hu.symm
  have hw:=wrap_in (n:=(i:Int)+1) (by omega) (by omega)
  have hok:=hS u (by rw [hu]; exact List.getElem_mem hlt)
  have hfk:=hok.fk
  simp [hlt]
  (repeat' (first|contradiction|exact .ok|apply And.intro|intro _|(refine gc (fun h=>?_) (fun h=>?_)<;>(have h':=h;(try simp at h');first|done|simp[h,h']|simp))))
  refine aloopT mix (by decide) (fun j:Nat=>{ s:=mkS [(1,.ptr 1 0 0),(4,.d (.int .i64 i)),(5,.d (.int .i64 j))],b:=mkB [(1,1,.var [.d (.sl (S.map Tb.c))])] }) (fun j=>j≤u.fk.length∧∀ f∈u.fk.take j,0≤tgt S f) (fun j=>u.fk.length - j) 0 (by simp) (sub_mk _ [(1,1,_)] ⟨by simp,by simp,by simp [renOf,Blk.live],by simp⟩ (by simp [renOf])) ?_
  rintro j ⟨hj,ha⟩
  by_cases hjl:j<u.fk.length
  ·obtain ⟨f,hf⟩:∃ f,f=u.fk[j]:=⟨_,rfl⟩
   have hgf:∀ h,u.fk[j]'h=f:=fun _=>hf.symm
   have hwj:=wrap_in (n:=(j:Int)+1) (by omega) (by omega)
   simp [hlt,hgi,hjl,Tb.c]
   (repeat' (first|contradiction|exact .ok|apply And.intro|intro _|(refine gc (fun h=>?_) (fun h=>?_)<;>(have h':=h;(try simp at h');first|done|simp[h,h']|simp))))
   refine acallT_plain (r3_target S hl hS hlt hu.symm hjl hf.symm) (by simp [schA]) ?_
   by_cases hz:0≤tgt S f
   ·obtain ⟨k,hk⟩:∃ k:Nat,tgt S f=k:=⟨(tgt S f).toNat,by omega⟩
    rw [place_at (show fidx (fun x:Tb=>x.n==f.t) S 0=k from hk)]
    simp
    (repeat' (first|contradiction|exact .ok|apply And.intro|intro _|(refine gc (fun h=>?_) (fun h=>?_)<;>(have h':=h;(try simp at h');first|done|simp[h,h']|simp))))
    refine ⟨j+1,⟨by omega,fun g hg=>?_⟩,?_,by simp; omega⟩
    ·rw [take_snoc hjl,← hf] at hg
     rcases List.mem_append.1 hg with hg | hg
     ·exact ha g hg
     ·simp at hg; subst hg; exact hz
    ·exact sub_mk _ [(1,1,_)] ⟨by simp,by simp,by simp [renOf,Blk.live],by simp⟩ (by simp [renOf,hwj])
   ·have hm:ordS S=([],11):=by
     unfold ordS
     rw [if_pos]
     unfold missT
     rw [List.any_eq_true]
     refine ⟨u,by rw [hu]; exact List.getElem_mem hlt,?_⟩
     rw [List.any_eq_true]
     exact ⟨f,by rw [hf]; exact List.getElem_mem hjl,by simp; omega⟩
    rw [place_no (fidx_neg hz),hm]
    simp
    (repeat' (first|contradiction|exact .ok|apply And.intro|intro _|(refine gc (fun h=>?_) (fun h=>?_)<;>(have h':=h;(try simp at h');first|done|simp[h,h']|simp))))
    try rfl
  ·obtain rfl:j=u.fk.length:=by omega
   simp [hlt,hgi,Tb.c]
   (repeat' (first|contradiction|exact .ok|apply And.intro|intro _|(refine gc (fun h=>?_) (fun h=>?_)<;>(have h':=h;(try simp at h');first|done|simp[h,h']|simp))))
   refine ⟨i+1,⟨by omega,fun x hx=>?_⟩,?_,by simp; omega⟩
   ·rw [take_snoc hlt,← hu] at hx
    rcases List.mem_append.1 hx with hx | hx
    ·exact hall x hx
    ·simp at hx
     subst hx
     rw [List.take_length] at ha
     exact ha
   ·exact sub_mk _ [(1,1,_)] ⟨by simp,by simp,by simp [renOf,Blk.live],by simp⟩ (by simp [renOf,hw])
 ·obtain rfl:i=S.length:=by omega
  have hms:missT S=false:=by
   rw [List.take_length] at hall
   unfold missT
   rw [List.any_eq_false]
   intro x hx
   rw [List.any_eq_true]
   rintro ⟨f,hf,h0⟩
   have:=hall x hx f hf
   simp at h0
   omega
  have hor:loopR S (S.length - 0) (fun _=>false) []=ordS S:=by
   rw [ordS_ref,hms]; rfl
  clear hall hi hlt
  have hsz:(S.length:Int)≤281474976710656:=by omega
  have hsz2:=(mk8 S.length hl).1
  have hT:=miss_all hms
  have hTn:∀ f:Fk,tgt S f<S.length:=fun f=>by
   have:=fidx_ub (p:=fun x:Tb=>x.n==f.t) (l:=S) (i:=0)
   unfold tgt
   simpa using this
  simp [hsz,hsz2]
  (repeat' (first|contradiction|exact .ok|apply And.intro|intro _|(refine gc (fun h=>?_) (fun h=>?_)<;>(have h':=h;(try simp at h');first|done|simp[h,h']|simp))))
  clear hsz hsz2
  refine aloopT mix (by decide) (fun x:Nat×(Nat→Bool)×List Int=>{ s:=mkS [(1,.ptr 1 0 0),(8,.ref 900 0 S.length 1),(9,.ref 901 0 x.1 1)],b:=dnB S.length x.2.1 x.2.2 S })
   (fun x=>x.1≤S.length∧x.2.2.length=x.1∧loopR S (S.length - x.1) x.2.1 x.2.2=ordS S) (fun x=>S.length - x.1) (0,fun _=>false,[]) ⟨by simp,by simp,hor⟩ ?_ ?_
  ·refine (sub_nil (i:=9) (m:=901) (ety:=3) (sz:=1) (by simp) ?_ (by decide) (by decide)).trans ?_
   ·simp
   refine sub_mk _ [(1,1,_),(900,46,_),(901,901,_)] ⟨by simp,by simp,by simp [renOf,Blk.live,seqF_rep,ints],by simp⟩ (by simp [renOf])
  rintro ⟨i,done,out⟩ ⟨hi,hlo,hL⟩
  simp only at hi hlo hL ⊢
  unfold dnB
  have hgd:∀ (k:Nat) (hk:k<S.length),∀ h,(seqF (fun k=>[D.bool (done k)]) S.length)[k]'h=[.bool (done k)]:=fun k hk h=>by
   have:=seqF_get (fun k=>[D.bool (done k)]) S.length k
   rw [List.getElem?_eq_getElem h,if_pos hk] at this
   exact Option.some.inj this
  by_cases hlt:i<S.length
  ·rw [show S.length - i=(S.length - (i+1))+1 from by omega,loopR] at hL
   have hrl:nextR S done<S.length:=by
    have:=fidx_ub (p:=rdyO S done) (l:=seqF (fun k=>k) S.length) (i:=0)
    unfold nextR
    simpa using this
   simp [hlt]
   (repeat' (first|contradiction|exact .ok|apply And.intro|intro _|(refine gc (fun h=>?_) (fun h=>?_)<;>(have h':=h;(try simp at h');first|done|simp[h,h']|simp))))
   refine aloopC mix (by decide) (fun x:Nat×Int=>{ s:=mkS [(1,.ptr 1 0 0),(8,.ref 900 0 S.length 1),(9,.ref 901 0 i 1),(10,.d (.int .i64 x.2)),(11,.d (.int .i64 x.1))],b:=dnB S.length done out S })
    (fun x=>x.1≤S.length∧((x.2=-1∧fidx (rdyO S done) ((seqF (fun k=>k) S.length).drop x.1) x.1=nextR S done)∨(0≤x.2∧x.2=nextR S done))) (fun x=>S.length - x.1) (0,-1) ⟨by simp,.inl ⟨rfl,rfl⟩⟩ 6
    { s:=mkS [(1,.ptr 1 0 0),(8,.ref 900 0 S.length 1),(9,.ref 901 0 i 1),(10,.d (.int .i64 (nextR S done)))],b:=dnB S.length done out S }
    (sub_mk _ [(1,1,_),(900,900,_),(901,901,_)] ⟨by simp,by simp,by simp [renOf,Blk.live],by simp⟩ (by simp [renOf])) ?_ ?_
   ·rintro ⟨k,z⟩ ⟨hk,hz⟩
    simp only at hk hz ⊢
    unfold dnB
    rcases hz with ⟨rfl,hf⟩ | ⟨hz0,hzr⟩
    rotate_left
    ·have hzn:¬ z<0:=by omega
     subst hzr
     by_cases hkl:k<S.length
     ·have hkl':(k:Int)<S.length:=by omega
      simp [hkl,hzn]
      (repeat' (first|contradiction|exact .ok|apply And.intro|intro _|(refine gc (fun h=>?_) (fun h=>?_)<;>(have h':=h;(try simp at h');first|done|simp[h,h',hkl,hzn]|simp[hkl,hzn]))))
      refine AExitTo.mk rfl ?_
      exact sub_mk _ [(1,1,_),(900,900,_),(901,901,_)] ⟨by simp,by simp,by simp [renOf,Blk.live],by simp⟩ (by simp [renOf])
     ·obtain rfl:k=S.length:=by omega
      simp
      (repeat' (first|contradiction|exact .ok|apply And.intro|intro _|(refine gc (fun h=>?_) (fun h=>?_)<;>(have h':=h;(try simp at h');first|done|simp[h,h',hzn]|simp[hzn]))))
      refine AExitTo.mk rfl ?_
      exact sub_mk _ [(1,1,_),(900,900,_),(901,901,_)] ⟨by simp,by simp,by simp [renOf,Blk.live],by simp⟩ (by simp [renOf])
    ·by_cases hkl:k<S.length
     ·obtain ⟨u,hu⟩:∃ u,u=S[k]:=⟨_,rfl⟩
      have hgi:∀ h,S[k]'h=u:=fun _=>hu.symm
      have hok:=hS u (by rw [hu]; exact List.getElem_mem hkl)
      have hfk:=hok.fk
      have hfo:fkO S k=u.fk:=by unfold fkO; rw [List.getElem?_eq_getElem hkl,← hu]
      have hwk:=wrap_in (n:=(k:Int)+1) (by omega) (by omega)
      rw [fidx_drop (by simpa using hkl)] at hf
      have hid:∀ h,(seqF (fun k=>k) S.length)[k]'h=k:=fun h=>by
       have:=seqF_get (fun k=>k) S.length k
       rw [List.getElem?_eq_getElem h,if_pos hkl] at this
       exact Option.some.inj this
      rw [hid] at hf
      simp [hkl,hgd k hkl]
      (repeat' (first|contradiction|exact .ok|apply And.intro|intro _|(refine gc (fun h=>?_) (fun h=>?_)<;>(have h':=h;(try simp at h');first|done|simp[h,h']|simp))))
      refine aloopT mix (by decide) (fun x:Nat×Bool=>{ s:=mkS [(1,.ptr 1 0 0),(8,.ref 900 0 S.length 1),(9,.ref 901 0 i 1),(10,.d (.int .i64 (-1))),(11,.d (.int .i64 k)),(12,.d (.bool x.2)),(13,.d (.int .i64 x.1))],b:=dnB S.length done out S })
       (fun x=>x.1≤u.fk.length∧(x.2&&(u.fk.drop x.1).all fun f=>done (tgt S f).toNat)=rdyO S done k) (fun x=>u.fk.length - x.1) (0,!done k) ⟨by simp,by unfold rdyO; rw [hfo]; rfl⟩
       (sub_mk _ [(1,1,_),(900,900,_),(901,901,_)] ⟨by simp,by simp,by simp [renOf,Blk.live],by simp⟩ (by simp [renOf])) ?_
      rintro ⟨j,r⟩ ⟨hj,hr⟩
      simp only at hj hr ⊢
      unfold dnB
      by_cases hjl:j<u.fk.length
      ·obtain ⟨f,hfj⟩:∃ f,f=u.fk[j]:=⟨_,rfl⟩
       have hgf:∀ h,u.fk[j]'h=f:=fun _=>hfj.symm
       have hwj:=wrap_in (n:=(j:Int)+1) (by omega) (by omega)
       have hft:=hT k f (by rw [hfo,hfj]; exact List.getElem_mem hjl)
       have hfn:=hTn f
       obtain ⟨t,ht⟩:∃ t:Nat,tgt S f=t:=⟨(tgt S f).toNat,by omega⟩
       have htl:t<S.length:=by omega
       rw [List.drop_eq_getElem_cons hjl,← hfj,List.all_cons,ht,Int.toNat_natCast] at hr
       simp [hkl,hgi,hjl,Tb.c]
       (repeat' (first|contradiction|exact .ok|apply And.intro|intro _|(refine gc (fun h=>?_) (fun h=>?_)<;>(have h':=h;(try simp at h');first|done|simp[h,h']|simp))))
       refine acallT_plain (r3_target S hl hS hkl hu.symm hjl hfj.symm) (by simp [schA]) ?_
       rw [place_at (show fidx (fun x:Tb=>x.n==f.t) S 0=t from ht)]
       cases r with
       | true =>
         simp [htl,hgd t htl]
         (repeat' (first|contradiction|exact .ok|apply And.intro|intro _|(refine gc (fun h=>?_) (fun h=>?_)<;>(have h':=h;(try simp at h');first|done|simp[h,h',htl,hgd t htl]|simp[htl,hgd t htl]))))
         refine ⟨(j+1,done t),⟨by simp; omega,by simpa using hr⟩,?_,by simp; omega⟩
         exact sub_mk _ [(1,1,_),(900,900,_),(901,901,_)] ⟨by simp,by simp,by simp [renOf,Blk.live],by simp⟩ (by simp [renOf,hwj])
       | false =>
         simp
         (repeat' (first|contradiction|exact .ok|apply And.intro|intro _|(refine gc (fun h=>?_) (fun h=>?_)<;>(have h':=h;(try simp at h');first|done|simp[h,h']|simp))))
         refine ⟨(j+1,false),⟨by simp; omega,by simpa using hr⟩,?_,by simp; omega⟩
         exact sub_mk _ [(1,1,_),(900,900,_),(901,901,_)] ⟨by simp,by simp,by simp [renOf,Blk.live],by simp⟩ (by simp [renOf,hwj])
      ·obtain rfl:j=u.fk.length:=by omega
       rw [List.drop_length,List.all_nil,Bool.and_true] at hr
       cases r with
       | true =>
         rw [← hr,if_pos rfl] at hf
         simp [hkl,hgi,Tb.c]
         (repeat' (first|contradiction|exact .ok|apply And.intro|intro _|(refine gc (fun h=>?_) (fun h=>?_)<;>(have h':=h;(try simp at h');first|done|simp[h,h']|simp))))
         refine ⟨(k+1,(k:Int)),⟨by simp; omega,.inr ⟨by simp,hf⟩⟩,?_,by simp; omega⟩
         exact sub_mk _ [(1,1,_),(900,900,_),(901,901,_)] ⟨by simp,by simp,by simp [renOf,Blk.live],by simp⟩ (by simp [renOf,hwk])
       | false =>
         rw [← hr,if_neg (by decide)] at hf
         simp [hkl,hgi,Tb.c]
         (repeat' (first|contradiction|exact .ok|apply And.intro|intro _|(refine gc (fun h=>?_) (fun h=>?_)<;>(have h':=h;(try simp at h');first|done|simp[h,h']|simp))))
         refine ⟨(k+1,-1),⟨by simp; omega,.inl ⟨rfl,hf⟩⟩,?_,by simp; omega⟩
         exact sub_mk _ [(1,1,_),(900,900,_),(901,901,_)] ⟨by simp,by simp,by simp [renOf,Blk.live],by simp⟩ (by simp [renOf,hwk])
     ·obtain rfl:k=S.length:=by omega
      rw [List.drop_of_length_le (by simp),fidx] at hf
      simp
      (repeat' (first|contradiction|exact .ok|apply And.intro|intro _|(refine gc (fun h=>?_) (fun h=>?_)<;>(have h':=h;(try simp at h');first|done|simp[h,h']|simp))))
      refine AExitTo.mk rfl ?_
      exact sub_mk _ [(1,1,_),(900,900,_),(901,901,_)] ⟨by simp,by simp,by simp [renOf,Blk.live],by simp⟩ (by simp [renOf,← hf])
   ·generalize nextR S done=z at *
    unfold dnB
    by_cases hz:z<0
    ·rw [if_pos hz] at hL
     rw [← hL]
     simp [hz]
     (repeat' (first|contradiction|exact .ok|apply And.intro|intro _|(refine gc (fun h=>?_) (fun h=>?_)<;>(have h':=h;(try simp at h');first|done|simp[h,h',hz]|simp[hz]))))
     try rfl
    ·rw [if_neg hz] at hL
     obtain ⟨q,rfl⟩:∃ q:Nat,z=q:=⟨z.toNat,by omega⟩
     have hq:q<S.length:=by omega
     have hz1:(ints out).take i=ints out:=List.take_of_length_le (by simp [hlo])
     simp [hz,hq,hgd q hq,hlo,hz1,szs (i+1) (by omega) 8 (by decide),szs i (by omega) 8 (by decide)]
     (repeat' (first|contradiction|exact .ok|apply And.intro|intro _|(refine gc (fun h=>?_) (fun h=>?_)<;>(have h':=h;(try simp at h');first|done|simp[h,h']|simp))))
     have hset:(seqF (fun k=>[D.bool (done k)]) S.length).set q [.bool true]=seqF (fun k=>[D.bool (dnO done q k)]) S.length:=by
      rw [seqF_set]
      refine seqF_congr fun k _=>?_
      by_cases hk:k=q
      ·subst hk
       simp [dnO]
      ·have hk':¬ (k:Int)=q:=by omega
       simp [dnO,hk,hk']
     have hio:ints (out++[(q:Int)])=ints out++[[.int .i64 q]]:=by simp [ints]
     refine ⟨(i+1,dnO done q,out++[(q:Int)]),⟨by simp; omega,by simp [hlo],hL⟩,?_,by simp; omega⟩
     exact sub_mk _ [(1,1,_),(900,900,_),(901,104,_)] ⟨by simp,by simp,by simp [renOf,Blk.live,hset,hio],by simp⟩ (by simp [renOf])
  ·obtain rfl:i=S.length:=by omega
   rw [Nat.sub_self,show loopR S 0 done out=(out,0) from rfl] at hL
   rw [← hL]
   have ht:(ints out).take S.length=ints out:=List.take_of_length_le (by simp [hlo])
   simp [hlo,ht]
   all_goals exact gz
end Go.Proofs.Tryz
