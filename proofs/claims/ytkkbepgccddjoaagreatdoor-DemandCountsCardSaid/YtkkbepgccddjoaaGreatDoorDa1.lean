import Derived.Test.YtkkbepgccddjoaaGreatDoorCRwc
import Derived.Test.YtkkbepgccddjoaaGreatDoorCSty
set_option linter.all false
namespace Go.Proofs.Tryz
open Go.Ab
set_option maxRecDepth 100000
set_option maxHeartbeats 16000000
def rP (S:List Tb) (l:List Nat) (A:Nat→List At):List Blk:=[.var [.clo 133 [.ptr 1000000 0 0,.ptr 1000001 0 0,.ptr 1000002 0 0,.ptr 1000003 0 0]],.var [.d (.sl (S.map Tb.c))],.var [.d (.sl (aD (aJ l)))],.var [.ref 1000004 0 1 1],.varr 178 1 [[.ref 1000005 0 (A 0).length 5]],.arr 94 5 ((A 0).map At.c) false]
def jA (S:List Tb) (l:List Nat) (A:Nat→List At):List Blk:=[.var [.clo 133 [.ptr 1000000 0 0,.ptr 1000001 0 0,.ptr 1000002 0 0,.ptr 1000003 0 0]],.var [.d (.sl (S.map Tb.c))],.var [.d (.sl (aD (aJ l)))],.var [.ref 1000004 0 1 1],.varr 178 1 [[.ref 1000006 0 (A 0).length 5]],.dead,.arr 94 5 ((A 0).map At.c) false]
theorem aDH (S:List Tb) (hS:∀ x∈S,x.ok) (hty:∀ x∈S,∀ u∈x.cols,u.t=1∨u.t=2∨u.t=3) {k0:Nat} (r0:k0<S.length) (A:Nat→List At) (o c n g:Int) (t:List UInt8) (ks:List Ex) (q:Nat) (hq:(Ex.mk o c n t g ks).few q=true) (hn:(Ex.mk o c n t g ks).nodes≤1048576) (hs:qR o ks.length=false) (hr:∀ z0∈(Ex.mk o c n t g ks).cols,z0<9223372036854775807) (hA:∀ j,(A j).length≤50000) :
  Cf Es 133 ((Ex.mk o c n t g ks).a::[.ptr 1000000 0 0,.ptr 1000001 0 0,.ptr 1000002 0 0,.ptr 1000003 0 0]) (rP S [k0] A) (.d (.bool (nI S [k0] (.mk o c n t g ks) A).1)) (jA S [k0] (nI S [k0] (.mk o c n t g ks) A).2):=by
 have hcol:=eG (CI (SizeOf.sizeOf (Ex.mk o c n t g ks)+1) (.mk o c n t g ks) (by omega) q hq hn)
 have hsh:=fun d=>eG (wK (SizeOf.sizeOf (Ex.mk o c n t g ks)+1) (.mk o c n t g ks) (by omega) q hq d)
 have hplc:=fun c hc=>eG (yJ S hS [k0] (by simp) (by apply nS<;>assumption) c hc)
 obtain ⟨s1,s2⟩:=AD hs
 have hform:∀ d,∃ g' ks',(Ex.mk o c n t g ks).shift d=.mk o c n t g' ks'∧ks'.length=ks.length:=fun d=>⟨_,_,by rw [Ex.shift],by rw [fV,List.length_map]⟩
 have hats:∀ (x:Tb) (hx:x∈S) (d:Int),Cf Es 138 [x.a,((Ex.mk o c n t g ks).shift d).a] [] (DN x ((Ex.mk o c n t g ks).shift d)) []:=fun x hx d=>by
  obtain ⟨g',ks',e,hl⟩:=hform d
  have hf:=oM (.mk o c n t g ks) q d
  rw [e] at hf ⊢
  exact uF x (hS x hx) (hty x hx) o c n g' t ks' q (by rw [hf]; exact hq) (by rw [hl]; exact hs)
 clear hform
 refine cJ bM (fn:=Tryz.f133) rfl ?_
 unfold nI
 generalize (Ex.mk o c n t g ks).cols=C at *
 generalize (Ex.mk o c n t g ks).shift=F at *
 have hcs:(o=22∧¬ ks.length=2∧¬ (ks.length:Int)=2)∨(o=23∧¬ ks.length=2∧¬ (ks.length:Int)=2)∨(o=24∧¬ ks.length=1∧¬ (ks.length:Int)=1)∨(True∧(¬ o=22∧¬ o=23)∧¬ o=24):=by
  by_cases o22:o=22
  ·exact .inl ⟨o22,fun e=>s1 ⟨.inl o22,e⟩,fun e=>s1 ⟨.inl o22,by omega⟩⟩
  by_cases o23:o=23
  ·exact .inr (.inl ⟨o23,fun e=>s1 ⟨.inr o23,e⟩,fun e=>s1 ⟨.inr o23,by omega⟩⟩)
  by_cases o24:o=24
  ·exact .inr (.inr (.inl ⟨o24,fun e=>s2 ⟨o24,e⟩,fun e=>s2 ⟨o24,by omega⟩⟩))
  exact .inr (.inr (.inr ⟨trivial,⟨o22,o23⟩,o24⟩))
 rcases hcs with ⟨rfl,hl,hli⟩ | ⟨rfl,hl,hli⟩ | ⟨rfl,hl,hli⟩ | ⟨-,hl,hli⟩
 all_goals (
  simp [Ex.a,Ex.c,aE,rP,gI,hl,hli] at hcol ⊢
  (repeat' first|contradiction|exact .ok|apply And.intro|intro _|(apply gc<;>simp+contextual[hl,hli]))
  refine aP hcol ?_
  match C,hr with
  | [],_ =>
    simp [qN]
    (repeat' first|contradiction|exact .ok|apply And.intro|intro _|(apply gc<;>simp+contextual))
    refine EndsS.sub (cR [(1000005,905)] (by decide) (by decide) (by apply nS<;>simp [Blk.live]) (by apply nS<;>simp [aM])) ?_
    exact EndsS.of [1000000,1000001,1000002,1000003,1000004,1000005,905] _ rfl (by simp; rfl) (by decide) rfl (by apply oH<;>simp [aB,Blk.live,jA,aD,aJ]) (by simp)
  | z::z2::r,_ =>
    have hl1:¬ ((r.length:Int)+1+1=1):=by omega
    simp [hl1,qN]
    (repeat' first|contradiction|exact .ok|apply And.intro|intro _|(apply gc<;>simp+contextual[hl1]))
    refine EndsS.sub (cR [(1000005,905)] (by decide) (by decide) (by apply nS<;>simp [Blk.live]) (by apply nS<;>simp [aM])) ?_
    exact EndsS.of [1000000,1000001,1000002,1000003,1000004,1000005,905] _ rfl (by simp; rfl) (by decide) rfl (by apply oH<;>simp [aB,Blk.live,jA,aD,aJ]) (by simp)
  | [z],hr =>
    have hz:=hplc z (hr z (List.mem_cons_self ..))
    have hpl:=JM (S:=S) (l:=[k0]) (c:=z) (i:=0)
    simp only [qN]
    obtain ⟨i,w,b,hp⟩:∃ i w b,iF S 0 [k0] z=(i,w,b):=⟨_,_,_,rfl⟩
    rw [hp] at hz hpl
    rw [hp]
    simp only at hz hpl ⊢
    simp [aD,aJ] at hz ⊢
    (repeat' first|contradiction|exact .ok|apply And.intro|intro _|(apply gc<;>simp+contextual))
    refine aA hz (by simp [aN]) ?_
    cases b with
    | false =>
      simp
      (repeat' first|contradiction|exact .ok|apply And.intro|intro _|(apply gc<;>simp+contextual))
      refine EndsS.sub (cR [(1000005,905)] (by decide) (by decide) (by apply nS<;>simp [Blk.live]) (by apply nS<;>simp [aM])) ?_
      exact EndsS.of [1000000,1000001,1000002,1000003,1000004,1000005,905] _ rfl (by simp; rfl) (by decide) rfl (by apply oH<;>simp [aB,Blk.live,jA,aD,aJ]) (by simp)
    | true =>
      obtain ⟨i,rfl,hi,w0,w1⟩:=hpl rfl
      have hzr:=hr z (List.mem_cons_self ..)
      have hwd:=wI (n:=w - z)
      have hsd:=hsh (w - z)
      have had:=fun x hx=>hats x hx (w - z)
      clear hsh hats hplc hcol hp hpl
      have hel:=Ex.clen (F (w - z))
      have het:=Ex.ctake (F (w - z))
      simp only [Ex.a,Ex.c,aE] at hsd
      generalize F (w - z)=E at *
      rw [Nat.zero_add] at *
      rcases (by simp at hi; omega:i=0) with rfl
      ·have htab:aR S k0=S[k0]:=by unfold aR; rw [gE r0]; rfl
       have hae:=had S[k0] (List.getElem_mem r0)
       obtain ⟨x,hx⟩:∃ x,x=S[k0]:=⟨_,rfl⟩
       have hgx:∀ h,S[k0]'h=x:=fun _=>hx.symm
       rw [← hx] at hae htab
       have hsz:=gF (A 0).length (by have:=hA 0; omega) 48 (by decide)
       have hsz1:=gF ((A 0).length+1) (by have:=hA 0; omega) 48 (by decide)
       have htk:((A 0).map At.c).take (A 0).length=(A 0).map At.c:=List.take_of_length_le (by simp)
       simp only [List.getElem?_cons_zero,Option.getD_some,htab,Int.toNat_natCast]
       unfold DN at hae
       cases hB:mM x E with
       | false =>
         rw [hB,if_neg (by simp)] at hae
         simp [hwd,r0,hgx,Tb.c]
         (repeat' first|contradiction|exact .ok|apply And.intro|intro _|(apply gc<;>simp+contextual[hwd,r0,hgx]))
         refine aP hsd ?_
         simp
         refine aA hae (by simp [Tb.a,Tb.c,Ex.a]) ?_
         simp [hsz]
         (repeat' first|contradiction|exact .ok|apply And.intro|intro _|(apply gc<;>simp+contextual))
         exact EndsS.of [1000000,1000001,1000002,1000003,1000004,1000005,95] _ rfl (by simp; rfl) (by decide) rfl (by apply oH<;>simp [aB,Blk.live,jA,aD,aJ,bP]) (by simp)
       | true =>
         rw [hB,if_pos rfl] at hae
         simp [hwd,r0,hgx,Tb.c]
         (repeat' first|contradiction|exact .ok|apply And.intro|intro _|(apply gc<;>simp+contextual[hwd,r0,hgx]))
         refine aP hsd ?_
         simp
         refine aA hae (by simp [Tb.a,Tb.c,Ex.a]) ?_
         simp [show ∀ a:At,a.c.length=5 from fun _=>rfl,hsz1]
         (repeat' first|contradiction|exact .ok|apply And.intro|intro _|(apply gc<;>simp+contextual))
         exact EndsS.of [1000000,1000001,1000002,1000003,1000004,1000005,95] _ rfl (by simp; rfl) (by decide) rfl (by apply oH<;>simp [aB,Blk.live,jA,aD,aJ,bP]) (by simp))
theorem aFJ (S:List Tb) (k0:Nat) (k:Ex) (A:Nat→List At) (h:Cf Es 133 (k.a::[.ptr 1000000 0 0,.ptr 1000001 0 0,.ptr 1000002 0 0,.ptr 1000003 0 0]) (rP S [k0] A) (.d (.bool (bY S [k0] k A).1)) (jA S [k0] (bY S [k0] k A).2)) :
  Cf Es 135 [k.a,.ptr 1000000 0 0] (rP S [k0] A) (.d (.bool (!(bY S [k0] k A).1))) (jA S [k0] (bY S [k0] k A).2):=by
 have hel:=Ex.clen k
 have het:=Ex.ctake k
 generalize bY S [k0] k A=R at *
 obtain ⟨b,A'⟩:=R
 simp only at h ⊢
 refine cJ bM (fn:=Tryz.f135) rfl ?_
 simp [Ex.a,rP,hel,het,aD,aJ] at h ⊢
 (repeat' first|contradiction|exact .ok|apply And.intro|intro _|(apply gc<;>simp+contextual))
 refine bW [1000000,1000001,1000002,1000003,1000004,1000005] 1 h (by simp [jA]) (by decide) (by apply RF<;>simp [Blk.live]) (by decide) (by decide) (by intro j hj; rcases (by omega:j=0) with rfl <;> simp) (by simp) (by simp) ?_
 simp [jA,aD,aJ]
 (repeat' first|contradiction|exact .ok|apply And.intro|intro _|(apply gc<;>simp+contextual))
 exact EndsS.of [1000000,1000001,1000002,1000003,1000004,1000005,7000] _ rfl (by simp; rfl) (by decide) rfl (by apply oH<;>simp [aB,Blk.live]) (by simp)
theorem aFK (S:List Tb) (k0:Nat) (ks:List Ex) (hk:ks.length≤12) (h:∀ k∈ks,∀ A:Nat→List At,(∀ j,(A j).length+k.nodes≤50000)→Cf Es 135 [k.a,.ptr 1000000 0 0] (rP S [k0] A) (.d (.bool (!(bY S [k0] k A).1))) (jA S [k0] (bY S [k0] k A).2)) (A:Nat→List At) (hA:∀ j,(A j).length+aU ks≤50000) :
  Cf Es 143 [.d (.sl (ks.map Ex.c)),.clo 135 [.ptr 1000000 0 0]] (rP S [k0] A) (.d (.int .i64 (pV S [k0] ks A 0))) (jA S [k0] (dE S [k0] ks A).2):=by
 refine cJ bM (fn:=Tryz.f143) rfl ?_
 have hgoal:∀ R:Bool×(Nat→List At),R=R:=fun _=>rfl
 clear hgoal
 simp [rP]
 (repeat' first|contradiction|exact .ok|apply And.intro|intro _|(apply gc<;>simp+contextual))
 refine aL bM (fun y:Nat×(Nat→List At)=>{ s:=cE [(0,.d (.sl (ks.map Ex.c))),(1,.clo 135 [.ptr 1000000 0 0]),(7,.d (.int .i64 ks.length)),(8,.d (.int .i64 y.1))],b:=cC [(1000000,1000000,.var [.clo 133 [.ptr 1000000 0 0,.ptr 1000001 0 0,.ptr 1000002 0 0,.ptr 1000003 0 0]]),(1000001,1000001,.var [.d (.sl (S.map Tb.c))]),(1000002,1000002,.var [.d (.sl (aD (aJ [k0])))]),(1000003,1000003,.var [.ref 1000004 0 1 1]),(1000004,1000004,.varr 178 1 [[.ref 905 0 (y.2 0).length 5]]),(1000005,1000005,.dead),(905,905,.arr 94 5 ((y.2 0).map At.c) false)] })
  (fun y=>JL S [k0] ks A y∧∀ j,(y.2 j).length+aU (ks.drop y.1)≤50000) (fun y=>ks.length - y.1) (0,A) ⟨⟨by simp,by simp,by simp⟩,by simpa using hA⟩
  ((cR [(1000005,905)] (by decide) (by decide) (by apply nS<;>simp [Blk.live]) (by apply nS<;>simp [aM])).trans (aI _ [(1000000,1000000,_),(1000001,1000001,_),(1000002,1000002,_),(1000003,1000003,_),(1000004,1000004,_),(1000005,1000005,_),(905,905,_)] ⟨(by decide:List.Nodup [1000000,1000001,1000002,1000003,1000004,1000005,905]),(by decide:List.Nodup [1000000,1000001,1000002,1000003,1000004,1000005,905]),by apply oH<;>simp [aB,Blk.live,aD,aJ],sL rfl⟩ (by simp [aB]))) ?_
 rintro ⟨i,A1⟩ ⟨hW,hB⟩
 have hst:=sO hW
 have hen:=hW
 have hi:i≤ks.length:=hW.1
 clear hW
 simp only at hst hB
 by_cases hlt:i<ks.length
 ·obtain ⟨s1,s2⟩:=hst hlt
  have hnd:=kB hlt
  have hcall:=h ks[i] (List.getElem_mem hlt) A1 (fun j=>by have:=hB j; omega)
  have hlen:=kA S [k0] ks[i] A1
  have hw:=wI (n:=(i:Int)+1)
  obtain ⟨e,he⟩:∃ e,e=ks[i]:=⟨_,rfl⟩
  have hge:∀ h,ks[i]'h=e:=fun _=>he.symm
  rw [hge] at s1 s2 hcall hnd hlen
  have hel:=Ex.clen e
  have het:=Ex.ctake e
  generalize bY S [k0] e A1=R at *
  obtain ⟨b,A2⟩:=R
  simp only at s1 s2 hcall hlen
  simp [Ex.a,rP,aD,aJ] at hcall
  cases b with
  | true =>
    have hn:=s1 rfl
    simp [hlt,hge,hel,het,aD,aJ]
    (repeat' first|contradiction|exact .ok|apply And.intro|intro _|(apply gc<;>simp+contextual))
    refine bW [1000000,1000001,1000002,1000003,1000004,905] 1 hcall (by simp [jA]) (by decide) (by apply RF<;>simp [Blk.live]) (by decide) (by decide) (by intro j hj; rcases (by omega:j=0) with rfl <;> simp) (by simp) (by simp) ?_
    simp [jA,aD,aJ]
    (repeat' first|contradiction|exact .ok|apply And.intro|intro _|(apply gc<;>simp+contextual))
    refine ⟨(i+1,A2),⟨hn,fun j=>by have h1:=hlen j; have h2:=hB j; simp only; omega⟩,?_,by simp; omega⟩
    exact aI _ [(1000000,1000000,_),(1000001,1000001,_),(1000002,1000002,_),(1000003,1000003,_),(1000004,1000004,_),(1000005,1000005,_),(905,17000,_)] ⟨(by decide:List.Nodup [1000000,1000001,1000002,1000003,1000004,1000005,905]),(by decide:List.Nodup [1000000,1000001,1000002,1000003,1000004,1000005,17000]),by apply oH<;>simp [aB,Blk.live],sL rfl⟩ (by simp [aB,hw])
  | false =>
    obtain ⟨w1,w2⟩:=s2 rfl
    rw [w1,w2]
    simp [hlt,hge,hel,het,aD,aJ]
    (repeat' first|contradiction|exact .ok|apply And.intro|intro _|(apply gc<;>simp+contextual))
    refine bW [1000000,1000001,1000002,1000003,1000004,905] 1 hcall (by simp [jA]) (by decide) (by apply RF<;>simp [Blk.live]) (by decide) (by decide) (by intro j hj; rcases (by omega:j=0) with rfl <;> simp) (by simp) (by simp) ?_
    simp [jA,aD,aJ]
    (repeat' first|contradiction|exact .ok|apply And.intro|intro _|(apply gc<;>simp+contextual))
    exact EndsS.of [1000000,1000001,1000002,1000003,1000004,1000005,17000] _ rfl (by simp; rfl) (by decide) rfl (by apply oH<;>simp [aB,Blk.live]) (by simp)
 ·obtain rfl:i=ks.length:=by omega
  obtain ⟨w1,w2⟩:=xK hen
  rw [w1,w2]
  simp
  (repeat' first|contradiction|exact .ok|apply And.intro|intro _|(apply gc<;>simp+contextual))
  exact EndsS.of [1000000,1000001,1000002,1000003,1000004,1000005,905] _ rfl (by simp; rfl) (by decide) rfl (by apply oH<;>simp [aB,Blk.live,jA,aD,aJ]) (by simp)
theorem aFL (S:List Tb) (k0:Nat) (ks:List Ex) (A:Nat→List At) (h:Cf Es 143 [.d (.sl (ks.map Ex.c)),.clo 135 [.ptr 1000000 0 0]] (rP S [k0] A) (.d (.int .i64 (pV S [k0] ks A 0))) (jA S [k0] (dE S [k0] ks A).2)) :
  Cf Es 95 [.d (.sl (ks.map Ex.c)),.clo 135 [.ptr 1000000 0 0]] (rP S [k0] A) (.d (.bool (!(dE S [k0] ks A).1))) (jA S [k0] (dE S [k0] ks A).2):=by
 have hok:=zT S [k0] ks A 0
 rw [← hok]
 clear hok
 generalize pV S [k0] ks A 0=z at *
 generalize (dE S [k0] ks A).2=A' at *
 refine cJ bM (fn:=Tryz.f95) rfl ?_
 simp [rP,aD,aJ] at h ⊢
 (repeat' first|contradiction|exact .ok|apply And.intro|intro _|(apply gc<;>simp+contextual))
 refine bW [1000000,1000001,1000002,1000003,1000004,1000005] 1 h (by simp [jA]) (by decide) (by apply RF<;>simp [Blk.live]) (by decide) (by decide) (by intro j hj; rcases (by omega:j=0) with rfl <;> simp) (by simp) (by simp) ?_
 simp [jA,aD,aJ]
 (repeat' first|contradiction|exact .ok|apply And.intro|intro _|(apply gc<;>simp+contextual))
 exact EndsS.of [1000000,1000001,1000002,1000003,1000004,1000005,8000] _ rfl (by simp; rfl) (by decide) rfl (by apply oH<;>simp [aB,Blk.live]) (by simp)
theorem UP (S:List Tb) (hS:∀ x∈S,x.ok) (hty:∀ x∈S,∀ u∈x.cols,u.t=1∨u.t=2∨u.t=3) (k0:Nat) (r0:k0<S.length):∀ (m:Nat) (e:Ex),SizeOf.sizeOf e<m→∀ q:Nat,e.few q=true→(∀ z∈e.cols,z<9223372036854775807)→∀ A:Nat→List At,(∀ j,(A j).length+e.nodes≤50000) →
  Cf Es 133 (e.a::[.ptr 1000000 0 0,.ptr 1000001 0 0,.ptr 1000002 0 0,.ptr 1000003 0 0]) (rP S [k0] A) (.d (.bool (bY S [k0] e A).1)) (jA S [k0] (bY S [k0] e A).2)
 | 0,_,h,_,_,_,_,_=>absurd h (by omega)
 | m+1,.mk o c n t g ks,hm,q,hq,hr,A,hA=>by
   have hn0:(Ex.mk o c n t g ks).nodes≤50000:=by have:=hA 0; omega
   cases hs:qR o ks.length with
   | false =>
     have h:=aDH S hS hty r0 A o c n g t ks q hq (by omega) hs hr (fun j=>by have:=hA j; omega)
     rw [bY,if_neg (by rw [hs]; simp)]
     exact h
   | true =>
     obtain ⟨hk12,_,hfew⟩:=jI hq
     have hnk:aU ks≤50000:=by rw [Ex.nodes] at hn0; omega
     have hAk:∀ j,(A j).length+aU ks≤50000:=fun j=>by have:=hA j; rw [Ex.nodes] at this; omega
     have hkid:∀ k∈ks,∀ A:Nat→List At,(∀ j,(A j).length+k.nodes≤50000)→Cf Es 135 [k.a,.ptr 1000000 0 0] (rP S [k0] A) (.d (.bool (!(bY S [k0] k A).1))) (jA S [k0] (bY S [k0] k A).2):=fun k hk A hA =>
      aFJ S k0 k A (UP S hS hty k0 r0 m k (by
       have:=Ex.kid_lt (e:=.mk o c n t g ks) (k:=k) hk
       omega) (q+1) (hfew k hk) (fun z hz=>hr z (CO hk hz)) A hA)
     have hcon:=aFL S k0 ks A (aFK S k0 ks hk12 hkid A hAk)
     have hsm:=eG (DS (SizeOf.sizeOf (Ex.mk o c n t g [])+1) (.mk o c n t g []) (.mk o 0 0 [] 0 []) (by omega) (by simp [Ex.fits,jJ]))
     have heq:(Ex.mk o c n t g []).eq (.mk o 0 0 [] 0 [])=(c==0&&(n==0&&(t==[]&&g==0))):=by rw [Ex.eq,fM]; simp
     rw [heq] at hsm
     rw [bY,if_pos hs]
     have hshp:((o=22∨o=23)∧ks.length=2)∨(o=24∧ks.length=1):=by
      unfold qR at hs
      simp at hs
      exact hs
     generalize (c==0&&(n==0&&(t==[]&&g==0)))=B at *
     clear hkid hs hq hr hA hAk hfew heq
     refine cJ bM (fn:=Tryz.f133) rfl ?_
     rcases hshp with ⟨rfl | rfl,l1⟩ | ⟨rfl,l1⟩
     all_goals (
      cases B with
      | false =>
        simp [Ex.a,Ex.c,aE,dZ,rP,l1] at hsm ⊢
        (repeat' first|contradiction|exact .ok|apply And.intro|intro _|(apply gc<;>simp+contextual[l1]))
        refine aP hsm ?_
        simp
        (repeat' first|contradiction|exact .ok|apply And.intro|intro _|(apply gc<;>simp+contextual))
        refine EndsS.sub (cR [(1000005,905)] (by decide) (by decide) (by apply nS<;>simp [Blk.live]) (by apply nS<;>simp [aM])) ?_
        exact EndsS.of [1000000,1000001,1000002,1000003,1000004,1000005,905] _ rfl (by simp; rfl) (by decide) rfl (by apply oH<;>simp [aB,Blk.live,jA,aD,aJ]) (by simp)
      | true =>
        simp only [if_true]
        generalize dE S [k0] ks A=R at *
        obtain ⟨b,A'⟩:=R
        simp only at hcon ⊢
        simp [Ex.a,Ex.c,aE,dZ,rP,l1,aD,aJ] at hsm hcon ⊢
        (repeat' first|contradiction|exact .ok|apply And.intro|intro _|(apply gc<;>simp+contextual[l1]))
        refine aP hsm ?_
        simp
        (repeat' first|contradiction|exact .ok|apply And.intro|intro _|(apply gc<;>simp+contextual))
        refine bW [1000000,1000001,1000002,1000003,1000004,1000005] 1 hcon (by simp [jA]) (by decide) (by apply RF<;>simp [Blk.live]) (by decide) (by decide) (by intro j hj; rcases (by omega:j=0) with rfl <;> simp) (by simp) (by simp) ?_
        simp [jA,aD,aJ]
        (repeat' first|contradiction|exact .ok|apply And.intro|intro _|(apply gc<;>simp+contextual))
        exact EndsS.of [1000000,1000001,1000002,1000003,1000004,1000005,50000] _ rfl (by simp; rfl) (by decide) rfl (by apply oH<;>simp [aB,Blk.live]) (by simp))
theorem aAP (S:List Tb) (hl:S.length≤1000) (hS:∀ x∈S,x.ok) (hty:∀ x∈S,∀ u∈x.cols,u.t=1∨u.t=2∨u.t=3) (v:Vw) (hv:v.path.length≤50) (k0:Nat)  (hch:dW S v=some [k0]) (hc1:v.cond.length≤1) (hcf:∀ e∈v.cond,e.few 0=true∧∀ z∈e.cols,z<9223372036854775807) (hn12:aU v.cond≤12) :
  Cf Es 93 [aN S,v.a] [] (if (dE S [k0] v.cond (fun _=>[])).1=true then .tup [.un,.d (.bool true)] else .tup [.d (.sl []),.d (.bool false)]) []:=by
 have ht:=eG (fX S hl hS v (by omega))
 rw [hch] at ht
 unfold lP at ht
 simp only at ht
 obtain ⟨hlt,_⟩:=cK hch
 have hwalk:=fun (e:Ex) (hq:e.few 0=true) hr A hA=>UP S hS hty k0 (hlt k0 (by simp)) (SizeOf.sizeOf e+1) e (by omega) 0 hq hr A hA
 have hwl:=oL S [k0] v.cond (fun _=>[])
 have hc1i:¬ (1:Int)<v.cond.length:=by omega
 have hc1n:¬ 1<v.cond.length:=by omega
 refine cI bM (fn:=Tryz.f93) rfl ?_
 simp [aN,Vw.a,Vw.c,aD,aJ] at ht ⊢
 (repeat' first|contradiction|exact .ok|apply And.intro|intro _|(apply gc<;>simp+contextual))
 refine aP ht ?_
 simp [hc1i]
 (repeat' first|contradiction|exact .ok|apply And.intro|intro _|(apply gc<;>simp+contextual[hc1i,hc1n]))
 refine aL bM (fun y:Nat×(Nat→List At)=>{ s:=cE [(2,.ptr 2 0 0),(3,.ptr 3 0 0),(6,.ptr 6 0 0),(8,.ptr 8 0 0),(9,.ptr 9 0 0),(32,.d (.sl (v.cond.map Ex.c))),(33,.d (.int .i64 v.cond.length)),(34,.d (.int .i64 y.1))],b:=cC [(2,2,.var [.d (.sl (S.map Tb.c))]),(3,3,.var (v.c.map AV.d)),(6,6,.var [.d (.sl (aD (aJ [k0])))]),(8,8,.var [.ref 901 0 1 1]),(9,9,.var [.clo 133 [.ptr 9 0 0,.ptr 2 0 0,.ptr 6 0 0,.ptr 8 0 0]]),(901,901,.varr 178 1 [[.ref 905 0 (y.2 0).length 5]]),(905,905,.arr 94 5 ((y.2 0).map At.c) false)] })
  (fun y=>JL S [k0] v.cond (fun _=>[]) y∧∀ j,(y.2 j).length+aU (v.cond.drop y.1)≤12) (fun y=>v.cond.length - y.1) (0,fun _=>[]) ⟨⟨by simp,by simp,by simp⟩,by simpa using hn12⟩
  ((lX 29 (m:=1) (ety:=178) (by simp [EM])).trans ((jF 29 905 94 5 0 (ety2:=178) (sz2:=1) (cells:=List.replicate 1 [.nils]) (by simp [bP]) (by simp) (by simp [bP]) (by decide) (by decide)).trans (sM _ [(2,2,_),(3,3,_),(6,6,_),(8,8,_),(9,9,_),(901,29,_),(905,905,_)] (by simp [aB,Blk.live,Vw.c,aD,aJ,bP]) (by simp [aB])))) ?_
 rintro ⟨i,A1⟩ ⟨hW,hB⟩
 have hst:=sO hW
 have hen:=hW
 have hi:i≤v.cond.length:=hW.1
 clear hW
 simp only at hst hB
 by_cases hlti:i<v.cond.length
 ·obtain ⟨s1,s2⟩:=hst hlti
  have hnd:=kB hlti
  obtain ⟨e,he⟩:∃ e,e=v.cond[i]:=⟨_,rfl⟩
  have hge:∀ h,v.cond[i]'h=e:=fun _=>he.symm
  obtain ⟨f1,f2⟩:=hcf e (by rw [he]; exact List.getElem_mem hlti)
  have hcall:=hwalk e f1 f2 A1 (fun j=>by have:=hB j; rw [hge] at hnd; omega)
  have hlen:=kA S [k0] e A1
  have hw:=wI (n:=(i:Int)+1)
  rw [hge] at s1 s2 hnd
  have hel:=Ex.clen e
  have het:=Ex.ctake e
  generalize bY S [k0] e A1=R at *
  obtain ⟨b,A2⟩:=R
  simp only at s1 s2 hcall hlen
  simp [Ex.a,rP,aD,aJ] at hcall
  cases b with
  | true =>
    have hn:=s1 rfl
    simp [hlti,hge,hel,het,aD,aJ]
    (repeat' first|contradiction|exact .ok|apply And.intro|intro _|(apply gc<;>simp+contextual))
    refine bW [9,2,6,8,901,905] 1 hcall (by simp [jA]) (by decide) (by apply RF<;>simp [Blk.live]) (by decide) (by decide) (by intro j hj; rcases (by omega:j=0) with rfl <;> simp) (by simp) (by simp) ?_
    simp [jA,aD,aJ]
    (repeat' first|contradiction|exact .ok|apply And.intro|intro _|(apply gc<;>simp+contextual))
    refine ⟨(i+1,A2),⟨hn,fun j=>by have h1:=hlen j; have h2:=hB j; simp only; omega⟩,?_,by simp; omega⟩
    exact sM _ [(2,2,_),(3,3,_),(6,6,_),(8,8,_),(9,9,_),(901,901,_),(905,41000,_)] (by simp [aB,Blk.live,Vw.c,aD]) (by simp [aB,hw])
  | false =>
    obtain ⟨w1,w2⟩:=s2 rfl
    rw [w1]
    simp [hlti,hge,hel,het,aD,aJ]
    (repeat' first|contradiction|exact .ok|apply And.intro|intro _|(apply gc<;>simp+contextual))
    refine bW [9,2,6,8,901,905] 1 hcall (by simp [jA]) (by decide) (by apply RF<;>simp [Blk.live]) (by decide) (by decide) (by intro j hj; rcases (by omega:j=0) with rfl <;> simp) (by simp) (by simp) ?_
    simp [jA,aD,aJ]
    all_goals exact gz
 ·obtain rfl:i=v.cond.length:=by omega
  obtain ⟨w1,w2⟩:=xK hen
  rw [w1]
  have hA12:∀ j,(A1 j).length≤12:=fun j=>by have:=hB j; omega
  clear hB hst hen hwalk hwl w1 w2
  simp
  (repeat' first|contradiction|exact .ok|apply And.intro|intro _|(apply gc<;>simp+contextual))
  refine aL bM (fun i:Nat=>{ s:=cE [(8,.ptr 8 0 0),(44,.d (.int .i64 1)),(45,.d (.int .i64 i))],b:=cC [(8,8,.var [.ref 901 0 1 1]),(901,901,.varr 178 1 [[if 0<i then .d (.sl ((FK (A1 0)).map At.c)) else .ref 905 0 (A1 0).length 5]]),(905,905,.arr 94 5 ((A1 0).map At.c) (decide (0<i)))] })
   (fun i=>i≤1) (fun i=>1 - i) 0 (by simp) (sM _ [(8,8,_),(901,901,_),(905,905,_)] (by simp [aB,Blk.live]) (by simp [aB])) ?_
  intro i hi
  rcases (by omega:i=0∨i=1) with rfl | rfl
  ·have hu:=eG (kL (A1 0) (hA12 0))
   have htk:((A1 0).map At.c).take (A1 0).length=(A1 0).map At.c:=List.take_of_length_le (by simp)
   simp
   (repeat' first|contradiction|exact .ok|apply And.intro|intro _|(apply gc<;>simp+contextual))
   refine aA hu (by simp [htk]) ?_
   simp
   (repeat' first|contradiction|exact .ok|apply And.intro|intro _|(apply gc<;>simp+contextual))
   refine ⟨1,by omega,?_,by simp⟩
   exact sM _ [(8,8,_),(901,901,_),(905,905,_)] (by simp [aB,Blk.live]) (by simp [aB]; try decide)
  ·simp
   all_goals exact gz
end Go.Proofs.Tryz
