import Derived.Test.YthbnleoonldffaaGreatDoorQQyc
import Derived.Test.YthbnleoonldffaaGreatDoorQCldR
set_option linter.all false
namespace Go.Proofs.Tryz
open Go.Ab
set_option maxRecDepth 100000
set_option maxHeartbeats 16000000
def kI (S:List Tb) (l:List Nat) (A:Nat→List At):List Blk:=[.var [.clo 188 [.ptr 1000000 0 0,.ptr 1000001 0 0,.ptr 1000002 0 0,.ptr 1000003 0 0]],.var [.d (.sl (S.map Tb.c))],.var [.d (.sl (aG (aO l)))],.var [.ref 1000004 0 3 1],.varr 229 1 [[.ref 1000005 0 (A 0).length 5],[.ref 1000006 0 (A 1).length 5],[.ref 1000007 0 (A 2).length 5]],.arr 113 5 ((A 0).map At.c) false,.arr 113 5 ((A 1).map At.c) false,.arr 113 5 ((A 2).map At.c) false]
def fP (S:List Tb) (l:List Nat) (A:Nat→List At):List Blk:=[.var [.clo 188 [.ptr 1000000 0 0,.ptr 1000001 0 0,.ptr 1000002 0 0,.ptr 1000003 0 0]],.var [.d (.sl (S.map Tb.c))],.var [.d (.sl (aG (aO l)))],.var [.ref 1000004 0 3 1],.varr 229 1 [[.ref 1000008 0 (A 0).length 5],[.ref 1000009 0 (A 1).length 5],[.ref 1000010 0 (A 2).length 5]],.dead,.dead,.dead,.arr 113 5 ((A 0).map At.c) false,.arr 113 5 ((A 1).map At.c) false,.arr 113 5 ((A 2).map At.c) false]
theorem aBx (S:List Tb) (hS:∀ x∈S,x.ok) (hty:∀ x∈S,∀ u∈x.cols,u.t=1∨u.t=2∨u.t=3) {k0:Nat} (r0:k0<S.length) {k1:Nat} (r1:k1<S.length) {k2:Nat} (r2:k2<S.length) (A:Nat→List At) (o c n g:Int) (t:List UInt8) (ks:List Ex) (q:Nat) (hq:(Ex.mk o c n t g ks).few q=true) (hn:(Ex.mk o c n t g ks).nodes≤1048576) (hs:pH o ks.length=false) (hr:∀ z0∈(Ex.mk o c n t g ks).cols,z0<9223372036854775807) (hA:∀ j,(A j).length≤50000) :
  Cf Es 188 ((Ex.mk o c n t g ks).a::[.ptr 1000000 0 0,.ptr 1000001 0 0,.ptr 1000002 0 0,.ptr 1000003 0 0]) (kI S [k0,k1,k2] A) (.d (.bool (mH S [k0,k1,k2] (.mk o c n t g ks) A).1)) (fP S [k0,k1,k2] (mH S [k0,k1,k2] (.mk o c n t g ks) A).2):=by
 have hcol:=gL (zW (SizeOf.sizeOf (Ex.mk o c n t g ks)+1) (.mk o c n t g ks) (by omega) q hq hn)
 have hsh:=fun d=>gL (uP (SizeOf.sizeOf (Ex.mk o c n t g ks)+1) (.mk o c n t g ks) (by omega) q hq d)
 have hplc:=fun c hc=>gL (wK S hS [k0,k1,k2] (by simp) (by apply zK<;>assumption) c hc)
 obtain ⟨s1,s2⟩:=yB hs
 have hform:∀ d,∃ g' ks',(Ex.mk o c n t g ks).shift d=.mk o c n t g' ks'∧ks'.length=ks.length:=fun d=>⟨_,_,by rw [Ex.shift],by rw [fM,List.length_map]⟩
 have hats:∀ (x:Tb) (hx:x∈S) (d:Int),Cf Es 193 [x.a,((Ex.mk o c n t g ks).shift d).a] [] (BF x ((Ex.mk o c n t g ks).shift d)) []:=fun x hx d=>by
  obtain ⟨g',ks',e,hl⟩:=hform d
  have hf:=nL (.mk o c n t g ks) q d
  rw [e] at hf ⊢
  exact sN x (hS x hx) (hty x hx) o c n g' t ks' q (by rw [hf]; exact hq) (by rw [hl]; exact hs)
 clear hform
 refine cZ cF (fn:=Tryz.f188) (by kernel_rfl) rfl (by kernel_rfl) (by decide) (by simp) ?_
 unfold mH
 generalize (Ex.mk o c n t g ks).cols=C at *
 generalize (Ex.mk o c n t g ks).shift=F at *
 have hcs:(o=22∧¬ ks.length=2∧¬ (ks.length:Int)=2)∨(o=23∧¬ ks.length=2∧¬ (ks.length:Int)=2)∨(o=24∧¬ ks.length=1∧¬ (ks.length:Int)=1)∨(True∧(¬ o=22∧¬ o=23)∧¬ o=24):=by
  by_cases o22:o=22
  ·exact .inl ⟨o22,fun e=>s1 ⟨.inl o22,e⟩,fun e=>s1 ⟨.inl o22,by omega⟩⟩
  by_cases o23:o=23
  ·exact .inr (.inl ⟨o23,fun e=>s1 ⟨.inr o23,e⟩,fun e=>s1 ⟨.inr o23,by omega⟩⟩)
  by_cases o24:o=24
  ·exact .inr (.inr (.inl ⟨o24,fun e=>s2 ⟨o24,e⟩,fun e=>s2 ⟨o24,by omega⟩⟩))
  exact .inr (.inr (.inr ⟨trivial,⟨o22,o23⟩,o24⟩))
 rcases hcs with ⟨rfl,hl,hli⟩ | ⟨rfl,hl,hli⟩ | ⟨rfl,hl,hli⟩ | ⟨-,hl,hli⟩
 all_goals (
  simp [Ex.a,Ex.c,aC,kI,fV,hl,hli] at hcol ⊢
  (repeat' first|contradiction|exact .ok|apply And.intro|intro _|(apply gc<;>simp+contextual[hl,hli]))
  refine aA hcol (by simp) ?_
  match C,hr with
  | [],_ =>
    simp [pB]
    (repeat' first|contradiction|exact .ok|apply And.intro|intro _|(apply gc<;>simp+contextual))
    refine EndsS.sub (cM [(1000005,905),(1000006,906),(1000007,907)] (by decide) (by decide) (by apply zK<;>simp [Blk.live]) (by apply zK<;>simp [aP])) ?_
    exact EndsS.of [1000000,1000001,1000002,1000003,1000004,1000005,1000006,1000007,905,906,907] _ rfl (by simp; rfl) (by decide) rfl (by apply jM<;>simp [aB,Blk.live,fP,aG,aO]) (by simp [aB])
  | z::z2::r,_ =>
    have hl1:¬ ((r.length:Int)+1+1=1):=by omega
    simp [hl1,pB]
    (repeat' first|contradiction|exact .ok|apply And.intro|intro _|(apply gc<;>simp+contextual[hl1]))
    refine EndsS.sub (cM [(1000005,905),(1000006,906),(1000007,907)] (by decide) (by decide) (by apply zK<;>simp [Blk.live]) (by apply zK<;>simp [aP])) ?_
    exact EndsS.of [1000000,1000001,1000002,1000003,1000004,1000005,1000006,1000007,905,906,907] _ rfl (by simp; rfl) (by decide) rfl (by apply jM<;>simp [aB,Blk.live,fP,aG,aO]) (by simp [aB])
  | [z],hr =>
    have hz:=hplc z (hr z (List.mem_cons_self ..))
    have hpl:=GK (S:=S) (l:=[k0,k1,k2]) (c:=z) (i:=0)
    simp only [pB]
    obtain ⟨i,w,b,hp⟩:∃ i w b,gP S 0 [k0,k1,k2] z=(i,w,b):=⟨_,_,_,rfl⟩
    rw [hp] at hz hpl
    rw [hp]
    simp only at hz hpl ⊢
    simp [aG,aO] at hz ⊢
    (repeat' first|contradiction|exact .ok|apply And.intro|intro _|(apply gc<;>simp+contextual))
    refine aA hz (by simp [aR]) ?_
    cases b with
    | false =>
      simp
      (repeat' first|contradiction|exact .ok|apply And.intro|intro _|(apply gc<;>simp+contextual))
      refine EndsS.sub (cM [(1000005,905),(1000006,906),(1000007,907)] (by decide) (by decide) (by apply zK<;>simp [Blk.live]) (by apply zK<;>simp [aP])) ?_
      exact EndsS.of [1000000,1000001,1000002,1000003,1000004,1000005,1000006,1000007,905,906,907] _ rfl (by simp; rfl) (by decide) rfl (by apply jM<;>simp [aB,Blk.live,fP,aG,aO]) (by simp [aB])
    | true =>
      obtain ⟨i,rfl,hi,w0,w1⟩:=hpl rfl
      have hzr:=hr z (List.mem_cons_self ..)
      have hwd:=aH (n:=w - z) (by omega) (by omega)
      have hsd:=hsh (w - z)
      have had:=fun x hx=>hats x hx (w - z)
      clear hsh hats hplc hcol hp hpl
      have hel:=Ex.clen (F (w - z))
      have het:=Ex.ctake (F (w - z))
      simp only [Ex.a,Ex.c,aC] at hsd
      generalize F (w - z)=E at *
      rw [Nat.zero_add] at *
      rcases (by simp at hi; omega:i=0∨i=1∨i=2) with rfl | rfl | rfl
      ·have htab:aV S k0=S[k0]:=by unfold aV; rw [List.getElem?_eq_getElem r0]; rfl
       have hae:=had S[k0] (List.getElem_mem r0)
       obtain ⟨x,hx⟩:∃ x,x=S[k0]:=⟨_,rfl⟩
       have hgx:∀ h,S[k0]'h=x:=fun _=>hx.symm
       rw [← hx] at hae htab
       have hsz:=eI (A 0).length (by have:=hA 0; omega) 48 (by decide)
       have hsz1:=eI ((A 0).length+1) (by have:=hA 0; omega) 48 (by decide)
       have htk:((A 0).map At.c).take (A 0).length=(A 0).map At.c:=List.take_of_length_le (by simp)
       simp only [List.getElem?_cons_zero,List.getElem?_cons_succ,Option.getD_some,htab,Int.toNat_natCast]
       unfold BF at hae
       cases hB:lN x E with
       | false =>
         rw [hB,if_neg (by simp)] at hae
         simp [hwd,r0,hgx,Tb.c]
         (repeat' first|contradiction|exact .ok|apply And.intro|intro _|(apply gc<;>simp+contextual[hwd,r0,hgx]))
         refine aA hsd (by simp) ?_
         simp [Ex.a,hel,het]
         refine aA hae (by simp [Tb.a,Tb.c,Ex.a]) ?_
         simp [hsz,htk]
         (repeat' first|contradiction|exact .ok|apply And.intro|intro _|(apply gc<;>simp+contextual))
         refine EndsS.sub (cM [(1000006,906),(1000007,907)] (by decide) (by decide) (by apply kZ<;>simp [Blk.live]) (by apply kZ<;>simp [aP])) ?_
         exact EndsS.of [1000000,1000001,1000002,1000003,1000004,1000005,1000006,1000007,95,906,907] _ rfl (by simp; rfl) (by decide) rfl (by apply jM<;>simp [aB,Blk.live,fP,aG,aO,bM]) (by simp [aB])
       | true =>
         rw [hB,if_pos rfl] at hae
         simp [hwd,r0,hgx,Tb.c]
         (repeat' first|contradiction|exact .ok|apply And.intro|intro _|(apply gc<;>simp+contextual[hwd,r0,hgx]))
         refine aA hsd (by simp) ?_
         simp [Ex.a,hel,het]
         refine aA hae (by simp [Tb.a,Tb.c,Ex.a]) ?_
         simp [show ∀ a:At,a.c.length=5 from fun _=>rfl,hsz,hsz1,htk]
         (repeat' first|contradiction|exact .ok|apply And.intro|intro _|(apply gc<;>simp+contextual))
         refine EndsS.sub (cM [(1000006,906),(1000007,907)] (by decide) (by decide) (by apply kZ<;>simp [Blk.live]) (by apply kZ<;>simp [aP])) ?_
         exact EndsS.of [1000000,1000001,1000002,1000003,1000004,1000005,1000006,1000007,95,906,907] _ rfl (by simp; rfl) (by decide) rfl (by apply jM<;>simp [aB,Blk.live,fP,aG,aO,bM]) (by simp [aB])
      ·have htab:aV S k1=S[k1]:=by unfold aV; rw [List.getElem?_eq_getElem r1]; rfl
       have hae:=had S[k1] (List.getElem_mem r1)
       obtain ⟨x,hx⟩:∃ x,x=S[k1]:=⟨_,rfl⟩
       have hgx:∀ h,S[k1]'h=x:=fun _=>hx.symm
       rw [← hx] at hae htab
       have hsz:=eI (A 1).length (by have:=hA 1; omega) 48 (by decide)
       have hsz1:=eI ((A 1).length+1) (by have:=hA 1; omega) 48 (by decide)
       have htk:((A 1).map At.c).take (A 1).length=(A 1).map At.c:=List.take_of_length_le (by simp)
       simp only [List.getElem?_cons_zero,List.getElem?_cons_succ,Option.getD_some,htab,Int.toNat_natCast]
       unfold BF at hae
       cases hB:lN x E with
       | false =>
         rw [hB,if_neg (by simp)] at hae
         simp [hwd,r1,hgx,Tb.c]
         (repeat' first|contradiction|exact .ok|apply And.intro|intro _|(apply gc<;>simp+contextual[hwd,r1,hgx]))
         refine aA hsd (by simp) ?_
         simp [Ex.a,hel,het]
         refine aA hae (by simp [Tb.a,Tb.c,Ex.a]) ?_
         simp [hsz,htk]
         (repeat' first|contradiction|exact .ok|apply And.intro|intro _|(apply gc<;>simp+contextual))
         refine EndsS.sub (cM [(1000005,905),(1000007,907)] (by decide) (by decide) (by apply kZ<;>simp [Blk.live]) (by apply kZ<;>simp [aP])) ?_
         exact EndsS.of [1000000,1000001,1000002,1000003,1000004,1000005,1000006,1000007,905,95,907] _ rfl (by simp; rfl) (by decide) rfl (by apply jM<;>simp [aB,Blk.live,fP,aG,aO,bM]) (by simp [aB])
       | true =>
         rw [hB,if_pos rfl] at hae
         simp [hwd,r1,hgx,Tb.c]
         (repeat' first|contradiction|exact .ok|apply And.intro|intro _|(apply gc<;>simp+contextual[hwd,r1,hgx]))
         refine aA hsd (by simp) ?_
         simp [Ex.a,hel,het]
         refine aA hae (by simp [Tb.a,Tb.c,Ex.a]) ?_
         simp [show ∀ a:At,a.c.length=5 from fun _=>rfl,hsz,hsz1,htk]
         (repeat' first|contradiction|exact .ok|apply And.intro|intro _|(apply gc<;>simp+contextual))
         refine EndsS.sub (cM [(1000005,905),(1000007,907)] (by decide) (by decide) (by apply kZ<;>simp [Blk.live]) (by apply kZ<;>simp [aP])) ?_
         exact EndsS.of [1000000,1000001,1000002,1000003,1000004,1000005,1000006,1000007,905,95,907] _ rfl (by simp; rfl) (by decide) rfl (by apply jM<;>simp [aB,Blk.live,fP,aG,aO,bM]) (by simp [aB])
      ·have htab:aV S k2=S[k2]:=by unfold aV; rw [List.getElem?_eq_getElem r2]; rfl
       have hae:=had S[k2] (List.getElem_mem r2)
       obtain ⟨x,hx⟩:∃ x,x=S[k2]:=⟨_,rfl⟩
       have hgx:∀ h,S[k2]'h=x:=fun _=>hx.symm
       rw [← hx] at hae htab
       have hsz:=eI (A 2).length (by have:=hA 2; omega) 48 (by decide)
       have hsz1:=eI ((A 2).length+1) (by have:=hA 2; omega) 48 (by decide)
       have htk:((A 2).map At.c).take (A 2).length=(A 2).map At.c:=List.take_of_length_le (by simp)
       simp only [List.getElem?_cons_zero,List.getElem?_cons_succ,Option.getD_some,htab,Int.toNat_natCast]
       unfold BF at hae
       cases hB:lN x E with
       | false =>
         rw [hB,if_neg (by simp)] at hae
         simp [hwd,r2,hgx,Tb.c]
         (repeat' first|contradiction|exact .ok|apply And.intro|intro _|(apply gc<;>simp+contextual[hwd,r2,hgx]))
         refine aA hsd (by simp) ?_
         simp [Ex.a,hel,het]
         refine aA hae (by simp [Tb.a,Tb.c,Ex.a]) ?_
         simp [hsz,htk]
         (repeat' first|contradiction|exact .ok|apply And.intro|intro _|(apply gc<;>simp+contextual))
         refine EndsS.sub (cM [(1000005,905),(1000006,906)] (by decide) (by decide) (by apply kZ<;>simp [Blk.live]) (by apply kZ<;>simp [aP])) ?_
         exact EndsS.of [1000000,1000001,1000002,1000003,1000004,1000005,1000006,1000007,905,906,95] _ rfl (by simp; rfl) (by decide) rfl (by apply jM<;>simp [aB,Blk.live,fP,aG,aO,bM]) (by simp [aB])
       | true =>
         rw [hB,if_pos rfl] at hae
         simp [hwd,r2,hgx,Tb.c]
         (repeat' first|contradiction|exact .ok|apply And.intro|intro _|(apply gc<;>simp+contextual[hwd,r2,hgx]))
         refine aA hsd (by simp) ?_
         simp [Ex.a,hel,het]
         refine aA hae (by simp [Tb.a,Tb.c,Ex.a]) ?_
         simp [show ∀ a:At,a.c.length=5 from fun _=>rfl,hsz,hsz1,htk]
         (repeat' first|contradiction|exact .ok|apply And.intro|intro _|(apply gc<;>simp+contextual))
         refine EndsS.sub (cM [(1000005,905),(1000006,906)] (by decide) (by decide) (by apply kZ<;>simp [Blk.live]) (by apply kZ<;>simp [aP])) ?_
         exact EndsS.of [1000000,1000001,1000002,1000003,1000004,1000005,1000006,1000007,905,906,95] _ rfl (by simp; rfl) (by decide) rfl (by apply jM<;>simp [aB,Blk.live,fP,aG,aO,bM]) (by simp [aB]))
theorem aDx (S:List Tb) (k0:Nat) (k1:Nat) (k2:Nat) (k:Ex) (A:Nat→List At) (h:Cf Es 188 (k.a::[.ptr 1000000 0 0,.ptr 1000001 0 0,.ptr 1000002 0 0,.ptr 1000003 0 0]) (kI S [k0,k1,k2] A) (.d (.bool (bW S [k0,k1,k2] k A).1)) (fP S [k0,k1,k2] (bW S [k0,k1,k2] k A).2)) :
  Cf Es 190 [k.a,.ptr 1000000 0 0] (kI S [k0,k1,k2] A) (.d (.bool (!(bW S [k0,k1,k2] k A).1))) (fP S [k0,k1,k2] (bW S [k0,k1,k2] k A).2):=by
 have hel:=Ex.clen k
 have het:=Ex.ctake k
 generalize bW S [k0,k1,k2] k A=R at *
 obtain ⟨b,A'⟩:=R
 simp only at h ⊢
 refine cZ cF (fn:=Tryz.f190) (by kernel_rfl) rfl (by kernel_rfl) (by decide) (by simp) ?_
 simp [Ex.a,kI,hel,het,aG,aO] at h ⊢
 (repeat' first|contradiction|exact .ok|apply And.intro|intro _|(apply gc<;>simp+contextual))
 refine bS [1000000,1000001,1000002,1000003,1000004,1000005,1000006,1000007] 3 h (by simp [fP]) (by decide) (by apply NH<;>simp [Blk.live]) (by decide) (by decide) (by intro j hj; rcases (by omega:j=0∨j=1∨j=2) with rfl | rfl | rfl <;> simp) (by simp [kI,aG,aO]) (by simp [Ex.a,hel,het]) ?_
 simp [fP,aG,aO]
 (repeat' first|contradiction|exact .ok|apply And.intro|intro _|(apply gc<;>simp+contextual))
 exact EndsS.of [1000000,1000001,1000002,1000003,1000004,1000005,1000006,1000007,7000,7001,7002] _ rfl (by simp; rfl) (by decide) rfl (by apply jM<;>simp [aB,Blk.live,fP,aG,aO]) (by simp [aB])
theorem aDy (S:List Tb) (k0:Nat) (k1:Nat) (k2:Nat) (ks:List Ex) (hk:ks.length≤12) (h:∀ k∈ks,∀ A:Nat→List At,(∀ j,(A j).length+k.nodes≤50000)→Cf Es 190 [k.a,.ptr 1000000 0 0] (kI S [k0,k1,k2] A) (.d (.bool (!(bW S [k0,k1,k2] k A).1))) (fP S [k0,k1,k2] (bW S [k0,k1,k2] k A).2)) (A:Nat→List At) (hA:∀ j,(A j).length+aT ks≤50000) :
  Cf Es 198 [.d (.sl (ks.map Ex.c)),.clo 190 [.ptr 1000000 0 0]] (kI S [k0,k1,k2] A) (.d (.int .i64 (oO S [k0,k1,k2] ks A 0))) (fP S [k0,k1,k2] (cY S [k0,k1,k2] ks A).2):=by
 refine cZ cF (fn:=Tryz.f198) (by kernel_rfl) rfl (by kernel_rfl) (by decide) (by simp) ?_
 have hgoal:∀ R:Bool×(Nat→List At),R=R:=fun _=>rfl
 clear hgoal
 simp [kI]
 (repeat' first|contradiction|exact .ok|apply And.intro|intro _|(apply gc<;>simp+contextual))
 refine aL cF (by decide) (fun y:Nat×(Nat→List At)=>{ s:=cG [(0,.d (.sl (ks.map Ex.c))),(1,.clo 190 [.ptr 1000000 0 0]),(7,.d (.int .i64 ks.length)),(8,.d (.int .i64 y.1))],b:=cE [(1000000,1000000,.var [.clo 188 [.ptr 1000000 0 0,.ptr 1000001 0 0,.ptr 1000002 0 0,.ptr 1000003 0 0]]),(1000001,1000001,.var [.d (.sl (S.map Tb.c))]),(1000002,1000002,.var [.d (.sl (aG (aO [k0,k1,k2])))]),(1000003,1000003,.var [.ref 1000004 0 3 1]),(1000004,1000004,.varr 229 1 [[.ref 905 0 (y.2 0).length 5],[.ref 906 0 (y.2 1).length 5],[.ref 907 0 (y.2 2).length 5]]),(1000005,1000005,.dead),(1000006,1000006,.dead),(1000007,1000007,.dead),(905,905,.arr 113 5 ((y.2 0).map At.c) false),(906,906,.arr 113 5 ((y.2 1).map At.c) false),(907,907,.arr 113 5 ((y.2 2).map At.c) false)] })
  (fun y=>GJ S [k0,k1,k2] ks A y∧∀ j,(y.2 j).length+aT (ks.drop y.1)≤50000) (fun y=>ks.length - y.1) (0,A) ⟨⟨by simp,by simp,by simp⟩,by simpa using hA⟩
  ((cM [(1000005,905),(1000006,906),(1000007,907)] (by decide) (by decide) (by apply zK<;>simp [Blk.live]) (by apply zK<;>simp [aP])).trans (aE _ [(1000000,1000000,_),(1000001,1000001,_),(1000002,1000002,_),(1000003,1000003,_),(1000004,1000004,_),(1000005,1000005,_),(1000006,1000006,_),(1000007,1000007,_),(905,905,_),(906,906,_),(907,907,_)] ⟨(by decide:List.Nodup [1000000,1000001,1000002,1000003,1000004,1000005,1000006,1000007,905,906,907]),(by decide:List.Nodup [1000000,1000001,1000002,1000003,1000004,1000005,1000006,1000007,905,906,907]),by apply jM<;>simp [aB,Blk.live,aG,aO],qT rfl⟩ (by simp [aB]))) ?_
 rintro ⟨i,A1⟩ ⟨hW,hB⟩
 have hst:=qV hW
 have hen:=hW
 have hi:i≤ks.length:=hW.1
 clear hW
 simp only at hst hB
 by_cases hlt:i<ks.length
 ·obtain ⟨s1,s2⟩:=hst hlt
  have hnd:=iZ hlt
  have hcall:=h ks[i] (List.getElem_mem hlt) A1 (fun j=>by have:=hB j; omega)
  have hlen:=iY S [k0,k1,k2] ks[i] A1
  have hw:=aH (n:=(i:Int)+1) (by omega) (by omega)
  obtain ⟨e,he⟩:∃ e,e=ks[i]:=⟨_,rfl⟩
  have hge:∀ h,ks[i]'h=e:=fun _=>he.symm
  rw [hge] at s1 s2 hcall hnd hlen
  have hel:=Ex.clen e
  have het:=Ex.ctake e
  generalize bW S [k0,k1,k2] e A1=R at *
  obtain ⟨b,A2⟩:=R
  simp only at s1 s2 hcall hlen
  simp [Ex.a,kI,aG,aO] at hcall
  cases b with
  | true =>
    have hn:=s1 rfl
    simp [hlt,hge,hel,het,aG,aO]
    (repeat' first|contradiction|exact .ok|apply And.intro|intro _|(apply gc<;>simp+contextual))
    refine bS [1000000,1000001,1000002,1000003,1000004,905,906,907] 3 hcall (by simp [fP]) (by decide) (by apply NH<;>simp [Blk.live]) (by decide) (by decide) (by intro j hj; rcases (by omega:j=0∨j=1∨j=2) with rfl | rfl | rfl <;> simp) (by simp [kI,aG,aO]) (by simp [hel,het]) ?_
    simp [fP,aG,aO]
    (repeat' first|contradiction|exact .ok|apply And.intro|intro _|(apply gc<;>simp+contextual))
    refine ⟨(i+1,A2),⟨hn,fun j=>by have h1:=hlen j; have h2:=hB j; simp only; omega⟩,?_,by simp; omega⟩
    exact aE _ [(1000000,1000000,_),(1000001,1000001,_),(1000002,1000002,_),(1000003,1000003,_),(1000004,1000004,_),(1000005,1000005,_),(1000006,1000006,_),(1000007,1000007,_),(905,17000,_),(906,17001,_),(907,17002,_)] ⟨(by decide:List.Nodup [1000000,1000001,1000002,1000003,1000004,1000005,1000006,1000007,905,906,907]),(by decide:List.Nodup [1000000,1000001,1000002,1000003,1000004,1000005,1000006,1000007,17000,17001,17002]),by apply jM<;>simp [aB,Blk.live,aG,aO],qT rfl⟩ (by simp [aB,hw])
  | false =>
    obtain ⟨w1,w2⟩:=s2 rfl
    rw [w1,w2]
    simp [hlt,hge,hel,het,aG,aO]
    (repeat' first|contradiction|exact .ok|apply And.intro|intro _|(apply gc<;>simp+contextual))
    refine bS [1000000,1000001,1000002,1000003,1000004,905,906,907] 3 hcall (by simp [fP]) (by decide) (by apply NH<;>simp [Blk.live]) (by decide) (by decide) (by intro j hj; rcases (by omega:j=0∨j=1∨j=2) with rfl | rfl | rfl <;> simp) (by simp [kI,aG,aO]) (by simp [hel,het]) ?_
    simp [fP,aG,aO]
    (repeat' first|contradiction|exact .ok|apply And.intro|intro _|(apply gc<;>simp+contextual))
    exact EndsS.of [1000000,1000001,1000002,1000003,1000004,1000005,1000006,1000007,17000,17001,17002] _ rfl (by simp; rfl) (by decide) rfl (by apply jM<;>simp [aB,Blk.live,fP,aG,aO]) (by simp [aB])
 ·obtain rfl:i=ks.length:=by omega
  obtain ⟨w1,w2⟩:=vL hen
  rw [w1,w2]
  simp
  (repeat' first|contradiction|exact .ok|apply And.intro|intro _|(apply gc<;>simp+contextual))
  exact EndsS.of [1000000,1000001,1000002,1000003,1000004,1000005,1000006,1000007,905,906,907] _ rfl (by simp; rfl) (by decide) rfl (by apply jM<;>simp [aB,Blk.live,fP,aG,aO]) (by simp [aB])
theorem aDz (S:List Tb) (k0:Nat) (k1:Nat) (k2:Nat) (ks:List Ex) (A:Nat→List At) (h:Cf Es 198 [.d (.sl (ks.map Ex.c)),.clo 190 [.ptr 1000000 0 0]] (kI S [k0,k1,k2] A) (.d (.int .i64 (oO S [k0,k1,k2] ks A 0))) (fP S [k0,k1,k2] (cY S [k0,k1,k2] ks A).2)) :
  Cf Es 124 [.d (.sl (ks.map Ex.c)),.clo 190 [.ptr 1000000 0 0]] (kI S [k0,k1,k2] A) (.d (.bool (!(cY S [k0,k1,k2] ks A).1))) (fP S [k0,k1,k2] (cY S [k0,k1,k2] ks A).2):=by
 have hok:=xS S [k0,k1,k2] ks A 0
 rw [← hok]
 clear hok
 generalize oO S [k0,k1,k2] ks A 0=z at *
 generalize (cY S [k0,k1,k2] ks A).2=A' at *
 refine cZ cF (fn:=Tryz.f124) (by kernel_rfl) rfl (by kernel_rfl) (by decide) (by simp) ?_
 simp [kI,aG,aO] at h ⊢
 (repeat' first|contradiction|exact .ok|apply And.intro|intro _|(apply gc<;>simp+contextual))
 refine bS [1000000,1000001,1000002,1000003,1000004,1000005,1000006,1000007] 3 h (by simp [fP]) (by decide) (by apply NH<;>simp [Blk.live]) (by decide) (by decide) (by intro j hj; rcases (by omega:j=0∨j=1∨j=2) with rfl | rfl | rfl <;> simp) (by simp [kI,aG,aO]) (by simp) ?_
 simp [fP,aG,aO]
 (repeat' first|contradiction|exact .ok|apply And.intro|intro _|(apply gc<;>simp+contextual))
 exact EndsS.of [1000000,1000001,1000002,1000003,1000004,1000005,1000006,1000007,8000,8001,8002] _ rfl (by simp; rfl) (by decide) rfl (by apply jM<;>simp [aB,Blk.live,fP,aG,aO]) (by simp [aB])
theorem QT (S:List Tb) (hS:∀ x∈S,x.ok) (hty:∀ x∈S,∀ u∈x.cols,u.t=1∨u.t=2∨u.t=3) (k0:Nat) (k1:Nat) (k2:Nat) (r0:k0<S.length) (r1:k1<S.length) (r2:k2<S.length):∀ (m:Nat) (e:Ex),SizeOf.sizeOf e<m→∀ q:Nat,e.few q=true→(∀ z∈e.cols,z<9223372036854775807)→∀ A:Nat→List At,(∀ j,(A j).length+e.nodes≤50000) →
  Cf Es 188 (e.a::[.ptr 1000000 0 0,.ptr 1000001 0 0,.ptr 1000002 0 0,.ptr 1000003 0 0]) (kI S [k0,k1,k2] A) (.d (.bool (bW S [k0,k1,k2] e A).1)) (fP S [k0,k1,k2] (bW S [k0,k1,k2] e A).2)
 | 0,_,h,_,_,_,_,_=>absurd h (by omega)
 | m+1,.mk o c n t g ks,hm,q,hq,hr,A,hA=>by
   have hn0:(Ex.mk o c n t g ks).nodes≤50000:=by have:=hA 0; omega
   cases hs:pH o ks.length with
   | false =>
     have h:=aBx S hS hty r0 r1 r2 A o c n g t ks q hq (by omega) hs hr (fun j=>by have:=hA j; omega)
     rw [bW,if_neg (by rw [hs]; simp)]
     exact h
   | true =>
     obtain ⟨hk12,_,hfew⟩:=iN hq
     have hnk:aT ks≤50000:=by rw [Ex.nodes] at hn0; omega
     have hAk:∀ j,(A j).length+aT ks≤50000:=fun j=>by have:=hA j; rw [Ex.nodes] at this; omega
     have hkid:∀ k∈ks,∀ A:Nat→List At,(∀ j,(A j).length+k.nodes≤50000)→Cf Es 190 [k.a,.ptr 1000000 0 0] (kI S [k0,k1,k2] A) (.d (.bool (!(bW S [k0,k1,k2] k A).1))) (fP S [k0,k1,k2] (bW S [k0,k1,k2] k A).2):=fun k hk A hA =>
      aDx S k0 k1 k2 k A (QT S hS hty k0 k1 k2 r0 r1 r2 m k (by
       have:=Ex.kid_lt (e:=.mk o c n t g ks) (k:=k) hk
       omega) (q+1) (hfew k hk) (fun z hz=>hr z (AA hk hz)) A hA)
     have hcon:=aDz S k0 k1 k2 ks A (aDy S k0 k1 k2 ks hk12 hkid A hAk)
     have hsm:=gL (BJ (SizeOf.sizeOf (Ex.mk o c n t g [])+1) (.mk o c n t g []) (.mk o 0 0 [] 0 []) (by omega) (by simp [Ex.fits,iO]))
     have heq:(Ex.mk o c n t g []).eq (.mk o 0 0 [] 0 [])=(c==0&&(n==0&&(t==[]&&g==0))):=by rw [Ex.eq,fD]; simp
     rw [heq] at hsm
     rw [bW,if_pos hs]
     have hshp:((o=22∨o=23)∧ks.length=2)∨(o=24∧ks.length=1):=by
      unfold pH at hs
      simp at hs
      exact hs
     generalize (c==0&&(n==0&&(t==[]&&g==0)))=B at *
     clear hkid hs hq hr hA hAk hfew heq
     refine cZ cF (fn:=Tryz.f188) (by kernel_rfl) rfl (by kernel_rfl) (by decide) (by simp) ?_
     rcases hshp with ⟨rfl | rfl,l1⟩ | ⟨rfl,l1⟩
     all_goals (
      cases B with
      | false =>
        simp [Ex.a,Ex.c,aC,cA,kI,l1] at hsm ⊢
        (repeat' first|contradiction|exact .ok|apply And.intro|intro _|(apply gc<;>simp+contextual[l1]))
        refine aA hsm (by simp) ?_
        simp
        (repeat' first|contradiction|exact .ok|apply And.intro|intro _|(apply gc<;>simp+contextual))
        refine EndsS.sub (cM [(1000005,905),(1000006,906),(1000007,907)] (by decide) (by decide) (by apply zK<;>simp [Blk.live]) (by apply zK<;>simp [aP])) ?_
        exact EndsS.of [1000000,1000001,1000002,1000003,1000004,1000005,1000006,1000007,905,906,907] _ rfl (by simp; rfl) (by decide) rfl (by apply jM<;>simp [aB,Blk.live,fP,aG,aO]) (by simp [aB])
      | true =>
        simp only [if_true]
        generalize cY S [k0,k1,k2] ks A=R at *
        obtain ⟨b,A'⟩:=R
        simp only at hcon ⊢
        simp [Ex.a,Ex.c,aC,cA,kI,l1,aG,aO] at hsm hcon ⊢
        (repeat' first|contradiction|exact .ok|apply And.intro|intro _|(apply gc<;>simp+contextual[l1]))
        refine aA hsm (by simp) ?_
        simp
        (repeat' first|contradiction|exact .ok|apply And.intro|intro _|(apply gc<;>simp+contextual))
        refine bS [1000000,1000001,1000002,1000003,1000004,1000005,1000006,1000007] 3 hcon (by simp [fP]) (by decide) (by apply NH<;>simp [Blk.live]) (by decide) (by decide) (by intro j hj; rcases (by omega:j=0∨j=1∨j=2) with rfl | rfl | rfl <;> simp) (by simp [kI,aG,aO]) (by simp) ?_
        simp [fP,aG,aO]
        (repeat' first|contradiction|exact .ok|apply And.intro|intro _|(apply gc<;>simp+contextual))
        exact EndsS.of [1000000,1000001,1000002,1000003,1000004,1000005,1000006,1000007,50000,50001,50002] _ rfl (by simp; rfl) (by decide) rfl (by apply jM<;>simp [aB,Blk.live,fP,aG,aO]) (by simp [aB]))
theorem XJ (S:List Tb) (hl:S.length≤1000) (hS:∀ x∈S,x.ok) (hty:∀ x∈S,∀ u∈x.cols,u.t=1∨u.t=2∨u.t=3) (v:Vw) (hv:v.path.length≤50) (k0:Nat) (k1:Nat) (k2:Nat) (hch:dY S v=some [k0,k1,k2]) (hc1:v.cond.length≤1) (hcf:∀ e∈v.cond,e.few 0=true∧∀ z∈e.cols,z<9223372036854775807) (hn12:aT v.cond≤12) :
  Cf Es 121 [aR S,v.a] [] (if (cY S [k0,k1,k2] v.cond (fun _=>[])).1=true then .tup [.un,.d (.bool true)] else .tup [.d (.sl []),.d (.bool false)]) []:=by
 have ht:=gL (gW S hl hS v (by omega))
 rw [hch] at ht
 unfold mZ at ht
 simp only at ht
 obtain ⟨hlt,_⟩:=dI hch
 have hwalk:=fun (e:Ex) (hq:e.few 0=true) hr A hA=>QT S hS hty k0 k1 k2 (hlt k0 (by simp)) (hlt k1 (by simp)) (hlt k2 (by simp)) (SizeOf.sizeOf e+1) e (by omega) 0 hq hr A hA
 have hwl:=nK S [k0,k1,k2] v.cond (fun _=>[])
 have hc1i:¬ (1:Int)<v.cond.length:=by omega
 have hc1n:¬ 1<v.cond.length:=by omega
 refine aD cF (fn:=Tryz.f121) (by kernel_rfl) rfl (by kernel_rfl) (by decide) (by simp) ?_
 simp [aR,Vw.a,Vw.c,aG,aO] at ht ⊢
 (repeat' first|contradiction|exact .ok|apply And.intro|intro _|(apply gc<;>simp+contextual))
 refine aA ht (by simp) ?_
 simp [hc1i,hc1n]
 (repeat' first|contradiction|exact .ok|apply And.intro|intro _|(apply gc<;>simp+contextual[hc1i,hc1n]))
 refine aL cF (by decide) (fun y:Nat×(Nat→List At)=>{ s:=cG [(2,.ptr 2 0 0),(3,.ptr 3 0 0),(6,.ptr 6 0 0),(8,.ptr 8 0 0),(9,.ptr 9 0 0),(32,.d (.sl (v.cond.map Ex.c))),(33,.d (.int .i64 v.cond.length)),(34,.d (.int .i64 y.1))],b:=cE [(2,2,.var [.d (.sl (S.map Tb.c))]),(3,3,.var (v.c.map AV.d)),(6,6,.var [.d (.sl (aG (aO [k0,k1,k2])))]),(8,8,.var [.ref 901 0 3 1]),(9,9,.var [.clo 188 [.ptr 9 0 0,.ptr 2 0 0,.ptr 6 0 0,.ptr 8 0 0]]),(901,901,.varr 229 1 [[.ref 905 0 (y.2 0).length 5],[.ref 906 0 (y.2 1).length 5],[.ref 907 0 (y.2 2).length 5]]),(905,905,.arr 113 5 ((y.2 0).map At.c) false),(906,906,.arr 113 5 ((y.2 1).map At.c) false),(907,907,.arr 113 5 ((y.2 2).map At.c) false)] })
  (fun y=>GJ S [k0,k1,k2] v.cond (fun _=>[]) y∧∀ j,(y.2 j).length+aT (v.cond.drop y.1)≤12) (fun y=>v.cond.length - y.1) (0,fun _=>[]) ⟨⟨by simp,by simp,by simp⟩,by simpa using hn12⟩
  ((pR 29 (m:=3) (ety:=229) (by simp [IB])).trans ((kX 29 905 113 5 0 (ety2:=229) (sz2:=1) (cells:=List.replicate 3 [.nils]) (by simp [bM]) (by simp) (by simp [bM]) (by decide) (by decide)).trans ((kX 29 906 113 5 1 (ety2:=229) (sz2:=1) (cells:=(List.replicate 3 [.nils]).set 0 [.ref 905 0 0 5]) (by simp [bM]) (by simp) (by simp [bM]) (by decide) (by decide)).trans ((kX 29 907 113 5 2 (ety2:=229) (sz2:=1) (cells:=((List.replicate 3 [.nils]).set 0 [.ref 905 0 0 5]).set 1 [.ref 906 0 0 5]) (by simp [bM]) (by simp) (by simp [bM]) (by decide) (by decide)).trans (aE _ [(2,2,_),(3,3,_),(6,6,_),(8,8,_),(9,9,_),(901,29,_),(905,905,_),(906,906,_),(907,907,_)] ⟨by simp,by simp,by simp [aB,Blk.live,Vw.c,aG,aO,bM],by simp⟩ (by simp [aB])))))) ?_
 rintro ⟨i,A1⟩ ⟨hW,hB⟩
 have hst:=qV hW
 have hen:=hW
 have hi:i≤v.cond.length:=hW.1
 clear hW
 simp only at hst hB
 by_cases hlti:i<v.cond.length
 ·obtain ⟨s1,s2⟩:=hst hlti
  have hnd:=iZ hlti
  obtain ⟨e,he⟩:∃ e,e=v.cond[i]:=⟨_,rfl⟩
  have hge:∀ h,v.cond[i]'h=e:=fun _=>he.symm
  obtain ⟨f1,f2⟩:=hcf e (by rw [he]; exact List.getElem_mem hlti)
  have hcall:=hwalk e f1 f2 A1 (fun j=>by have:=hB j; rw [hge] at hnd; omega)
  have hlen:=iY S [k0,k1,k2] e A1
  have hw:=aH (n:=(i:Int)+1) (by omega) (by omega)
  rw [hge] at s1 s2 hnd
  have hel:=Ex.clen e
  have het:=Ex.ctake e
  generalize bW S [k0,k1,k2] e A1=R at *
  obtain ⟨b,A2⟩:=R
  simp only at s1 s2 hcall hlen
  simp [Ex.a,kI,aG,aO] at hcall
  cases b with
  | true =>
    have hn:=s1 rfl
    simp [hlti,hge,hel,het,aG,aO]
    (repeat' first|contradiction|exact .ok|apply And.intro|intro _|(apply gc<;>simp+contextual))
    refine bS [9,2,6,8,901,905,906,907] 3 hcall (by simp [fP]) (by decide) (by apply NH<;>simp [Blk.live]) (by decide) (by decide) (by intro j hj; rcases (by omega:j=0∨j=1∨j=2) with rfl | rfl | rfl <;> simp) (by simp [kI,aG,aO]) (by simp [hel,het]) ?_
    simp [fP,aG,aO]
    (repeat' first|contradiction|exact .ok|apply And.intro|intro _|(apply gc<;>simp+contextual))
    refine ⟨(i+1,A2),⟨hn,fun j=>by have h1:=hlen j; have h2:=hB j; simp only; omega⟩,?_,by simp; omega⟩
    exact aE _ [(2,2,_),(3,3,_),(6,6,_),(8,8,_),(9,9,_),(901,901,_),(905,41000,_),(906,41001,_),(907,41002,_)] ⟨by simp,by simp,by simp [aB,Blk.live,Vw.c,aG,aO],by simp⟩ (by simp [aB,hw])
  | false =>
    obtain ⟨w1,w2⟩:=s2 rfl
    rw [w1]
    simp [hlti,hge,hel,het,aG,aO]
    (repeat' first|contradiction|exact .ok|apply And.intro|intro _|(apply gc<;>simp+contextual))
    refine bS [9,2,6,8,901,905,906,907] 3 hcall (by simp [fP]) (by decide) (by apply NH<;>simp [Blk.live]) (by decide) (by decide) (by intro j hj; rcases (by omega:j=0∨j=1∨j=2) with rfl | rfl | rfl <;> simp) (by simp [kI,aG,aO]) (by simp [hel,het]) ?_
    simp [fP,aG,aO]
    all_goals exact gz
 ·obtain rfl:i=v.cond.length:=by omega
  obtain ⟨w1,w2⟩:=vL hen
  rw [w1]
  have hA12:∀ j,(A1 j).length≤12:=fun j=>by have:=hB j; omega
  clear hB hst hen hwalk hwl w1 w2
  simp
  (repeat' first|contradiction|exact .ok|apply And.intro|intro _|(apply gc<;>simp+contextual))
  refine aL cF (by decide) (fun i:Nat=>{ s:=cG [(8,.ptr 8 0 0),(44,.d (.int .i64 3)),(45,.d (.int .i64 i))],b:=cE [(8,8,.var [.ref 901 0 3 1]),(901,901,.varr 229 1 [[if 0<i then .d (.sl ((CN (A1 0)).map At.c)) else .ref 905 0 (A1 0).length 5],[if 1<i then .d (.sl ((CN (A1 1)).map At.c)) else .ref 906 0 (A1 1).length 5],[if 2<i then .d (.sl ((CN (A1 2)).map At.c)) else .ref 907 0 (A1 2).length 5]]),(905,905,.arr 113 5 ((A1 0).map At.c) (decide (0<i))),(906,906,.arr 113 5 ((A1 1).map At.c) (decide (1<i))),(907,907,.arr 113 5 ((A1 2).map At.c) (decide (2<i)))] })
   (fun i=>i≤3) (fun i=>3 - i) 0 (by simp) (aE _ [(8,8,_),(901,901,_),(905,905,_),(906,906,_),(907,907,_)] ⟨by simp,by simp,by simp [aB,Blk.live],by simp⟩ (by simp [aB])) ?_
  intro i hi
  rcases (by omega:i=0∨i=1∨i=2∨i=3) with rfl | rfl | rfl | rfl
  ·have hu:=gL (jD (A1 0) (hA12 0))
   have htk:((A1 0).map At.c).take (A1 0).length=(A1 0).map At.c:=List.take_of_length_le (by simp)
   simp
   (repeat' first|contradiction|exact .ok|apply And.intro|intro _|(apply gc<;>simp+contextual))
   refine aA hu (by simp [htk]) ?_
   simp
   (repeat' first|contradiction|exact .ok|apply And.intro|intro _|(apply gc<;>simp+contextual))
   refine ⟨1,by omega,?_,by simp⟩
   exact aE _ [(8,8,_),(901,901,_),(905,905,_),(906,906,_),(907,907,_)] ⟨by simp,by simp,by simp [aB,Blk.live],by simp⟩ (by simp [aB]; try decide)
  ·have hu:=gL (jD (A1 1) (hA12 1))
   have htk:((A1 1).map At.c).take (A1 1).length=(A1 1).map At.c:=List.take_of_length_le (by simp)
   simp
   (repeat' first|contradiction|exact .ok|apply And.intro|intro _|(apply gc<;>simp+contextual))
   refine aA hu (by simp [htk]) ?_
   simp
   (repeat' first|contradiction|exact .ok|apply And.intro|intro _|(apply gc<;>simp+contextual))
   refine ⟨2,by omega,?_,by simp⟩
   exact aE _ [(8,8,_),(901,901,_),(905,905,_),(906,906,_),(907,907,_)] ⟨by simp,by simp,by simp [aB,Blk.live],by simp⟩ (by simp [aB]; try decide)
  ·have hu:=gL (jD (A1 2) (hA12 2))
   have htk:((A1 2).map At.c).take (A1 2).length=(A1 2).map At.c:=List.take_of_length_le (by simp)
   simp
   (repeat' first|contradiction|exact .ok|apply And.intro|intro _|(apply gc<;>simp+contextual))
   refine aA hu (by simp [htk]) ?_
   simp
   (repeat' first|contradiction|exact .ok|apply And.intro|intro _|(apply gc<;>simp+contextual))
   refine ⟨3,by omega,?_,by simp⟩
   exact aE _ [(8,8,_),(901,901,_),(905,905,_),(906,906,_),(907,907,_)] ⟨by simp,by simp,by simp [aB,Blk.live],by simp⟩ (by simp [aB]; try decide)
  ·simp
   all_goals exact gz
end Go.Proofs.Tryz
