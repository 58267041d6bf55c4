import Derived.Test.YthpmjipkofbeiaaGreatDoorUShb
set_option linter.all false
namespace Go.Proofs.Tryz
open Go.Ab
set_option maxRecDepth 100000
set_option maxHeartbeats 1000000
theorem UQ (c:UInt8):Cf Es 124 [.d (.int .u8 c.toNat)] [] (.d (.bool (jO c))) []:=by
 refine cI bI (fn:=Tryz.f124) rfl ?_
 unfold jO
 simp
 (repeat' (first|contradiction|exact .ok|apply And.intro|intro _|(refine gc (fun h=>?_) (fun h=>?_)<;>(have h':=h;(try simp at h');first|done|simp[h,h']|simp))))
 all_goals (first | (rw [Bool.eq_iff_iff]; simp; omega) | (simp; omega) | (simp_all; omega))
theorem UR:words.all oF=true:=by decide
theorem aDr {c:UInt8} {s:List UInt8} (hl:s.length≤15) (hc:jO c=true) :
  bP words (c::s)=(!nA (32::(c::(s++[32]))) (tN words)&&(c::s).all dR):=by
 have h:=fun hp=>xJ (c::s) hp words UR
 rw [List.cons_append] at h
 unfold bP tO
 cases ha:(c::s).all dR with
 | false=>simp
 | true =>
   rw [h (LK ha)]
   simp [hc]
   omega
theorem CK (s:List UInt8):Cf Es 84 [.d (.str s)] [] (.d (.bool (bP words s))) []:=by
 refine cI bI (fn:=Tryz.f84) rfl ?_
 cases s with
 | nil =>
   simp [bP,tO]
   all_goals exact gz
 | cons c s =>
   by_cases hl:s.length≤15
   ·have hl':¬ (16:Int)<(s.length:Int)+1:=by omega
    have hl3:¬ (16:Int)<(s.length:Int):=by omega
    simp [hl']
    refine ⟨.ok,?_⟩
    refine aP (UQ c) ?_
    simp
    refine aI (fun h=>?_) (fun h=>?_)
    ·have h':jO c=true:=by simpa using h
     have b1:1+(s.length+1)≤9223372036854775807:=by omega
     have b2:s.length+1+1≤9223372036854775807:=by omega
     have b3:s.length+1+1+1≤9223372036854775807:=by omega
     have b4:1+(s.length+1)+1≤9223372036854775807:=by omega
     simp [h',b1,b3]
     refine aA (ZN (tN words) (32::((c::s)++[32])) (by decide)) (by simp [tN,words]) ?_
     rw [aDr hl h']
     generalize hW:nA (32::(c::(s++[32]))) (tN words)=W
     generalize hA:(c::s).all dR=A
     cases W with
     | true =>
       simp [hW]
       all_goals exact gz
     | false =>
       simp [hW]
       obtain ⟨t,ht⟩:∃ t,t=c::s:=⟨_,rfl⟩
       have htl:(s.length:Int)+1=t.length:=by rw [ht]; simp
       have htn:t.length≤16:=by rw [ht]; simp; omega
       rw [← ht] at hA ⊢
       rw [htl]
       refine ⟨.ok,.ok,?_⟩
       refine aL bI (fun i:Nat=>{ s:=eP [(0,.d (.str t)),(25,.d (.int .i64 t.length)),(26,.d (.int .i64 i))],b:=eG [] }) (fun i:Nat=>i≤t.length∧∀ j (h:j<t.length),j<i→dR t[j]=true) (fun i=>t.length - i) 0 (by simp) (aJ _ [] .nil (by simp)) ?_
       clear ht htl hl hl' hl3 h h' hW b1 b2 b3 b4
       rintro i ⟨hi,ho⟩
       by_cases hlt:i<t.length
       ·have hlt':(i:Int)<t.length:=by omega
        have hg:t[i]?=some t[i]:=gE hlt
        simp [hlt,hlt']
        refine ⟨.ok,.ok,.ok,?_⟩
        refine aP (UQ t[i]) ?_
        simp
        have hbad:dR t[i]=false→A=false:=fun h=>by
         rw [← hA]
         cases hx:t.all dR with
         | false=>rfl
         | true=>rw [List.all_eq_true.1 hx _ (List.getElem_mem hlt)] at h; cases h
        have hgood:dR t[i]=true→∀ j (h:j<t.length),j<i+1→dR t[j]=true:=fun h j hj hji=>by
         rcases Nat.lt_or_ge j i with c | c
         ·exact ho j hj c
         ·have:j=i:=by omega
          subst this
          exact h
        generalize hb:t[i]=b at *
        have hnb:dR b=(jO b||(decide (48≤b.toNat)&&decide (b.toNat≤57)||b.toNat==95)):=rfl
        clear ho hA hg
        (repeat' (first|contradiction|exact .ok|apply And.intro|intro _|(refine gc (fun h=>?_) (fun h=>?_)<;>(have h':=h;(try simp at h');first|done|simp[h,h']|simp))))
        all_goals first
         | (refine ⟨i+1,⟨hlt,hgood ?_⟩,aJ _ [] .nil ?_,?_⟩
            ·clear hbad hgood hb; first | (rw [hnb]; simp_all; done) | (rw [hnb]; simp_all; omega)
            ·simp; exact aZ (by omega) (by omega)
            ·simp; omega)
         | (apply hbad; clear hbad hgood hb; rw [hnb]; simp_all; done)
         | (apply hbad; clear hbad hgood hb; rw [hnb]; simp_all; omega)
       ·have hlt':¬ (i:Int)<t.length:=by omega
        have:A=true:=by
         rw [← hA,List.all_eq_true]
         intro x hx
         obtain ⟨j,hj,rfl⟩:=List.getElem_of_mem hx
         exact ho j hj (by omega)
        simp [hlt,hlt',this]
        exact ⟨.ok,.of (by kernel_rfl)⟩
    ·have h':jO c=false:=by simpa using h
     simp [h',bP,tO]
     all_goals exact gz
   ·have hn:bP words (c::s)=false:=by unfold bP; simp; intro h; omega
    rw [hn]
    have hl':(16:Int)<(s.length:Int)+1:=by omega
    simp [hl']
    (repeat' (first|contradiction|exact .ok|apply And.intro|intro _|(refine gc (fun h=>?_) (fun h=>?_)<;>(have h':=h;(try simp at h');first|done|simp[h,h',hl']|simp[hl']))))
    all_goals simp_all
theorem ZS:Cf Es 110 [] [] (.d (.sl (words.map fun w=>[.str w]))) []:=by
 refine cI bI (fn:=Tryz.f110) rfl ?_
 simp [words]
 all_goals exact gz
theorem CL (s:List UInt8):Cf Es 71 [.d (.str s)] [] (.d (.bool (bP words s))) []:=by
 refine cI bI (fn:=Tryz.f71) rfl ?_
 cases s with
 | nil =>
   simp [bP,tO]
   all_goals exact gz
 | cons c s =>
   by_cases hl:s.length≤15
   ·have hl':¬ (16:Int)<(s.length:Int)+1:=by omega
    have hl3:¬ (s.length:Int)+1<1:=by omega
    have hN:bP words (c::s)=(jO c&&((c::s).all dR&&!words.contains (c::s))):=by
     unfold bP tO
     simp
     omega
    rw [hN]
    generalize hA:(c::s).all dR=A
    generalize hW:words.contains (c::s)=W
    generalize hR:(jO c&&(A&&!W))=R
    by_cases hc:jO c=true
    ·have h1:¬ (c.toNat:Int)<97:=by unfold jO at hc; simp at hc; omega
     have h2:¬ (122:Int)<c.toNat:=by unfold jO at hc; simp at hc; omega
     simp [hl',hl3,h1,h2]
     obtain ⟨t,ht⟩:∃ t,t=c::s:=⟨_,rfl⟩
     have htl:(s.length:Int)+1=t.length:=by rw [ht]; simp
     have htn:t.length≤16:=by rw [ht]; simp; omega
     rw [← ht] at hA hW ⊢
     refine ⟨.ok,.ok,.ok,?_⟩
     refine aL bI (fun i:Nat=>{ s:=eP [(0,.d (.str t)),(3,.d (.int .i64 i))],b:=eG [] }) (fun i:Nat=>i≤t.length∧∀ j (h:j<t.length),j<i→dR t[j]=true) (fun i=>t.length - i) 0 (by simp) (aJ _ [] .nil (by simp)) ?_
     clear ht htl hl hl' hl3 h1 h2
     rintro i ⟨hi,ho⟩
     by_cases hlt:i<t.length
     ·have hlt':(i:Int)<t.length:=by omega
      have hg:t[i]?=some t[i]:=gE hlt
      simp [hlt,hlt']
      refine ⟨.ok,?_⟩
      have hbad:dR t[i]=false→A=false:=fun h=>by
       rw [← hA]
       cases hx:t.all dR with
       | false=>rfl
       | true=>rw [List.all_eq_true.1 hx _ (List.getElem_mem hlt)] at h; cases h
      have hgood:dR t[i]=true→∀ j (h:j<t.length),j<i+1→dR t[j]=true:=fun h j hj hji=>by
       rcases Nat.lt_or_ge j i with c | c
       ·exact ho j hj c
       ·have:j=i:=by omega
        subst this
        exact h
      generalize hb:t[i]=b at *
      have hgi:∀ h,t[i]'h=b:=fun _=>hb
      have hnb:dR b=(decide (97≤b.toNat)&&decide (b.toNat≤122)||(decide (48≤b.toNat)&&decide (b.toNat≤57)||b.toNat==95)):=rfl
      clear ho hA
      (repeat' (first|contradiction|exact .ok|apply And.intro|intro _|(refine gc (fun h=>?_) (fun h=>?_)<;>(have h':=h;(try simp at h');first|done|simp[h,h',hlt,hgi]|simp[hg,hlt,hgi]))))
      all_goals first
       | (refine ⟨i+1,⟨hlt,hgood ?_⟩,aJ _ [] .nil ?_,?_⟩
          ·clear hbad hgood hb hgi hR; first | (rw [hnb]; simp_all; done) | (rw [hnb]; simp_all; omega)
          ·simp; exact aZ (by omega) (by omega)
          ·simp; omega)
       | (rw [← hR,show A=false by (apply hbad; clear hbad hgood hb hgi hR; first | (rw [hnb]; simp_all; done) | (rw [hnb]; simp_all; omega))]; simp)
     ·have hlt':¬ (i:Int)<t.length:=by omega
      have:A=true:=by
       rw [← hA,List.all_eq_true]
       intro x hx
       obtain ⟨j,hj,rfl⟩:=List.getElem_of_mem hx
       exact ho j hj (by omega)
      subst this
      clear ho hA hi
      simp [hlt,hlt']
      refine ⟨.ok,?_⟩
      refine aP ZS ?_
      simp
      refine gr ?_
      refine aL bI (fun i:Nat=>{ s:=eP [(0,.d (.str t)),(4,.d (.sl (words.map fun w=>[.str w]))),(5,.d (.int .i64 i))],b:=eG [] }) (fun i:Nat=>i≤words.length∧(words.drop i).contains t=W) (fun i=>words.length - i) 0 (by simp [← hW]) (aJ _ [] .nil (by simp)) ?_
      clear hlt hlt' i
      rintro i ⟨hi,ho⟩
      by_cases hlt:i<words.length
      ·have hlt':(i:Int)<words.length:=by omega
       obtain ⟨v,hg⟩:∃ v,words[i]?=some v:=⟨_,gE hlt⟩
       have hgi:∀ h,words[i]'h=v:=fun h=>(List.getElem?_eq_some_iff.1 hg).2
       have hd:words.drop i=v::words.drop (i+1):=by rw [List.drop_eq_getElem_cons hlt,hgi]
       rw [hd] at ho
       simp [hlt,hlt',hgi]
       refine ⟨.ok,.ok,fun h=>⟨.ok,?_⟩,fun h=>⟨.ok,i+1,⟨hlt,?_⟩,aJ _ [] .nil ?_,?_⟩⟩
       ·subst h
        simp at ho
        rw [← hR,← ho]; simp
       ·rw [← ho]
        simp
        intro e
        exact absurd e.symm h
       ·simp
        have:words.length=52:=rfl
        exact aZ (by omega) (by omega)
       ·simp; omega
      ·have hlt':¬ (i:Int)<words.length:=by omega
       have hWf:W=false:=by
        rw [← ho,List.drop_eq_nil_of_le (by omega)]; rfl
       simp [hlt,hlt']
       refine ⟨.ok,.ok,?_⟩
       rw [← hR,hWf,hc]; rfl
    ·have hc':jO c=false:=by simpa using hc
     have hRf:R=false:=by rw [← hR,hc']; rfl
     subst hRf
     clear hR
     unfold jO at hc'
     simp [hl',hl3]
     (repeat' (first|contradiction|exact .ok|apply And.intro|intro _|(refine gc (fun h=>?_) (fun h=>?_)<;>(have h':=h;(try simp at h');first|done|simp[h,h']|simp[hl3]))))
     all_goals first | (simp_all; done) | (simp_all; omega)
   ·have hn:bP words (c::s)=false:=by unfold bP; simp; intro h; omega
    rw [hn]
    have hl':(16:Int)<(s.length:Int)+1:=by omega
    have hl3:¬ (s.length:Int)+1<1:=by omega
    have hl4:(1:Int)≤(s.length:Int)+1:=by omega
    simp [hl',hl3]
    (repeat' (first|contradiction|exact .ok|apply And.intro|intro _|(refine gc (fun h=>?_) (fun h=>?_)<;>(have h':=h;(try simp at h');first|done|simp[h,h',hl',hl3,hl4]|simp[hl',hl3,hl4]))))
    all_goals simp_all
end Go.Proofs.Tryz
namespace Go.Proofs.Tryz

end Go.Proofs.Tryz
namespace Go.Proofs.Tryz
open Go.Ab
set_option maxRecDepth 100000
set_option maxHeartbeats 1000000
def NS (o:Int) (k:Nat):Bool :=
 if o=11∨o=13∨o=21∨o=24∨o=25 then k==1
 else if o=26 then k==3
 else if o=28 then decide (2≤k)
 else decide (6≤o)&&(decide (o≤28)&&k==2)
def RA (o y n:Int) (t q:List UInt8) (k:Nat):Bool :=
 if o=1 then decide (1≤y)&&(decide (y≤3)&&(k==0&&(n==0&&(t==[]&&q==[]))))
 else if o=2 then (V.mk 1 n []).valid&&(k==0&&(y==0&&(t==[]&&q==[])))
 else if o=3 then (n==0||n==1)&&(k==0&&(y==0&&(t==[]&&q==[])))
 else if o=4 then (V.mk 3 0 t).valid&&(k==0&&(y==0&&(n==0&&q==[])))
 else if o=40 then bP words t&&((q==[]||bP words q)&&(k==0&&(y==0&&n==0)))
 else if o=41 then decide (1≤n)&&(decide (n≤6)&&((if n=1 then k==0 else k==1)&&(y==0&&(t==[]&&q==[]))))
 else NS o k&&(y==0&&(n==0&&(t==[]&&q==[])))
mutual
def Tm.right:Tm→Bool
 | .mk o y n t q ks=>RA o y n t q ks.length&&kO ks
def kO:List Tm→Bool
 | []=>true
 | e::es=>e.right&&kO es
end
theorem fG:∀ l:List Tm,kO l=l.all Tm.right
 | []=>by rw [kO]; rfl
 | e::es=>by rw [kO,fG es]; rfl
def rU (s:List UInt8):Bool:=s==[]||bP words s
def kU (i:It):Bool:=i.t.right&&rU i.n
mutual
def Sm.right:Sm→Bool
 | .mk f a d s is ft fq fn js w g h ks =>
   if f=1 then !a&&(ks.length==0&&(s==(is.length==0)&&(decide (w.length≤1)&&(decide (h.length≤1) &&
    ((if fq.length=0 then bP words ft&&rU fn else fq.length==1&&(ft==[]&&(bP words fn&&iL fq))) &&
    (is.all kU&&(qB js&&(kO w&&(kO g&&kO h)))))))))
   else if f=2∨f=3∨f=4 then ks.length==2&&(iL ks&&(!d&&(!s&&(is.length==0&&(ft==[]&&(fq.length==0&&(fn==[]&&(js.length==0&&(w.length==0&&(g.length==0&&h.length==0))))))))))
   else false
def Jo.right:Jo→Bool
 | .mk k t q n o=>decide (0≤k)&&(decide (k≤6)&&(o.length==(if k=0 then 0 else 1)&&(kO o &&
   (if q.length=0 then bP words t&&rU n else q.length==1&&(t==[]&&(bP words n&&iL q))))))
def iL:List Sm→Bool
 | []=>true
 | e::es=>e.right&&iL es
def qB:List Jo→Bool
 | []=>true
 | e::es=>e.right&&qB es
end
theorem tV:∀ l:List Sm,iL l=l.all Sm.right
 | []=>by rw [iL]; rfl
 | e::es=>by rw [iL,tV es]; rfl
theorem tW:∀ l:List Jo,qB l=l.all Jo.right
 | []=>by rw [qB]; rfl
 | e::es=>by rw [qB,tW es]; rfl
def lJ (t:List UInt8) (q:List Sm) (n:List UInt8):Bool:=if q.length=0 then bP words t&&rU n else q.length==1&&(t==[]&&(bP words n&&iL q))
theorem aEb:sopsC.length=96:=by decide
theorem NT:∀ (l:List Sop) (o:Nat),(l.flatMap aDl).drop (o*4)=(l.drop o).flatMap aDl
 | [],o=>by simp
 | x::l,0=>by simp
 | x::l,o+1=>by
   rw [List.flatMap_cons,show (o+1)*4=(aDl x).length+o*4 from by simp [aDl]; omega,← List.drop_drop,List.drop_left,NT l o,List.drop_succ_cons]
def aEc:Sop:=([],0,0,0)
def gP (o:Int):Sop:=(sops[o.toNat]?).getD aEc
theorem aGR {o:Nat} (h:o<24):∃ rest,sopsC.drop (o*4)=.str (gP o).1::.int .i64 (gP o).2.1::.int .i64 (gP o).2.2.1::.int .i64 (gP o).2.2.2::rest:=by
 have hl:o<sops.length:=h
 refine ⟨(sops.drop (o+1)).flatMap aDl,?_⟩
 unfold sopsC
 rw [NT,List.drop_eq_getElem_cons hl,List.flatMap_cons]
 unfold gP
 rw [Int.toNat_natCast,gE hl]
 rfl
def jY (o:Int):Bool:=decide (0≤o)&&(decide (o<24)&&!((gP o).1==[]))
def RB (o:Sop):AV:=.agg [.d (.str o.1),.d (.int .i64 o.2.1),.d (.int .i64 o.2.2.1),.d (.int .i64 o.2.2.2)]
theorem aEd:∀ n:Nat,n<24→jY n=(decide (6≤n)&&!(n==11||n==13||n==21)):=by decide
theorem pB (o:Int):Cf Es 48 [.d (.int .i64 o)] [] (.tup [RB (if jY o=true then gP o else aEc),.d (.bool (jY o))]) []:=by
 refine cI bI (fn:=Tryz.f48) rfl ?_
 by_cases h1:o<0
 ·have hi:jY o=false:=by unfold jY; simp; omega
  simp [hi,RB,aEc,h1]
  (repeat' (first|contradiction|exact .ok|apply And.intro|intro _|(refine gc (fun h=>?_) (fun h=>?_)<;>(have h':=h;(try simp at h');first|done|simp[h,h',h1]|simp[h1]))))
 by_cases h2:24≤o
 ·have hi:jY o=false:=by unfold jY; simp; omega
  simp [hi,RB,aEc,h1,h2]
  (repeat' (first|contradiction|exact .ok|apply And.intro|intro _|(refine gc (fun h=>?_) (fun h=>?_)<;>(have h':=h;(try simp at h');first|done|simp[h,h',h1,h2]|simp[h1,h2]))))
  all_goals omega
 obtain ⟨n,rfl⟩:∃ n:Nat,o=n:=⟨o.toNat,by omega⟩
 have hn:n<24:=by omega
 obtain ⟨rest,hr⟩:=aGR hn
 have hb:n*4≤96:=by omega
 have hlt:(n:Int)<24:=by omega
 have hnl:¬ 24≤n:=by omega
 have h4:n*4≤sopsC.length:=by rw [aEb]; omega
 by_cases h0:(gP n).1=[]
 ·have hi:jY n=false:=by unfold jY; rw [h0]; simp
  simp [hi,RB,aEc,h1]
  (repeat' (first|contradiction|exact .ok|apply And.intro|intro _|(refine gc (fun h=>?_) (fun h=>?_)<;>(have h':=h;(try simp at h');first|done|simp[h,h',hr,hlt,hb,aEb,h0]|simp[hr,h1,hlt,hb,aEb,hnl,h0]))))
  all_goals simp_all
 ·have hi:jY n=true:=by unfold jY; simp [h0]; omega
  simp [hi,RB,h1]
  (repeat' (first|contradiction|exact .ok|apply And.intro|intro _|(refine gc (fun h=>?_) (fun h=>?_)<;>(have h':=h;(try simp at h');first|done|simp[h,h',hr,hlt,hb,aEb,h0]|simp[hr,h1,hlt,hb,aEb,hnl,h0]))))
  all_goals simp_all
def wA (o:Int):Int×Bool :=
 if o=1∨o=2∨o=3∨o=4∨o=40 then (0,true)
 else if o=24∨o=21∨o=25∨o=11∨o=13 then (1,true)
 else if o=27 then (2,true)
 else if o=26 then (3,true)
 else (0,false)
theorem aLX (o:Int):Cf Es 120 [.d (.int .i64 o)] [] (.tup [.d (.int .i64 (wA o).1),.d (.bool (wA o).2)]) []:=by
 refine cI bI (fn:=Tryz.f120) rfl ?_
 simp
 (repeat' (first|contradiction|exact .ok|apply And.intro|intro _|(refine gc (fun h=>?_) (fun h=>?_)<;>(have h':=h;(try simp at h');first|done|simp[h,h']|simp))))
 all_goals simp_all [wA]
def uF (o n:Int) (k:Nat):Bool :=
 if jY o=true then k==2
 else if o=28 then decide (1<k)
 else if o=41∧n=1 then k==0
 else if o=41 then k==1
 else (wA o).2&&(k:Int)==(wA o).1
theorem aDQ (o y n:Int) (t q:List UInt8) (ks:List Tm):Cf Es 81 [(Tm.mk o y n t q ks).a] [] (.d (.bool (uF o n ks.length))) []:=by
 refine cI bI (fn:=Tryz.f81) rfl ?_
 unfold uF
 generalize hk:ks.length=k
 simp [Tm.a,Tm.c,aS]
 refine ⟨.ok,?_⟩
 refine aP (pB o) ?_
 simp [RB,hk]
 (repeat' (first|contradiction|exact .ok|apply And.intro|intro _|(refine gc (fun h=>?_) (fun h=>?_)<;>(have h':=h;(try simp at h');first|done|simp[h,h',hk]|simp[hk]))))
 all_goals first | (refine aP (aLX o) ?_; simp; (repeat' (first | contradiction | exact .of (by kernel_rfl) | refine And.intro ?_ ?_ | intro _ | (refine aI (fun h=>?_) (fun h=>?_) <;> (have h':=h; (try simp at h'); first | done | simp [h,hk] | simp [hk]))))) | skip
 all_goals simp_all
 all_goals first | (rw [Bool.eq_iff_iff]; simp only [beq_iff_eq]; omega) | omega
def okS (o y n:Int) (t q:List UInt8):Bool :=
 if o=1 then (decide (1≤y)&&decide (y≤3))&&(n==0&&(t==[]&&q==[]))
 else if o=2 then (V.mk 1 n []).valid&&(y==0&&(t==[]&&q==[]))
 else if o=3 then (n==0||n==1)&&(y==0&&(t==[]&&q==[]))
 else if o=4 then (V.mk 3 0 t).valid&&(y==0&&(n==0&&q==[]))
 else if o=40 then (bP words t&&(q==[]||bP words q))&&(y==0&&n==0)
 else if o=41 then (decide (1≤n)&&decide (n≤6))&&(y==0&&(t==[]&&q==[]))
 else y==0&&(n==0&&(t==[]&&q==[]))
theorem pY (o:Int):jY o=(decide (6≤o)&&(decide (o<24)&&!(o==11||(o==13||o==21)))):=by
 by_cases h1:o<0
 ·unfold jY
  rw [Bool.eq_iff_iff]; simp; omega
 by_cases h2:24≤o
 ·unfold jY
  rw [Bool.eq_iff_iff]; simp; omega
 obtain ⟨n,rfl⟩:∃ n:Nat,o=n:=⟨o.toNat,by omega⟩
 rw [aEd n (by omega),Bool.eq_iff_iff]
 simp
 omega
theorem aDR (o n:Int) (k:Nat) (h1:o ≠ 1) (h2:o ≠ 2) (h3:o ≠ 3) (h4:o ≠ 4) (h5:o ≠ 40) (h6:o ≠ 41):uF o n k=NS o k:=by
 unfold uF
 rw [pY]
 have e1:((k:Int)==1)=(k==1):=by rw [Bool.eq_iff_iff]; simp only [beq_iff_eq]; omega
 have e2:((k:Int)==2)=(k==2):=by rw [Bool.eq_iff_iff]; simp only [beq_iff_eq]; omega
 have e3:((k:Int)==3)=(k==3):=by rw [Bool.eq_iff_iff]; simp only [beq_iff_eq]; omega
 unfold NS wA
 simp only [h1,h2,h3,h4,h5,h6,false_or,false_and,if_false,Bool.and_eq_true,decide_eq_true_eq,Bool.not_eq_true',Bool.or_eq_false_iff,beq_eq_false_iff_ne,ne_eq]
 by_cases c11:o=11
 ·subst c11; simp [e1]
 by_cases c13:o=13
 ·subst c13; simp [e1]
 by_cases c21:o=21
 ·subst c21; simp [e1]
 by_cases c24:o=24
 ·subst c24; simp [e1]
 by_cases c25:o=25
 ·subst c25; simp [e1]
 by_cases c26:o=26
 ·subst c26; simp [e3]
 by_cases c27:o=27
 ·subst c27; simp [e2]
 by_cases c28:o=28
 ·subst c28
  simp
  omega
 by_cases c6:6≤o
 ·by_cases c24':o<24
  ·have:o≤28:=by omega
   simp [c11,c13,c21,c24,c25,c26,c28,c6,c24',this]
  ·have:¬ o≤28:=by omega
   simp [c11,c13,c21,c24,c25,c26,c27,c28,c6,c24',this]
 ·simp [c11,c13,c21,c24,c25,c26,c27,c28,c6]
theorem aLV (o y n:Int) (t q:List UInt8) (k:Nat):RA o y n t q k=(uF o n k&&okS o y n t q):=by
 by_cases h1:o=1
 ·subst h1
  unfold RA okS uF
  rw [pY]
  simp [wA]
  rw [Bool.eq_iff_iff]; simp; grind
 by_cases h2:o=2
 ·subst h2
  unfold RA okS uF
  rw [pY]
  simp [wA]
  rw [Bool.eq_iff_iff]; simp; grind
 by_cases h3:o=3
 ·subst h3
  unfold RA okS uF
  rw [pY]
  simp [wA]
  rw [Bool.eq_iff_iff]; simp; grind
 by_cases h4:o=4
 ·subst h4
  unfold RA okS uF
  rw [pY]
  simp [wA]
  rw [Bool.eq_iff_iff]; simp; grind
 by_cases h5:o=40
 ·subst h5
  unfold RA okS uF
  rw [pY]
  simp [wA]
  rw [Bool.eq_iff_iff]; simp; grind
 by_cases h6:o=41
 ·subst h6
  unfold RA okS uF
  rw [pY]
  simp
  rw [Bool.eq_iff_iff]
  split <;> simp <;> grind
 rw [aDR o n k h1 h2 h3 h4 h5 h6]
 unfold RA okS
 rw [if_neg h1,if_neg h2,if_neg h3,if_neg h4,if_neg h5,if_neg h6,if_neg h1,if_neg h2,if_neg h3,if_neg h4,if_neg h5,if_neg h6]
def aIJ:List D:=[.int .i64 0,.int .i64 0,.int .i64 0,.str [],.str [],.sl []]
theorem aLu (n:Nat) (h0:0<n) (hn:n≤30000):Cf En 119 [.nils,.d (.int .i64 n)] [] (.ref aB 0 0 6) [.arr 25 6 (List.replicate n aIJ) false]:=by
 refine cI fQ (fn:=Tryz.f119) rfl ?_
 have h1:¬ (n:Int)<0:=by omega
 have hw0:IntKind.i64.wrap 0=0:=by decide
 have hw:IntKind.i64.wrap n=n:=aZ (by omega) (by omega)
 have h3:(n:Int)≤9223372036854775807:=by omega
 have h4:(80:Int)*n≤281474976710656:=by omega
 simp [h1,h0,hw0,hw,h3,h4]
 refine ⟨.ok,.ok,.ok,.ok,?_⟩
 refine ⟨.ok,.ok,?_⟩
 refine ⟨_,[(aB,22,.arr 25 6 (List.replicate n aIJ) false)],by simp; rfl,⟨by simp,by simp,?_,by simp⟩,by simp,?_⟩
 ·intro p hp
  simp only [List.mem_cons,List.not_mem_nil,or_false] at hp
  rcases hp with rfl
  simp [Blk.live,aIJ]
 ·simp [aD]
theorem aIK:Cf En 119 [.nils,.d (.int .i64 0)] [] .nils []:=by
 refine aCB fQ (fn:=Tryz.f119) (by kernel_rfl) rfl (by kernel_rfl) (by decide) (by simp) ?_
 have hw0:IntKind.i64.wrap 0=0:=by decide
 simp [hw0] <;> exact gz
theorem aGe (W G H:List Tm) (hw:W.length≤10000) (hg:G.length≤10000) (hh:H.length≤10000) :
  Cf En 79 [.d (.sl [[.sl (W.map Tm.c)],[.sl (G.map Tm.c)],[.sl (H.map Tm.c)]])] [] (.ref aB 0 (W.length+G.length+H.length) 6) [.arr 25 6 ((W++G++H).map Tm.c) false]:=by
 refine cI fQ (fn:=Tryz.f79) rfl ?_
 simp
 refine ⟨.ok,.ok,.ok,?_⟩
 have w1:IntKind.i64.wrap (W.length:Int)=W.length:=aZ (by omega) (by omega)
 have w2:IntKind.i64.wrap ((W.length:Int)+G.length)=W.length+G.length:=aZ (by omega) (by omega)
 have w3:IntKind.i64.wrap ((W.length:Int)+G.length+H.length)=W.length+G.length+H.length:=aZ (by omega) (by omega)
 have w3':IntKind.i64.wrap ((W.length:Int)+(G.length+H.length))=W.length+(G.length+H.length):=aZ (by omega) (by omega)
 have p1:¬ (W.length:Int)<0:=by omega
 have p2:¬ (W.length:Int)+G.length<0:=by omega
 have p3:¬ (W.length:Int)+G.length+H.length<0:=by omega
 have p3':¬ (W.length:Int)+(G.length+H.length)<0:=by omega
 have d1:IntKind.i64.wrap 1=1:=by decide
 have d2:IntKind.i64.wrap 2=2:=by decide
 have d3:IntKind.i64.wrap 3=3:=by decide
 refine aL fQ (fun i:Nat=>{ s:=eP [(0,.d (.sl [[.sl (W.map Tm.c)],[.sl (G.map Tm.c)],[.sl (H.map Tm.c)]])),(3,.d (.int .i64 ((([W,G,H].take i).map List.length).sum:Nat))),(9,.d (.sl [[.sl (W.map Tm.c)],[.sl (G.map Tm.c)],[.sl (H.map Tm.c)]])),(10,.d (.int .i64 3)),(11,.d (.int .i64 i))],b:=eG [] }) (fun i:Nat=>i≤3) (fun i=>3 - i) 0 (by simp) (aJ _ [] .nil (by simp)) ?_
 rintro i hi
 by_cases hlt:i<3
 ·have hi3:i=0∨i=1∨i=2:=by omega
  rcases hi3 with rfl | rfl | rfl
  ·simp [w1,p1]
   refine ⟨.ok,.ok,.ok,.ok,.ok,1,by omega,aJ _ [] .nil (by simp; decide),by decide⟩
  ·simp [w2,p2]
   refine ⟨.ok,.ok,.ok,.ok,.ok,2,by omega,aJ _ [] .nil (by simp; decide),by decide⟩
  ·simp [w3',p3',Int.add_assoc]
   refine ⟨.ok,.ok,.ok,.ok,.ok,3,by omega,aJ _ [] .nil (by simp; decide),by decide⟩
 ·obtain rfl:i=3:=by omega
  simp
  obtain ⟨n,hn⟩:∃ n:Nat,n=W.length+G.length+H.length:=⟨_,rfl⟩
  have hn':(W.length:Int)+(G.length+H.length)=(n:Int):=by omega
  rw [hn']
  have L6:∀ l:List Tm,((l.map Tm.c).all fun x=>x.length==6)=true:=fun l=>by
   rw [List.all_eq_true]
   intro x hx
   obtain ⟨t,_,rfl⟩:=List.mem_map.1 hx
   simp [Tm.clen]
  have L6':∀ (l:List Tm) (a:Tm),a∈l→a.c.length=6:=fun _ a _=>a.clen
  have b1:W.length*80≤140737488355328:=by omega
  have b2:(W.length+G.length)*80≤140737488355328:=by omega
  have b3:(W.length+(G.length+H.length))*80≤140737488355328:=by omega
  have m1:W.length≤9223372036854775807:=by omega
  have m2:W.length+G.length≤9223372036854775807:=by omega
  have m3:W.length+(G.length+H.length)≤9223372036854775807:=by omega
  refine ⟨.ok,?_⟩
  have q1:(W.map Tm.c).length=W.length:=by simp
  by_cases h0:n=0
  ·have e1:W=[]:=List.eq_nil_of_length_eq_zero (by omega)
   have e2:G=[]:=List.eq_nil_of_length_eq_zero (by omega)
   have e3:H=[]:=List.eq_nil_of_length_eq_zero (by omega)
   subst e1 e2 e3
   subst h0
   refine KZ aIK (by simp) ?_
   simp
   refine ⟨.ok,.ok,?_⟩
   refine aL fQ (fun i:Nat=>{ s:=eP [(0,.d (.sl [[.sl []],[.sl []],[.sl []]])),(6,if i=0 then .nils else .ref 6 0 0 6),(25,.d (.sl [[.sl []],[.sl []],[.sl []]])),(26,.d (.int .i64 3)),(27,.d (.int .i64 i))],b:=eG (if i=0 then [] else [(6,6,.arr 25 6 [] false)]) }) (fun i:Nat=>i≤3) (fun i=>3 - i) 0 (by simp) (aJ _ [] .nil (by simp)) ?_
   clear hlt hi
   rintro i hi
   by_cases hlt:i<3
   ·have hi3:i=0∨i=1∨i=2:=by omega
    rcases hi3 with rfl | rfl | rfl
    ·simp
     refine ⟨.ok,.ok,.ok,.ok,1,by omega,sM _ [(6,33,_)] (by simp [aD,Blk.live]) (by simp [aD]; decide),by decide⟩
    ·simp
     refine ⟨.ok,.ok,.ok,.ok,2,by omega,sM _ [(6,33,_)] (by simp [aD,Blk.live]) (by simp [aD]; decide),by decide⟩
    ·simp
     refine ⟨.ok,.ok,.ok,.ok,3,by omega,sM _ [(6,33,_)] (by simp [aD,Blk.live]) (by simp [aD]; decide),by decide⟩
   ·obtain rfl:i=3:=by omega
    simp
    refine ⟨.ok,.ok,?_⟩
    refine ⟨_,[(aB,6,.arr 25 6 [] false)],by simp; rfl,⟨by simp,by simp,?_,by simp⟩,by simp,?_⟩
    ·intro p hp
     simp only [List.mem_cons,List.not_mem_nil,or_false] at hp
     rcases hp with rfl
     simp [Blk.live]
    ·simp [aD]
  ·refine SB [] (aLu n (by omega) (by omega)) (by simp) (by simp) (by simp) (by decide) (by simp) (by simp) (by simp) ?_
   have h0':¬ 0=n:=fun e=>h0 e.symm
   simp
   refine ⟨.ok,.ok,?_⟩
   refine aL fQ (fun i:Nat=>{ s:=eP [(0,.d (.sl [[.sl (W.map Tm.c)],[.sl (G.map Tm.c)],[.sl (H.map Tm.c)]])),(6,.ref 6 0 ((([W,G,H].take i).map List.length).sum) 6),(25,.d (.sl [[.sl (W.map Tm.c)],[.sl (G.map Tm.c)],[.sl (H.map Tm.c)]])),(26,.d (.int .i64 3)),(27,.d (.int .i64 i))],b:=eG [(6,6,.arr 25 6 (if i=0 then List.replicate n aIJ else ([W,G,H].take i).flatten.map Tm.c) false)] }) (fun i:Nat=>i≤3) (fun i=>3 - i) 0 (by simp) (sM _ [(6,25000,_)] (by simp [aD,Blk.live]) (by simp [aD])) ?_
   clear hlt hi
   rintro i hi
   by_cases hlt:i<3
   ·have hi3:i=0∨i=1∨i=2:=by omega
    rcases hi3 with rfl | rfl | rfl
    ·simp [L6,b1,m1,h0']
     refine ⟨.ok,.ok,.ok,.ok,1,by omega,sM _ [(6,33,_)] (by simp [aD,Blk.live]) (by simp [aD]; decide),by decide⟩
    ·simp [L6,b2,m2]
     refine ⟨.ok,.ok,.ok,.ok,2,by omega,sM _ [(6,33,_)] (by simp [aD,Blk.live]) (by simp [aD]; decide),by decide⟩
    ·simp [L6,b3,m3,Nat.add_assoc]
     refine ⟨.ok,.ok,.ok,.ok,3,by omega,sM _ [(6,33,_)] (by simp [aD,Blk.live]) (by simp [aD]; decide),by decide⟩
   ·obtain rfl:i=3:=by omega
    simp
    refine ⟨.ok,.ok,?_⟩
    refine ⟨_,[(aB,6,.arr 25 6 ((W++G++H).map Tm.c) false)],by simp; rfl,⟨by simp,by simp,?_,by simp⟩,by simp,?_⟩
    ·intro p hp
     simp only [List.mem_cons,List.not_mem_nil,or_false] at hp
     rcases hp with rfl
     simp [Blk.live]
    ·simp [aD,Nat.add_assoc]
def bR (L:List Int) (i:Int):Blk:=.var [.d (.sl (L.map fun n=>[.int .i64 n])),.d (.int .i64 i)]
def aQ (L:List Int) (i:Nat) (n:Int):Int :=
 if n<1 then 0 else
  let x:=match L[i]? with
   | some z=>z.tmod n
   | none=>0
  if x<0 then x+n else x
def KE (i:Nat) (n:Int):Nat:=if n<1 then i else i+1
theorem cT (L:List Int) (i:Nat) {n:Int} (h:1≤n):0≤aQ L i n∧aQ L i n<n:=by
 unfold aQ
 rw [if_neg (by omega)]
 cases L[i]? with
 | none=>simp; omega
 | some z =>
   have h1:=Int.natAbs_tmod z n
   have h2:=Nat.mod_lt z.natAbs (show 0<n.natAbs by omega)
   simp only
   split <;> omega
theorem aLP (L:List Int) (i:Nat) (hi:i≤1000000000) (n:Int) (hn:n≤1000000) :
  Cf En 20 [.ptr 1000000 0 0,.d (.int .i64 n)] [bR L i] (.d (.int .i64 (aQ L i n))) [bR L (KE i n)]:=by
 refine cI fQ (fn:=Tryz.f20) rfl ?_
 simp [bR]<;>(repeat' first|contradiction|exact .ok|apply And.intro|intro _|(apply gc<;>simp+contextual))
 ·rename_i h
  simp [KE,h]
 ·rename_i h
  simp [aQ,h]
 ·rename_i h1 h2
  have hg:L[i]?=some L[i]:=gE h2
  have hn0:¬ n<1:=by omega
  have hz:¬ n=0:=by omega
  have hw:=wI (n:=(i:Int)+1)
  have e1:=Int.natAbs_tmod L[i] n
  have e2:=Nat.mod_lt L[i].natAbs (show 0<n.natAbs by omega)
  have hw2:=wI (n:=L[i].tmod n+n)
  have hV:aQ L i n=if L[i].tmod n<0 then L[i].tmod n+n else L[i].tmod n:=by simp [aQ,hn0,hg]
  have hI:KE i n=i+1:=by simp [KE,hn0]
  rw [hV,hI]
  clear hV hI
  by_cases hneg:L[i].tmod n<0
  ·simp [hg,hz,hneg,hw,hw2]
   all_goals exact gz
  ·simp [hg,hz,hneg,hw]
   all_goals exact gz
 ·rename_i h1 h2
  simp [KE,show ¬ n<1 by omega]
  exact aZ (by omega) (by omega)
 ·rename_i h1 h2
  simp [aQ,show ¬ n<1 by omega,List.getElem?_eq_none h2]
end Go.Proofs.Tryz
