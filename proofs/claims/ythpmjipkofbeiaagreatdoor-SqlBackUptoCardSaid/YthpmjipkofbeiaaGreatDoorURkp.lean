import Derived.Shelf.Strings.OnBuilder
import Derived.Test.YthpmjipkofbeiaaGreatDoorPru
import Derived.Test.YthpmjipkofbeiaaGreatDoorVfo
import Derived.Test.YthpmjipkofbeiaaGreatDoorURqt
import Derived.Test.YthpmjipkofbeiaaGreatDoorSde
import Derived.Test.YthpmjipkofbeiaaGreatDoorLif
set_option linter.all false
namespace Go.Proofs
open Go.Shelf
def Tryz.lays156_ren:Go.Shelf.Ren:=⟨fun | 156=>89 | 165=>131 | 166=>132 | 169=>133 | 240=>168 | 241=>169 | 276=>187 | 277=>188 | n=>n,fun | 31=>52 | 9=>9 | 3=>3 | 4=>4 | 0=>0 | 20=>20 | 72=>160 | 76=>164 | 70=>158 | 37=>155 | 75=>163 | 127=>187 | 164=>197 | 5=>5 | 80=>166 | n=>n,fun | n=>n⟩
theorem Tryz.lays156:Go.Proofs.Lays.n156 Tryz.prog Tryz.lays156_ren:={
 mixed:=by kernel_rfl
 f156:=Tryz.func89.trans (congrArg some (by kernel_rfl))
 f165:=Tryz.func131.trans (congrArg some (by kernel_rfl))
 f166:=Tryz.func132.trans (congrArg some (by kernel_rfl))
 f169:=Tryz.func133.trans (congrArg some (by kernel_rfl))
 f240:=Tryz.func168.trans (congrArg some (by kernel_rfl))
 f241:=Tryz.func169.trans (congrArg some (by kernel_rfl))
 f276:=Tryz.func187.trans (congrArg some (by kernel_rfl))
 f277:=Tryz.func188.trans (congrArg some (by kernel_rfl))
 t0:=Tryz.underlying0
 a0:=Tryz.isAgg0
 z0:=Tryz.sizeOf0
 v0:=Tryz.zeroValue0
 t3:=Tryz.underlying3
 a3:=Tryz.isAgg3
 z3:=Tryz.sizeOf3
 v3:=Tryz.zeroValue3
 t4:=Tryz.underlying4
 a4:=Tryz.isAgg4
 z4:=Tryz.sizeOf4
 v4:=Tryz.zeroValue4
 t9:=Tryz.underlying9
 a9:=Tryz.isAgg9
 z9:=Tryz.sizeOf9
 v9:=Tryz.zeroValue9
 t20:=Tryz.underlying20
 a20:=Tryz.isAgg20
 z20:=Tryz.sizeOf20
 v20:=Tryz.zeroValue20
 t31:=Tryz.underlying52
 a31:=Tryz.isAgg52
 z31:=Tryz.sizeOf52
 v31:=Tryz.zeroValue52
 t37:=Tryz.underlying155
 a37:=Tryz.isAgg155
 z37:=Tryz.sizeOf155
 v37:=Tryz.zeroValue155
 t70:=Tryz.underlying158
 a70:=Tryz.isAgg158
 z70:=Tryz.sizeOf158
 v70:=Tryz.zeroValue158
 t72:=Tryz.underlying160
 a72:=Tryz.isAgg160
 z72:=Tryz.sizeOf160
 v72:=Tryz.zeroValue160
 t75:=Tryz.underlying163
 a75:=Tryz.isAgg163
 z75:=Tryz.sizeOf163
 v75:=Tryz.zeroValue163
 t76:=Tryz.underlying164
 a76:=Tryz.isAgg164
 z76:=Tryz.sizeOf164
 v76:=Tryz.zeroValue164
 t127:=Tryz.underlying187
 a127:=Tryz.isAgg187
 z127:=Tryz.sizeOf187
 v127:=Tryz.zeroValue187
 t164:=Tryz.underlying197
 a164:=Tryz.isAgg197
 z164:=Tryz.sizeOf197
 v164:=Tryz.zeroValue197 }
theorem Tryz.Builder_Extra_156:Builder.Extra Tryz.prog Tryz.lays156_ren:={
 sizeBuilder:=by kernel_rfl
 liesBuilder:=by kernel_rfl
 t5:=Tryz.underlying5
 a5:=Tryz.isAgg5
 z5:=Tryz.sizeOf5
 v5:=Tryz.zeroValue5
 infoByte:=by kernel_rfl
 cellsByte:=by kernel_rfl
 sizeByte:=by kernel_rfl
 neB5:=by decide }
open Go.RowKit in
theorem Tryz.strings_Join_none (a:Option Addr) (c:Nat) (sep:ByteArray) (w:World) :
  Calls Tryz.prog 89 #[.slice a 0 c,.string sep] w fun e w'=>e=.returned (.string ⟨#[]⟩)∧w'=w:=Any.strings_Join_none Tryz.lays156 Tryz.Builder_Extra_156 a c sep w
open Go.RowKit in
theorem Tryz.strings_Join (bk o c:Nat) (xs:List ByteArray) (sep:ByteArray) (w:World) (hcells:∀ (j:Nat) x,xs[j]?=some x→w.cell? ⟨bk,o+j,none⟩=some (.string x)) (hbk:bk<w.heap.size) (hN:xs.length≤140737488355328) (hcap:xs.length≤c) (hlen:(Lib.join (xs.map (·.data.toList)) sep.data.toList).length≤140737488355328) :
  Calls Tryz.prog 89 #[.slice (some ⟨bk,o,none⟩) xs.length c,.string sep] w fun e w'=>e=.returned (.string ⟨(Lib.join (xs.map (·.data.toList)) sep.data.toList).toArray⟩)∧Below w.heap.size w w':=Any.strings_Join Tryz.lays156 Tryz.Builder_Extra_156 bk o c xs sep w hcells hbk hN hcap hlen
end Go.Proofs
namespace Go.Proofs.Tryz
open Go.Ab
set_option maxRecDepth 100000
set_option maxHeartbeats 4000000
theorem AD {α β:Type} {r r':cY α} {l:List Tk} (h:r=r') (hs:SfxOk r l) {f g:α→List Tk→cY β} (hf:∀ t l',l'.length≤l.length→f t l'=g t l'):aR r f=aR r' g:=by
 subst h
 cases hr:r with
 | error e=>rfl
 | ok x=>exact hf x.1 x.2 (qZ hs hr)
theorem nP (w:List UInt8) (l:List Tk):(fB w l).2.length≤l.length:=(nQ w l).length_le
section
variable {L:Nat} {tm tm2:List Tk→cY Tm} {st st2:List Tk→cY Sm}
variable (hA:∀ l,l.length≤L→tm l=tm2 l) (hT:∀ l,SfxOk (tm l) l) (hB:∀ l:List Tk,l.length+1≤L→st l=st2 l) (hS:∀ l,SfxOk (st l) l)
include hA hT in
end
theorem mO {α:Type} {p:α→Bool} {l:List α} {i:Nat} {x:α} (h:l[i]?=some x):(l.drop i).all p=(p x&&(l.drop (i+1)).all p):=by
 obtain ⟨hi,rfl⟩:=List.getElem?_eq_some_iff.1 h
 rw [List.drop_eq_getElem_cons hi,List.all_cons]
theorem pA {α:Type} {p:α→Bool} {l:List α} {i:Nat} (h:l.length≤i):(l.drop i).all p=true:=by rw [List.drop_eq_nil_of_le h]; rfl
theorem WQ (l:List Tm) (hl:l.length≤9223372036854775807) (h:∀ x∈l,Cf Es 24 [x.a] [] (.d (.bool x.right)) []) :
  Cf Es 54 [.d (.sl (l.map Tm.c))] [] (.d (.bool (l.all Tm.right))) []:=by
 refine cI bI (fn:=Tryz.f54) rfl ?_
 generalize hR:l.all Tm.right=R
 simp
 refine gr ?_
 refine aL bI (fun i:Nat=>{ s:=eP [(0,.d (.sl (l.map Tm.c))),(3,.d (.int .i64 i))],b:=eG [] }) (fun i:Nat=>i≤l.length∧(l.drop i).all Tm.right=R) (fun i=>l.length - i) 0 (by simp [hR]) (aJ _ [] .nil (by simp)) ?_
 rintro i ⟨hi,ho⟩
 by_cases hlt:i<l.length
 ·have hlt':(i:Int)<l.length:=by omega
  obtain ⟨x,hg⟩:∃ x,l[i]?=some x:=⟨_,gE hlt⟩
  have hgi:∀ h,l[i]'h=x:=fun h=>(List.getElem?_eq_some_iff.1 hg).2
  have hx:=h x (List.mem_of_getElem? hg)
  rw [mO hg] at ho
  have c1:=x.clen
  have k1:=x.ctake
  generalize x.right=X at *
  simp [hlt,hlt',hgi,c1,k1]
  refine gr ?_
  refine aA hx (by simp [Tm.a]) ?_
  simp
  refine ⟨.ok,fun h=>⟨.ok,?_⟩,fun h=>⟨.ok,i+1,⟨hlt,?_⟩,aJ _ [] .nil ?_,?_⟩⟩
  ·rw [← ho,h]; rfl
  ·rw [← ho,h]; rfl
  ·simp; exact aZ (by omega) (by omega)
  ·simp; omega
 ·have hlt':¬ (i:Int)<l.length:=by omega
  rw [pA (by omega)] at ho
  simp [hlt,hlt']
  refine gr ?_
  exact ho.symm
theorem QZ:∀ (m:Nat) (x:Tm),SizeOf.sizeOf x<m→x.fits→Cf Es 24 [x.a] [] (.d (.bool x.right)) []
 | 0,_,h,_=>absurd h (by omega)
 | m+1,.mk o y n t q ks,hm,hfit=>by
   refine cI bI (fn:=Tryz.f24) rfl ?_
   rw [Tm.fits] at hfit
   have h1:=aJn o y n t q ks ks.length
   have h2:=WQ ks hfit.1 fun x hx=>QZ m x (by
    have:=Tm.kid_lt (e:=.mk o y n t q ks) (k:=x) hx
    omega) (dL ks hfit.2 x hx)
   rw [Tm.right,fG]
   generalize hK:ks.all Tm.right=K at *
   generalize hO:RA o y n t q ks.length=O at *
   simp [Tm.a,Tm.c,aS]
   refine gr ?_
   refine aA h1 (by simp [Tm.a,Tm.c,aS]) ?_
   simp
   (repeat' (first|contradiction|exact .ok|apply And.intro|intro _|(refine gc (fun h=>?_) (fun h=>?_)<;>(have h':=h;(try simp at h');first|done|simp[h]|simp[aS]))))
   all_goals first | (refine aP h2 ?_; simp; (repeat' (first|contradiction|exact .ok|apply And.intro|intro _|(refine gc (fun h=>?_) (fun h=>?_)<;>(have h':=h;(try simp at h');first|done|simp[h,h']|simp))))) | skip
   all_goals simp_all
theorem xA (l:List Tm) (hl:l.length≤9223372036854775807) (hf:cC l):Cf Es 54 [.d (.sl (l.map Tm.c))] [] (.d (.bool (l.all Tm.right))) [] :=
 WQ l hl fun x hx=>QZ _ x (Nat.lt_succ_self _) (dL _ hf x hx)
theorem KJ (t:List UInt8) (q:List Sm) (n:List UInt8) (h:∀ x∈q,Cf Es 38 [x.a] [] (.d (.bool x.right)) []) :
  Cf Es 72 [jJ t q n] [] (.d (.bool (lJ t q n))) []:=by
 refine cI bI (fn:=Tryz.f72) rfl ?_
 have h1:=CL t
 have h3:=CL n
 unfold lJ rU
 match q,h with
 | [],_ =>
   simp [jJ,kK,oJ]
   refine gr ?_
   refine aP h1 ?_
   simp
   (repeat' (first|contradiction|exact .ok|apply And.intro|intro _|(refine gc (fun h=>?_) (fun h=>?_)<;>(have h':=h;(try simp at h');first|done|simp[h,h']|simp))))
   all_goals first | (refine aP h3 ?_; simp; (repeat' (first|contradiction|exact .ok|apply And.intro|intro _|(refine gc (fun h=>?_) (fun h=>?_)<;>(have h':=h;(try simp at h');first|done|simp[h,h']|simp))))) | skip
   all_goals simp_all
 | [x],h =>
   have h4:=h x List.mem_cons_self
   have c1:=x.clen
   have k1:=x.ctake
   rw [iL,iL]
   generalize hR:x.right=R at *
   simp [jJ,kK,oJ]
   (repeat' (first|contradiction|exact .ok|apply And.intro|intro _|(refine gc (fun h=>?_) (fun h=>?_)<;>(have h':=h;(try simp at h');first|done|simp[h,h']|simp[c1,k1]))))
   all_goals first | (refine aP h3 ?_; simp; (repeat' (first | contradiction | exact .of (by kernel_rfl) | refine And.intro ?_ ?_ | intro _ | (refine aI (fun h=>?_) (fun h=>?_) <;> (have h':=h; (try simp at h'); first | done | simp [h,c1,k1] | simp [c1,k1]))))) | skip
   all_goals first | (refine aA h4 (by simp [Sm.a]) ?_; simp; (repeat' (first|contradiction|exact .ok|apply And.intro|intro _|(refine gc (fun h=>?_) (fun h=>?_)<;>(have h':=h;(try simp at h');first|done|simp[h,h']|simp))))) | skip
   all_goals simp_all
 | x::y::l,_ =>
   have hl:¬ (l.length:Int)+1+1=0:=by omega
   have hl1:((l.length:Int)+1+1==1)=false:=by simp; omega
   have hl0:((l.length:Int)+1+1==0)=false:=by simp; omega
   simp [jJ,kK,oJ,aE,hl0]
   (repeat' (first|contradiction|exact .ok|apply And.intro|intro _|(refine gc (fun h=>?_) (fun h=>?_)<;>(have h':=h;(try simp at h');first|done|simp[h,h',hl1]|simp[hl,hl1,hl0]))))
mutual
def Tm.few (d:Int):Tm→Bool
 | .mk _ _ _ t q ks=>decide (d≤40)&&(decide (ks.length≤8)&&(decide (t.length≤100)&&(decide (q.length≤100)&&xW (yO d) ks)))
def xW (d:Int):List Tm→Bool
 | []=>true
 | e::es=>e.few d&&xW d es
end
theorem pS (d:Int):∀ l:List Tm,xW d l=l.all fun e=>e.few d
 | []=>by rw [xW]; rfl
 | e::es=>by rw [xW,pS d es]; rfl
def uC (l:List Tm):Bool:=decide (l.length≤10)&&xW 0 l
mutual
def Sm.few (d:Int):Sm→Bool
 | .mk _ _ _ _ is ft fq fn js w g h ks=>decide (d≤30)&&(decide (is.length≤10)&&(decide (js.length≤8)&&(decide (ks.length≤6)&&(uC w&&(uC g&&(uC h &&
   ((decide (fq.length≤6)&&(decide (fn.length≤100)&&(decide (ft.length≤100)&&rP (yO d) fq)))&&((is.all fun i=>i.t.few 0)&&(xX d js&&rP (yO d) ks)))))))))
def Jo.few (d:Int):Jo→Bool
 | .mk _ t q n o=>uC o&&(decide (q.length≤6)&&(decide (n.length≤100)&&(decide (t.length≤100)&&rP (yO d) q)))
def rP (d:Int):List Sm→Bool
 | []=>true
 | e::es=>e.few d&&rP d es
def xX (d:Int):List Jo→Bool
 | []=>true
 | e::es=>e.few d&&xX d es
end
theorem xY (d:Int):∀ l:List Sm,rP d l=l.all fun e=>e.few d
 | []=>by rw [rP]; rfl
 | e::es=>by rw [rP,xY d es]; rfl
theorem IA (d:Int):∀ l:List Jo,xX d l=l.all fun e=>e.few d
 | []=>by rw [xX]; rfl
 | e::es=>by rw [xX,IA d es]; rfl
def MQ (d:Int) (t:List UInt8) (q:List Sm) (n:List UInt8):Bool:=decide (q.length≤6)&&(decide (n.length≤100)&&(decide (t.length≤100)&&rP (yO d) q))
theorem wJ {l:List Tm} (h:uC l=true):l.length≤10:=by
 unfold uC at h
 simp only [Bool.and_eq_true,decide_eq_true_eq] at h
 exact h.1
mutual
theorem AA (d:Int):∀ x:Sm,x.few d=true→x.small
 | .mk f a dd s is ft fq fn js w g h ks,hx=>by
   rw [Sm.few] at hx
   simp only [Bool.and_eq_true,decide_eq_true_eq] at hx
   obtain ⟨_,hi,hj,_,hw,hg,hh,⟨_,_,_,hq⟩,_,hjs,hks⟩:=hx
   rw [Sm.small]
   exact ⟨by omega,by omega,Nat.le_trans (wJ hw) (by decide),Nat.le_trans (wJ hg) (by decide),Nat.le_trans (wJ hh) (by decide),nO _ fq hq,xI _ js hjs,nO _ ks hks⟩
theorem LJ (d:Int):∀ x:Jo,x.few d=true→x.small
 | .mk k t q n o,hx=>by
   rw [Jo.few] at hx
   simp only [Bool.and_eq_true,decide_eq_true_eq] at hx
   rw [Jo.small]
   exact ⟨Nat.le_trans (wJ hx.1) (by decide),nO _ q hx.2.2.2.2⟩
theorem nO (d:Int):∀ l:List Sm,rP d l=true→lB l
 | [],_=>by rw [lB]; trivial
 | e::es,h=>by
   rw [rP,Bool.and_eq_true] at h
   rw [lB]
   exact ⟨AA d e h.1,nO d es h.2⟩
theorem xI (d:Int):∀ l:List Jo,xX d l=true→gX l
 | [],_=>by rw [gX]; trivial
 | e::es,h=>by
   rw [xX,Bool.and_eq_true] at h
   rw [gX]
   exact ⟨LJ d e h.1,xI d es h.2⟩
end
theorem CF:∀ (m:Nat) (x:Tm) (d:Int),SizeOf.sizeOf x<m→Cf En 19 [x.a,.d (.int .i64 d)] [] (.d (.bool (x.few d))) []
 | 0,_,_,h=>absurd h (by omega)
 | m+1,.mk o y n t q ks,d,hm=>by
   refine cI fQ (fn:=Tryz.f19) rfl ?_
   have hq:=fun (x:Tm) (hx:x∈ks)=>CF m x (yO d) (by
    have:=Tm.kid_lt (e:=.mk o y n t q ks) (k:=x) hx
    omega)
   rw [Tm.few,pS]
   generalize hR:(ks.all fun e=>e.few (yO d))=R
   by_cases hA:d≤40∧ks.length≤8∧t.length≤100∧q.length≤100
   ·obtain ⟨a1,a2,a3,a4⟩:=hA
    have b1:¬ (40:Int)<d:=by omega
    have b2:¬ (8:Int)<ks.length:=by omega
    have b3:¬ (100:Int)<t.length:=by omega
    have b4:¬ (100:Int)<q.length:=by omega
    rw [show (decide (d≤40)&&(decide (ks.length≤8)&&(decide (t.length≤100)&&(decide (q.length≤100)&&R))))=R by simp [a1,a2,a3,a4]]
    simp [Tm.a,Tm.c,aS,b1,b2,b3,b4]
    refine gr ?_
    refine aL fQ (fun i:Nat=>{ s:=eP [(1,.d (.int .i64 d)),(2,.ptr 2 0 0),(5,.d (.int .i64 i))],b:=eG [(2,2,.var (Tm.a (.mk o y n t q ks)).cells)] }) (fun i:Nat=>i≤ks.length∧((ks.drop i).all fun e=>e.few (yO d))=R) (fun i=>ks.length - i) 0 (by simp [hR]) (aJ _ _ ⟨by simp,by simp,by simp [aD,Blk.live,Tm.a,Tm.c,aS],by simp⟩ (by simp [aD])) ?_
    rintro i ⟨hi,ho⟩
    by_cases hlt:i<ks.length
    ·have hlt':(i:Int)<ks.length:=by omega
     obtain ⟨x,hg⟩:∃ x,ks[i]?=some x:=⟨_,gE hlt⟩
     have hgi:∀ h,ks[i]'h=x:=fun h=>(List.getElem?_eq_some_iff.1 hg).2
     rw [mO hg] at ho
     have hx:=hq x (List.mem_of_getElem? hg)
     have c1:=x.clen
     have k1:=x.ctake
     generalize x.few (yO d)=X at *
     have hu:yO d=IntKind.i64.wrap (d+1):=rfl
     simp [Tm.a,Tm.c,aS,hlt,hlt',hgi,c1,k1]
     refine gr ?_
     refine aA hx (by simp [Tm.a,hu]) ?_
     simp
     refine ⟨.ok,fun h=>⟨.ok,?_⟩,fun h=>⟨.ok,i+1,⟨hlt,?_⟩,sM _ [(2,2,_)] (by simp [aD,Blk.live,aS]) ?_,?_⟩⟩
     ·rw [← ho,h]; rfl
     ·rw [← ho,h]; rfl
     ·simp [aD]; exact aZ (by omega) (by omega)
     ·simp; omega
    ·have hlt':¬ (i:Int)<ks.length:=by omega
     rw [pA (by omega)] at ho
     simp [Tm.a,Tm.c,aS,hlt,hlt']
     refine gr ?_
     exact ho.symm
   ·have hF:(decide (d≤40)&&(decide (ks.length≤8)&&(decide (t.length≤100)&&(decide (q.length≤100)&&R))))=false:=by
     cases hx:(decide (d≤40)&&(decide (ks.length≤8)&&(decide (t.length≤100)&&(decide (q.length≤100)&&R)))) with
     | false=>rfl
     | true =>
       simp only [Bool.and_eq_true,decide_eq_true_eq] at hx
       exact absurd ⟨hx.1,hx.2.1,hx.2.2.1,hx.2.2.2.1⟩ hA
    rw [hF]
    clear hF hq hR
    simp [Tm.a,Tm.c,aS]
    (repeat' (first|contradiction|exact .ok|apply And.intro|intro _|(refine gc (fun h=>?_) (fun h=>?_)<;>(have h':=h;(try simp at h');first|done|simp[h,h']|simp[aS]))))
    all_goals (exfalso; apply hA; refine ⟨?_,?_,?_,?_⟩ <;> omega)
theorem tL (l:List Tm):Cf En 65 [.d (.sl (l.map Tm.c))] [] (.d (.bool (uC l))) []:=by
 refine cI fQ (fn:=Tryz.f65) rfl ?_
 unfold uC
 rw [pS]
 generalize hR:(l.all fun e=>e.few 0)=R
 by_cases hA:l.length≤10
 ·have b1:¬ (10:Int)<l.length:=by omega
  rw [show (decide (l.length≤10)&&R)=R by simp [hA]]
  simp [b1]
  refine gr ?_
  refine aL fQ (fun i:Nat=>{ s:=eP [(0,.d (.sl (l.map Tm.c))),(3,.d (.int .i64 i))],b:=eG [] }) (fun i:Nat=>i≤l.length∧((l.drop i).all fun e=>e.few 0)=R) (fun i=>l.length - i) 0 (by simp [hR]) (aJ _ [] .nil (by simp)) ?_
  rintro i ⟨hi,ho⟩
  by_cases hlt:i<l.length
  ·have hlt':(i:Int)<l.length:=by omega
   obtain ⟨x,hg⟩:∃ x,l[i]?=some x:=⟨_,gE hlt⟩
   have hgi:∀ h,l[i]'h=x:=fun h=>(List.getElem?_eq_some_iff.1 hg).2
   rw [mO hg] at ho
   have hx:=CF _ x 0 (Nat.lt_succ_self _)
   have c1:=x.clen
   have k1:=x.ctake
   generalize x.few 0=X at *
   simp [hlt,hlt',hgi,c1,k1]
   refine gr ?_
   refine aA hx (by simp [Tm.a]) ?_
   simp
   refine ⟨.ok,fun h=>⟨.ok,?_⟩,fun h=>⟨.ok,i+1,⟨hlt,?_⟩,aJ _ [] .nil ?_,?_⟩⟩
   ·rw [← ho,h]; rfl
   ·rw [← ho,h]; rfl
   ·simp; exact aZ (by omega) (by omega)
   ·simp; omega
  ·have hlt':¬ (i:Int)<l.length:=by omega
   rw [pA (by omega)] at ho
   simp [hlt,hlt']
   refine gr ?_
   exact ho.symm
 ·have b1:(10:Int)<l.length:=by omega
  simp [hA,b1]
  (repeat' (first|contradiction|exact .ok|apply And.intro|intro _|(refine gc (fun h=>?_) (fun h=>?_)<;>(have h':=h;(try simp at h');first|done|simp[h,h',b1]|simp[b1]))))
theorem EA (t:List UInt8) (q:List Sm) (n:List UInt8) (d:Int) (h:∀ x∈q,Cf En 34 [x.a,.d (.int .i64 (yO d))] [] (.d (.bool (x.few (yO d)))) []) :
  Cf En 66 [jJ t q n,.d (.int .i64 d)] [] (.d (.bool (MQ d t q n))) []:=by
 refine cI fQ (fn:=Tryz.f66) rfl ?_
 unfold MQ
 rw [xY]
 generalize hR:(q.all fun e=>e.few (yO d))=R
 by_cases hA:q.length≤6∧n.length≤100∧t.length≤100
 ·obtain ⟨a1,a2,a3⟩:=hA
  have b1:¬ (6:Int)<q.length:=by omega
  have b2:¬ (100:Int)<n.length:=by omega
  have b3:¬ (100:Int)<t.length:=by omega
  rw [show (decide (q.length≤6)&&(decide (n.length≤100)&&(decide (t.length≤100)&&R)))=R by simp [a1,a2,a3]]
  simp [jJ,kK,aE,b1,b2,b3]
  refine gr ?_
  refine aL fQ (fun i:Nat=>{ s:=eP [(1,.d (.int .i64 d)),(2,.ptr 2 0 0),(5,.d (.int .i64 i))],b:=eG [(2,2,.var ((kK t q n).map AV.d))] }) (fun i:Nat=>i≤q.length∧((q.drop i).all fun e=>e.few (yO d))=R) (fun i=>q.length - i) 0 (by simp [hR]) (aJ _ _ ⟨by simp,by simp,by simp [aD,Blk.live,kK,aE],by simp⟩ (by simp [aD])) ?_
  rintro i ⟨hi,ho⟩
  by_cases hlt:i<q.length
  ·have hlt':(i:Int)<q.length:=by omega
   obtain ⟨x,hg⟩:∃ x,q[i]?=some x:=⟨_,gE hlt⟩
   have hgi:∀ h,q[i]'h=x:=fun h=>(List.getElem?_eq_some_iff.1 hg).2
   rw [mO hg] at ho
   have hx:=h x (List.mem_of_getElem? hg)
   have c1:=x.clen
   have k1:=x.ctake
   generalize x.few (yO d)=X at *
   have hu:yO d=IntKind.i64.wrap (d+1):=rfl
   simp [kK,aE,hlt,hlt',hgi,c1,k1]
   refine gr ?_
   refine aA hx (by simp [Sm.a,hu]) ?_
   simp
   refine ⟨.ok,fun h=>⟨.ok,?_⟩,fun h=>⟨.ok,i+1,⟨hlt,?_⟩,sM _ [(2,2,_)] (by simp [aD,Blk.live,aE]) ?_,?_⟩⟩
   ·rw [← ho,h]; rfl
   ·rw [← ho,h]; rfl
   ·simp [aD]; exact aZ (by omega) (by omega)
   ·simp; omega
  ·have hlt':¬ (i:Int)<q.length:=by omega
   rw [pA (by omega)] at ho
   simp [kK,aE,hlt,hlt']
   refine gr ?_
   exact ho.symm
 ·have hF:(decide (q.length≤6)&&(decide (n.length≤100)&&(decide (t.length≤100)&&R)))=false:=by
   cases hx:(decide (q.length≤6)&&(decide (n.length≤100)&&(decide (t.length≤100)&&R))) with
   | false=>rfl
   | true =>
     simp only [Bool.and_eq_true,decide_eq_true_eq] at hx
     exact absurd ⟨hx.1,hx.2.1,hx.2.2.1⟩ hA
  rw [hF]
  clear hF h hR
  simp [jJ,kK,aE]
  (repeat' (first|contradiction|exact .ok|apply And.intro|intro _|(refine gc (fun h=>?_) (fun h=>?_)<;>(have h':=h;(try simp at h');first|done|simp[h,h']|simp[aE]))))
  all_goals (exfalso; apply hA; refine ⟨?_,?_,?_⟩ <;> omega)
theorem aJL:∀ (m:Nat) (x:Sm) (d:Int),SizeOf.sizeOf x<m→Cf En 34 [x.a,.d (.int .i64 d)] [] (.d (.bool (x.few d))) []
 | 0,_,_,h=>absurd h (by omega)
 | m+1,x,d,hm=>by
   refine cI fQ (fn:=Tryz.f34) rfl ?_
   have hq:=fun (a:Sm) (ha:SizeOf.sizeOf a<m) (e:Int)=>aJL m a e ha
   obtain ⟨f,al,dd,s,is,ft,fq,fn,js,w,g,h,ks⟩:=x
   have hfq:∀ a∈fq,SizeOf.sizeOf a<m:=fun a ha=>by
    have:=Sm.q_lt (e:=.mk f al dd s is ft fq fn js w g h ks) ha
    omega
   have hks:∀ a∈ks,SizeOf.sizeOf a<m:=fun a ha=>by
    have:=Sm.kid_lt (e:=.mk f al dd s is ft fq fn js w g h ks) ha
    omega
   have hjs:∀ j∈js,∀ a∈j.qs,SizeOf.sizeOf a<m:=fun j hj a ha=>by
    have:=Sm.j_lt (e:=.mk f al dd s is ft fq fn js w g h ks) hj
    have:=Jo.q_lt ha
    omega
   have e1:=EA ft fq fn d fun a ha=>hq a (hfq a ha) (yO d)
   have e4:=tL w
   have e5:=tL g
   have e6:=tL h
   have ek:=fun (a:Sm) (ha:a∈ks)=>hq a (hks a ha) (yO d)
   rw [Sm.few,← MQ,IA,xY _ ks]
   generalize hS:MQ d ft fq fn=S at *
   generalize hW:uC w=W at *
   generalize hG:uC g=G at *
   generalize hH:uC h=H at *
   generalize hI:(is.all fun i=>i.t.few 0)=I
   generalize hJ:(js.all fun e=>e.few d)=J
   generalize hK:(ks.all fun e=>e.few (yO d))=K
   generalize hR:(decide (d≤30)&&(decide (is.length≤10)&&(decide (js.length≤8)&&(decide (ks.length≤6)&&(W&&(G&&(H&&(S&&(I&&(J&&K))))))))))=R
   by_cases hA:d≤30∧is.length≤10∧js.length≤8∧ks.length≤6∧W=true∧G=true∧H=true∧S=true
   ·obtain ⟨a1,a2,a3,a4,rfl,rfl,rfl,rfl⟩:=hA
    have hR':(I&&(J&&K))=R:=by rw [← hR]; simp [a1,a2,a3,a4]
    have b1:¬ (30:Int)<d:=by omega
    have b2:¬ (10:Int)<is.length:=by omega
    have b3:¬ (8:Int)<js.length:=by omega
    have b4:¬ (6:Int)<ks.length:=by omega
    clear hR
    simp [Sm.a,Sm.c,aE,aF,b1,b2,b3,b4]
    refine gr ?_
    refine aP e4 ?_
    simp
    refine aP e5 ?_
    simp
    refine aP e6 ?_
    simp
    refine aA e1 (by simp [jJ,kK,aE]) ?_
    simp
    refine gr ?_
    refine aL fQ (fun i:Nat=>{ s:=eP [(1,.d (.int .i64 d)),(2,.ptr 2 0 0),(5,.d (.int .i64 i))],b:=eG [(2,2,.var (Sm.a (.mk f al dd s is ft fq fn js w g h ks)).cells)] }) (fun i:Nat=>i≤is.length∧((is.drop i).all fun i=>i.t.few 0)=I) (fun i=>is.length - i) 0 (by simp [hI]) (aJ _ _ ⟨by simp,by simp,by simp [aD,Blk.live,Sm.a,Sm.c,aE,aF],by simp⟩ (by simp [aD])) ?_
    rintro i ⟨hi,ho⟩
    by_cases hlt:i<is.length
    ·have hlt':(i:Int)<is.length:=by omega
     obtain ⟨x,hg⟩:∃ x,is[i]?=some x:=⟨_,gE hlt⟩
     have hgi:∀ h,is[i]'h=x:=fun h=>(List.getElem?_eq_some_iff.1 hg).2
     rw [mO hg] at ho
     have q1:=CF _ x.t 0 (Nat.lt_succ_self _)
     obtain ⟨⟨o0,y0,n0,t0,q0,ks0⟩,nm⟩:=x
     simp only at q1 ho
     generalize (Tm.mk o0 y0 n0 t0 q0 ks0).few 0=X at *
     simp [Sm.a,Sm.c,aE,aF,hlt,hlt',hgi,It.c,Tm.c,aS]
     refine gr ?_
     refine aA q1 (by simp [Tm.a,Tm.c,aS]) ?_
     simp
     refine ⟨.ok,fun h=>⟨.ok,?_⟩,fun h=>⟨.ok,i+1,⟨hlt,?_⟩,sM _ [(2,2,_)] (by simp [aD,Blk.live,aE,aF]) ?_,?_⟩⟩
     ·rw [← hR',← ho,h]; rfl
     ·rw [← ho,h]; rfl
     ·simp [aD]; exact aZ (by omega) (by omega)
     ·simp; omega
    ·have hlt':¬ (i:Int)<is.length:=by omega
     rw [pA (by omega)] at ho
     rw [← ho,Bool.true_and] at hR'
     simp [Sm.a,Sm.c,aE,aF,hlt']
     refine gr ?_
     refine aL fQ (fun i:Nat=>{ s:=eP [(1,.d (.int .i64 d)),(2,.ptr 2 0 0),(6,.d (.int .i64 i))],b:=eG [(2,2,.var (Sm.a (.mk f al dd s is ft fq fn js w g h ks)).cells)] }) (fun i:Nat=>i≤js.length∧((js.drop i).all fun e=>e.few d)=J) (fun i=>js.length - i) 0 (by simp [hJ]) (sM _ [(2,2,_)] (by simp [aD,Blk.live,Sm.a,Sm.c,aE,aF]) (by simp [aD])) ?_
     clear hi ho hlt hlt' i
     rintro i ⟨hi,ho⟩
     by_cases hlt:i<js.length
     ·have hlt':(i:Int)<js.length:=by omega
      obtain ⟨x,hg⟩:∃ x,js[i]?=some x:=⟨_,gE hlt⟩
      have hgi:∀ h,js[i]'h=x:=fun h=>(List.getElem?_eq_some_iff.1 hg).2
      rw [mO hg] at ho
      have hxq:=hjs x (List.mem_of_getElem? hg)
      obtain ⟨k0,t0,q0,n0,o0⟩:=x
      have q1:=EA t0 q0 n0 d fun a ha=>hq a (hxq a ha) (yO d)
      have q2:=tL o0
      rw [Jo.few,← MQ] at ho
      generalize MQ d t0 q0 n0=X at *
      generalize uC o0=Y at *
      simp [Sm.a,Sm.c,aE,aF,hlt,hlt',hgi,Jo.c]
      refine gr ?_
      refine aP q2 ?_
      simp
      (repeat' (first|contradiction|exact .ok|apply And.intro|intro _|(refine gc (fun h=>?_) (fun h=>?_)<;>(have h':=h;(try simp at h');first|done|simp[h',hlt,hgi,Jo.c,aE]|simp[hlt,hlt',hg,hgi,Jo.c,aE,aF]))))
      all_goals first | (refine aA q1 (by simp [jJ,kK,aE]) ?_; simp; (repeat' (first|contradiction|exact .ok|apply And.intro|intro _|(refine gc (fun h=>?_) (fun h=>?_)<;>(have h':=h;(try simp at h');first|done|simp[h,h',hlt,hlt',hg,hgi,Jo.c,aE,aF]|simp[hlt,hlt',hg,hgi,Jo.c,aE,aF]))))) | skip
      clear q1 q2 hxq hg hgi hq hfq hks hjs hm
      all_goals first
       | (refine ⟨i+1,⟨hlt,?_⟩,sM _ [(2,2,_)] (by simp [aD,Blk.live,aE,aF]) ?_,?_⟩
          ·rw [← ho]; clear hR' ho; simp_all
          ·simp [aD]; exact aZ (by omega) (by omega)
          ·simp; omega)
       | (rw [← hR',← ho]; clear hR' ho; simp_all; done)
     ·have hlt':¬ (i:Int)<js.length:=by omega
      rw [pA (by omega)] at ho
      rw [← ho,Bool.true_and] at hR'
      simp [Sm.a,Sm.c,aE,aF,hlt']
      refine gr ?_
      refine aL fQ (fun i:Nat=>{ s:=eP [(1,.d (.int .i64 d)),(2,.ptr 2 0 0),(7,.d (.int .i64 i))],b:=eG [(2,2,.var (Sm.a (.mk f al dd s is ft fq fn js w g h ks)).cells)] }) (fun i:Nat=>i≤ks.length∧((ks.drop i).all fun e=>e.few (yO d))=K) (fun i=>ks.length - i) 0 (by simp [hK]) (sM _ [(2,2,_)] (by simp [aD,Blk.live,Sm.a,Sm.c,aE,aF]) (by simp [aD])) ?_
      clear hi ho hlt hlt' i
      rintro i ⟨hi,ho⟩
      by_cases hlt:i<ks.length
      ·have hlt':(i:Int)<ks.length:=by omega
       obtain ⟨x,hg⟩:∃ x,ks[i]?=some x:=⟨_,gE hlt⟩
       have hgi:∀ h,ks[i]'h=x:=fun h=>(List.getElem?_eq_some_iff.1 hg).2
       rw [mO hg] at ho
       have hx:=ek x (List.mem_of_getElem? hg)
       have c1:=x.clen
       have k1:=x.ctake
       generalize x.few (yO d)=X at *
       have hu:yO d=IntKind.i64.wrap (d+1):=rfl
       simp [Sm.a,Sm.c,aE,aF,hlt,hlt',hgi,c1,k1]
       refine gr ?_
       refine aA hx (by simp [Sm.a,hu]) ?_
       simp
       refine ⟨.ok,fun h=>⟨.ok,?_⟩,fun h=>⟨.ok,i+1,⟨hlt,?_⟩,sM _ [(2,2,_)] (by simp [aD,Blk.live,aE,aF]) ?_,?_⟩⟩
       ·rw [← hR',← ho,h]; rfl
       ·rw [← ho,h]; rfl
       ·simp [aD]; exact aZ (by omega) (by omega)
       ·simp; omega
      ·have hlt':¬ (i:Int)<ks.length:=by omega
       rw [pA (by omega)] at ho
       simp [Sm.a,Sm.c,aE,aF,hlt,hlt']
       refine gr ?_
       rw [← hR',← ho]
   ·have hF:R=false:=by
     rw [← hR]
     cases hx:(decide (d≤30)&&(decide (is.length≤10)&&(decide (js.length≤8)&&(decide (ks.length≤6)&&(W&&(G&&(H&&(S&&(I&&(J&&K)))))))))) with
     | false=>rfl
     | true =>
       simp only [Bool.and_eq_true,decide_eq_true_eq] at hx
       exact absurd ⟨hx.1,hx.2.1,hx.2.2.1,hx.2.2.2.1,hx.2.2.2.2.1,hx.2.2.2.2.2.1,hx.2.2.2.2.2.2.1,hx.2.2.2.2.2.2.2.1⟩ hA
    rw [hF]
    clear hF hR hI hJ hK hq hfq hks hjs hm ek
    simp [Sm.a,Sm.c,aE,aF]
    (repeat' (first|contradiction|exact .ok|apply And.intro|intro _|(refine gc (fun h=>?_) (fun h=>?_)<;>(have h':=h;(try simp at h');first|done|simp[h,h']|simp[aE,aF]))))
    all_goals first | (refine aP e4 ?_; simp; (repeat' (first | contradiction | exact .of (by kernel_rfl) | refine And.intro ?_ ?_ | intro _ | (refine aI (fun h=>?_) (fun h=>?_) <;> (have h':=h; (try simp at h'); first | done | simp [h'] | simp [aE,aF]))))) | skip
    all_goals first | (refine aP e5 ?_; simp; (repeat' (first | contradiction | exact .of (by kernel_rfl) | refine And.intro ?_ ?_ | intro _ | (refine aI (fun h=>?_) (fun h=>?_) <;> (have h':=h; (try simp at h'); first | done | simp [h'] | simp [aE,aF]))))) | skip
    all_goals first | (refine aP e6 ?_; simp; (repeat' (first | contradiction | exact .of (by kernel_rfl) | refine And.intro ?_ ?_ | intro _ | (refine aI (fun h=>?_) (fun h=>?_) <;> (have h':=h; (try simp at h'); first | done | simp [h'] | simp [aE,aF]))))) | skip
    all_goals first | (refine aA e1 (by simp [jJ,kK,aE]) ?_; simp; (repeat' (first|contradiction|exact .ok|apply And.intro|intro _|(refine gc (fun h=>?_) (fun h=>?_)<;>(have h':=h;(try simp at h');first|done|simp[h,h',aE,aF]|simp[aE,aF]))))) | skip
    all_goals first | (exfalso; apply hA; simp_all; done) | (exfalso; apply hA; simp_all; omega)
def Kp (st st':RS):Prop:=st'.1 <:+ st.1∧(okE st.1→okE st'.1)
theorem Kp.refl (st:RS):Kp st st:=⟨List.suffix_refl _,id⟩
theorem Kp.trans {a b c:RS} (h:Kp a b) (h':Kp b c):Kp a c:=⟨h'.1.trans h.1,fun e=>h'.2 (h.2 e)⟩
theorem okE.tlE {l:List Tk} (h:okE l) (he:(eU l).ends=false):okE l.tail:=by
 cases l with
 | nil=>exact absurd rfl h.ne
 | cons t r=>exact h.cons he
theorem wU {st:RS} (he:(eU st.1).ends=false):Kp st (aK st):=by
 unfold aK
 split
 ·exact ⟨bU _,fun h=>h.tlE he⟩
 ·exact .refl st
theorem tS (st:RS):Kp st (jC st):=by
 unfold jC
 split <;> exact .refl _
theorem aBt {w:List UInt8} {l:List Tk} (h:isW w l=true):(eU l).ends=false:=by
 cases l with
 | nil=>cases h
 | cons t r =>
   simp only [isW,Bool.and_eq_true,Bool.or_eq_true,beq_iff_eq] at h
   exact iS (by simp only [eU]; omega) (by simp only [eU]; omega)
theorem aBu {w:List UInt8} {st:RS} (h:dJ w st=true):st.2<0∧isW w st.1=true:=by
 unfold dJ at h
 simpa using h
theorem cG {w:List UInt8} {st:RS} (h:dJ w st=true):Kp st (aK st):=wU (aBt (aBu h).2)
theorem bS (w:List UInt8) (st:RS):Kp st (aN w st):=by
 unfold aN
 split
 ·rename_i h; exact cG h
 ·exact tS st
theorem aFM {ws:List (List UInt8)} {st:RS} {i:Nat} (h:fR ws st=some i):st.2<0∧bN ws st.1=some i:=by
 unfold fR at h
 split at h
 ·rename_i hb; exact ⟨hb,h⟩
 ·cases h
theorem vM {ws:List (List UInt8)} {st:RS} {i:Nat} (h:fR ws st=some i):Kp st (aK st):=by
 obtain ⟨w,hw⟩:=aJO (aFM h).2
 exact wU (aBt hw)
theorem aDA {st:RS} (h:jV st=true):st.2<0∧(eU st.1).kd=1:=by
 unfold jV at h
 simp only [Bool.and_eq_true,decide_eq_true_eq,beq_iff_eq] at h
 exact ⟨h.1,h.2.1⟩
theorem rE (st:RS):Kp st (fK st).2:=by
 unfold fK
 split
 ·rename_i h
  have:=(aDA h).2
  exact wU (iS (by omega) (by omega))
 ·exact tS st
theorem vN {q:RS→Tm×RS} (hq:∀ st,Kp st (q st).2) (sg:List (List UInt8)) (ops:List Int):∀ (k:Nat) (out:Tm) (st:RS),Kp st (cX q sg ops k out st).2
 | 0,out,st=>.refl st
 | k+1,out,st=>by
   rw [cX]
   split
   ·exact .refl st
   ·rename_i h
    exact (vM h).trans ((hq _).trans (vN hq sg ops k _ _))
theorem QC {q:RS→Tm×RS} (hq:∀ st,Kp st (q st).2):∀ (k:Nat) (ks:List Tm) (st:RS),Kp st (gK q k ks st).2
 | 0,ks,st=>.refl st
 | k+1,ks,st=>by
   rw [gK]
   split
   ·rename_i h
    exact (cG h).trans ((hq _).trans (QC hq k _ _))
   ·exact .refl st
theorem aLe {q:RS→Tm×RS} (hq:∀ st,Kp st (q st).2) (st:RS):Kp st (LL q st).2:=by
 unfold LL
 split
 ·exact tS st
 ·rename_i h
  have h1:=(vM h).trans (bS bF _)
  simp only
  split
  ·rename_i h2; exact h1.trans ((cG h2.2).trans (bS _ _))
  ·split
   ·rename_i h2; exact h1.trans ((cG h2.2).trans ((hq _).trans (bS _ _)))
   ·exact h1.trans ((hq _).trans (bS _ _))
theorem aIt (st:RS):Kp st (IP st).2:=by
 unfold IP
 split
 ·rename_i h; exact vM h
 ·exact tS st
theorem aIu {q:RS→Tm×RS} (hq:∀ st,Kp st (q st).2) (st:RS):Kp st (UY q st).2 :=
 (bS _ _).trans ((hq _).trans ((bS _ _).trans ((hq _).trans ((bS _ _).trans ((hq _).trans (bS _ _))))))
theorem gD:∀ (n lvl:Nat) (st:RS),Kp st (bK n lvl st).2
 | 0,lvl,st=>tS st
 | n+1,0,st=>by rw [bK]; exact (gD n 1 st).trans (vN (gD n 1) _ _ _ _ _)
 | n+1,1,st=>by rw [bK]; exact (gD n 2 st).trans (vN (gD n 2) _ _ _ _ _)
 | n+1,2,st=>by
   rw [bK]
   split
   ·rename_i h; exact (cG h).trans (gD n 2 _)
   ·exact gD n 3 st
 | n+1,3,st=>by
   rw [bK]
   have h1:=gD n 4 st
   simp only
   split
   ·rename_i h; exact h1.trans ((vM h).trans (gD n 4 _))
   ·split
    ·rename_i h; exact h1.trans ((cG h).trans ((bS _ _).trans ((gD n 0 _).trans ((QC (gD n 0) _ _ _).trans (bS _ _)))))
    ·split
     ·rename_i h
      have h2:=h1.trans (cG h)
      split
      ·rename_i h3; exact h2.trans (cG h3)
      ·split
       ·rename_i h3; exact h2.trans (cG h3)
       ·split
        ·rename_i h3; exact h2.trans ((cG h3).trans (bS _ _))
        ·exact h2.trans (tS _)
     ·exact h1
 | n+1,4,st=>by rw [bK]; exact (gD n 5 st).trans (vN (gD n 5) _ _ _ _ _)
 | n+1,5,st=>by rw [bK]; exact (gD n 6 st).trans (vN (gD n 6) _ _ _ _ _)
 | n+1,6,st=>by
   rw [bK]
   split
   ·rename_i h
    simp only
    split
    ·rename_i h2; exact (cG h).trans (wU (iS (by omega) (by omega)))
    ·exact (cG h).trans (gD n 6 _)
   ·exact gD n 7 st
 | n+1,m+7,st=>by
   rw [bK]
   by_cases h:0≤st.2
   ·rw [if_pos h]; exact .refl st
   rw [if_neg h]
   by_cases h:(eU st.1).kd=2
   ·rw [if_pos h]; exact wU (iS (by omega) (by omega))
   rw [if_neg h]
   by_cases h:(eU st.1).kd=3
   ·rw [if_pos h]; exact wU (iS (by omega) (by omega))
   rw [if_neg h]
   by_cases h:jV st=true
   ·rw [if_pos h]
    by_cases h:dJ qJ (fK st).2=true
    ·simp only [h,if_true]; exact (rE st).trans ((cG h).trans (rE _))
    ·simp only [h]; exact rE st
   rw [if_neg h]
   by_cases h:dJ bF st=true
   ·rw [if_pos h]; exact (cG h).trans ((gD n 0 _).trans (bS _ _))
   rw [if_neg h]
   by_cases h:dJ wTrue st=true
   ·rw [if_pos h]; exact cG h
   rw [if_neg h]
   by_cases h:dJ wFalse st=true
   ·rw [if_pos h]; exact cG h
   rw [if_neg h]
   by_cases h:dJ wNull st=true
   ·rw [if_pos h]; exact (cG h).trans (aIt _)
   rw [if_neg h]
   by_cases h:dJ wLength st=true
   ·rw [if_pos h]; exact (cG h).trans ((bS _ _).trans ((gD n 0 _).trans (bS _ _)))
   rw [if_neg h]
   by_cases h:dJ wCoalesce st=true
   ·rw [if_pos h]; exact (cG h).trans ((bS _ _).trans ((gD n 0 _).trans ((bS _ _).trans ((gD n 0 _).trans (bS _ _)))))
   rw [if_neg h]
   by_cases h:dJ wCase st=true
   ·rw [if_pos h]; exact (cG h).trans (aIu (gD n 0) _)
   rw [if_neg h]
   exact aLe (gD n 0) st
end Go.Proofs.Tryz
