import Derived.Test.YthbnleoonldffaaGreatDoorQVwp
import Derived.Test.YthbnleoonldffaaGreatDoorQPlw
import Derived.Test.YthbnleoonldffaaGreatDoorQCln
import Derived.Test.YthbnleoonldffaaGreatDoorQRwc
import Derived.Test.YthbnleoonldffaaGreatDoorQSmR
import Derived.Test.YthbnleoonldffaaGreatDoorQEnvR
import Derived.Test.YthbnleoonldffaaGreatDoorQQyc
import Derived.Test.YthbnleoonldffaaGreatDoorAbB
set_option linter.all false
namespace Go.Proofs.Tryz
open Go.Ab
set_option maxRecDepth 100000
set_option maxHeartbeats 8000000
def bQ (S:List Tb) (l:List Nat) (n:Nat):Nat:=(bU S (l.take n)).length
theorem sI (S:List Tb) {l:List Nat} {n:Nat} (h:n<l.length):bU S (l.take (n+1))=bU S (l.take n)++(aV S l[n]).cols:=by
 unfold bU
 rw [bV h,List.flatMap_append,List.flatMap_cons,List.flatMap_nil,List.append_nil]
def dN (L:List Int) (S:List Tb) (l:List Nat) (i:Nat):Ex×Nat :=
 let z:=(aU L i l.length).toNat
 let a:=jW L (aV S ((l[z]?).getD 0)) (i+1)
 (if aU L a.2 4=0 then .mk 24 0 0 [] 0 [a.1.ex.shift (bQ S l z)] else a.1.ex.shift (bQ S l z),a.2+1)
theorem aBT (L:List Int) (S:List Tb) (l:List Nat) (i:Nat):(dN L S l i).2≤i+7:=by
 have:=GV L (aV S ((l[(aU L i l.length).toNat]?).getD 0)) (i+1)
 simp only [dN]
 omega
theorem aDN (L:List Int) (i:Nat) (hi:i≤800000) (S:List Tb) (hl:S.length≤1000) (hS:∀ x∈S,pG x) (v:Vw) (hv:v.path.length≤50000) (l:List Nat) (hch:dY S v=some l) (hll:l.length≤1000) :
  Cf En 51 [.ptr 1000000 0 0,aR S,v.a] [aS L i] (dN L S l i).1.a [aS L (dN L S l i).2]:=by
 have hta:=lP S hl (fun x hx=>(hS x hx).ok) v hv
 obtain ⟨hlt,hl0⟩:=dI hch
 rw [hch] at hta
 unfold mZ at hta
 simp only at hta
 have hl1:0<l.length:=by omega
 have hnl:=cV l
 have hnx:=bG L i (n:=l.length) (by omega)
 have htx:=dM L i (by omega) l.length (by omega) (by omega)
 have hzl:(aU L i l.length).toNat<l.length:=by omega
 obtain ⟨z,hz⟩:∃ z:Nat,aU L i l.length=z:=⟨(aU L i l.length).toNat,by omega⟩
 unfold dN
 rw [hz] at htx hzl ⊢
 simp only [Int.toNat_natCast] at hzl ⊢
 rw [List.getElem?_eq_getElem hzl,Option.getD_some]
 have hga:∀ (j:Nat) (h:j<l.length),(aG (aO l))[j]?=some [.int .i64 (l[j]:Int)]:=fun j h=>by simp [aG,aO,h]
 have hgb:∀ (j:Nat) (h:j<l.length),∀ h',(aG (aO l))[j]'h'=[.int .i64 (l[j]:Int)]:=fun j h h'=>by simp [aG,aO]
 have hoff:∀ n,n≤l.length→bQ S l n≤1000*n:=by
  intro n
  induction n with
  | zero=>intro _; simp [bQ,bU]
  | succ n ih =>
    intro hn
    have hk:=hlt l[n] (List.getElem_mem (by omega))
    have hc:(aV S l[n]).cols.length≤1000:=by unfold aV; rw [List.getElem?_eq_getElem hk]; exact (hS _ (List.getElem_mem hk)).ok.cols
    have:=ih (by omega)
    unfold bQ at this ⊢
    rw [sI S (by omega),List.length_append]
    omega
 refine aD aW (fn:=Tryz.f51) (by kernel_rfl) rfl (by kernel_rfl) (by decide) (by simp) ?_
 simp [aR,Vw.a,Vw.c,aS]
 (repeat' first|contradiction|exact .ok|apply And.intro|intro _|(apply gc<;>simp+contextual))
 refine aA hta (by simp [aR,Vw.a,Vw.c]) ?_
 simp [hnl]
 (repeat' first|contradiction|exact .ok|apply And.intro|intro _|(apply gc<;>simp+contextual))
 refine aK [1000000] htx (by simp) (by simp) (by simp) (by simp [aS]) (by simp) ?_
 have hzl2:(z:Int)≤l.length:=by omega
 have hw0:bQ S l 0=0:=by simp [bQ,bU]
 generalize hZ:aG (aO l)=Z at *
 simp [aS]
 (repeat' first|contradiction|exact .ok|apply And.intro|intro _|(apply gc<;>simp+contextual))
 refine aL aW (by decide) (fun n:Nat=>{ s:=cG [(0,.ptr 1000000 0 0),(4,.ptr 4 0 0),(5,.ptr 5 0 0),(6,.ptr 6 0 0),(7,.d (.sl Z)),(9,.d (.int .i64 z)),(10,.d (.int .i64 (bQ S l n))),(11,.d (.int .i64 n))],b:=cE [(1000000,1000000,aS L (i+1)),(4,4,.var [.d (.sl (S.map Tb.c))]),(5,5,.var (v.c.map AV.d)),(6,6,.var [.d (.int .i64 0),.d (.int .i64 0),.d (.int .i64 0),.d (.str []),.d (.int .i64 0),.nils])] })
  (fun n=>n≤z) (fun n=>z - n) 0 (by simp)
  (aE _ [(1000000,1000000,_),(4,4,_),(5,5,_),(6,6,_)] ⟨by simp,by simp,by simp [aB,Blk.live,aS,Vw.c],bT⟩ (by simp [aB,hw0])) ?_
 intro n hn
 have hnl2:n<l.length:=by omega
 have hkl:=hlt l[n] (List.getElem_mem hnl2)
 have hgan:=hga n hnl2
 have hgbn:=hgb n hnl2
 have hsn:=sI S hnl2
 have htab:aV S l[n]=S[l[n]]:=by unfold aV; rw [List.getElem?_eq_getElem hkl]; rfl
 have hon:=hoff n (by omega)
 by_cases hlz:n<z
 ·have hon1:=hoff (n+1) (by omega)
  have hw:=aH (n:=(n:Int)+1) (by omega) (by omega)
  have hoe:bQ S l (n+1)=bQ S l n+S[l[n]].cols.length:=by unfold bQ; rw [hsn,List.length_append,htab]
  have hwo:=aH (n:=(bQ S l n:Int)+S[l[n]].cols.length) (by omega) (by omega)
  generalize l[n]=k at *
  simp [hlz,hgan,hgbn,hnl,hnl2,hkl,Tb.c,aS]
  (repeat' first|contradiction|exact .ok|apply And.intro|intro _|(apply gc<;>simp+contextual))
  simp [hwo]
  (repeat' first|contradiction|exact .ok|apply And.intro|intro _|(apply gc<;>simp+contextual))
  refine ⟨n+1,by omega,?_,by simp; omega⟩
  exact aE _ [(1000000,1000000,_),(4,4,_),(5,5,_),(6,6,_)] ⟨by simp,by simp,by simp [aB,Blk.live,aS,Vw.c],bT⟩ (by simp [aB,hw,hwo,hoe])
 obtain rfl:n=z:=by omega
 have hmx:=hS _ (List.getElem_mem hkl)
 rw [htab]
 generalize l[n]=k at *
 have hat:=YG L (i+1) (by omega) S[k] hmx.ok hmx.free hmx.ty
 have hle:=GV L S[k] (i+1)
 have hok:=tT L hmx (i+1)
 generalize jW L S[k] (i+1)=a at *
 obtain ⟨a,j⟩:=a
 simp only at hat hle hok ⊢
 have hex:=zU a
 have hfew:a.ex.few 0=true:=NZ (by have:=hok.len; omega) 0 (by omega)
 have hsh:=yC (SizeOf.sizeOf a.ex+1) a.ex (by omega) 0 hfew (bQ S l n)
 have hn4:=dM L j (by omega) 4 (by omega) (by omega)
 have hel:=Ex.clen (a.ex.shift (bQ S l n))
 have het:=Ex.ctake (a.ex.shift (bQ S l n))
 generalize a.ex.shift (bQ S l n)=e at *
 have hxl:=Ex.clen a.ex
 have hxt:=Ex.ctake a.ex
 generalize hx:S[k]=x at *
 have hgx:∀ h,S[k]'h=x:=fun _=>hx
 simp [hgan,hgbn,hnl,hnl2,hkl,hgx,Tb.c,aS]
 (repeat' first|contradiction|exact .ok|apply And.intro|intro _|(apply gc<;>simp+contextual))
 refine aK [1000000] hat (by simp) (by simp) (by simp) (by simp [aS]) (by simp [Tb.a,Tb.c]) ?_
 simp [aS,At.a]
 refine aA hex (by simp [At.a]) ?_
 simp [Ex.a,hxl,hxt]
 refine aA hsh (by simp [Ex.a,hxl,hxt]) ?_
 simp [Ex.a,hel,het]
 (repeat' first|contradiction|exact .ok|apply And.intro|intro _|(apply gc<;>simp+contextual))
 refine aK [1000000] hn4 (by simp) (by simp) (by simp) (by simp [aS]) (by simp) ?_
 by_cases h4:aU L j 4=0
 ·rw [if_pos h4]
  simp [aS,h4,hel,het]
  (repeat' first|contradiction|exact .ok|apply And.intro|intro _|(apply gc<;>simp+contextual[h4,hel,het]))
  have ht6:e.c.take 6=e.c:=List.take_of_length_le (by omega)
  simp [Ex.c,aC,ht6]
 ·rw [if_neg h4]
  simp [aS,h4,hel,het]
  (repeat' first|contradiction|exact .ok|apply And.intro|intro _|(apply gc<;>simp+contextual[h4,hel,het]))
def wH (row:List V) (e:Ex):Bool:=(aI e row).tr != 1
def EO (v:Vw) (row:List V):Bool:=!(v.cond.any (wH row))
theorem VK (row:List V) (hrow:row.length≤9223372036854775807) (e:Ex) (q:Nat) (hq:e.few q=true):Cf Es 125 [e.a,.ptr 1000000 0 0] [.var [.d (.sl (row.map V.c))]] (.d (.bool (wH row e))) [.var [.d (.sl (row.map V.c))]]:=by
 have hev:=upo (GM row hrow (SizeOf.sizeOf e+1) e (by omega) q hq)
 unfold wH
 generalize aI e row=w at *
 have htr:=gL (mK w)
 have hel:=Ex.clen e
 have het:=Ex.ctake e
 refine aD cF (fn:=Tryz.f125) (by kernel_rfl) rfl (by kernel_rfl) (by decide) (by simp) ?_
 simp [Ex.a,hel,het]
 (repeat' first|contradiction|exact .ok|apply And.intro|intro _|(apply gc<;>simp+contextual))
 refine aA hev (by simp [Ex.a,hel,het]) ?_
 simp [V.a]
 refine aA htr (by simp [V.a]) ?_
 simp
 (repeat' first|contradiction|exact .ok|apply And.intro|intro _|(apply gc<;>simp+contextual))
 all_goals (try (simp [Bool.eq_iff_iff]; done))
 all_goals (try rfl)
theorem VL (row:List V) (hrow:row.length≤9223372036854775807) (ks:List Ex) (hk:ks.length≤1000) (hf:∀ e∈ks,e.few 0=true):Cf Es 198 [.d (.sl (ks.map Ex.c)),.clo 125 [.ptr 1000000 0 0]] [.var [.d (.sl (row.map V.c))]] (.d (.int .i64 (aY (wH row) ks 0))) [.var [.d (.sl (row.map V.c))]]:=by
 refine aD cF (fn:=Tryz.f198) (by kernel_rfl) rfl (by kernel_rfl) (by decide) (by simp) ?_
 simp
 (repeat' first|contradiction|exact .ok|apply And.intro|intro _|(apply gc<;>simp+contextual))
 refine aL cF (by decide) (fun i:Nat=>{ s:=cG [(0,.d (.sl (ks.map Ex.c))),(1,.clo 125 [.ptr 1000000 0 0]),(7,.d (.int .i64 ks.length)),(8,.d (.int .i64 i))],b:=cE [(1000000,1000000,.var [.d (.sl (row.map V.c))])] }) (fun i=>i≤ks.length∧aY (wH row) ks 0=aY (wH row) (ks.drop i) i) (fun i=>ks.length - i) 0 ⟨by simp,by simp⟩ (aE _ [(1000000,1000000,_)] ⟨by simp,by simp,by simp [aB,Blk.live],bT⟩ (by simp [aB])) ?_
 rintro i ⟨hi,hfx⟩
 by_cases hlt:i<ks.length
 ·have hd:=dX (p:=wH row) (k:=i) hlt
  have h1:=VK row hrow ks[i] 0 (hf _ (List.getElem_mem hlt))
  have hw:=aH (n:=(i:Int)+1) (by omega) (by omega)
  obtain ⟨e,he⟩:∃ e,e=ks[i]:=⟨_,rfl⟩
  have hge:∀ h,ks[i]'h=e:=fun _=>he.symm
  rw [hge] at h1 hd
  have hel:=Ex.clen e
  have het:=Ex.ctake e
  rw [hd] at hfx
  cases hb:wH row e with
  | true =>
    rw [hb] at h1 hfx
    rw [if_pos rfl] at hfx
    rw [hfx]
    simp [hlt,hge,hel,het]
    (repeat' first|contradiction|exact .ok|apply And.intro|intro _|(apply gc<;>simp+contextual))
    refine aK [1000000] h1 (by simp) (by simp) (by simp) (by simp) (by simp [Ex.a,hel,het]) ?_
    simp
    all_goals exact gz
  | false =>
    rw [hb] at h1 hfx
    rw [if_neg (by simp)] at hfx
    simp [hlt,hge,hel,het]
    (repeat' first|contradiction|exact .ok|apply And.intro|intro _|(apply gc<;>simp+contextual))
    refine aK [1000000] h1 (by simp) (by simp) (by simp) (by simp) (by simp [Ex.a,hel,het]) ?_
    simp
    (repeat' first|contradiction|exact .ok|apply And.intro|intro _|(apply gc<;>simp+contextual))
    refine ⟨i+1,⟨by omega,hfx⟩,?_,by simp; omega⟩
    exact aE _ [(1000000,1000000,_)] ⟨by simp,by simp,by simp [aB,Blk.live],bT⟩ (by simp [aB,hw])
 obtain rfl:i=ks.length:=by omega
 rw [List.drop_length,aY] at hfx
 rw [hfx]
 simp
 all_goals exact gz
theorem EP {α:Type} {p:α→Bool}:∀ {l:List α} {i:Nat},decide (0≤aY p l i)=l.any p
 | [],i=>by simp [aY]
 | x::l,i=>by
   rw [aY,List.any_cons]
   cases hp:p x with
   | true =>
     rw [if_pos rfl]
     have:(0:Int)≤i:=by omega
     simp [this]
   | false=>rw [if_neg (by simp),EP]; simp
theorem VM (row:List V) (hrow:row.length≤9223372036854775807) (ks:List Ex) (hk:ks.length≤1000) (hf:∀ e∈ks,e.few 0=true):Cf Es 124 [.d (.sl (ks.map Ex.c)),.clo 125 [.ptr 1000000 0 0]] [.var [.d (.sl (row.map V.c))]] (.d (.bool (ks.any (wH row)))) [.var [.d (.sl (row.map V.c))]]:=by
 have h:=VL row hrow ks hk hf
 have ha:=EP (p:=wH row) (l:=ks) (i:=0)
 rw [← ha]
 generalize aY (wH row) ks 0=z at *
 refine aD cF (fn:=Tryz.f124) (by kernel_rfl) rfl (by kernel_rfl) (by decide) (by simp) ?_
 simp
 (repeat' first|contradiction|exact .ok|apply And.intro|intro _|(apply gc<;>simp+contextual))
 refine aK [1000000] h (by simp) (by simp) (by simp) (by simp) (by simp) ?_
 simp
 all_goals exact gz
theorem aAD (v:Vw) (hv:v.cond.length≤1000) (hf:∀ e∈v.cond,e.few 0=true) (row:List V) (hrow:row.length≤9223372036854775807):Cf Es 59 [v.a,.d (.sl (row.map V.c))] [] (.d (.bool (EO v row))) []:=by
 have h:=VM row hrow v.cond hv hf
 unfold EO
 generalize v.cond.any (wH row)=b at *
 refine aD cF (fn:=Tryz.f59) (by kernel_rfl) rfl (by kernel_rfl) (by decide) (by simp) ?_
 simp [Vw.a,Vw.c]
 (repeat' first|contradiction|exact .ok|apply And.intro|intro _|(apply gc<;>simp+contextual))
 refine aK [3] h (by simp) (by simp) (by simp) (by simp) (by simp) ?_
 simp
 all_goals exact gz
def sG (P:Nat→Bool):Nat→Nat
 | 0=>0
 | n+1=>sG P n+(if P n=true then 1 else 0)
theorem xR (P:Nat→Bool):∀ n,sG P n≤n
 | 0=>Nat.le_refl 0
 | n+1=>by have:=xR P n; rw [sG]; split <;> omega
def tZ (S:List Tb) (T:Nat→List (List V)) (l:List Nat) (v:Vw) (n:Nat):Bool:=EO v (pI S T l v.path n v.path.length).1
theorem kT (S:List Tb) {l:List Nat} {n:Nat} (h:n<l.length):bQ S l (n+1)=bQ S l n+(aV S l[n]).cols.length:=by
 unfold bQ
 rw [sI S h,List.length_append]
theorem TR {S:List Tb} (h:oQ S) {l:List Nat} (hl:∀ k∈l,k<S.length) (h3:l.length≤100):∀ z,z<l.length→bQ S l z≤1000000∧(aV S ((l[z]?).getD 0)).cols.length≤1000:=fun z hz=>by
 have hcb:∀ k∈l,(aV S k).cols.length≤20:=fun k hk=>h.cols _ (by unfold aV; rw [List.getElem?_eq_getElem (hl k hk)]; exact List.getElem_mem (hl k hk))
 have:=hcb _ (List.getElem_mem hz)
 rw [List.getElem?_eq_getElem hz,Option.getD_some]
 refine ⟨?_,by omega⟩
 have hsum:∀ i,i≤l.length→bQ S l i≤20*i:=fun i=>by
  induction i with
  | zero=>intro _; simp [bQ,bU]
  | succ i ih =>
    intro hi
    have:=hcb _ (List.getElem_mem (show i<l.length by omega))
    rw [kT S (n:=i) (by omega)]
    have:=ih (by omega)
    omega
 have:=hsum z (by omega)
 omega
def cH (op:Int) (tb:List UInt8) (kd:Int) (co:Ex) (ks:List Qy):Qy:=.mk op tb kd false co [] [] [] [] ks
inductive CQ:Qy→Prop
 | scan (n:List UInt8):CQ (cH 1 n 0 exZ0 [])
 | join (e:Ex) (he:e.few 0=true) (a b:Qy) (ha:CQ a) (hb:CQ b):CQ (cH 5 [] 1 e [a,b])
 | sel (e:Ex) (he:e.few 0=true) (a:Qy) (ha:CQ a):CQ (cH 3 [] 0 e [a])
structure BA (op:Int) (tb:List UInt8) (kd:Int) (co:Ex) (ks:List Qy):Prop where
 few:co.few 0=true
 sh:(op=1∧kd=0∧co=exZ0∧ks.length=0)∨(op=5∧tb=[]∧kd=1∧ks.length=2)∨(op=3∧tb=[]∧kd=0∧ks.length=1)
theorem ZT:exZ0.few 0=true:=by unfold exZ0; rw [Ex.few,fL]; simp
theorem aCw (e:Ex) (q:Nat) (hq:e.few q=true):Cf En 160 [e.a] [] (.d (.bool (zeX e))) []:=by
 have hs:=yD (SizeOf.sizeOf e+1) e exZ0 (by omega) (qF (SizeOf.sizeOf e+1) e (by omega) q hq)
 have hel:=Ex.clen e
 have het:=Ex.ctake e
 unfold zeX
 generalize e.eq exZ0=b at *
 refine aD aW (fn:=Tryz.f160) (by kernel_rfl) rfl (by kernel_rfl) (by decide) (by simp) ?_
 simp [exZ0,Ex.a,Ex.c,cA,hel,het] at hs ⊢
 (repeat' first|contradiction|exact .ok|apply And.intro|intro _|(apply gc<;>simp+contextual))
 refine aA hs (by simp [het]) ?_
 simp
 all_goals exact gz
theorem BB {op:Int} {tb:List UInt8} {kd:Int} {co:Ex} {ks:List Qy} (h:BA op tb kd co ks):Cf En 83 [(cH op tb kd co ks).a] [] (.d (.bool true)) []:=by
 have hz:=aCw co 0 h.few
 refine aD aW (fn:=Tryz.f83) (by kernel_rfl) rfl (by kernel_rfl) (by decide) (by simp) ?_
 rcases h.sh with ⟨rfl,rfl,rfl,_⟩ | ⟨rfl,rfl,rfl,_⟩ | ⟨rfl,rfl,rfl,_⟩
 ·have e:zeX exZ0=true:=by unfold zeX; exact Ex.eq_self _
  rw [e] at hz
  cases tb with
  | nil =>
    simp [cH,aG,Qy.a,Qy.c,aM,exZ0,Ex.a,Ex.c,cA] at hz ⊢
    (repeat' first|contradiction|exact .ok|apply And.intro|intro _|(apply gc<;>simp+contextual))
    refine aA hz (by simp) ?_
    simp
    all_goals exact gz
  | cons a tb =>
    simp [cH,aG,Qy.a,Qy.c,aM,exZ0,Ex.a,Ex.c,cA] at hz ⊢
    (repeat' first|contradiction|exact .ok|apply And.intro|intro _|(apply gc<;>simp+contextual))
    refine aA hz (by simp) ?_
    simp
    all_goals exact gz
 ·obtain ⟨o,c,n,t,g,k⟩:=co
  generalize zeX (.mk o c n t g k)=z at *
  simp [cH,aG,Qy.a,Qy.c,aM,Ex.a,Ex.c,aC] at hz ⊢
  (repeat' first|contradiction|exact .ok|apply And.intro|intro _|(apply gc<;>simp+contextual))
  refine aA hz (by simp) ?_
  simp
  all_goals exact gz
 ·obtain ⟨o,c,n,t,g,k⟩:=co
  generalize zeX (.mk o c n t g k)=z at *
  simp [cH,aG,Qy.a,Qy.c,aM,Ex.a,Ex.c,aC] at hz ⊢
  (repeat' first|contradiction|exact .ok|apply And.intro|intro _|(apply gc<;>simp+contextual))
  refine aA hz (by simp) ?_
  simp
  all_goals exact gz
def QZ (e:Ex) (A B:List (List V)):List (List V):=A.flatMap fun a=>(B.filter fun b=>(aI e (a++b)).tr==1).map (a++·)
def eqX (c d:Int):Ex:=.mk 14 0 0 [] 0 [eA c,eA d]
theorem KG {c:Nat} {row:List V} {v:V} (h:row[c]?=some v):aI (eA c) row=v:=by
 obtain ⟨hl,he⟩:=List.getElem?_eq_some_iff.1 h
 unfold eA
 rw [aI]
 have h5:bI 5 ([]:List Ex).length=true:=by decide
 rw [if_pos h5]
 have h1:(0:Int)≤c∧(c:Int)<row.length:=by omega
 simp [h1,hl,he]
theorem YC {c d:Nat} {row:List V} {x y:Int} (h1:row[c]?=some (kJ x)) (h2:row[d]?=some (kJ y)):((aI (eqX c d) row).tr==1)=decide (x=y):=by
 unfold eqX
 rw [aI]
 have hc:bI 14 [eA (c:Int),eA (d:Int)].length=true:=by rw [show [eA (c:Int),eA (d:Int)].length=2 from rfl]; decide
 rw [if_pos hc]
 simp only [bH,KG h1,KG h2]
 have e:aQ 14 [kJ x,kJ y]=pD (kJ x) (kJ y):=by simp [aQ,gH,iF]
 simp only [show ¬ (14:Int)=2 from by decide,show ¬ (14:Int)=3 from by decide,show ¬ (14:Int)=4 from by decide,show ¬ (14:Int)=5 from by decide,show ¬ (14:Int)=26 from by decide,if_false]
 rw [e]
 unfold pD kJ
 have hk:¬ ((1:Int)=0∨(1:Int)=0):=by decide
 simp only [hk,if_false]
 by_cases hxy:x=y
 ·subst hxy
  simp [V.same,V.cmp,vR,V.tr]
 ·simp [hxy,V.same,V.cmp,vR,V.tr]
  try omega
theorem AM {α:Type} {p:α→Bool}:∀ {l:List α} {q:Nat} {x:α},l[q]?=some x→(∀ i y,l[i]?=some y→p y=decide (i=q))→l.filter p=[x]
 | [],q,x,h,_=>by simp at h
 | y::l,0,x,h,hp=>by
   simp only [List.getElem?_cons_zero,Option.some.injEq] at h
   subst h
   rw [List.filter_cons,hp 0 y (by simp)]
   simp only [decide_true,if_true]
   rw [List.filter_eq_nil_iff.2 fun z hz=>?_]
   obtain ⟨i,hi⟩:=List.mem_iff_getElem?.1 hz
   rw [hp (i+1) z (by simpa using hi)]
   simp
 | y::l,q+1,x,h,hp=>by
   rw [List.filter_cons,hp 0 y (by simp)]
   simp only [show decide (0=q+1)=false by simp]
   exact AM (by simpa using h) fun i z hz=>by
    rw [hp (i+1) z (by simpa using hz)]
    simp
theorem aBO {S:List Tb} {T:Nat→List (List V)} (h:vZ S T) {v:Vw} {l:List Nat} (hc:dY S v=some l) {n k0:Nat} (h0:l[0]?=some k0) (hlt:∀ k∈l,k<S.length) (hn:n<(T k0).length):∀ i,i≤v.path.length→(pI S T l v.path n i).1.length=bQ S l (i+1):=by
 obtain ⟨_,hll⟩:=dI hc
 have hrow:∀ k r,k<S.length→r<(T k).length→(eO T k r).length=(aV S k).cols.length:=fun k r hk hr=>(h.row k hk r (eO T k r) (by unfold eO; rw [List.getElem?_eq_getElem hr]; rfl)).len
 intro i
 induction i with
 | zero =>
   intro _
   have hl:0<l.length:=by omega
   have e0:l[0]=k0:=by rw [List.getElem?_eq_getElem hl] at h0; exact Option.some.inj h0
   rw [pI,h0,Option.getD_some,kT S hl,e0]
   simp only
   rw [hrow k0 n (hlt _ (List.mem_of_getElem? h0)) hn]
   simp [bQ,bU]
 | succ i ih =>
   intro hi
   obtain ⟨k,hk,hr,_⟩:=LF h hc h0 hlt hn i (by omega)
   obtain ⟨m,k',hm,hk2,hst⟩:=lD hc i (by omega)
   rw [hk] at hk2
   cases hk2
   obtain ⟨f,q,g,_,_,_,_,_,hq,_,hnx⟩:=uO h (n:=n) (by omega) hk hm hst (hlt _ (List.mem_of_getElem? hk)) hr
   have hi1:i+1<l.length:=by omega
   have em:l[i+1]=m:=by rw [List.getElem?_eq_getElem hi1] at hm; exact Option.some.inj hm
   rw [hnx]
   simp only
   rw [List.length_append,ih (by omega),hrow m q (hlt _ (List.mem_of_getElem? hm)) hq,kT S hi1,em]
def jV (S:List Tb) (T:Nat→List (List V)) (l:List Nat) (path:List Int) (N i:Nat):List (List V):=bE (fun n=>(pI S T l path n i).1) N
theorem DU {α β:Type} {f:Nat→α} {g:α→List β} {h:Nat→β}:∀ {n:Nat},(∀ i,i<n→g (f i)=[h i])→(bE f n).flatMap g=bE h n
 | 0,_=>rfl
 | n+1,hh=>by
   rw [bE,List.flatMap_append,DU (fun i hi=>hh i (by omega)),List.flatMap_cons,List.flatMap_nil,List.append_nil,hh n (by omega),bE]
theorem UF {S:List Tb} {T:Nat→List (List V)} (h:vZ S T) {v:Vw} {l:List Nat} (hc:dY S v=some l) {k0:Nat} (h0:l[0]?=some k0) (hlt:∀ k∈l,k<S.length) {i k m f:Nat} {g:Fk} (hi:i<v.path.length) (hk:l[i]?=some k) (hm:l[i+1]?=some m) (hf:v.path[i]=(f:Int)) (hg:(aV S k).fk[f]?=some g) {c p:Nat} (hgc:g.cols=[(c:Int)]) (hp:(aV S m).pr=[(p:Int)]) :
  QZ (eqX (bQ S l i+c:Nat) (bQ S l (i+1)+p:Nat)) (jV S T l v.path (T k0).length i) (T m)=jV S T l v.path (T k0).length (i+1):=by
 obtain ⟨_,hll⟩:=dI hc
 unfold QZ jV
 refine DU fun n hn=>?_
 obtain ⟨k',hk',hr,_⟩:=LF h hc h0 hlt hn i (by omega)
 rw [hk] at hk'
 cases hk'
 obtain ⟨m',k'',hm',hk2,hst⟩:=lD hc i hi
 rw [hk] at hk2
 cases hk2
 rw [hm] at hm'
 cases hm'
 have hkS:=hlt k (List.mem_of_getElem? hk)
 have hmS:=hlt m (List.mem_of_getElem? hm)
 obtain ⟨f',q,g',hf',hg',_,hgm,_,hq,hval,hnx⟩:=uO h (n:=n) hi hk hm hst hkS hr
 obtain rfl:f'=f:=by omega
 rw [hg] at hg'
 cases hg'
 have hi1:i<l.length:=by omega
 have ek:l[i]=k:=by rw [List.getElem?_eq_getElem hi1] at hk; exact Option.some.inj hk
 have hlen:=aBO h hc h0 hlt hn i (by omega)
 have hrk:(eO T k (pI S T l v.path n i).2).length=(aV S k).cols.length:=(h.row k hkS _ (eO T k (pI S T l v.path n i).2) (by unfold eO; rw [List.getElem?_eq_getElem hr]; rfl)).len
 have hc0:(fU g.cols).toNat=c:=by rw [hgc]; rfl
 rw [hc0] at hval
 have hcl:=(List.getElem?_eq_some_iff.1 hval).1
 have hlast:(pI S T l v.path n i).1[bQ S l i+c]?=some (kJ (1+q)):=by
  have e:∃ A,(pI S T l v.path n i).1=A++eO T k (pI S T l v.path n i).2:=by
   cases i with
   | zero=>exact ⟨[],by rw [pI,hk]; rfl⟩
   | succ j=>exact ⟨(pI S T l v.path n j).1,by rw [pI,hk]; rfl⟩
  obtain ⟨A,hA⟩:=e
  have hAl:A.length=bQ S l i:=by
   rw [hA,List.length_append,hrk,kT S hi1,ek] at hlen
   omega
  rw [hA,List.getElem?_append_right (by omega),hAl,Nat.add_sub_cancel_left]
  exact hval
 rw [hnx]
 simp only
 have hTq:(T m)[q]?=some (eO T m q):=by unfold eO; rw [List.getElem?_eq_getElem hq]; rfl
 rw [AM hTq fun j y hy=>?_]
 ·rfl
 ·have hyo:=h.row m hmS j y hy
  have hy1:=hyo.pr
  have hp0:(fU (aV S m).pr).toNat=p:=by rw [hp]; rfl
  rw [hp0] at hy1
  rw [YC (x:=1+q) (y:=j+1)]
  ·rw [Bool.eq_iff_iff]; simp; omega
  ·rw [List.getElem?_append_left (by have:=(List.getElem?_eq_some_iff.1 hlast).1; exact this)]
   exact hlast
  ·rw [List.getElem?_append_right (by omega),hlen,Nat.add_sub_cancel_left]
   exact hy1
def OQ (e:Ex) (a:List V) (B:List (List V)) (k:Nat):List (List V):=((B.take k).filter fun b=>(aI e (a++b)).tr==1).map (a++·)
def VT (e:Ex) (A B:List (List V)) (i:Nat):List (List V):=QZ e (A.take i) B
theorem KH (e:Ex) (a:List V) (B:List (List V)):OQ e a B 0=[]:=rfl
theorem YD {e:Ex} {a:List V} {B:List (List V)} {k:Nat} (h:k<B.length):OQ e a B (k+1)=if (aI e (a++B[k])).tr==1 then OQ e a B k++[a++B[k]] else OQ e a B k:=by
 unfold OQ
 rw [List.take_succ_eq_append_getElem h,List.filter_append,List.map_append,List.filter_cons,List.filter_nil]
 split <;> simp
theorem RD (e:Ex) (a:List V) (B:List (List V)) (k:Nat):(OQ e a B k).length≤k:=by
 unfold OQ
 rw [List.length_map]
 have:=List.length_filter_le (fun b=>(aI e (a++b)).tr==1) (B.take k)
 have h2:(B.take k).length≤k:=by simp; omega
 omega
theorem AO (e:Ex) (A B:List (List V)):VT e A B 0=[]:=rfl
theorem KI {e:Ex} {A B:List (List V)} {i:Nat} (h:i<A.length):VT e A B (i+1)=VT e A B i++OQ e A[i] B B.length:=by
 unfold VT QZ OQ
 rw [List.take_succ_eq_append_getElem h,List.flatMap_append,List.flatMap_cons,List.flatMap_nil,List.append_nil,List.take_length]
theorem YE (e:Ex) (A B:List (List V)):VT e A B A.length=QZ e A B:=by unfold VT; rw [List.take_length]
theorem RE (e:Ex) (A B:List (List V)):∀ i,i≤A.length→(VT e A B i).length≤i*B.length
 | 0,_=>by simp [AO]
 | i+1,h=>by
   rw [KI (by omega),List.length_append,Nat.succ_mul]
   have:=RE e A B i (by omega)
   have:=RD e A[i] B B.length
   omega
theorem aDG {e:Ex} {A B:List (List V)} {i k:Nat} (hi:i<A.length) (hk:k≤B.length):(VT e A B i++OQ e A[i] B k).length≤A.length*B.length:=by
 rw [List.length_append]
 have h1:=RE e A B i (by omega)
 have h2:=RD e A[i] B k
 have h3:(i+1)*B.length≤A.length*B.length:=Nat.mul_le_mul_right _ (by omega)
 rw [Nat.succ_mul] at h3
 omega
def ZQ (ts:List Int) (e:Ex):Int:=if (mP ts e).2 ≠ 0 then (mP ts e).2 else if (mP ts e).1 ≠ 2 then 4 else 0
def OP (a b:List (List V)):Bool:=match a,b with
 | _,[]=>true
 | [],_::_=>false
 | x::_,y::_=>decide (eK x y≤0)
def CH:Nat→List (List V)→List (List V)→List (List V)
 | 0,_,_=>[]
 | n+1,a,b=>if OP a b=true then (a.headD [])::CH n a.tail b else (b.headD [])::CH n a b.tail
theorem RA:∀ (n:Nat) (a b:List (List V)),(CH n a b).length=n
 | 0,_,_=>rfl
 | n+1,a,b=>by
   rw [CH]
   split <;> rw [List.length_cons,RA n]
def vQ:Nat→List (List V)→List (List V)
 | 0,R=>R
 | m+1,R=>if R.length<2 then R else CH R.length (vQ m (R.take (R.length / 2))) (vQ m (R.drop (R.length / 2)))
theorem AN:∀ (m:Nat) (R:List (List V)),(vQ m R).length=R.length
 | 0,_=>rfl
 | m+1,R=>by
   rw [vQ]
   split
   ·rfl
   ·exact RA _ _ _
theorem RB {S:List Tb} {T:Nat→List (List V)} {l:List Nat} {v:Vw} {e:Ex} (hc:v.cond=[e]):∀ N,((jV S T l v.path N v.path.length).filter fun r=>(aI e r).tr==1).length=sG (tZ S T l v) N
 | 0=>rfl
 | n+1=>by
   have ih:=RB (S:=S) (T:=T) (l:=l) hc n
   unfold jV at ih ⊢
   rw [bE,List.filter_append,List.length_append,ih,sG]
   congr 1
   have hm:tZ S T l v n=((aI e (pI S T l v.path n v.path.length).1).tr==1):=by
    unfold tZ EO wH
    rw [hc,List.any_cons,List.any_nil,Bool.or_false]
    cases h:(aI e (pI S T l v.path n v.path.length).1).tr==1 <;> simp [bne,h]
   rw [hm,List.filter_cons,List.filter_nil]
   split <;> rfl
theorem RC {S:List Tb} {T:Nat→List (List V)} {l:List Nat} {v:Vw} (hc:v.cond=[]):∀ N,sG (tZ S T l v) N=N
 | 0=>rfl
 | n+1=>by
   rw [sG,RC hc n]
   have:tZ S T l v n=true:=by unfold tZ EO; rw [hc]; rfl
   rw [if_pos this]
def OB (n:List UInt8):Qy:=cH 1 n 0 exZ0 []
def fkC (S:List Tb) (l:List Nat) (v:Vw) (k:Nat):Int:=fU ((((aV S ((l[k]?).getD 0)).fk[((v.path[k]?).getD 0).toNat]?).map Fk.cols).getD [])
def prC (S:List Tb) (l:List Nat) (k:Nat):Int:=fU (aV S ((l[k+1]?).getD 0)).pr
def vJ (S:List Tb) (l:List Nat) (v:Vw):Nat→Qy
 | 0=>OB v.tb
 | k+1=>cH 5 [] 1 (eqX (bQ S l k+fkC S l v k) (bQ S l (k+1)+prC S l k)) [vJ S l v k,OB (aV S ((l[k+1]?).getD 0)).n]
theorem QP (c d:Int):(eqX c d).few 0=true:=by
 unfold eqX eA
 simp [Ex.few,fL]
theorem GG (S:List Tb) (l:List Nat) (v:Vw):∀ k,CQ (vJ S l v k)
 | 0=>.scan _
 | k+1=>.join _ (QP _ _) _ _ (GG S l v k) (.scan _)
end Go.Proofs.Tryz
