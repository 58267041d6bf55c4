import Derived.Test.YtkkbepgccddjoaaGreatDoorPla
import Derived.Test.YtkkbepgccddjoaaGreatDoorSty
set_option linter.all false
namespace Go.Proofs.Tryz
open Go.Ab
set_option maxRecDepth 100000
set_option maxHeartbeats 4000000
def hdI (l:List Int):Int:=l.headD 0
def fkB (x:Tb) (f:Fk):Bool:=f.cols.length==1&&(typT x (hdI f.cols)==1&&(!nulT x (hdI f.cols)&&!(hdI f.cols==hdI x.pr)))
def fksB (x:Tb):List Int→List Fk→Bool
 | _,[]=>true
 | seen,f::r=>(fkB x f&&!seen.contains (hdI f.cols))&&fksB x (seen++[hdI f.cols]) r
def prB (x:Tb):Bool:=x.pr.length==1&&(typT x (hdI x.pr)==1&&x.un.isEmpty)
def plnT (x:Tb):Bool:=prB x&&(fksB x [] x.fk&&!(x.ch.any fun e=>e.cols.any (keyT x)))
def hdsT (x:Tb) (j:Nat):List Int:=(x.fk.take j).map fun f=>hdI f.cols
theorem hdsT_len {x:Tb} {j:Nat} (h:j≤x.fk.length):(hdsT x j).length=j:=by unfold hdsT; simp; omega
theorem hdsT_succ {x:Tb} {j:Nat} (h:j<x.fk.length):hdsT x (j+1)=hdsT x j++[hdI x.fk[j].cols]:=by unfold hdsT; rw [take_snoc h,List.map_append]; rfl
theorem fksB_drop {x:Tb} {j:Nat} (h:j<x.fk.length):fksB x (hdsT x j) (x.fk.drop j)=((fkB x x.fk[j]&&!(hdsT x j).contains (hdI x.fk[j].cols))&&fksB x (hdsT x (j+1)) (x.fk.drop (j+1))):=by
 rw [List.drop_eq_getElem_cons h,fksB,hdsT_succ h]
theorem nulT_at {x:Tb} {k:Nat} {u:Col} (hk:k<x.cols.length) (hu:x.cols[k]=u):nulT x k=u.b:=by
 unfold nulT; rw [Int.toNat_natCast,List.getElem?_eq_getElem hk,hu]; rfl
theorem len_one {α:Type} {l:List α} (h:l.length=1):∃ a,l=[a]:=by
 match l,h with
 | [a],_=>exact ⟨a,rfl⟩
def plF (x:Tb) (y:Nat×Bool):St :=
 { s:=mkS [(1,.ptr 1 0 0),(3,.ref 900 0 y.1 1),(29,.d (.sl (x.fk.map Fk.c))),(30,.d (.int .i64 x.fk.length)),(31,.d (.int .i64 y.1))],b:=mkB [(1,1,.var (x.c.map AV.d)),(900,900,.arr 3 1 (ints (hdsT x y.1)) y.2)] }
theorem p_plain (x:Tb) (hx:x.ok) (hk:keysE x=0) (hE:∀ e∈x.ch,ChOk e):Cf En 107 [x.a] [] (.d (.bool (plnT x))) []:=by
 refine cf_intro mix (fn:=Tryz.f107) (by kernel_rfl) rfl (by kernel_rfl) (by decide) (by simp) ?_
 obtain ⟨hkp,hkf⟩:=keysE_ok hk
 have hfl:=hx.fk
 by_cases c1:x.pr.length=1
 rotate_left
 ·have hP:plnT x=false:=by unfold plnT prB; simp [c1]
  have i1:¬ (x.pr.length:Int)=1:=by omega
  rw [hP]
  simp [Tb.a,Tb.c,c1,i1]
  (repeat' (first|contradiction|exact .ok|apply And.intro|intro _|(refine gc (fun h=>?_) (fun h=>?_)<;>(have h':=h;(try simp at h');first|done|simp[h,h',c1,i1]|simp[c1,i1]))))
 obtain ⟨p,hp⟩:=len_one c1
 obtain ⟨hp0,hp1⟩:=hkp p (by rw [hp]; simp)
 obtain ⟨a,rfl⟩:∃ a:Nat,p=a:=⟨p.toNat,by omega⟩
 have hal:a<x.cols.length:=by omega
 obtain ⟨u,hu⟩:∃ u,u=x.cols[a]:=⟨_,rfl⟩
 have hgu:∀ h,x.cols[a]'h=u:=fun _=>hu.symm
 have hhp:hdI x.pr=a:=by rw [hp]; rfl
 have hty:=typT_at hal hu.symm
 have hip:ints x.pr=[[.int .i64 a]]:=by rw [hp]; rfl
 by_cases c2:u.t=1
 rotate_left
 ·have hP:plnT x=false:=by unfold plnT prB; rw [hhp,hty]; simp [c2]
  rw [hP]
  simp [Tb.a,Tb.c,c1,hip,hal,hgu,Col.c,c2]
  (repeat' (first|contradiction|exact .ok|apply And.intro|intro _|(refine gc (fun h=>?_) (fun h=>?_)<;>(have h':=h;(try simp at h');first|done|simp[h,h',c1,hip,hal,hgu,Col.c,c2]|simp[c1,hip,hal,hgu,Col.c,c2]))))
  all_goals (try simp [c1,hip,hal,hgu,Col.c,c2])
  all_goals (repeat' (first | contradiction | exact .of (by kernel_rfl) | refine And.intro ?_ ?_ | intro _ | (refine agrd_cases (fun h=>?_) (fun h=>?_) <;> (have h':=h; (try simp at h'); first | done | simp [h,h',c2] | simp [c2]))))
 by_cases c3:x.un=[]
 rotate_left
 ·have hP:plnT x=false:=by unfold plnT prB; simp [c3]
  have hpos:(0:Int)<x.un.length:=by have:=List.length_pos_iff.2 c3; omega
  have hpos2:0<x.un.length:=by omega
  rw [hP]
  simp [Tb.a,Tb.c,c1,hip,hal,hgu,Col.c,c2,hpos,hpos2,c3]
  (repeat' (first|contradiction|exact .ok|apply And.intro|intro _|(refine gc (fun h=>?_) (fun h=>?_)<;>(have h':=h;(try simp at h');first|done|simp[h,h',c1,hip,hal,hgu,Col.c,c2,hpos,hpos2,c3]|simp[c1,hip,hal,hgu,Col.c,c2,hpos,hpos2,c3]))))
  all_goals (try simp [c1,hip,hal,hgu,Col.c,c2,hpos,hpos2,c3])
  all_goals (repeat' (first | contradiction | exact .of (by kernel_rfl) | refine And.intro ?_ ?_ | intro _ | (refine agrd_cases (fun h=>?_) (fun h=>?_) <;> (have h':=h; (try simp at h'); first | done | simp [h,h',c2] | simp [c2]))))
 have hPr:prB x=true:=by unfold prB; rw [c1,hhp,hty,c2,c3]; rfl
 have hR:plnT x=(fksB x [] x.fk&&!(x.ch.any fun e=>e.cols.any (keyT x))):=by unfold plnT; rw [hPr,Bool.true_and]
 rw [hR]
 have hck:=f_chkC x hx x.ch hx.ch hE
 generalize (x.ch.any fun e=>e.cols.any (keyT x))=C at *
 clear hR
 generalize hFB:fksB x [] x.fk=B at *
 simp [Tb.a,Tb.c,c1,hip,hal,hgu,Col.c,c2,c3]
 (repeat' (first|contradiction|exact .ok|apply And.intro|intro _|(refine gc (fun h=>?_) (fun h=>?_)<;>(have h':=h;(try simp at h');first|done|simp[h,h',c1,hip,hal,hgu,Col.c,c2,c3]|simp[c1,hip,hal,hgu,Col.c,c2,c3]))))
 refine aloopT mix (by decide) (plF x) (fun y=>y.1≤x.fk.length∧fksB x (hdsT x y.1) (x.fk.drop y.1)=B) (fun y=>x.fk.length - y.1) (0,false) ⟨by simp,hFB⟩
  (sub_mkn 3 900 3 1 (by simp) (by simp) (by decide) (by decide) _ [(1,1,_),(900,900,_)] ⟨by simp,by simp,by simp [renOf,Blk.live,Tb.c,hdsT,hip,c3,show ints []=[] from rfl],by simp⟩ (by simp [renOf])) ?_
 rintro ⟨j,fz⟩ ⟨hj,hB⟩
 simp only at hj hB
 have hSl:=hdsT_len hj
 unfold plF
 simp only
 by_cases hjl:j<x.fk.length
 ·rw [fksB_drop hjl] at hB
  have hw:=wrap_in (n:=(j:Int)+1) (by omega) (by omega)
  have hnx:=hdsT_succ hjl
  obtain ⟨f,hf⟩:∃ f,f=x.fk[j]:=⟨_,rfl⟩
  have hgf:∀ h,x.fk[j]'h=f:=fun _=>hf.symm
  have hfm:f∈x.fk:=by rw [hf]; exact List.getElem_mem hjl
  rw [← hf] at hB hnx
  have hbad:(fkB x f&&!(hdsT x j).contains (hdI f.cols))=false→B=false:=fun h=>by rw [← hB,h,Bool.false_and]
  have hgood:(fkB x f&&!(hdsT x j).contains (hdI f.cols))=true→fksB x (hdsT x (j+1)) (x.fk.drop (j+1))=B:=fun h=>by rw [← hB,h,Bool.true_and]
  clear hB
  have hci:=i_contains (hdsT x j) (by omega) (hdI f.cols)
  generalize hS:hdsT x j=S at *
  have htk:(ints S).take j=ints S:=List.take_of_length_le (by simp [hSl])
  by_cases d1:f.cols.length=1
  rotate_left
  ·have i1:¬ (f.cols.length:Int)=1:=by omega
   rw [hbad (by unfold fkB; simp [d1])]
   simp [hjl,hgf,Fk.c,d1,i1]
   (repeat' (first|contradiction|exact .ok|apply And.intro|intro _|(refine gc (fun h=>?_) (fun h=>?_)<;>(have h':=h;(try simp at h');first|done|simp[h,h',d1,i1]|simp[d1,i1]))))
  obtain ⟨q,hq⟩:=len_one d1
  obtain ⟨hq0,hq1⟩:=hkf f hfm q (by rw [hq]; simp)
  obtain ⟨b,rfl⟩:∃ a:Nat,q=a:=⟨q.toNat,by omega⟩
  have hbl:b<x.cols.length:=by omega
  obtain ⟨v,hv⟩:∃ u,u=x.cols[b]:=⟨_,rfl⟩
  have hgv:∀ h,x.cols[b]'h=v:=fun _=>hv.symm
  have hhf:hdI f.cols=b:=by rw [hq]; rfl
  have htv:=typT_at hbl hv.symm
  have hnv:=nulT_at hbl hv.symm
  have hiq:ints f.cols=[[.int .i64 b]]:=by rw [hq]; rfl
  have hfk:fkB x f=(v.t==1&&(!v.b&&!((b:Int)==a))):=by unfold fkB; rw [d1,hhf,htv,hnv,hhp]; rfl
  rw [hhf] at hci hbad hgood hnx
  rw [hfk] at hbad hgood
  by_cases d2:v.t=1
  rotate_left
  ·rw [hbad (by simp [d2])]
   simp [hjl,hgf,Fk.c,d1,hiq,hbl,hgv,Tb.c,Col.c,d2]
   (repeat' (first|contradiction|exact .ok|apply And.intro|intro _|(refine gc (fun h=>?_) (fun h=>?_)<;>(have h':=h;(try simp at h');first|done|simp[h,h',d1,hiq,hbl,hgv,Tb.c,Col.c,d2]|simp[d1,hiq,hbl,hgv,Tb.c,Col.c,d2]))))
   all_goals (try simp [hiq,hbl,hgv,Tb.c,Col.c,d2])
   all_goals (repeat' (first | contradiction | exact .of (by kernel_rfl) | refine And.intro ?_ ?_ | intro _ | (refine agrd_cases (fun h=>?_) (fun h=>?_) <;> (have h':=h; (try simp at h'); first | done | simp [h,h',d2] | simp [d2]))))
  by_cases d3:v.b=true
  ·rw [hbad (by simp [d3])]
   simp [hjl,hgf,Fk.c,d1,hiq,hbl,hgv,Tb.c,Col.c,d2,d3]
   (repeat' (first|contradiction|exact .ok|apply And.intro|intro _|(refine gc (fun h=>?_) (fun h=>?_)<;>(have h':=h;(try simp at h');first|done|simp[h,h',d1,hiq,hbl,hgv,Tb.c,Col.c,d2,d3]|simp[d1,hiq,hbl,hgv,Tb.c,Col.c,d2,d3]))))
   all_goals (try simp [hiq,hbl,hgv,Tb.c,Col.c,d2,d3])
   all_goals (repeat' (first | contradiction | exact .of (by kernel_rfl) | refine And.intro ?_ ?_ | intro _ | (refine agrd_cases (fun h=>?_) (fun h=>?_) <;> (have h':=h; (try simp at h'); first | done | simp [h,h',d2,d3] | simp [d2,d3]))))
  have d3':v.b=false:=by simpa using d3
  by_cases d4:b=a
  ·subst d4
   rw [hbad (by simp)]
   simp [hjl,hgf,Fk.c,d1,hiq,hip,hbl,hgv,Tb.c,Col.c,d2,d3']
   (repeat' (first|contradiction|exact .ok|apply And.intro|intro _|(refine gc (fun h=>?_) (fun h=>?_)<;>(have h':=h;(try simp at h');first|done|simp[h,h',d1,hiq,hip,hbl,hgv,Tb.c,Col.c,d2,d3']|simp[d1,hiq,hip,hbl,hgv,Tb.c,Col.c,d2,d3']))))
   all_goals (try simp [hiq,hip,hbl,hgv,Tb.c,Col.c,d2,d3'])
   all_goals (repeat' (first | contradiction | exact .of (by kernel_rfl) | refine And.intro ?_ ?_ | intro _ | (refine agrd_cases (fun h=>?_) (fun h=>?_) <;> (have h':=h; (try simp at h'); first | done | simp [h,h',d2,d3'] | simp [d2,d3']))))
  have i4:¬ (b:Int)=a:=by omega
  cases hcc:S.contains (b:Int) with
  | true =>
    rw [hcc] at hci
    rw [hbad (by rw [hcc]; simp)]
    simp [hjl,hgf,Fk.c,d1,hiq,hip,hbl,hgv,Tb.c,Col.c,d2,d3',d4,i4]
    (repeat' (first|contradiction|exact .ok|apply And.intro|intro _|(refine gc (fun h=>?_) (fun h=>?_)<;>(have h':=h;(try simp at h');first|done|simp[h,h',d1,hiq,hip,hbl,hgv,Tb.c,Col.c,d2,d3',d4,i4]|simp[d1,hiq,hip,hbl,hgv,Tb.c,Col.c,d2,d3',d4,i4]))))
    refine acallT_plain hci (by simp [htk,hSl]) ?_
    simp
    all_goals exact gz
  | false =>
    rw [hcc] at hci
    have hB:=hgood (by rw [hcc]; simp [d2,d3',i4])
    simp [hjl,hgf,Fk.c,d1,hiq,hip,hbl,hgv,Tb.c,Col.c,d2,d3',d4,i4]
    (repeat' (first|contradiction|exact .ok|apply And.intro|intro _|(refine gc (fun h=>?_) (fun h=>?_)<;>(have h':=h;(try simp at h');first|done|simp[h,h',d1,hiq,hip,hbl,hgv,Tb.c,Col.c,d2,d3',d4,i4]|simp[d1,hiq,hip,hbl,hgv,Tb.c,Col.c,d2,d3',d4,i4]))))
    refine acallT_plain hci (by simp [htk,hSl]) ?_
    simp [hiq,hSl,htk,szs j (by omega) 8 (by decide),szs (j+1) (by omega) 8 (by decide)]
    (repeat' (first|contradiction|exact .ok|apply And.intro|intro _|(refine gc (fun h=>?_) (fun h=>?_)<;>(have h':=h;(try simp at h');first|done|simp[h,h']|simp))))
    refine ⟨(j+1,true),⟨by simp only; omega,hB⟩,?_,by simp; omega⟩
    refine sub_mk _ [(1,1,_),(900,87,_)] ⟨by simp,by simp,by simp [renOf,Blk.live,Tb.c,hip,c3,hnx,ints_snoc],by simp⟩ (by simp [renOf,hw])
 obtain rfl:j=x.fk.length:=by omega
 rw [List.drop_length,fksB] at hB
 rw [← hB,Bool.true_and]
 simp [Tb.c]
 (repeat' (first|contradiction|exact .ok|apply And.intro|intro _|(refine gc (fun h=>?_) (fun h=>?_)<;>(have h':=h;(try simp at h');first|done|simp[h,h']|simp))))
 refine acallT_hand [1] hck (by simp) (by simp) (by simp) (by simp [Tb.c]) (by simp) ?_
 simp
 all_goals exact gz
def plnS (e:Int) (S:List Tb):Bool:=e==0&&S.all plnT
theorem p_plain1 (x:Tb) (hx:x.ok) (hk:keysE x=0) (hE:∀ e∈x.ch,ChOk e):Cf En 106 [x.a] [] (.d (.bool (!plnT x))) []:=by
 refine cf_intro mix (fn:=Tryz.f106) (by kernel_rfl) rfl (by kernel_rfl) (by decide) (by simp) ?_
 simp [Tb.a,Tb.c]
 (repeat' (first|contradiction|exact .ok|apply And.intro|intro _|(refine gc (fun h=>?_) (fun h=>?_)<;>(have h':=h;(try simp at h');first|done|simp[h,h']|simp))))
 refine acallT_plain (p_plain x hx hk hE) (by simp [Tb.a,Tb.c]) ?_
 simp
 all_goals exact gz
theorem p_plainI (S:List Tb) (hl:S.length≤1000) (hS:∀ x∈S,x.ok) (hK:∀ x∈S,keysE x=0) (hE:∀ x∈S,∀ e∈x.ch,ChOk e):Cf En 128 [.d (.sl (S.map Tb.c)),.clo 106 []] [] (.d (.int .i64 (fidx (fun x=>!plnT x) S 0))) []:=by
 refine cf_intro mix (fn:=Tryz.f128) (by kernel_rfl) rfl (by kernel_rfl) (by decide) (by simp) ?_
 simp
 (repeat' (first|contradiction|exact .ok|apply And.intro|intro _|(refine gc (fun h=>?_) (fun h=>?_)<;>(have h':=h;(try simp at h');first|done|simp[h,h']|simp))))
 refine aloopT mix (by decide) (fun i:Nat=>{ s:=mkS [(0,.d (.sl (S.map Tb.c))),(1,.clo 106 []),(7,.d (.int .i64 S.length)),(8,.d (.int .i64 i))],b:=mkB [] }) (fun i=>i≤S.length∧fidx (fun x=>!plnT x) (S.drop i) i=fidx (fun x=>!plnT x) S 0) (fun i=>S.length - i) 0 (by simp) (sub_mk _ [] .nil (by simp)) ?_
 rintro i ⟨hi,hf⟩
 by_cases hlt:i<S.length
 ·rw [fidx_drop hlt] at hf
  obtain ⟨u,hu⟩:∃ u,u=S[i]:=⟨_,rfl⟩
  have hgi:∀ h,S[i]'h=u:=fun _=>hu.symm
  have hum:u∈S:=by rw [hu]; exact List.getElem_mem hlt
  rw [← hu] at hf
  have hw:=wrap_in (n:=(i:Int)+1) (by omega) (by omega)
  simp [hlt,hgi,Tb.c]
  (repeat' (first|contradiction|exact .ok|apply And.intro|intro _|(refine gc (fun h=>?_) (fun h=>?_)<;>(have h':=h;(try simp at h');first|done|simp[h,h']|simp))))
  refine acallT_plain (p_plain1 u (hS u hum) (hK u hum) (hE u hum)) (by simp [Tb.a,Tb.c]) ?_
  cases he:plnT u
  ·rw [he] at hf
   simp only [Bool.not_false,if_true] at hf
   simp [he,← hf]
   (repeat' (first|contradiction|exact .ok|apply And.intro|intro _|(refine gc (fun h=>?_) (fun h=>?_)<;>(have h':=h;(try simp at h');first|done|simp[h,h',he]|simp[he]))))
  ·rw [he] at hf
   simp [he]
   (repeat' (first|contradiction|exact .ok|apply And.intro|intro _|(refine gc (fun h=>?_) (fun h=>?_)<;>(have h':=h;(try simp at h');first|done|simp[h,h',he]|simp[he]))))
   refine ⟨i+1,⟨by omega,by simpa using hf⟩,?_,by simp; omega⟩
   exact sub_mk _ [] .nil (by simp [hw])
 obtain rfl:i=S.length:=by omega
 rw [List.drop_length,fidx] at hf
 simp [← hf]
 all_goals exact gz
theorem p_plainC (S:List Tb) (hl:S.length≤1000) (hS:∀ x∈S,x.ok) (hK:∀ x∈S,keysE x=0) (hE:∀ x∈S,∀ e∈x.ch,ChOk e):Cf En 105 [.d (.sl (S.map Tb.c)),.clo 106 []] [] (.d (.bool (!S.all plnT))) []:=by
 refine cf_intro mix (fn:=Tryz.f105) (by kernel_rfl) rfl (by kernel_rfl) (by decide) (by simp) ?_
 have h:=fidx_any (p:=fun x=>!plnT x) (l:=S) (i:=0)
 rw [show (!S.all plnT)=S.any fun x=>!plnT x from by rw [List.not_all_eq_any_not]]
 have hc:=p_plainI S hl hS hK hE
 generalize (S.any fun x=>!plnT x)=A at *
 generalize fidx (fun x=>!plnT x) S 0=F at *
 simp
 (repeat' (first|contradiction|exact .ok|apply And.intro|intro _|(refine gc (fun h=>?_) (fun h=>?_)<;>(have h':=h;(try simp at h');first|done|simp[h,h']|simp))))
 refine acallT_plain hc (by simp) ?_
 simp [h]
 all_goals exact gz
theorem validE_ok {nm:List UInt8→Bool} {ty:Tb→Ex→Int×Int} {S:List Tb} (h:validE nm ty S=0):∀ x∈S,keysE x=0:=by
 unfold validE at h
 split at h
 ·cases h
 exact tabE_ok (then_zero h).1
theorem p_Plain (S:List Tb) (hl:S.length≤1000) (hS:∀ x∈S,x.ok) (hE:∀ x∈S,∀ e∈x.ch,ChOk e) (ty:Tb→Ex→Int×Int)
  (hv:Cf Es 104 [schA S] [] (.d (.int .i64 (validE nm3 ty S))) []) :
  Cf Es 59 [schA S] [] (.d (.bool (plnS (validE nm3 ty S) S))) []:=by
 refine cf_intro mixs (fn:=Tryz.f59) (by kernel_rfl) rfl (by kernel_rfl) (by decide) (by simp) ?_
 have hk:validE nm3 ty S=0→∀ x∈S,keysE x=0:=validE_ok
 unfold plnS
 generalize validE nm3 ty S=e at *
 simp [schA]
 (repeat' (first|contradiction|exact .ok|apply And.intro|intro _|(refine gc (fun h=>?_) (fun h=>?_)<;>(have h':=h;(try simp at h');first|done|simp[h,h']|simp))))
 refine acallT_plain hv (by simp [schA]) ?_
 by_cases he:e=0
 ·subst he
  have hc:=ups (p_plainC S hl hS (hk rfl) hE)
  generalize S.all plnT=A at *
  simp
  (repeat' (first|contradiction|exact .ok|apply And.intro|intro _|(refine gc (fun h=>?_) (fun h=>?_)<;>(have h':=h;(try simp at h');first|done|simp[h,h']|simp))))
  refine acallT_plain hc (by simp) ?_
  simp
  all_goals exact gz
 ·simp [he]
  (repeat' (first|contradiction|exact .ok|apply And.intro|intro _|(refine gc (fun h=>?_) (fun h=>?_)<;>(have h':=h;(try simp at h');first|done|simp[h,h',he]|simp[he]))))
end Go.Proofs.Tryz
