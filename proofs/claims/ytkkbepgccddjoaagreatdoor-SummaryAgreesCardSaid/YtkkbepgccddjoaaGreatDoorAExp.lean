import Derived.Test.YtkkbepgccddjoaaGreatDoorTy
import Derived.Test.YtkkbepgccddjoaaGreatDoorAShy
set_option linter.all false
namespace Go.Proofs.Tryz
open Go.Ab
@[simp] theorem cvAs_d (r:Nat→Option Nat) (bl:Nat→Blk) (kn:Bool):∀ l:List D,cvAs r bl kn (l.map AV.d)=(l.map AV.d,[])
  | []=>rfl
  | x::l=>by rw [List.map_cons,cvAs,cvAs_d r bl kn l]; rfl
@[simp] theorem toDs_d (bl:Nat→Blk):∀ l:List D,toDs bl (l.map AV.d)=some (l,[])
  | []=>rfl
  | x::l=>by rw [List.map_cons,toDs,toDs_d bl l]; rfl
@[simp] theorem names_d:∀ l:List D,List.flatMap AV.names (l.map AV.d)=[]
  | []=>rfl
  | x::l=>by rw [List.map_cons,List.flatMap_cons,names_d l]; rfl
end Go.Proofs.Tryz
namespace Go.Proofs.Tryz
open Go.Ab
inductive Ex where
 | mk (o c n:Int) (t:List UInt8) (g:Int) (kids:List Ex)
def Ex.kids:Ex→List Ex | .mk _ _ _ _ _ ks=>ks
mutual
def Ex.c:Ex→List D
 | .mk o c n t g ks=>[.int .i64 o,.int .i64 c,.int .i64 n,.str t,.int .i64 g,.sl (kidsC ks)]
def kidsC:List Ex→List (List D)
 | []=>[]
 | e::es=>e.c::kidsC es
end
theorem kidsC_map:∀ l:List Ex,kidsC l=l.map Ex.c
 | []=>rfl
 | e::es=>by rw [kidsC,kidsC_map es]; rfl
def Ex.a (e:Ex):AV:=.agg (e.c.map AV.d)
theorem Ex.kid_lt {e k:Ex} (h:k∈e.kids):SizeOf.sizeOf k<SizeOf.sizeOf e:=by
 cases e
 have:=List.sizeOf_lt_of_mem h
 simp only [Ex.kids] at this
 simp only [Ex.mk.sizeOf_spec]
 omega
theorem Ex.clen (e:Ex):e.c.length=6:=by cases e; rfl
theorem Ex.ctake (e:Ex):List.take 6 (e.c.map AV.d)=e.c.map AV.d:=List.take_of_length_le (by simp [Ex.clen])
theorem Ex.ctake' (e:Ex):List.take 6 e.c=e.c:=List.take_of_length_le (by simp [Ex.clen])
end Go.Proofs.Tryz
namespace Go.Proofs.Tryz
open Go.Ab
def constOf (v:V) (i:Int):Ex :=
 if v.k=1 then .mk 2 0 v.n [] 0 [] else if v.k=2 then .mk 3 0 v.n [] 0 [] else if v.k=3 then .mk 4 0 0 v.t 0 [] else .mk 1 i 0 [] 0 []
theorem r_const (v:V) (i:Int):Cf En 77 [v.a,.d (.int .i64 i)] [] (constOf v i).a []:=by
 refine cf_intro mix (fn:=Tryz.f77) (by kernel_rfl) rfl (by kernel_rfl) (by decide) (by simp) ?_
 unfold constOf
 by_cases h1:v.k=1
 ·simp [V.a,h1,Ex.a,Ex.c,kidsC]
  repeat' (first | exact .of (by kernel_rfl) | refine And.intro ?_ ?_)
 by_cases h2:v.k=2
 ·simp [V.a,h2,Ex.a,Ex.c,kidsC]
  repeat' (first | exact .of (by kernel_rfl) | refine And.intro ?_ ?_)
 by_cases h3:v.k=3
 ·simp [V.a,h3,Ex.a,Ex.c,kidsC]
  repeat' (first | exact .of (by kernel_rfl) | refine And.intro ?_ ?_)
 ·simp [V.a,h1,h2,h3,Ex.a,Ex.c,kidsC]
  repeat' (first | exact .of (by kernel_rfl) | refine And.intro ?_ ?_)
end Go.Proofs.Tryz
namespace Go.Proofs.Tryz
def fidx {α:Type} (p:α→Bool):List α→Nat→Int
 | [],_=>-1
 | x::l,i=>if p x=true then i else fidx p l (i+1)
theorem fidx_drop {α:Type} {p:α→Bool} {l:List α} {i k:Nat} (h:i<l.length):fidx p (l.drop i) k=if p l[i]=true then (k:Int) else fidx p (l.drop (i+1)) (k+1):=by
 rw [List.drop_eq_getElem_cons h,fidx]
end Go.Proofs.Tryz
namespace Go.Proofs.Tryz
open Go.Ab
mutual
def Ex.few:Ex→Nat→Bool
 | .mk _ _ _ t _ ks,d=>if 60<d then false else if 12<ks.length then false else if 200<t.length then false else fewAll ks (d+1)
def fewAll:List Ex→Nat→Bool
 | [],_=>true
 | e::es,d=>e.few d&&fewAll es d
end
theorem fewAll_all:∀ (l:List Ex) (d:Nat),fewAll l d=l.all fun e=>e.few d
 | [],_=>rfl
 | e::es,d=>by rw [fewAll,fewAll_all es d]; rfl
mutual
def Ex.size:Ex→Int
 | .mk _ _ _ _ _ ks=>sizeAll 1 ks
def sizeAll:Int→List Ex→Int
 | a,[]=>a
 | a,e::es=>sizeAll (IntKind.i64.wrap (a+e.size)) es
end
theorem sizeAll_drop {l:List Ex} {i:Nat} {x:Ex} (a:Int) (h:l[i]?=some x):sizeAll a (l.drop i)=sizeAll (IntKind.i64.wrap (a+x.size)) (l.drop (i+1)):=by
 obtain ⟨hi,rfl⟩:=List.getElem?_eq_some_iff.1 h
 rw [List.drop_eq_getElem_cons hi,sizeAll]
mutual
def Ex.fits:Ex→Prop
 | .mk _ _ _ _ _ ks=>ks.length≤9223372036854775807∧fitsAll ks
def fitsAll:List Ex→Prop
 | []=>True
 | e::es=>e.fits∧fitsAll es
end
theorem fitsAll_get:∀ (l:List Ex),fitsAll l→∀ e∈l,e.fits
 | e::es,h,x,hx=>by
   rcases List.mem_cons.1 hx with rfl | hx
   ·exact h.1
   ·exact fitsAll_get es h.2 x hx
theorem size_cf:∀ (m:Nat) (e:Ex),SizeOf.sizeOf e<m→e.fits→Cf En 113 [e.a] [] (.d (.int .i64 e.size)) []
 | 0,_,h,_=>absurd h (by omega)
 | m+1,.mk o c n t g ks,hm,hfit=>by
   refine cf_intro mix (fn:=Tryz.f113) (by kernel_rfl) rfl (by kernel_rfl) (by decide) (by simp) ?_
   have hf:Ex.size (.mk o c n t g ks)=sizeAll 1 ks:=by rw [Ex.size]
   rw [hf]
   rw [Ex.fits] at hfit
   generalize hres:sizeAll 1 ks=res
   simp [Ex.a,Ex.c,kidsC_map]
   refine ⟨.of (by kernel_rfl),.of (by kernel_rfl),.of (by kernel_rfl),?_⟩
   refine aloopT mix (by decide) (fun p:Nat×Int=>{ s:=mkS [(1,.ptr 1 0 0),(3,.d (.int .i64 p.2)),(4,.d (.int .i64 p.1))],b:=mkB [(1,1,.var (Ex.a (.mk o c n t g ks)).cells)] }) (fun p=>p.1≤ks.length∧sizeAll p.2 (ks.drop p.1)=res) (fun p=>ks.length - p.1) (0,1) (by simp [hres]) (sub_mk _ _ ⟨by simp,by simp,by simp [renOf,Blk.live,Ex.a,Ex.c,kidsC_map],by simp⟩ (by simp [renOf])) ?_
   rintro ⟨i,acc⟩ ⟨hi,ho⟩
   simp only at hi ho
   by_cases hlt:i<ks.length
   ·have hlt':(i:Int)<ks.length:=by omega
    have hg:ks[i]?=some ks[i]:=List.getElem?_eq_getElem hlt
    have hdr:=sizeAll_drop acc hg
    have hlen:ks[i].c.length=6:=by cases ks[i]; rfl
    have htk:List.take 6 (List.map AV.d ks[i].c)=List.map AV.d ks[i].c:=List.take_of_length_le (by simp [hlen])
    simp [Ex.a,Ex.c,kidsC_map,hlt,hlt',hg,hlen,htk]
    have hkid:SizeOf.sizeOf ks[i]<m:=by
     have:=Ex.kid_lt (e:=.mk o c n t g ks) (k:=ks[i]) (List.getElem_mem hlt)
     omega
    refine ⟨.of (by kernel_rfl),acallT_plain (size_cf m ks[i] hkid (fitsAll_get ks hfit.2 _ (List.getElem_mem hlt))) (by simp [Ex.a]) ?_⟩
    simp
    refine ⟨.of (by kernel_rfl),.of (by kernel_rfl),(i+1,IntKind.i64.wrap (acc+ks[i].size)),⟨hlt,?_⟩,?_,?_⟩
    ·rw [← ho,hdr]
    ·refine sub_mk _ [(1,1,_)] ⟨by simp,by simp,by simp [renOf,Blk.live,Ex.a,Ex.c,kidsC_map],by simp⟩ ?_
     simp [renOf]
     exact wrap_in (by omega) (by omega)
    ·simp; omega
   ·have hlt':¬ (i:Int)<ks.length:=by omega
    simp [Ex.a,Ex.c,kidsC_map,hlt,hlt']
    refine ⟨.of (by kernel_rfl),.of (by kernel_rfl),?_⟩
    rw [← ho,List.drop_eq_nil_of_le (by omega)]; rfl
def Ex.ok (e:Ex):Bool:=e.few 0&&decide (e.size≤600)
end Go.Proofs.Tryz
