import Derived.Test.YtklnfckiabhceaaGreatDoorKEnvR
import Derived.Test.YtklnfckiabhceaaGreatDoorOrt
import Derived.Test.YtklnfckiabhceaaGreatDoorKOrd2
import Derived.Test.YtklnfckiabhceaaGreatDoorAbB
set_option linter.all false
namespace Go.Proofs.Tryz
def typT (x:Tb) (c:Int):Int:=((x.cols[c.toNat]?).map Col.t).getD 0
end Go.Proofs.Tryz
namespace Go.Proofs.Tryz
open Go.Ab
set_option maxRecDepth 100000
def scanE {α:Type} (f:Nat→α→Int):List α→Nat→Int
 | [],_=>0
 | x::l,i=>if f i x ≠ 0 then f i x else scanE f l (i+1)
def thenE (a b:Int):Int:=if a ≠ 0 then a else b
theorem scan_drop {α:Type} {f:Nat→α→Int} {l:List α} {i:Nat} (h:i<l.length):scanE f (l.drop i) i=if f i l[i] ≠ 0 then f i l[i] else scanE f (l.drop (i+1)) (i+1):=by
 rw [List.drop_eq_getElem_cons h,scanE]
theorem scan_end {α:Type} {f:Nat→α→Int} {l:List α} {i:Nat} (h:l.length≤i):scanE f (l.drop i) i=0:=by
 rw [List.drop_of_length_le h,scanE]
theorem then_bad {a b:Int} (h:a ≠ 0):thenE a b=a:=if_pos h
theorem then_ok {b:Int}:thenE 0 b=b:=if_neg (by simp)
theorem scan_ok {α:Type} {f:Nat→α→Int}:∀ {l:List α} {i:Nat},scanE f l i=0→∀ (j:Nat) (h:j<l.length),f (i+j) l[j]=0
 | x::l,i,h,j,hj=>by
   rw [scanE] at h
   split at h
   ·rename_i h0; exact absurd h h0
   ·rename_i h0
    cases j with
    | zero=>simpa using h0
    | succ j =>
      have:=scan_ok h j (by simpa using hj)
      rw [List.getElem_cons_succ,← this]
      congr 1
      omega
theorem scan_shift {α:Type} {g:α→Int}:∀ (l:List α) (i j:Nat),scanE (fun _=>g) l i=scanE (fun _=>g) l j
 | [],_,_=>rfl
 | x::l,i,j=>by rw [scanE,scanE,scan_shift l (i+1) (j+1)]
theorem scan_append {α:Type} {g:α→Int}:∀ (a b:List α) (i:Nat),scanE (fun _=>g) (a++b) i=thenE (scanE (fun _=>g) a i) (scanE (fun _=>g) b i)
 | [],b,i=>by rw [List.nil_append,scanE,then_ok]
 | x::a,b,i=>by
   rw [List.cons_append,scanE,scanE,scan_append a b (i+1),scan_shift b (i+1) i]
   split
   ·rename_i h; rw [then_bad h]
   ·rfl
theorem scan_map {α β:Type} {g:β→Int} {f:α→β}:∀ (l:List α) (i:Nat),scanE (fun _=>g) (l.map f) i=scanE (fun _ x=>g (f x)) l i
 | [],_=>rfl
 | x::l,i=>by rw [List.map_cons,scanE,scanE,scan_map l (i+1)]
theorem scan_mem {α:Type} {g:α→Int} {l:List α} {i:Nat} (h:scanE (fun _=>g) l i=0):∀ x∈l,g x=0:=by
 intro x hx
 obtain ⟨j,hj,rfl⟩:=List.getElem_of_mem hx
 exact scan_ok h j hj
def okL (n:Nat):List Int→List Int→Bool
 | _,[]=>true
 | pre,k::r=>(decide (0≤k)&&(decide (k<n)&&!pre.contains k))&&okL n (pre++[k]) r
def listB (n:Nat) (l:List Int):Bool:=okL n [] l&&!l.isEmpty
theorem okL_drop {n:Nat} {l:List Int} {i:Nat} (h:i<l.length):okL n (l.take i) (l.drop i)=((decide (0≤l[i])&&(decide (l[i]<n)&&!(l.take i).contains l[i]))&&okL n (l.take (i+1)) (l.drop (i+1))):=by
 rw [List.drop_eq_getElem_cons h,okL,take_snoc h]
theorem okL_mem {n:Nat}:∀ {l pre:List Int},okL n pre l=true→∀ k∈l,0≤k∧k<n
 | k::r,pre,h,x,hx=>by
   rw [okL] at h
   simp only [Bool.and_eq_true,decide_eq_true_eq] at h
   rcases List.mem_cons.1 hx with rfl | hx
   ·exact ⟨h.1.1,h.1.2.1⟩
   ·exact okL_mem h.2 x hx
theorem listB_mem {n:Nat} {l:List Int} (h:listB n l=true):∀ k∈l,0≤k∧k<n:=by
 unfold listB at h
 rw [Bool.and_eq_true] at h
 exact okL_mem h.1
def keyE (x:Tb) (l:List Int):Int:=if listB x.cols.length l=true then 0 else 6
def nulT (x:Tb) (c:Int):Bool:=((x.cols[c.toNat]?).map Col.b).getD false
def keysE (x:Tb):Int:=thenE (keyE x x.pr) (thenE (if x.pr.any (nulT x)=true then 4 else 0) (scanE (fun _=>keyE x) (x.un++x.fk.map Fk.cols) 0))
def colE (nm:List UInt8→Bool) (cs:List Col) (i:Nat) (c:Col):Int :=
 if nm c.n=false then 3 else if fidx (fun d:Col=>d.n==c.n) cs 0<i then 5 else if c.t=1∨c.t=2∨c.t=3 then 0 else 4
def chkE (ty:Ex→Int×Int) (e:Ex):Int:=if (ty e).2 ≠ 0 then (ty e).2 else if (ty e).1 ≠ 2 then 4 else 0
def tableE (nm:List UInt8→Bool) (ty:Tb→Ex→Int×Int) (x:Tb):Int :=
 if 8<x.cols.length∨3<x.un.length∨3<x.fk.length∨4<x.ch.length then 8 else if x.cols.length=0 then 9 else
 thenE (scanE (colE nm x.cols) x.cols 0) (thenE (keysE x) (scanE (fun _=>chkE (ty x)) x.ch 0))
def tabE (nm:List UInt8→Bool) (ty:Tb→Ex→Int×Int) (S:List Tb) (i:Nat) (x:Tb):Int :=
 if nm x.n=false then 3 else if fidx (fun y:Tb=>y.n==x.n) S 0<i then 5 else tableE nm ty x
def pairE (x o:Tb) (a b:List Int):Bool:=a.length==b.length&&(a.zip b).all fun p=>typT x p.1==typT o p.2
def refE (S:List Tb) (x:Tb) (f:Fk):Int:=match S[(tgt S f).toNat]? with
 | some o=>if tgt S f<0 then 11 else if pairE x o f.cols o.pr=true then 0 else 6
 | none=>11
def validE (nm:List UInt8→Bool) (ty:Tb→Ex→Int×Int) (S:List Tb):Int :=
 if 6<S.length then 8 else thenE (scanE (tabE nm ty S) S 0) (thenE (scanE (fun _ x=>scanE (fun _=>refE S x) x.fk 0) S 0) (ordS S).2)
theorem then_zero {a b:Int} (h:thenE a b=0):a=0∧b=0:=by
 unfold thenE at h
 split at h
 ·rename_i h0; exact absurd h h0
 ·rename_i h0; exact ⟨by simpa using h0,h⟩
theorem keysE_ok {x:Tb} (h:keysE x=0):(∀ k∈x.pr,0≤k∧k<x.cols.length)∧∀ f∈x.fk,∀ k∈f.cols,0≤k∧k<x.cols.length:=by
 obtain ⟨h1,h2⟩:=then_zero h
 obtain ⟨_,h3⟩:=then_zero h2
 have hk:∀ {l:List Int},keyE x l=0→∀ k∈l,0≤k∧k<x.cols.length:=by
  intro l hl
  unfold keyE at hl
  split at hl
  ·rename_i hb; exact listB_mem hb
  ·cases hl
 refine ⟨hk h1,fun f hf=>hk (scan_mem h3 f.cols ?_)⟩
 exact List.mem_append_right _ (List.mem_map.2 ⟨f,hf,rfl⟩)
theorem tableE_ok {nm:List UInt8→Bool} {ty:Tb→Ex→Int×Int} {x:Tb} (h:tableE nm ty x=0):keysE x=0:=by
 unfold tableE at h
 split at h
 ·cases h
 split at h
 ·cases h
 exact (then_zero (then_zero h).2).1
theorem tabE_ok {nm:List UInt8→Bool} {ty:Tb→Ex→Int×Int} {S:List Tb} (h:scanE (tabE nm ty S) S 0=0):∀ x∈S,keysE x=0:=by
 intro x hx
 obtain ⟨j,hj,rfl⟩:=List.getElem_of_mem hx
 have:=scan_ok h j hj
 unfold tabE at this
 split at this
 ·cases this
 split at this
 ·cases this
 exact tableE_ok this
end Go.Proofs.Tryz
namespace Go.Proofs.Tryz
open Go.Ab
set_option maxRecDepth 100000
set_option maxHeartbeats 2000000
theorem fidx_any {α:Type} {p:α→Bool}:∀ {l:List α} {i:Nat},decide (0≤fidx p l i)=l.any p
 | [],i=>by simp [fidx]
 | x::l,i=>by
   rw [fidx,List.any_cons]
   split
   ·rename_i h; rw [h]; simp
   ·rename_i h
    have h':p x=false:=by simpa using h
    rw [fidx_any,h',Bool.false_or]
theorem ints_one (l:List Int):∀ x∈ints l,x.length=1:=by
 intro x hx
 obtain ⟨n,_,rfl⟩:=List.mem_map.1 hx
 rfl
theorem i_index (l:List Int) (hl:l.length≤1000) (z:Int):Cf En 124 [.d (.sl (ints l)),.d (.int .i64 z)] [] (.d (.int .i64 (fidx (fun x=>z==x) l 0))) []:=by
 refine cf_intro mix (fn:=Tryz.f124) (by kernel_rfl) rfl (by kernel_rfl) (by decide) (by simp) ?_
 simp
 (repeat' (first|contradiction|exact .ok|apply And.intro|intro _|(refine gc (fun h=>?_) (fun h=>?_)<;>(have h':=h;(try simp at h');first|done|simp[h,h']|simp))))
 refine aloopT mix (by decide) (fun i:Nat=>{ s:=mkS [(0,.d (.sl (ints l))),(1,.d (.int .i64 z)),(7,.d (.int .i64 l.length)),(8,.d (.int .i64 i))],b:=mkB [] }) (fun i=>i≤l.length∧fidx (fun x=>z==x) (l.drop i) i=fidx (fun x=>z==x) l 0) (fun i=>l.length - i) 0 (by simp) (sub_mk _ [] .nil (by simp)) ?_
 rintro i ⟨hi,hf⟩
 by_cases hlt:i<l.length
 ·rw [fidx_drop hlt] at hf
  have hw:=wrap_in (n:=(i:Int)+1) (by omega) (by omega)
  obtain ⟨u,hu⟩:∃ u,u=l[i]:=⟨_,rfl⟩
  have hgi:∀ h,l[i]'h=u:=fun _=>hu.symm
  have hg:=ints_get hlt
  rw [← hu] at hf hg
  by_cases he:z=u
  ·subst he
   rw [if_pos (by simp)] at hf
   simp [hlt,hgi,hg,← hf]
   all_goals exact gz
  ·rw [if_neg (by simpa using he)] at hf
   simp [hlt,hgi,hg,he]
   (repeat' (first|contradiction|exact .ok|apply And.intro|intro _|(refine gc (fun h=>?_) (fun h=>?_)<;>(have h':=h;(try simp at h');first|done|simp[h,h',he]|simp[he]))))
   refine ⟨i+1,⟨by omega,by simpa using hf⟩,?_,by simp; omega⟩
   exact sub_mk _ [] .nil (by simp [hw])
 obtain rfl:i=l.length:=by omega
 rw [List.drop_length,fidx] at hf
 simp [← hf]
 all_goals exact gz
theorem i_contains (l:List Int) (hl:l.length≤1000) (z:Int):Cf En 72 [.d (.sl (ints l)),.d (.int .i64 z)] [] (.d (.bool (l.contains z))) []:=by
 refine cf_intro mix (fn:=Tryz.f72) (by kernel_rfl) rfl (by kernel_rfl) (by decide) (by simp) ?_
 have h:=fidx_any (p:=fun x=>z==x) (l:=l) (i:=0)
 have hc:l.contains z=l.any fun x=>z==x:=by rw [List.contains_eq_any_beq]
 rw [hc]
 simp
 (repeat' (first|contradiction|exact .ok|apply And.intro|intro _|(refine gc (fun h=>?_) (fun h=>?_)<;>(have h':=h;(try simp at h');first|done|simp[h,h']|simp))))
 refine acallT_plain (i_index l hl z) (by simp) ?_
 simp [h]
 all_goals exact gz
theorem s_key (x:Tb) (hx:x.ok) (l:List Int) (hl:l.length≤1000):Cf En 163 [x.a,.d (.sl (ints l))] [] (.d (.int .i64 (keyE x l))) []:=by
 refine cf_intro mix (fn:=Tryz.f163) (by kernel_rfl) rfl (by kernel_rfl) (by decide) (by simp) ?_
 have hcl:=hx.cols
 simp [Tb.a,Tb.c]
 (repeat' (first|contradiction|exact .ok|apply And.intro|intro _|(refine gc (fun h=>?_) (fun h=>?_)<;>(have h':=h;(try simp at h');first|done|simp[h,h']|simp))))
 refine aloopT mix (by decide) (fun i:Nat=>{ s:=mkS [(1,.d (.sl (ints l))),(2,.ptr 2 0 0),(7,.d (.sl (ints l))),(8,.d (.int .i64 l.length)),(9,.d (.int .i64 i))],b:=mkB [(2,2,.var (x.c.map AV.d))] }) (fun i=>i≤l.length∧okL x.cols.length (l.take i) (l.drop i)=okL x.cols.length [] l) (fun i=>l.length - i) 0 (by simp) (sub_mk _ [(2,2,_)] ⟨by simp,by simp,by simp [renOf,Blk.live,Tb.c],by simp⟩ (by simp [renOf])) ?_
 rintro i ⟨hi,hf⟩
 by_cases hlt:i<l.length
 ·rw [okL_drop hlt] at hf
  have hw:=wrap_in (n:=(i:Int)+1) (by omega) (by omega)
  obtain ⟨u,hu⟩:∃ u,u=l[i]:=⟨_,rfl⟩
  have hgi:∀ h,l[i]'h=u:=fun _=>hu.symm
  have hg:=ints_get hlt
  rw [← hu] at hf hg
  have htk:(ints l).take i=ints (l.take i):=by simp [ints,List.map_take]
  have hbad:(decide (0≤u)&&(decide (u<x.cols.length)&&!(l.take i).contains u))=false→keyE x l=6:=fun h=>by
   rw [h,Bool.false_and] at hf
   unfold keyE listB
   rw [← hf]; rfl
  by_cases h1:u<0
  ·have hb:=hbad (by simp; intro h; omega)
   simp [hlt,hgi,hg,h1,hb]
   (repeat' (first|contradiction|exact .ok|apply And.intro|intro _|(refine gc (fun h=>?_) (fun h=>?_)<;>(have h':=h;(try simp at h');first|done|simp[h,h',h1]|simp[h1]))))
  by_cases h2:(x.cols.length:Int)≤u
  ·have hb:=hbad (by simp; intro h h'; omega)
   simp [hlt,hgi,hg,h1,h2,hb,Tb.c]
   (repeat' (first|contradiction|exact .ok|apply And.intro|intro _|(refine gc (fun h=>?_) (fun h=>?_)<;>(have h':=h;(try simp at h');first|done|simp[h,h',h1,h2,Tb.c]|simp[h1,h2,Tb.c]))))
  have hci:=i_contains (l.take i) (by simp; omega) u
  have hone:=ints_one (l.take i)
  have h3:0≤u:=by omega
  have h4:u<x.cols.length:=by omega
  cases hc:(l.take i).contains u with
  | true =>
    have hb:=hbad (by rw [hc]; simp)
    rw [hc] at hci
    simp [hlt,hgi,hg,h1,h2,hb,Tb.c,htk]
    (repeat' (first|contradiction|exact .ok|apply And.intro|intro _|(refine gc (fun h=>?_) (fun h=>?_)<;>(have h':=h;(try simp at h');first|done|simp[h,h',h1,h2,Tb.c,htk]|simp[h1,h2,Tb.c,htk]))))
    rw [if_pos ⟨hi,hone⟩]
    simp
    (repeat' (first|contradiction|exact .ok|apply And.intro|intro _|(refine gc (fun h=>?_) (fun h=>?_)<;>(have h':=h;(try simp at h');first|done|simp[h,h']|simp))))
    refine acallT_plain hci (by simp) ?_
    simp [hb]
    all_goals exact gz
  | false =>
    rw [hc] at hci
    simp [hlt,hgi,hg,h1,h2,Tb.c,htk]
    (repeat' (first|contradiction|exact .ok|apply And.intro|intro _|(refine gc (fun h=>?_) (fun h=>?_)<;>(have h':=h;(try simp at h');first|done|simp[h,h',h1,h2,Tb.c,htk]|simp[h1,h2,Tb.c,htk]))))
    rw [if_pos ⟨hi,hone⟩]
    simp
    (repeat' (first|contradiction|exact .ok|apply And.intro|intro _|(refine gc (fun h=>?_) (fun h=>?_)<;>(have h':=h;(try simp at h');first|done|simp[h,h']|simp))))
    refine acallT_plain hci (by simp) ?_
    simp
    (repeat' (first|contradiction|exact .ok|apply And.intro|intro _|(refine gc (fun h=>?_) (fun h=>?_)<;>(have h':=h;(try simp at h');first|done|simp[h,h']|simp))))
    refine ⟨i+1,⟨by omega,?_⟩,?_,by simp; omega⟩
    ·rw [← hf,hc]; simp [h3,h4]
    ·exact sub_mk _ [(2,2,_)] ⟨by simp,by simp,by simp [renOf,Blk.live,Tb.c],by simp⟩ (by simp [renOf,hw])
 obtain rfl:i=l.length:=by omega
 rw [List.drop_length,okL] at hf
 cases l with
 | nil =>
   simp [keyE,listB]
   all_goals exact gz
 | cons a l =>
   have hk:keyE x (a::l)=0:=by unfold keyE listB; rw [← hf]; rfl
   have hne:¬ ((l.length:Int)+1=0):=by omega
   simp [hk,hne]
   (repeat' (first|contradiction|exact .ok|apply And.intro|intro _|(refine gc (fun h=>?_) (fun h=>?_)<;>(have h':=h;(try simp at h');first|done|simp[h,h',hne]|simp[hne]))))
end Go.Proofs.Tryz
namespace Go.Proofs.Tryz
open Go.Ab
set_option maxRecDepth 100000
set_option maxHeartbeats 16000000
theorem rk_kids (o:Int) (h1:1≤o) (h2:o≤28) (k:Nat):Cf En 105 [.d (.int .i64 o),.d (.int .i64 k)] [] (.d (.bool (cntd o k))) []:=by
 by_cases h5:o≤5
 ·have hc:cntd o k=((k:Int)==0):=by
   have ho:o=1∨o=2∨o=3∨o=4∨o=5:=by omega
   rcases ho with rfl | rfl | rfl | rfl | rfl <;> simp [cntd,isOp,opOf,ops]
  rw [hc]
  refine cf_intro mix (fn:=Tryz.f105) (by kernel_rfl) rfl (by kernel_rfl) (by decide) (by simp) ?_
  simp [h5]
  (repeat' (first|contradiction|exact .ok|apply And.intro|intro _|(refine gc (fun h=>?_) (fun h=>?_)<;>(have h':=h;(try simp at h');first|done|simp[h,h',h5]|simp[h5]))))
 have h6:6≤o:=by omega
 have hc:cntd o k=if o=11∨o=13∨o=21∨o=24∨o=25 then (k:Int)==1 else if o=26 then (k:Int)==3 else if o=28 then decide (2≤(k:Int)) else (k:Int)==2:=by
  rcases op_cases h6 h2 with rfl | rfl | rfl | rfl | rfl | rfl | rfl | rfl | rfl | rfl | rfl | rfl | rfl | rfl | rfl | rfl | rfl | rfl | rfl | rfl | rfl | rfl | rfl <;> simp [cntd,isOp,opOf,ops]
  rw [Bool.eq_iff_iff]
  simp
  omega
 rw [hc]
 refine cf_intro mix (fn:=Tryz.f105) (by kernel_rfl) rfl (by kernel_rfl) (by decide) (by simp) ?_
 have h5':¬ o≤5:=by omega
 by_cases c11:o=11
 ·subst c11; simp; (repeat' (first | contradiction | exact .of (by kernel_rfl) | refine And.intro ?_ ?_ | intro _ | (refine agrd_cases (fun h=>?_) (fun h=>?_) <;> (have h':=h; (try simp at h'); first | done | simp [h,h'] | simp))))
 by_cases c13:o=13
 ·subst c13; simp; (repeat' (first | contradiction | exact .of (by kernel_rfl) | refine And.intro ?_ ?_ | intro _ | (refine agrd_cases (fun h=>?_) (fun h=>?_) <;> (have h':=h; (try simp at h'); first | done | simp [h,h'] | simp))))
 by_cases c21:o=21
 ·subst c21; simp; (repeat' (first | contradiction | exact .of (by kernel_rfl) | refine And.intro ?_ ?_ | intro _ | (refine agrd_cases (fun h=>?_) (fun h=>?_) <;> (have h':=h; (try simp at h'); first | done | simp [h,h'] | simp))))
 by_cases c24:o=24
 ·subst c24; simp; (repeat' (first | contradiction | exact .of (by kernel_rfl) | refine And.intro ?_ ?_ | intro _ | (refine agrd_cases (fun h=>?_) (fun h=>?_) <;> (have h':=h; (try simp at h'); first | done | simp [h,h'] | simp))))
 by_cases c25:o=25
 ·subst c25; simp; (repeat' (first | contradiction | exact .of (by kernel_rfl) | refine And.intro ?_ ?_ | intro _ | (refine agrd_cases (fun h=>?_) (fun h=>?_) <;> (have h':=h; (try simp at h'); first | done | simp [h,h'] | simp))))
 by_cases c26:o=26
 ·subst c26; simp; (repeat' (first | contradiction | exact .of (by kernel_rfl) | refine And.intro ?_ ?_ | intro _ | (refine agrd_cases (fun h=>?_) (fun h=>?_) <;> (have h':=h; (try simp at h'); first | done | simp [h,h'] | simp))))
 by_cases c28:o=28
 ·subst c28; simp; (repeat' (first | contradiction | exact .of (by kernel_rfl) | refine And.intro ?_ ?_ | intro _ | (refine agrd_cases (fun h=>?_) (fun h=>?_) <;> (have h':=h; (try simp at h'); first | done | simp [h,h'] | simp))))
 simp [h5',c11,c13,c21,c24,c25,c26,c28]
 (repeat' (first|contradiction|exact .ok|apply And.intro|intro _|(refine gc (fun h=>?_) (fun h=>?_)<;>(have h':=h;(try simp at h');first|done|simp[h,h',h5',c11,c13,c21,c24,c25,c26,c28]|simp[h5',c11,c13,c21,c24,c25,c26,c28]))))
theorem rk_all (l:List Int) (hl:l.length≤1000) (t:Int):Cf En 221 [.d (.sl (ints l)),.d (.int .i64 t)] [] (.d (.bool (l.all (·==t)))) []:=by
 refine cf_intro mix (fn:=Tryz.f221) (by kernel_rfl) rfl (by kernel_rfl) (by decide) (by simp) ?_
 generalize hres:l.all (·==t)=res
 simp [ints]
 (repeat' (first|contradiction|exact .ok|apply And.intro|intro _|(refine gc (fun h=>?_) (fun h=>?_)<;>(have h':=h;(try simp at h');first|done|simp[h,h']|simp))))
 refine aloopT mix (by decide) (fun i:Nat=>{ s:=mkS [(0,.d (.sl (ints l))),(1,.d (.int .i64 t)),(4,.d (.bool false)),(5,.d (.int .i64 i))],b:=mkB [] }) (fun i:Nat=>i≤l.length∧(l.drop i).all (·==t)=res) (fun i=>l.length - i) 0 (by simp [hres]) (sub_mk _ [] .nil (by simp [ints])) ?_
 rintro i ⟨hi,ho⟩
 by_cases hlt:i<l.length
 ·have hlt':(i:Int)<l.length:=by omega
  have hg:l[i]?=some l[i]:=List.getElem?_eq_getElem hlt
  have hd:(l.drop i).all (·==t)=((l[i]==t)&&(l.drop (i+1)).all (·==t)):=by
   rw [List.drop_eq_getElem_cons hlt,List.all_cons]
  by_cases hx:l[i]=t
  ·simp [ints,hlt,hlt',hg,hx]
   (repeat' (first|contradiction|exact .ok|apply And.intro|intro _|(refine gc (fun h=>?_) (fun h=>?_)<;>(have h':=h;(try simp at h');first|done|simp[h,h',hlt,hlt',hg,hx]|simp[hlt,hlt',hg,hx]))))
   refine ⟨i+1,⟨hlt,?_⟩,?_,?_⟩
   ·rw [← ho,hd,hx]; simp
   ·refine sub_mk _ [] .nil ?_
    simp [ints]
    exact wrap_in (by omega) (by omega)
   ·simp; omega
  ·simp [ints,hlt,hlt',hg,hx]
   (repeat' (first|contradiction|exact .ok|apply And.intro|intro _|(refine gc (fun h=>?_) (fun h=>?_)<;>(have h':=h;(try simp at h');first|done|simp[h,h',hlt,hlt',hg,hx]|simp[hlt,hlt',hg,hx]))))
   all_goals (rw [← ho,hd]; simp [hx])
 ·have hlt':¬ (i:Int)<l.length:=by omega
  simp [ints,hlt,hlt']
  (repeat' (first|contradiction|exact .ok|apply And.intro|intro _|(refine gc (fun h=>?_) (fun h=>?_)<;>(have h':=h;(try simp at h');first|done|simp[h,h']|simp))))
  all_goals (rw [← ho,List.drop_eq_nil_of_le (by omega)]; rfl)
theorem rs_leaf (ts:List Int) (hts:ts.length≤1000) (o c n g:Int) (t:List UInt8) (h1:1≤o) (h2:o≤5) (h5:o=5→0≤g∧g<ts.length) :
  Cf En 202 [.d (.sl (ints ts)),(Ex.mk o c n t g []).a,.d (.sl [])] [] (.d (.int .i64 (resG ts o c g []))) []:=by
 have ho:o=1∨o=2∨o=3∨o=4∨o=5:=by omega
 refine cf_intro mix (fn:=Tryz.f202) (by kernel_rfl) rfl (by kernel_rfl) (by decide) (by simp) ?_
 rcases ho with rfl | rfl | rfl | rfl | rfl
 ·simp [Ex.a,Ex.c,kidsC_map,resG]; (repeat' (first | contradiction | exact .of (by kernel_rfl) | refine And.intro ?_ ?_ | intro _ | (refine agrd_cases (fun h=>?_) (fun h=>?_) <;> (have h':=h; (try simp at h'); first | done | simp [h,h'] | simp))))
 ·simp [Ex.a,Ex.c,kidsC_map,resG]; (repeat' (first | contradiction | exact .of (by kernel_rfl) | refine And.intro ?_ ?_ | intro _ | (refine agrd_cases (fun h=>?_) (fun h=>?_) <;> (have h':=h; (try simp at h'); first | done | simp [h,h'] | simp))))
 ·simp [Ex.a,Ex.c,kidsC_map,resG]; (repeat' (first | contradiction | exact .of (by kernel_rfl) | refine And.intro ?_ ?_ | intro _ | (refine agrd_cases (fun h=>?_) (fun h=>?_) <;> (have h':=h; (try simp at h'); first | done | simp [h,h'] | simp))))
 ·simp [Ex.a,Ex.c,kidsC_map,resG]; (repeat' (first | contradiction | exact .of (by kernel_rfl) | refine And.intro ?_ ?_ | intro _ | (refine agrd_cases (fun h=>?_) (fun h=>?_) <;> (have h':=h; (try simp at h'); first | done | simp [h,h'] | simp))))
 ·obtain ⟨a,b⟩:=h5 rfl
  have hgk:ts[g.toNat]?=some (ts[g.toNat]'(by omega)):=List.getElem?_eq_getElem _
  generalize ts[g.toNat]'(by omega)=k at hgk
  simp [Ex.a,Ex.c,kidsC_map,resG,ints,a,hgk]
  (repeat' (first|contradiction|exact .ok|apply And.intro|intro _|(refine gc (fun h=>?_) (fun h=>?_)<;>(have h':=h;(try simp at h');first|done|simp[h,h',a,hgk]|simp[a,hgk]))))
theorem rs_node (ts:List Int) (hts:ts.length≤1000) (o:Int) (ks:List Ex) (k:List Int) (h1:6≤o) (h2:o≤28) (hk:k.length≤12) (hc:cntd o k.length=true) :
  Cf En 202 [.d (.sl (ints ts)),(Ex.mk o 0 0 [] 0 ks).a,.d (.sl (ints k))] [] (.d (.int .i64 (resG ts o 0 0 k))) []:=by
 have hcn:=cnt_of hc h1
 refine cf_intro mix (fn:=Tryz.f202) (by kernel_rfl) rfl (by kernel_rfl) (by decide) (by simp) ?_
 by_cases g1:o≤11
 ·have ho:o=6∨o=7∨o=8∨o=9∨o=10∨o=11:=by omega
  rcases ho with rfl | rfl | rfl | rfl | rfl | rfl
  all_goals
   rw [show resG ts _ 0 0 k=if k.all (·==1)=true then 1 else 0 from by simp [resG]]
   simp [Ex.a,Ex.c,kidsC_map]
   (repeat' (first|contradiction|exact .ok|apply And.intro|intro _|(refine gc (fun h=>?_) (fun h=>?_)<;>(have h':=h;(try simp at h');first|done|simp[h,h']|simp))))
   refine acallT_plain (rk_all k (by omega) 1) (by simp) ?_
   cases k.all (·==1) <;> simp <;> (repeat' (first | contradiction | exact .of (by kernel_rfl) | refine And.intro ?_ ?_ | intro _ | (refine agrd_cases (fun h=>?_) (fun h=>?_) <;> (have h':=h; (try simp at h'); first | done | simp [h,h'] | simp))))
 by_cases g12:o=12
 ·subst g12
  rw [show resG ts _ 0 0 k=if k.all (·==3)=true then 3 else 0 from by simp [resG]]
  simp [Ex.a,Ex.c,kidsC_map]
  (repeat' (first|contradiction|exact .ok|apply And.intro|intro _|(refine gc (fun h=>?_) (fun h=>?_)<;>(have h':=h;(try simp at h');first|done|simp[h,h']|simp))))
  refine acallT_plain (rk_all k (by omega) 3) (by simp) ?_
  cases k.all (·==3) <;> simp <;> (repeat' (first | contradiction | exact .of (by kernel_rfl) | refine And.intro ?_ ?_ | intro _ | (refine agrd_cases (fun h=>?_) (fun h=>?_) <;> (have h':=h; (try simp at h'); first | done | simp [h,h'] | simp))))
 by_cases g13:o=13
 ·subst g13
  rw [show resG ts _ 0 0 k=if k.all (·==3)=true then 1 else 0 from by simp [resG]]
  simp [Ex.a,Ex.c,kidsC_map]
  (repeat' (first|contradiction|exact .ok|apply And.intro|intro _|(refine gc (fun h=>?_) (fun h=>?_)<;>(have h':=h;(try simp at h');first|done|simp[h,h']|simp))))
  refine acallT_plain (rk_all k (by omega) 3) (by simp) ?_
  cases k.all (·==3) <;> simp <;> (repeat' (first | contradiction | exact .of (by kernel_rfl) | refine And.intro ?_ ?_ | intro _ | (refine agrd_cases (fun h=>?_) (fun h=>?_) <;> (have h':=h; (try simp at h'); first | done | simp [h,h'] | simp))))
 by_cases g21:o=21
 ·subst g21
  rw [show resG ts 21 0 0 k=2 from by simp [resG]]
  simp [Ex.a,Ex.c,kidsC_map]
  all_goals exact gz
 by_cases g22:o=22
 ·subst g22
  rw [show resG ts _ 0 0 k=if k.all (·==2)=true then 2 else 0 from by simp [resG]]
  simp [Ex.a,Ex.c,kidsC_map]
  (repeat' (first|contradiction|exact .ok|apply And.intro|intro _|(refine gc (fun h=>?_) (fun h=>?_)<;>(have h':=h;(try simp at h');first|done|simp[h,h']|simp))))
  refine acallT_plain (rk_all k (by omega) 2) (by simp) ?_
  cases k.all (·==2) <;> simp <;> (repeat' (first | contradiction | exact .of (by kernel_rfl) | refine And.intro ?_ ?_ | intro _ | (refine agrd_cases (fun h=>?_) (fun h=>?_) <;> (have h':=h; (try simp at h'); first | done | simp [h,h'] | simp))))
 by_cases g23:o=23
 ·subst g23
  rw [show resG ts _ 0 0 k=if k.all (·==2)=true then 2 else 0 from by simp [resG]]
  simp [Ex.a,Ex.c,kidsC_map]
  (repeat' (first|contradiction|exact .ok|apply And.intro|intro _|(refine gc (fun h=>?_) (fun h=>?_)<;>(have h':=h;(try simp at h');first|done|simp[h,h']|simp))))
  refine acallT_plain (rk_all k (by omega) 2) (by simp) ?_
  cases k.all (·==2) <;> simp <;> (repeat' (first | contradiction | exact .of (by kernel_rfl) | refine And.intro ?_ ?_ | intro _ | (refine agrd_cases (fun h=>?_) (fun h=>?_) <;> (have h':=h; (try simp at h'); first | done | simp [h,h'] | simp))))
 by_cases g24:o=24
 ·subst g24
  rw [show resG ts _ 0 0 k=if k.all (·==2)=true then 2 else 0 from by simp [resG]]
  simp [Ex.a,Ex.c,kidsC_map]
  (repeat' (first|contradiction|exact .ok|apply And.intro|intro _|(refine gc (fun h=>?_) (fun h=>?_)<;>(have h':=h;(try simp at h');first|done|simp[h,h']|simp))))
  refine acallT_plain (rk_all k (by omega) 2) (by simp) ?_
  cases k.all (·==2) <;> simp <;> (repeat' (first | contradiction | exact .of (by kernel_rfl) | refine And.intro ?_ ?_ | intro _ | (refine agrd_cases (fun h=>?_) (fun h=>?_) <;> (have h':=h; (try simp at h'); first | done | simp [h,h'] | simp))))
 by_cases g25:o=25
 ·subst g25
  rw [show resG ts _ 0 0 k=if k.all (·==2)=true then 2 else 0 from by simp [resG]]
  simp [Ex.a,Ex.c,kidsC_map]
  (repeat' (first|contradiction|exact .ok|apply And.intro|intro _|(refine gc (fun h=>?_) (fun h=>?_)<;>(have h':=h;(try simp at h');first|done|simp[h,h']|simp))))
  refine acallT_plain (rk_all k (by omega) 2) (by simp) ?_
  cases k.all (·==2) <;> simp <;> (repeat' (first | contradiction | exact .of (by kernel_rfl) | refine And.intro ?_ ?_ | intro _ | (refine agrd_cases (fun h=>?_) (fun h=>?_) <;> (have h':=h; (try simp at h'); first | done | simp [h,h'] | simp))))
 by_cases g26:o=26
 ·subst g26
  have h3:k.length=3:=by simpa using hcn
  match k,h3 with
  | [a,b,c],_ =>
    rw [show resG ts 26 0 0 [a,b,c]=if a=2∧b=c then b else 0 from by simp [resG]]
    by_cases e1:a=2
    ·subst e1
     by_cases e2:b=c
     ·subst e2
      simp [Ex.a,Ex.c,kidsC_map,ints]
      all_goals exact gz
     ·simp [Ex.a,Ex.c,kidsC_map,ints,e2]
      (repeat' (first|contradiction|exact .ok|apply And.intro|intro _|(refine gc (fun h=>?_) (fun h=>?_)<;>(have h':=h;(try simp at h');first|done|simp[h,h',e2]|simp[e2]))))
    ·simp [Ex.a,Ex.c,kidsC_map,ints,e1]
     (repeat' (first|contradiction|exact .ok|apply And.intro|intro _|(refine gc (fun h=>?_) (fun h=>?_)<;>(have h':=h;(try simp at h');first|done|simp[h,h',e1]|simp[e1]))))
 by_cases g27:o=27
 ·subst g27
  have h3:k.length=2:=by simpa using hcn
  match k,h3 with
  | [a,b],_ =>
    rw [show resG ts 27 0 0 [a,b]=if a=b then a else 0 from by simp [resG]]
    by_cases e1:a=b
    ·subst e1
     simp [Ex.a,Ex.c,kidsC_map,ints]
     all_goals exact gz
    ·simp [Ex.a,Ex.c,kidsC_map,ints,e1]
     (repeat' (first|contradiction|exact .ok|apply And.intro|intro _|(refine gc (fun h=>?_) (fun h=>?_)<;>(have h':=h;(try simp at h');first|done|simp[h,h',e1]|simp[e1]))))
 have hk1:1≤k.length:=by
  by_cases g28:o=28
  ·subst g28; have:2≤k.length:=by simpa using hcn
   omega
  ·have g11:¬ o=11:=by omega
   have:k.length=2:=by simpa [g11,g13,g21,g24,g25,g26,g28] using hcn
   omega
 have hgk:k[0]?=some (k[0]'(by omega)):=List.getElem?_eq_getElem _
 generalize k[0]'(by omega)=a at hgk
 have g1':¬ o≤5:=by omega
 have c1:¬ o=1:=by omega
 have c2:¬ o=2:=by omega
 have c3:¬ o=3:=by omega
 have c4:¬ o=4:=by omega
 have c5:¬ o=5:=by omega
 have c6:¬ o=6:=by omega
 have c7:¬ o=7:=by omega
 have c8:¬ o=8:=by omega
 have c9:¬ o=9:=by omega
 have c10:¬ o=10:=by omega
 have c11:¬ o=11:=by omega
 rw [show resG ts o 0 0 k=if k.all (·==a)=true then 2 else 0 from by simp [resG,g1,g12,g13,g21,g22,g23,g24,g25,g26,g27,c1,c2,c3,c4,c5,hgk]]
 simp [Ex.a,Ex.c,kidsC_map,g1,g12,g13,g21,g22,g23,g24,g25,g26,g27,c1,c2,c3,c4,c5,c6,c7,c8,c9,c10,c11,ints,hgk]
 (repeat' (first|contradiction|exact .ok|apply And.intro|intro _|(refine gc (fun h=>?_) (fun h=>?_)<;>(have h':=h;(try simp at h');first|done|simp[h,h',g1,g12,g13,g21,g22,g23,g24,g25,g26,g27,c1,c2,c3,c4,c5,c6,c7,c8,c9,c10,c11,hgk]|simp[g1,g12,g13,g21,g22,g23,g24,g25,g26,g27,c1,c2,c3,c4,c5,c6,c7,c8,c9,c10,c11,hgk]))))
 refine acallT_plain (rk_all k (by omega) a) (by simp [ints]) ?_
 cases k.all (·==a) <;> simp <;> (repeat' (first | contradiction | exact .of (by kernel_rfl) | refine And.intro ?_ ?_ | intro _ | (refine agrd_cases (fun h=>?_) (fun h=>?_) <;> (have h':=h; (try simp at h'); first | done | simp [h,h'] | simp))))
end Go.Proofs.Tryz
namespace Go.Proofs.Tryz
open Go.Ab
set_option maxRecDepth 100000
set_option maxHeartbeats 2000000
theorem s_nul1 (x:Tb) (c:Int) (h:0≤c∧c<x.cols.length):Cf En 164 [.d (.int .i64 c),.ptr 1000000 0 0] [.var (x.c.map AV.d)] (.d (.bool (nulT x c))) [.var (x.c.map AV.d)]:=by
 refine cf_intro mix (fn:=Tryz.f164) (by kernel_rfl) rfl (by kernel_rfl) (by decide) (by simp) ?_
 obtain ⟨k,rfl⟩:∃ k:Nat,c=k:=⟨c.toNat,by omega⟩
 have hk:k<x.cols.length:=by omega
 obtain ⟨u,hu⟩:∃ u,u=x.cols[k]:=⟨_,rfl⟩
 have hgi:∀ h,x.cols[k]'h=u:=fun _=>hu.symm
 have hn:nulT x k=u.b:=by unfold nulT; rw [Int.toNat_natCast,List.getElem?_eq_getElem hk,hgi]; rfl
 rw [hn]
 simp [Tb.c,hk,hgi,Col.c]
 all_goals exact gz
theorem s_nulI (x:Tb) (l:List Int) (hl:l.length≤1000) (hr:∀ c∈l,0≤c∧c<x.cols.length):Cf En 125 [.d (.sl (ints l)),.clo 164 [.ptr 1000000 0 0]] [.var (x.c.map AV.d)] (.d (.int .i64 (fidx (nulT x) l 0))) [.var (x.c.map AV.d)]:=by
 refine cf_intro mix (fn:=Tryz.f125) (by kernel_rfl) rfl (by kernel_rfl) (by decide) (by simp) ?_
 simp
 (repeat' (first|contradiction|exact .ok|apply And.intro|intro _|(refine gc (fun h=>?_) (fun h=>?_)<;>(have h':=h;(try simp at h');first|done|simp[h,h']|simp))))
 refine aloopT mix (by decide) (fun i:Nat=>{ s:=mkS [(0,.d (.sl (ints l))),(1,.clo 164 [.ptr 1000000 0 0]),(7,.d (.int .i64 l.length)),(8,.d (.int .i64 i))],b:=mkB [(1000000,1000000,.var (x.c.map AV.d))] }) (fun i=>i≤l.length∧fidx (nulT x) (l.drop i) i=fidx (nulT x) l 0) (fun i=>l.length - i) 0 (by simp) (sub_mk _ [(1000000,1000000,_)] ⟨by simp,by simp,by simp [renOf,Blk.live,Tb.c],base1⟩ (by simp [renOf])) ?_
 rintro i ⟨hi,hf⟩
 by_cases hlt:i<l.length
 ·rw [fidx_drop hlt] at hf
  obtain ⟨u,hu⟩:∃ u,u=l[i]:=⟨_,rfl⟩
  have hg:=ints_get hlt
  have hgi:∀ h,l[i]'h=u:=fun _=>hu.symm
  have hru:=hr u (by rw [hu]; exact List.getElem_mem hlt)
  rw [← hu] at hf hg
  have hw:=wrap_in (n:=(i:Int)+1) (by omega) (by omega)
  simp [hlt,hgi,hg]
  (repeat' (first|contradiction|exact .ok|apply And.intro|intro _|(refine gc (fun h=>?_) (fun h=>?_)<;>(have h':=h;(try simp at h');first|done|simp[h,h']|simp))))
  refine acallT_hand [1000000] (s_nul1 x u hru) (by simp) (by simp) (by simp) (by simp [Tb.c]) (by simp) ?_
  cases he:nulT x u
  ·rw [he] at hf
   simp [he]
   (repeat' (first|contradiction|exact .ok|apply And.intro|intro _|(refine gc (fun h=>?_) (fun h=>?_)<;>(have h':=h;(try simp at h');first|done|simp[h,h',he]|simp[he]))))
   refine ⟨i+1,⟨by omega,by simpa using hf⟩,?_,by simp; omega⟩
   exact sub_mk _ [(1000000,1000000,_)] ⟨by simp,by simp,by simp [renOf,Blk.live,Tb.c],base1⟩ (by simp [renOf,hw])
  ·rw [he] at hf
   simp only [if_true] at hf
   simp [he,← hf,Tb.c]
   (repeat' (first|contradiction|exact .ok|apply And.intro|intro _|(refine gc (fun h=>?_) (fun h=>?_)<;>(have h':=h;(try simp at h');first|done|simp[h,h',he]|simp[he]))))
 obtain rfl:i=l.length:=by omega
 rw [List.drop_length,fidx] at hf
 simp [← hf,Tb.c]
 all_goals exact gz
theorem s_nulC (x:Tb) (l:List Int) (hl:l.length≤1000) (hr:∀ c∈l,0≤c∧c<x.cols.length):Cf En 74 [.d (.sl (ints l)),.clo 164 [.ptr 1000000 0 0]] [.var (x.c.map AV.d)] (.d (.bool (l.any (nulT x)))) [.var (x.c.map AV.d)]:=by
 refine cf_intro mix (fn:=Tryz.f74) (by kernel_rfl) rfl (by kernel_rfl) (by decide) (by simp) ?_
 have h:=fidx_any (p:=nulT x) (l:=l) (i:=0)
 simp
 (repeat' (first|contradiction|exact .ok|apply And.intro|intro _|(refine gc (fun h=>?_) (fun h=>?_)<;>(have h':=h;(try simp at h');first|done|simp[h,h']|simp))))
 refine acallT_hand [1000000] (s_nulI x l hl hr) (by simp) (by simp) (by simp) (by simp [Tb.c]) (by simp) ?_
 simp [h,Tb.c]
 all_goals exact gz
theorem s_cloneU (l:List (List Int)) (hl:l.length≤1000):Cf En 165 [.d (.sl (l.map intsD))] [] (.ref 1000000 0 l.length 1) [.arr 22 1 (l.map intsD) false]:=by
 refine cf_introS mix (fn:=Tryz.f165) (by kernel_rfl) rfl (by kernel_rfl) (by decide) (by simp) ?_
 cases l with
 | nil =>
   simp
   (repeat' (first|contradiction|exact .ok|apply And.intro|intro _|(refine gc (fun h=>?_) (fun h=>?_)<;>(have h':=h;(try simp at h');first|done|simp[h,h']|simp))))
   ·refine EndsS.mk _ (sub_nil (i:=2) (m:=9) (ety:=22) (sz:=1) (by simp) ?_ (by decide) (by decide)) ?_
    ·simp
    ·exact ⟨_,[(1000000,9,.arr 22 1 [] false)],by simp; rfl,⟨by simp,by simp,by simp [renOf,Blk.live],by simp⟩,by simp [List.zipIdx,firstName_eq],by simp [renOf]⟩
   ·refine EndsS.mk _ (.refl _ _ _ _) ?_
    exact ⟨_,[(1000000,7,.arr 22 1 [] false)],by simp; rfl,⟨by simp,by simp,by simp [renOf,Blk.live],by simp⟩,by simp [List.zipIdx,firstName_eq],by simp [renOf]⟩
 | cons a l =>
   have hs:=szs (l.length+1) (by simp at hl; omega) 24 (by decide)
   have hs2:=szs l.length (by simp at hl; omega) 24 (by decide)
   simp [hs,hs2,intsD]
   (repeat' (first|contradiction|exact .ok|apply And.intro|intro _|(refine gc (fun h=>?_) (fun h=>?_)<;>(have h':=h;(try simp at h');first|done|simp[h,h']|simp))))
   refine EndsS.mk _ (.refl _ _ _ _) ?_
   exact ⟨_,[(1000000,7,.arr 22 1 ((a::l).map intsD) false)],by simp; rfl,⟨by simp,by simp,by simp [renOf,Blk.live,intsD],by simp⟩,by simp [List.zipIdx,firstName_eq]; rfl,by simp [renOf]⟩
theorem keys_drop {x:Tb} {l:List (List Int)} {i:Nat} (h:i<l.length):scanE (fun _=>keyE x) (l.drop i) i=if keyE x l[i] ≠ 0 then keyE x l[i] else scanE (fun _=>keyE x) (l.drop (i+1)) (i+1):=scan_drop h
def keyLs (x:Tb) (j:Nat):List (List Int):=x.un++(x.fk.take j).map Fk.cols
theorem keyLs_len {x:Tb} {j:Nat} (h:j≤x.fk.length):(keyLs x j).length=x.un.length+j:=by
 unfold keyLs; simp; omega
theorem keyLs_zero (x:Tb):keyLs x 0=x.un:=by simp [keyLs]
theorem keyLs_full (x:Tb):keyLs x x.fk.length=x.un++x.fk.map Fk.cols:=by simp [keyLs]
theorem keyLs_succ {x:Tb} {j:Nat} (h:j<x.fk.length):keyLs x (j+1)=keyLs x j++[x.fk[j].cols]:=by unfold keyLs; rw [take_snoc h,List.map_append,List.append_assoc]; rfl
theorem s_keys (x:Tb) (hx:x.ok) (hu:∀ l∈x.un,l.length≤1000):Cf En 117 [x.a] [] (.d (.int .i64 (keysE x))) []:=by
 refine cf_intro mix (fn:=Tryz.f117) (by kernel_rfl) rfl (by kernel_rfl) (by decide) (by simp) ?_
 have hpl:=hx.pr
 have hfl:=hx.fk
 have hul:=hx.un
 simp [Tb.a,Tb.c]
 (repeat' (first|contradiction|exact .ok|apply And.intro|intro _|(refine gc (fun h=>?_) (fun h=>?_)<;>(have h':=h;(try simp at h');first|done|simp[h,h']|simp))))
 refine acallT_plain (s_key x hx x.pr hpl) (by simp [Tb.a,Tb.c]) ?_
 by_cases hk:keyE x x.pr=0
 rotate_left
 ·have hr:keysE x=keyE x x.pr:=by unfold keysE; rw [then_bad hk]
  rw [hr]
  simp [hk]
  (repeat' (first|contradiction|exact .ok|apply And.intro|intro _|(refine gc (fun h=>?_) (fun h=>?_)<;>(have h':=h;(try simp at h');first|done|simp[h,h',hk]|simp[hk]))))
 have hin:∀ k∈x.pr,0≤k∧k<x.cols.length:=by
  unfold keyE at hk
  split at hk
  ·rename_i hb; exact listB_mem hb
  ·cases hk
 simp [hk]
 (repeat' (first|contradiction|exact .ok|apply And.intro|intro _|(refine gc (fun h=>?_) (fun h=>?_)<;>(have h':=h;(try simp at h');first|done|simp[h,h']|simp))))
 refine acallT_hand [1] (s_nulC x x.pr hpl hin) (by simp) (by simp) (by simp) (by simp [Tb.c]) (by simp) ?_
 cases hn:x.pr.any (nulT x) with
 | true =>
   have hr:keysE x=4:=by unfold keysE; rw [hk,then_ok,hn]; rfl
   rw [hr]
   simp [Tb.c]
   all_goals exact gz
 | false =>
   have hr:keysE x=scanE (fun _=>keyE x) (x.un++x.fk.map Fk.cols) 0:=by unfold keysE; rw [hk,then_ok,hn]; exact then_ok
   rw [hr]
   clear hr hn hk hin
   simp [Tb.c]
   (repeat' (first|contradiction|exact .ok|apply And.intro|intro _|(refine gc (fun h=>?_) (fun h=>?_)<;>(have h':=h;(try simp at h');first|done|simp[h,h']|simp))))
   refine acallT_new [] (s_cloneU x.un hul) rfl (by simp) (by simp) (by decide) (by simp) (by simp) (by simp) ?_
   simp
   (repeat' (first|contradiction|exact .ok|apply And.intro|intro _|(refine gc (fun h=>?_) (fun h=>?_)<;>(have h':=h;(try simp at h');first|done|simp[h,h']|simp))))
   refine aloopT mix (by decide) (fun j:Nat=>{ s:=mkS [(1,.ptr 1 0 0),(4,.ref 900 0 (x.un.length+j) 1),(25,.d (.sl (x.fk.map Fk.c))),(26,.d (.int .i64 x.fk.length)),(27,.d (.int .i64 j))],b:=mkB [(1,1,.var (x.c.map AV.d)),(900,900,.arr 22 1 ((keyLs x j).map intsD) false)] }) (fun j=>j≤x.fk.length) (fun j=>x.fk.length - j) 0 (by simp)
    (sub_mk _ [(1,1,_),(900,24000,_)] ⟨by simp,by simp,by simp [renOf,Blk.live,Tb.c,keyLs_zero],by simp⟩ (by simp [renOf])) ?_
   intro j hj
   have hLl:=keyLs_len hj
   by_cases hjl:j<x.fk.length
   ·obtain ⟨f,hf⟩:∃ f,f=x.fk[j]:=⟨_,rfl⟩
    have hgf:∀ h,x.fk[j]'h=f:=fun _=>hf.symm
    have hwj:=wrap_in (n:=(j:Int)+1) (by omega) (by omega)
    have hnx:=keyLs_succ hjl
    rw [← hf] at hnx
    generalize hL:keyLs x j=L at *
    have htk:(L.map intsD).take (x.un.length+j)=L.map intsD:=List.take_of_length_le (by simp [hLl])
    simp [hjl,hgf,Fk.c,hLl,htk,szs (x.un.length+j) (by omega) 24 (by decide),szs (x.un.length+j+1) (by omega) 24 (by decide)]
    (repeat' (first|contradiction|exact .ok|apply And.intro|intro _|(refine gc (fun h=>?_) (fun h=>?_)<;>(have h':=h;(try simp at h');first|done|simp[h,h']|simp))))
    refine ⟨j+1,by omega,?_,by simp; omega⟩
    exact sub_mk _ [(1,1,_),(900,35,_)] ⟨by simp,by simp,by simp [renOf,Blk.live,Tb.c,hnx,intsD],by simp⟩ (by simp [renOf,hwj]; try omega)
   obtain rfl:j=x.fk.length:=by omega
   rw [keyLs_full] at *
   generalize hL:x.un++x.fk.map Fk.cols=L at *
   have hLm:∀ l∈L,l.length≤1000:=by
    intro l hl
    rw [← hL] at hl
    rcases List.mem_append.1 hl with h | h
    ·exact hu l h
    ·obtain ⟨f,hf,rfl⟩:=List.mem_map.1 h
     exact hx.fkc f hf
   simp
   (repeat' (first|contradiction|exact .ok|apply And.intro|intro _|(refine gc (fun h=>?_) (fun h=>?_)<;>(have h':=h;(try simp at h');first|done|simp[h,h']|simp))))
   refine aloopT mix (by decide) (fun j:Nat=>{ s:=mkS [(1,.ptr 1 0 0),(37,.ref 900 0 L.length 1),(38,.d (.int .i64 L.length)),(39,.d (.int .i64 j))],b:=mkB [(1,1,.var (x.c.map AV.d)),(900,900,.arr 22 1 (L.map intsD) false)] }) (fun j=>j≤L.length∧scanE (fun _=>keyE x) (L.drop j) j=scanE (fun _=>keyE x) L 0) (fun j=>L.length - j) 0 (by simp)
    (sub_mk _ [(1,1,_),(900,900,_)] ⟨by simp,by simp,by simp [renOf,Blk.live,Tb.c],by simp⟩ (by simp [renOf,hLl])) ?_
   rintro j ⟨hj,hs⟩
   by_cases hjl:j<L.length
   ·rw [keys_drop hjl] at hs
    obtain ⟨l,hl⟩:∃ l,l=L[j]:=⟨_,rfl⟩
    have hgf:∀ h,L[j]'h=l:=fun _=>hl.symm
    rw [← hl] at hs
    have hwj:=wrap_in (n:=(j:Int)+1) (by omega) (by omega)
    simp [hjl,hgf,intsD,Tb.c]
    (repeat' (first|contradiction|exact .ok|apply And.intro|intro _|(refine gc (fun h=>?_) (fun h=>?_)<;>(have h':=h;(try simp at h');first|done|simp[h,h']|simp))))
    refine acallT_plain (s_key x hx l (hLm l (by rw [hl]; exact List.getElem_mem hjl))) (by simp [Tb.a,Tb.c]) ?_
    by_cases hk:keyE x l=0
    ·rw [if_neg (by simpa using hk)] at hs
     simp [hk]
     (repeat' (first|contradiction|exact .ok|apply And.intro|intro _|(refine gc (fun h=>?_) (fun h=>?_)<;>(have h':=h;(try simp at h');first|done|simp[h,h']|simp))))
     refine ⟨j+1,⟨by omega,hs⟩,?_,by simp; omega⟩
     exact sub_mk _ [(1,1,_),(900,900,_)] ⟨by simp,by simp,by simp [renOf,Blk.live,Tb.c],by simp⟩ (by simp [renOf,hwj])
    ·rw [if_pos hk] at hs
     rw [← hs]
     simp [hk]
     (repeat' (first|contradiction|exact .ok|apply And.intro|intro _|(refine gc (fun h=>?_) (fun h=>?_)<;>(have h':=h;(try simp at h');first|done|simp[h,h',hk]|simp[hk]))))
   obtain rfl:j=L.length:=by omega
   rw [scan_end (Nat.le_refl _)] at hs
   rw [← hs]
   simp
   all_goals exact gz
end Go.Proofs.Tryz
