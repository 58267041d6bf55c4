import Derived.Test.YtkkbepgccddjoaaGreatDoorANamp
import Derived.Test.YtkkbepgccddjoaaGreatDoorClbR
import Derived.Test.YtkkbepgccddjoaaGreatDoorARe0
import Derived.Test.YtkkbepgccddjoaaGreatDoorOrt
import Derived.Test.YtkkbepgccddjoaaGreatDoorAClo
import Derived.Test.YtkkbepgccddjoaaGreatDoorNamR
import Derived.Test.YtkkbepgccddjoaaGreatDoorAbB
set_option linter.all false
namespace Go.Proofs.Tryz
def typT (x:Tb) (c:Int):Int:=((x.cols[c.toNat]?).map Col.t).getD 0
end Go.Proofs.Tryz
namespace Go.Proofs.Tryz
open Go.Ab
set_option maxRecDepth 100000
set_option maxHeartbeats 4000000
theorem fewC_kids {o c n:Int} {t:List UInt8} {g:Int} {ks:List Ex} {q:Nat} (hq:(Ex.mk o c n t g ks).few q=true):ks.length≤12∧t.length≤200∧∀ e∈ks,e.few (q+1)=true:=by
 rw [Ex.few] at hq
 by_cases h1:60<q
 ·simp [h1] at hq
 by_cases h2:12<ks.length
 ·simp [h1,h2] at hq
 by_cases h3:200<t.length
 ·simp [h1,h2,h3] at hq
 ·simp [h1,h2,h3] at hq
  rw [fewAll_all,List.all_eq_true] at hq
  exact ⟨by omega,by omega,hq⟩
theorem nodesAll_get:∀ (l:List Ex),∀ e∈l,e.nodes≤nodesAll l
 | e::es,x,hx=>by
   rw [nodesAll]
   rcases List.mem_cons.1 hx with rfl | hx
   ·omega
   ·have:=nodesAll_get es x hx; omega
def accV (a:List Int):AV:=if a=[] then .nils else .d (nums a)
@[simp] theorem cv_accV (r:Nat→Option Nat) (bl:Nat→Blk) (a:List Int):cvA r bl true (accV a)=(accV a,[]):=by
  unfold accV
  split <;> simp [cvA]
end Go.Proofs.Tryz
namespace Go.Proofs.Tryz
open Go.Ab
set_option maxRecDepth 100000
set_option maxHeartbeats 2000000
def eachG {α β:Type} (f:α→β×Int):List α→List β×Int
 | []=>([],0)
 | x::xs=>if (f x).2=0 then (if (eachG f xs).2=0 then ((f x).1::(eachG f xs).1,0) else ([],(eachG f xs).2)) else ([],(f x).2)
theorem eachG_ok {α β:Type} {f:α→β×Int}:∀ {l:List α},(∀ x∈l,(f x).2=0)→eachG f l=(l.map fun x=>(f x).1,0)
 | [],_=>rfl
 | x::xs,h=>by
   rw [eachG,if_pos (h x List.mem_cons_self),eachG_ok fun y hy=>h y (List.mem_cons_of_mem _ hy),if_pos rfl]; rfl
theorem eachG_bad {α β:Type} {f:α→β×Int}:∀ {l:List α} {i:Nat} {x:α},(∀ j y,j<i→l[j]?=some y→(f y).2=0)→l[i]?=some x→(f x).2 ≠ 0→eachG f l=([],(f x).2)
 | [],i,x,_,h,_=>by simp at h
 | y::ys,0,x,_,h,hn=>by
   have:y=x:=by simpa using h
   subst this
   rw [eachG,if_neg hn]
 | y::ys,i+1,x,ho,h,hn=>by
   have h0:=ho 0 y (by omega) rfl
   have h1:=eachG_bad (l:=ys) (i:=i) (x:=x) (fun j z hj hz=>ho (j+1) z (by omega) (by simpa using hz)) (by simpa using h) hn
   rw [eachG,if_pos h0,h1,if_neg hn]
theorem eachG_all {α β:Type} {f:α→β×Int}:∀ (l:List α),(eachG f l).2=0→∀ x∈l,(f x).2=0
 | [],_,x,hx=>by cases hx
 | y::ys,h,x,hx=>by
   rw [eachG] at h
   split at h
   ·rename_i h1
    split at h
    ·rename_i h2
     rcases List.mem_cons.1 hx with rfl | hx
     ·exact h1
     ·exact eachG_all ys h2 x hx
    ·exact absurd h (by assumption)
   ·exact absurd h (by assumption)
theorem op_cases {o:Int} (h1:6≤o) (h2:o≤28):o=6∨o=7∨o=8∨o=9∨o=10∨o=11∨o=12∨o=13∨o=14∨o=15∨o=16∨o=17∨o=18∨o=19∨o=20∨o=21∨o=22∨o=23∨o=24∨o=25∨o=26∨o=27∨o=28:=by omega
def fitOk (ty:Int) (l:List Int):Bool :=
 if ty=1 then l.all (·==1) else if ty=2 then l.all (·==3) else if ty=3 then l.all (·==2)
 else if ty=4 then l.all (·==(l[0]?).getD 0) else if ty=6 then (l[0]?).getD 0==2&&(l[1]?).getD 0==(l[2]?).getD 0 else true
def tyRes (ts:List Int) (o c g:Int) (kts:List Int):Int :=
 if o=5 then (ts[g.toNat]?).getD 0 else if o=1 then c else if (opOf o).2.2.2=0 then (kts[kts.length - 1]?).getD 0 else (opOf o).2.2.2
def nodeTy (ts:List Int) (o c g:Int) (kts:List Int):Int×Int :=
 if o=5 then (if 1≤(ts[g.toNat]?).getD 0∧(ts[g.toNat]?).getD 0≤3 then ((ts[g.toNat]?).getD 0,0) else (0,4))
 else if fitOk (opOf o).2.2.1 kts=true then (tyRes ts o c g kts,0) else (0,4)
def resG (ts:List Int) (o c g:Int) (k:List Int):Int :=
 if o=1 then c else if o=2 then 1 else if o=3 then 2 else if o=4 then 3 else if o=5 then (ts[g.toNat]?).getD 0
 else if o≤11 then (if k.all (·==1)=true then 1 else 0)
 else if o=12 then (if k.all (·==3)=true then 3 else 0)
 else if o=13 then (if k.all (·==3)=true then 1 else 0)
 else if o=21 then 2
 else if o=22∨o=23∨o=24∨o=25 then (if k.all (·==2)=true then 2 else 0)
 else if o=26 then (if (k[0]?).getD 0=2∧(k[1]?).getD 0=(k[2]?).getD 0 then (k[1]?).getD 0 else 0)
 else if o=27 then (if (k[0]?).getD 0=(k[1]?).getD 0 then (k[0]?).getD 0 else 0)
 else (if k.all (·==(k[0]?).getD 0)=true then 2 else 0)
theorem cnt_of {o:Int} {k:Nat} (h:cntd o k=true) (h1:6≤o):if o=11∨o=13∨o=21∨o=24∨o=25 then k=1 else if o=26 then k=3 else if o=28 then 2≤k else k=2:=by
 have h2:o≤28:=by
  unfold cntd isOp at h
  simp only [Bool.and_eq_true,decide_eq_true_eq] at h
  omega
 rcases op_cases h1 h2 with rfl | rfl | rfl | rfl | rfl | rfl | rfl | rfl | rfl | rfl | rfl | rfl | rfl | rfl | rfl | rfl | rfl | rfl | rfl | rfl | rfl | rfl | rfl <;> simp [cntd,isOp,opOf,ops] at h <;> simp <;> omega
theorem res_node (ts:List Int) (o c g:Int) (k:List Int) (h1:6≤o) (h2:o≤28) (hc:cntd o k.length=true) (hk:∀ x∈k,1≤x∧x≤3) :
  nodeTy ts o c g k=if resG ts o c g k<1∨3<resG ts o c g k then (0,4) else (resG ts o c g k,0):=by
 have hcn:=cnt_of hc h1
 rcases op_cases h1 h2 with rfl | rfl | rfl | rfl | rfl | rfl | rfl | rfl | rfl | rfl | rfl | rfl | rfl | rfl | rfl | rfl | rfl | rfl | rfl | rfl | rfl | rfl | rfl
 case inr.inr.inr.inr.inr.inr.inr.inr.inr.inr.inr.inr.inr.inr.inr.inr.inr.inr.inr.inr.inr.inr =>
  simp only [nodeTy,resG,fitOk,tyRes,opOf,ops]
  simp
  split <;> simp_all
 case inr.inr.inr.inr.inr.inr.inr.inr.inr.inr.inr.inr.inr.inr.inr.inr.inr.inr.inr.inr.inl =>
  have h3:k.length=3:=by simpa using hcn
  match k,h3 with
  | [a,b,d],_ =>
    have ha:=hk a (by simp)
    have hb:=hk b (by simp)
    have hd:=hk d (by simp)
    simp [nodeTy,resG,fitOk,tyRes,opOf,ops]
    by_cases e1:a=2 <;> by_cases e2:b=d <;> simp_all
    try omega
 case inr.inr.inr.inr.inr.inr.inr.inr.inr.inr.inr.inr.inr.inr.inr.inr.inr.inr.inr.inr.inr.inl =>
  have h3:k.length=2:=by simpa using hcn
  match k,h3 with
  | [a,b],_ =>
    have ha:=hk a (by simp)
    have hb:=hk b (by simp)
    simp [nodeTy,resG,fitOk,tyRes,opOf,ops]
    by_cases e1:a=b
    ·subst e1
     simp
     omega
    ·simp [e1,Ne.symm e1]
     try exact fun h=>absurd h.symm e1
 all_goals
  simp [nodeTy,resG,fitOk,tyRes,opOf,ops]
  try (split <;> simp_all)
theorem res_leaf (ts:List Int) (o c g:Int) (h1:1≤o) (h2:o≤5) (hc:o=1→1≤c∧c≤3) :
  nodeTy ts o c g []=if resG ts o c g []<1∨3<resG ts o c g [] then (0,4) else (resG ts o c g [],0):=by
 have ho:o=1∨o=2∨o=3∨o=4∨o=5:=by omega
 rcases ho with rfl | rfl | rfl | rfl | rfl
 ·have:=hc rfl
  simp [nodeTy,resG,fitOk,tyRes,opOf,ops]
  omega
 ·simp [nodeTy,resG,fitOk,tyRes,opOf,ops]
 ·simp [nodeTy,resG,fitOk,tyRes,opOf,ops]
 ·simp [nodeTy,resG,fitOk,tyRes,opOf,ops]
 ·simp only [nodeTy,resG]
  simp
  split <;> split <;> first | rfl | omega
theorem node_in (ts:List Int) (o c g:Int) (k:List Int) (h:nodeTy ts o c g k=if resG ts o c g k<1∨3<resG ts o c g k then (0,4) else (resG ts o c g k,0)) (h0:(nodeTy ts o c g k).2=0):1≤(nodeTy ts o c g k).1∧(nodeTy ts o c g k).1≤3:=by
 rw [h] at h0 ⊢
 split at h0
 ·exact absurd h0 (by decide)
 ·rename_i h1
  rw [if_neg h1]
  simp only
  omega
end Go.Proofs.Tryz
namespace Go.Proofs.Tryz
open Go.Ab
set_option maxRecDepth 100000
def scanE {α:Type} (f:Nat→α→Int):List α→Nat→Int
 | [],_=>0
 | x::l,i=>if f i x ≠ 0 then f i x else scanE f l (i+1)
def thenE (a b:Int):Int:=if a ≠ 0 then a else b
theorem scan_drop {α:Type} {f:Nat→α→Int} {l:List α} {i:Nat} (h:i<l.length):scanE f (l.drop i) i=if f i l[i] ≠ 0 then f i l[i] else scanE f (l.drop (i+1)) (i+1):=by
 rw [List.drop_eq_getElem_cons h,scanE]
theorem scan_end {α:Type} {f:Nat→α→Int} {l:List α} {i:Nat} (h:l.length≤i):scanE f (l.drop i) i=0:=by
 rw [List.drop_of_length_le h,scanE]
theorem then_bad {a b:Int} (h:a ≠ 0):thenE a b=a:=if_pos h
theorem then_ok {b:Int}:thenE 0 b=b:=if_neg (by simp)
theorem scan_ok {α:Type} {f:Nat→α→Int}:∀ {l:List α} {i:Nat},scanE f l i=0→∀ (j:Nat) (h:j<l.length),f (i+j) l[j]=0
 | x::l,i,h,j,hj=>by
   rw [scanE] at h
   split at h
   ·rename_i h0; exact absurd h h0
   ·rename_i h0
    cases j with
    | zero=>simpa using h0
    | succ j =>
      have:=scan_ok h j (by simpa using hj)
      rw [List.getElem_cons_succ,← this]
      congr 1
      omega
theorem scan_shift {α:Type} {g:α→Int}:∀ (l:List α) (i j:Nat),scanE (fun _=>g) l i=scanE (fun _=>g) l j
 | [],_,_=>rfl
 | x::l,i,j=>by rw [scanE,scanE,scan_shift l (i+1) (j+1)]
theorem scan_append {α:Type} {g:α→Int}:∀ (a b:List α) (i:Nat),scanE (fun _=>g) (a++b) i=thenE (scanE (fun _=>g) a i) (scanE (fun _=>g) b i)
 | [],b,i=>by rw [List.nil_append,scanE,then_ok]
 | x::a,b,i=>by
   rw [List.cons_append,scanE,scanE,scan_append a b (i+1),scan_shift b (i+1) i]
   split
   ·rename_i h; rw [then_bad h]
   ·rfl
theorem scan_map {α β:Type} {g:β→Int} {f:α→β}:∀ (l:List α) (i:Nat),scanE (fun _=>g) (l.map f) i=scanE (fun _ x=>g (f x)) l i
 | [],_=>rfl
 | x::l,i=>by rw [List.map_cons,scanE,scanE,scan_map l (i+1)]
theorem scan_mem {α:Type} {g:α→Int} {l:List α} {i:Nat} (h:scanE (fun _=>g) l i=0):∀ x∈l,g x=0:=by
 intro x hx
 obtain ⟨j,hj,rfl⟩:=List.getElem_of_mem hx
 exact scan_ok h j hj
def okL (n:Nat):List Int→List Int→Bool
 | _,[]=>true
 | pre,k::r=>(decide (0≤k)&&(decide (k<n)&&!pre.contains k))&&okL n (pre++[k]) r
def listB (n:Nat) (l:List Int):Bool:=okL n [] l&&!l.isEmpty
theorem okL_drop {n:Nat} {l:List Int} {i:Nat} (h:i<l.length):okL n (l.take i) (l.drop i)=((decide (0≤l[i])&&(decide (l[i]<n)&&!(l.take i).contains l[i]))&&okL n (l.take (i+1)) (l.drop (i+1))):=by
 rw [List.drop_eq_getElem_cons h,okL,take_snoc h]
theorem okL_mem {n:Nat}:∀ {l pre:List Int},okL n pre l=true→∀ k∈l,0≤k∧k<n
 | k::r,pre,h,x,hx=>by
   rw [okL] at h
   simp only [Bool.and_eq_true,decide_eq_true_eq] at h
   rcases List.mem_cons.1 hx with rfl | hx
   ·exact ⟨h.1.1,h.1.2.1⟩
   ·exact okL_mem h.2 x hx
theorem listB_mem {n:Nat} {l:List Int} (h:listB n l=true):∀ k∈l,0≤k∧k<n:=by
 unfold listB at h
 rw [Bool.and_eq_true] at h
 exact okL_mem h.1
def keyE (x:Tb) (l:List Int):Int:=if listB x.cols.length l=true then 0 else 6
def nulT (x:Tb) (c:Int):Bool:=((x.cols[c.toNat]?).map Col.b).getD false
def keysE (x:Tb):Int:=thenE (keyE x x.pr) (thenE (if x.pr.any (nulT x)=true then 4 else 0) (scanE (fun _=>keyE x) (x.un++x.fk.map Fk.cols) 0))
def colE (nm:List UInt8→Bool) (cs:List Col) (i:Nat) (c:Col):Int :=
 if nm c.n=false then 3 else if fidx (fun d:Col=>d.n==c.n) cs 0<i then 5 else if c.t=1∨c.t=2∨c.t=3 then 0 else 4
def chkE (ty:Ex→Int×Int) (e:Ex):Int:=if (ty e).2 ≠ 0 then (ty e).2 else if (ty e).1 ≠ 2 then 4 else 0
def tableE (nm:List UInt8→Bool) (ty:Tb→Ex→Int×Int) (x:Tb):Int :=
 if 8<x.cols.length∨3<x.un.length∨3<x.fk.length∨4<x.ch.length then 8 else if x.cols.length=0 then 9 else
 thenE (scanE (colE nm x.cols) x.cols 0) (thenE (keysE x) (scanE (fun _=>chkE (ty x)) x.ch 0))
def tabE (nm:List UInt8→Bool) (ty:Tb→Ex→Int×Int) (S:List Tb) (i:Nat) (x:Tb):Int :=
 if nm x.n=false then 3 else if fidx (fun y:Tb=>y.n==x.n) S 0<i then 5 else tableE nm ty x
def pairE (x o:Tb) (a b:List Int):Bool:=a.length==b.length&&(a.zip b).all fun p=>typT x p.1==typT o p.2
def refE (S:List Tb) (x:Tb) (f:Fk):Int:=match S[(tgt S f).toNat]? with
 | some o=>if tgt S f<0 then 11 else if pairE x o f.cols o.pr=true then 0 else 6
 | none=>11
def validE (nm:List UInt8→Bool) (ty:Tb→Ex→Int×Int) (S:List Tb):Int :=
 if 6<S.length then 8 else thenE (scanE (tabE nm ty S) S 0) (thenE (scanE (fun _ x=>scanE (fun _=>refE S x) x.fk 0) S 0) (ordS S).2)
theorem then_zero {a b:Int} (h:thenE a b=0):a=0∧b=0:=by
 unfold thenE at h
 split at h
 ·rename_i h0; exact absurd h h0
 ·rename_i h0; exact ⟨by simpa using h0,h⟩
theorem keysE_ok {x:Tb} (h:keysE x=0):(∀ k∈x.pr,0≤k∧k<x.cols.length)∧∀ f∈x.fk,∀ k∈f.cols,0≤k∧k<x.cols.length:=by
 obtain ⟨h1,h2⟩:=then_zero h
 obtain ⟨_,h3⟩:=then_zero h2
 have hk:∀ {l:List Int},keyE x l=0→∀ k∈l,0≤k∧k<x.cols.length:=by
  intro l hl
  unfold keyE at hl
  split at hl
  ·rename_i hb; exact listB_mem hb
  ·cases hl
 refine ⟨hk h1,fun f hf=>hk (scan_mem h3 f.cols ?_)⟩
 exact List.mem_append_right _ (List.mem_map.2 ⟨f,hf,rfl⟩)
theorem tableE_ok {nm:List UInt8→Bool} {ty:Tb→Ex→Int×Int} {x:Tb} (h:tableE nm ty x=0):keysE x=0:=by
 unfold tableE at h
 split at h
 ·cases h
 split at h
 ·cases h
 exact (then_zero (then_zero h).2).1
theorem tabE_ok {nm:List UInt8→Bool} {ty:Tb→Ex→Int×Int} {S:List Tb} (h:scanE (tabE nm ty S) S 0=0):∀ x∈S,keysE x=0:=by
 intro x hx
 obtain ⟨j,hj,rfl⟩:=List.getElem_of_mem hx
 have:=scan_ok h j hj
 unfold tabE at this
 split at this
 ·cases this
 split at this
 ·cases this
 exact tableE_ok this
end Go.Proofs.Tryz
namespace Go.Proofs.Tryz
open Go.Ab
set_option maxRecDepth 100000
set_option maxHeartbeats 2000000
theorem s_key (x:Tb) (hx:x.ok) (l:List Int) (hl:l.length≤1000):Cf En 240 [x.a,.d (.sl (ints l))] [] (.d (.int .i64 (keyE x l))) []:=by
 refine cf_intro mix (fn:=Tryz.f240) (by kernel_rfl) rfl (by kernel_rfl) (by decide) (by simp) ?_
 have hcl:=hx.cols
 simp [Tb.a,Tb.c]
 (repeat' (first|contradiction|exact .ok|apply And.intro|intro _|(refine gc (fun h=>?_) (fun h=>?_)<;>(have h':=h;(try simp at h');first|done|simp[h,h']|simp))))
 refine aloopT mix (by decide) (fun i:Nat=>{ s:=mkS [(1,.d (.sl (ints l))),(2,.ptr 2 0 0),(7,.d (.sl (ints l))),(8,.d (.int .i64 l.length)),(9,.d (.int .i64 i))],b:=mkB [(2,2,.var (x.c.map AV.d))] }) (fun i=>i≤l.length∧okL x.cols.length (l.take i) (l.drop i)=okL x.cols.length [] l) (fun i=>l.length - i) 0 (by simp) (sub_mk _ [(2,2,_)] ⟨by simp,by simp,by simp [renOf,Blk.live,Tb.c],by simp⟩ (by simp [renOf])) ?_
 rintro i ⟨hi,hf⟩
 by_cases hlt:i<l.length
 ·rw [okL_drop hlt] at hf
  have hw:=wrap_in (n:=(i:Int)+1) (by omega) (by omega)
  obtain ⟨u,hu⟩:∃ u,u=l[i]:=⟨_,rfl⟩
  have hgi:∀ h,l[i]'h=u:=fun _=>hu.symm
  have hg:=ints_get hlt
  rw [← hu] at hf hg
  have htk:(ints l).take i=ints (l.take i):=by simp [ints,List.map_take]
  have hbad:(decide (0≤u)&&(decide (u<x.cols.length)&&!(l.take i).contains u))=false→keyE x l=6:=fun h=>by
   rw [h,Bool.false_and] at hf
   unfold keyE listB
   rw [← hf]; rfl
  by_cases h1:u<0
  ·have hb:=hbad (by simp; intro h; omega)
   simp [hlt,hgi,hg,h1,hb]
   (repeat' (first|contradiction|exact .ok|apply And.intro|intro _|(refine gc (fun h=>?_) (fun h=>?_)<;>(have h':=h;(try simp at h');first|done|simp[h,h',h1]|simp[h1]))))
  by_cases h2:(x.cols.length:Int)≤u
  ·have hb:=hbad (by simp; intro h h'; omega)
   simp [hlt,hgi,hg,h1,h2,hb,Tb.c]
   (repeat' (first|contradiction|exact .ok|apply And.intro|intro _|(refine gc (fun h=>?_) (fun h=>?_)<;>(have h':=h;(try simp at h');first|done|simp[h,h',h1,h2,Tb.c]|simp[h1,h2,Tb.c]))))
  have hci:=i_contains (l.take i) (by simp; omega) u
  have hone:=ints_one (l.take i)
  have h3:0≤u:=by omega
  have h4:u<x.cols.length:=by omega
  cases hc:(l.take i).contains u with
  | true =>
    have hb:=hbad (by rw [hc]; simp)
    rw [hc] at hci
    simp [hlt,hgi,hg,h1,h2,hb,Tb.c,htk]
    (repeat' (first|contradiction|exact .ok|apply And.intro|intro _|(refine gc (fun h=>?_) (fun h=>?_)<;>(have h':=h;(try simp at h');first|done|simp[h,h',h1,h2,Tb.c,htk]|simp[h1,h2,Tb.c,htk]))))
    rw [if_pos ⟨hi,hone⟩]
    simp
    (repeat' (first|contradiction|exact .ok|apply And.intro|intro _|(refine gc (fun h=>?_) (fun h=>?_)<;>(have h':=h;(try simp at h');first|done|simp[h,h']|simp))))
    refine acallT_plain hci (by simp) ?_
    simp [hb]
    all_goals exact gz
  | false =>
    rw [hc] at hci
    simp [hlt,hgi,hg,h1,h2,Tb.c,htk]
    (repeat' (first|contradiction|exact .ok|apply And.intro|intro _|(refine gc (fun h=>?_) (fun h=>?_)<;>(have h':=h;(try simp at h');first|done|simp[h,h',h1,h2,Tb.c,htk]|simp[h1,h2,Tb.c,htk]))))
    rw [if_pos ⟨hi,hone⟩]
    simp
    (repeat' (first|contradiction|exact .ok|apply And.intro|intro _|(refine gc (fun h=>?_) (fun h=>?_)<;>(have h':=h;(try simp at h');first|done|simp[h,h']|simp))))
    refine acallT_plain hci (by simp) ?_
    simp
    (repeat' (first|contradiction|exact .ok|apply And.intro|intro _|(refine gc (fun h=>?_) (fun h=>?_)<;>(have h':=h;(try simp at h');first|done|simp[h,h']|simp))))
    refine ⟨i+1,⟨by omega,?_⟩,?_,by simp; omega⟩
    ·rw [← hf,hc]; simp [h3,h4]
    ·exact sub_mk _ [(2,2,_)] ⟨by simp,by simp,by simp [renOf,Blk.live,Tb.c],by simp⟩ (by simp [renOf,hw])
 obtain rfl:i=l.length:=by omega
 rw [List.drop_length,okL] at hf
 cases l with
 | nil =>
   simp [keyE,listB]
   all_goals exact gz
 | cons a l =>
   have hk:keyE x (a::l)=0:=by unfold keyE listB; rw [← hf]; rfl
   have hne:¬ ((l.length:Int)+1=0):=by omega
   simp [hk,hne]
   (repeat' (first|contradiction|exact .ok|apply And.intro|intro _|(refine gc (fun h=>?_) (fun h=>?_)<;>(have h':=h;(try simp at h');first|done|simp[h,h',hne]|simp[hne]))))
end Go.Proofs.Tryz
namespace Go.Proofs.Tryz
open Go.Ab
set_option maxRecDepth 100000
set_option maxHeartbeats 4000000
theorem c_cols:∀ (m:Nat) (e:Ex),SizeOf.sizeOf e<m→∀ q:Nat,e.few q=true→e.nodes≤1048576→Cf En 136 [e.a] [] (.d (nums e.cols)) []
 | 0,_,h,_,_,_=>absurd h (by omega)
 | m+1,.mk o c n t g ks,hm,q,hq,hn=>by
   obtain ⟨hk,ht,hfew⟩:=fewC_kids hq
   rw [Ex.nodes] at hn
   have:=colsAll_len ks
   exact c_cols_step o c n g t ks hk (by omega) fun e he=>by
    have:=nodesAll_get ks e he
    exact c_cols m e (by have:=Ex.kid_lt (e:=.mk o c n t g ks) (k:=e) he; omega) (q+1) (hfew e he) (by omega)
end Go.Proofs.Tryz
namespace Go.Proofs.Tryz
open Go.Ab
set_option maxRecDepth 100000
set_option maxHeartbeats 4000000
theorem s_target (S:List Tb) (hl:S.length≤1000) (hS:∀ x∈S,x.ok) {i k:Nat} {u:Tb} {f:Fk} (hi:i<S.length) (hu:S[i]=u) (hk:k<u.fk.length) (hf:u.fk[k]=f) :
  Cf En 85 [schA S,.d (.int .i64 i),.d (.int .i64 k)] [] (place (fun x:Tb=>x.n==f.t) S) []:=by
 refine cf_intro mix (fn:=Tryz.f85) (by kernel_rfl) rfl (by kernel_rfl) (by decide) (by simp) ?_
 have h1:¬ (i:Int)<0:=by omega
 have h2:¬ (k:Int)<0:=by omega
 have h3:¬ (S.length:Int)≤i:=by omega
 have h4:¬ (u.fk.length:Int)≤k:=by omega
 have hgi:∀ h,S[i]'h=u:=fun _=>hu
 have hgf:∀ h,u.fk[k]'h=f:=fun _=>hf
 have hgf2:u.fk[k]?=some f:=by rw [List.getElem?_eq_getElem hk,hf]
 simp [schA,h1,h2,h3,h4,hi,hgi,Tb.c]
 (repeat' (first|contradiction|exact .ok|apply And.intro|intro _|(refine gc (fun h=>?_) (fun h=>?_)<;>(have h':=h;(try simp at h');first|done|simp[h,h',h1,h2,h3,h4,hi,hgi,Tb.c,hk,hgf,hgf2,Fk.c]|simp[h1,h2,h3,h4,hi,hgi,Tb.c,hk,hgf,hgf2,Fk.c]))))
 simp [hgf2,Fk.c]
 (repeat' (first|contradiction|exact .ok|apply And.intro|intro _|(refine gc (fun h=>?_) (fun h=>?_)<;>(have h':=h;(try simp at h');first|done|simp[h,h']|simp))))
 refine acallT_plain (s_find S hl f.t) (by simp [schA]) ?_
 unfold place
 simp
 all_goals exact gz
end Go.Proofs.Tryz
