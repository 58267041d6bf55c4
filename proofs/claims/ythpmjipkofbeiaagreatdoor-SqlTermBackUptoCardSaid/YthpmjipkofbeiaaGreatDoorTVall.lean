import Derived.Test.YthpmjipkofbeiaaGreatDoorWrv
import Derived.Test.YthpmjipkofbeiaaGreatDoorTFtt
import Derived.Test.YthpmjipkofbeiaaGreatDoorAbB
set_option linter.all false
namespace Go.Proofs.Tryz
open Go.Ab
set_option maxRecDepth 100000
set_option maxHeartbeats 4000000
section
variable (ws:List (List UInt8))
def ariN (o:Int) (k:Nat):Bool :=
 if o=11∨o=13∨o=21∨o=24∨o=25 then k==1
 else if o=26 then k==3
 else if o=28 then decide (2≤k)
 else decide (6≤o)&&(decide (o≤28)&&k==2)
def okN (o y n:Int) (t q:List UInt8) (k:Nat):Bool :=
 if o=1 then decide (1≤y)&&(decide (y≤3)&&(k==0&&(n==0&&(t==[]&&q==[]))))
 else if o=2 then (V.mk 1 n []).valid&&(k==0&&(y==0&&(t==[]&&q==[])))
 else if o=3 then (n==0||n==1)&&(k==0&&(y==0&&(t==[]&&q==[])))
 else if o=4 then (V.mk 3 0 t).valid&&(k==0&&(y==0&&(n==0&&q==[])))
 else if o=40 then nameOk ws t&&((q==[]||nameOk ws q)&&(k==0&&(y==0&&n==0)))
 else if o=41 then decide (1≤n)&&(decide (n≤6)&&((if n=1 then k==0 else k==1)&&(y==0&&(t==[]&&q==[]))))
 else ariN o k&&(y==0&&(n==0&&(t==[]&&q==[])))
mutual
def rgT:Tm→Bool
 | .mk o y n t q ks=>okN ws o y n t q ks.length&&rgTs ks
def rgTs:List Tm→Bool
 | []=>true
 | e::es=>rgT e&&rgTs es
end
end
theorem wf2 {a b:Tm} (h:WfTs [a,b]):WfT a∧WfT b:=by
 cases h with
 | cons ha hk=>cases hk with
   | cons hb _=>exact ⟨ha,hb⟩
theorem wf1 {a:Tm} (h:WfTs [a]):WfT a:=by
 cases h with
 | cons ha hk=>exact ha
theorem len1 {α:Type} {l:List α} (h:l.length=1):∃ a,l=[a]:=List.length_eq_one_iff.1 h
theorem len2 {α:Type}:∀ {l:List α},l.length=2→∃ a b,l=[a,b]
 | [a,b],_=>⟨a,b,rfl⟩
 | [],h=>by simp at h
 | [a],h=>by simp at h
 | a::b::c::l,h=>by simp at h
theorem len3 {α:Type}:∀ {l:List α},l.length=3→∃ a b c,l=[a,b,c]
 | [a,b,c],_=>⟨a,b,c,rfl⟩
 | [],h=>by simp at h
 | [a],h=>by simp at h
 | [a,b],h=>by simp at h
 | a::b::c::d::l,h=>by simp at h
theorem ari_cases {o:Int} {k:Nat} (h:ariN o k=true):((o=11∨o=13∨o=21∨o=24∨o=25)∧k=1)∨(o=26∧k=3)∨(o=28∧2≤k) ∨
  ((o=6∨o=7∨o=8∨o=9∨o=10∨o=12∨o=14∨o=15∨o=16∨o=17∨o=18∨o=19∨o=20∨o=22∨o=23∨o=27)∧k=2):=by
 unfold ariN at h
 split at h
 ·rename_i h1; exact .inl ⟨h1,by simpa using h⟩
 ·split at h
  ·rename_i h1; exact .inr (.inl ⟨h1,by simpa using h⟩)
  ·split at h
   ·rename_i h1; exact .inr (.inr (.inl ⟨h1,by simpa using h⟩))
   ·simp only [Bool.and_eq_true,decide_eq_true_eq,beq_iff_eq] at h
    exact .inr (.inr (.inr ⟨by omega,h.2.2⟩))
theorem cmp_of {i:Nat} {o:Int} {a b:Tm} (ho:o=14+(i:Int)) (hi:i<7) (ha:WfT a) (hb:WfT b):WfT (.mk o 0 0 [] [] [a,b]):=by
 subst ho
 exact .cmp hi ha hb
theorem wf_ari {o:Int} {ks:List Tm} (h:ariN o ks.length=true) (hk:WfTs ks):WfT (.mk o 0 0 [] [] ks):=by
 rcases ari_cases h with ⟨ho,h1⟩ | ⟨rfl,h1⟩ | ⟨rfl,h1⟩ | ⟨ho,h1⟩
 ·obtain ⟨a,rfl⟩:=len1 h1
  have ha:=wf1 hk
  rcases ho with rfl | rfl | rfl | rfl | rfl
  ·exact .neg ha
  ·exact .len ha
  ·exact .isNull ha
  ·exact .no ha
  ·exact .isTrue ha
 ·obtain ⟨a,b,c,rfl⟩:=len3 h1
  cases hk with
  | cons ha hk=>obtain ⟨hb,hc⟩:=wf2 hk; exact .case ha hb hc
 ·cases ks with
  | nil=>simp at h1
  | cons a ks =>
    cases hk with
    | cons ha hk=>exact .isIn ha hk (by rintro rfl; simp at h1)
 ·obtain ⟨a,b,rfl⟩:=len2 h1
  obtain ⟨ha,hb⟩:=wf2 hk
  rcases ho with rfl | rfl | rfl | rfl | rfl | rfl | rfl | rfl | rfl | rfl | rfl | rfl | rfl | rfl | rfl | rfl
  ·exact .chn (r:=4) (i:=0) (by omega) (by decide) ha hb
  ·exact .chn (r:=4) (i:=1) (by omega) (by decide) ha hb
  ·exact .chn (r:=5) (i:=0) (by omega) (by decide) ha hb
  ·exact .chn (r:=5) (i:=1) (by omega) (by decide) ha hb
  ·exact .chn (r:=5) (i:=2) (by omega) (by decide) ha hb
  ·exact .chn (r:=4) (i:=2) (by omega) (by decide) ha hb
  ·exact cmp_of (i:=0) (by decide) (by decide) ha hb
  ·exact cmp_of (i:=1) (by decide) (by decide) ha hb
  ·exact cmp_of (i:=2) (by decide) (by decide) ha hb
  ·exact cmp_of (i:=3) (by decide) (by decide) ha hb
  ·exact cmp_of (i:=4) (by decide) (by decide) ha hb
  ·exact cmp_of (i:=5) (by decide) (by decide) ha hb
  ·exact cmp_of (i:=6) (by decide) (by decide) ha hb
  ·exact .chn (r:=1) (i:=0) (by omega) (by decide) ha hb
  ·exact .chn (r:=0) (i:=0) (by omega) (by decide) ha hb
  ·exact .coal ha hb
mutual
theorem wf_of:∀ t:Tm,rgT rsv t=true→WfT t
 | .mk o y n t q ks,h=>by
   rw [rgT,Bool.and_eq_true] at h
   obtain ⟨h1,h2⟩:=h
   have hk:=wfs_of ks h2
   unfold okN at h1
   split at h1
   ·rename_i e; subst e
    simp only [Bool.and_eq_true,decide_eq_true_eq,beq_iff_eq] at h1
    obtain ⟨a,b,c,rfl,rfl,rfl⟩:=h1
    obtain rfl:=List.length_eq_zero_iff.1 c
    exact .null ⟨a,b⟩
   split at h1
   ·rename_i e; subst e
    simp only [Bool.and_eq_true,decide_eq_true_eq,beq_iff_eq] at h1
    obtain ⟨a,c,rfl,rfl,rfl⟩:=h1
    obtain rfl:=List.length_eq_zero_iff.1 c
    have:-1000000000000≤n∧n≤1000000000000:=by
     unfold V.valid at a
     simp at a
     omega
    exact .int this.1 this.2
   split at h1
   ·rename_i e; subst e
    simp only [Bool.and_eq_true,Bool.or_eq_true,beq_iff_eq] at h1
    obtain ⟨a,c,rfl,rfl,rfl⟩:=h1
    obtain rfl:=List.length_eq_zero_iff.1 c
    rcases a with rfl | rfl
    ·exact .fls
    ·exact .tru
   split at h1
   ·rename_i e; subst e
    simp only [Bool.and_eq_true,beq_iff_eq] at h1
    obtain ⟨a,c,rfl,rfl,rfl⟩:=h1
    obtain rfl:=List.length_eq_zero_iff.1 c
    exact .text (by unfold V.valid at a; simpa using a)
   split at h1
   ·rename_i e; subst e
    simp only [Bool.and_eq_true,Bool.or_eq_true,beq_iff_eq] at h1
    obtain ⟨a,b,c,rfl,rfl⟩:=h1
    obtain rfl:=List.length_eq_zero_iff.1 c
    rcases b with rfl | b
    ·exact .name a
    ·exact .qual a b
   split at h1
   ·rename_i e; subst e
    simp only [Bool.and_eq_true,decide_eq_true_eq,beq_iff_eq] at h1
    obtain ⟨a,b,c,rfl,rfl,rfl⟩:=h1
    split at c
    ·rename_i e; subst e
     obtain rfl:=List.length_eq_zero_iff.1 (by simpa using c)
     exact .rows
    ·obtain ⟨k,rfl⟩:=len1 (by simpa using c)
     exact .agg ⟨by omega,b⟩ (wf1 hk)
   ·simp only [Bool.and_eq_true,beq_iff_eq] at h1
    obtain ⟨a,rfl,rfl,rfl,rfl⟩:=h1
    exact wf_ari a hk
theorem wfs_of:∀ l:List Tm,rgTs rsv l=true→WfTs l
 | [],_=>.nil
 | e::es,h=>by
   rw [rgTs,Bool.and_eq_true] at h
   exact .cons (wf_of e h.1) (wfs_of es h.2)
end
theorem wt_back {t:Tm} (h:rgT rsv t=true) {n:Nat} (hn:9*(toks (wr t)).length+8≤n):∃ e,parP n 0 (toks (wr t))=.ok (t,[e])∧e.kd=5:=wr_back (wf_of t h) hn
def firstNot {α:Type} (p:α→Bool) (l:List α):Int:=match l.findIdx? fun x=>!p x with
 | some i=>i
 | none=>-1
theorem firstNot_neg {α:Type} (p:α→Bool) (l:List α):decide (0≤firstNot p l)=!l.all p:=by
 unfold firstNot
 cases hf:l.findIdx? fun x=>!p x with
 | none =>
   rw [List.findIdx?_eq_none_iff] at hf
   have:l.all p=true:=List.all_eq_true.2 fun x hx=>by simpa using hf x hx
   simp [this]
 | some i =>
   rw [List.findIdx?_eq_some_iff_getElem] at hf
   obtain ⟨hi,hx,_⟩:=hf
   have:l.all p=false:=by
    rw [List.all_eq_false]
    exact ⟨_,List.getElem_mem hi,by simpa using hx⟩
   simp [this]
theorem firstNot_some {α:Type} {p:α→Bool} {l:List α} {i:Nat} {x:α} (h:l[i]?=some x) (hx:p x=false) (ho:∀ j (y:α),j<i→l[j]?=some y→p y=true):firstNot p l=i:=by
 obtain ⟨hi,rfl⟩:=List.getElem?_eq_some_iff.1 h
 unfold firstNot
 have:(l.findIdx? fun x=>!p x)=some i:=by
  rw [List.findIdx?_eq_some_iff_getElem]
  exact ⟨hi,by simp [hx],fun j hj=>by simp [ho j l[j] hj (List.getElem?_eq_getElem (by omega))]⟩
 rw [this]
theorem firstNot_none {α:Type} {p:α→Bool} {l:List α} (ho:∀ j (y:α),j<l.length→l[j]?=some y→p y=true):firstNot p l=-1:=by
 unfold firstNot
 have:(l.findIdx? fun x=>!p x)=none:=by
  rw [List.findIdx?_eq_none_iff]
  intro x hx
  obtain ⟨j,hj,rfl⟩:=List.getElem_of_mem hx
  simp [ho j _ hj (List.getElem?_eq_getElem hj)]
 rw [this]
theorem not_T (F:FuncId) (p:Tm→Bool) (x:Tm) (h:Cf Es F [x.a] [] (.d (.bool (p x))) []):Cf Es 122 [x.a,.ptr firstName 0 0] [.var [.clo F []]] (.d (.bool (!p x))) [.var [.clo F []]]:=by
 refine cf_intro mixs (fn:=Tryz.f122) (by kernel_rfl) rfl (by kernel_rfl) (by decide) (by simp) ?_
 have c1:=x.clen
 have k1:=x.ctake
 simp [Tm.a,c1,k1]
 refine ⟨.of (by kernel_rfl),?_⟩
 refine acallT_plain h (by simp [Tm.a]) ?_
 simp
 all_goals exact gz
theorem index_T (F:FuncId) (p:Tm→Bool) (l:List Tm) (hn:l.length≤9223372036854775807) (h:∀ x∈l,Cf Es F [x.a] [] (.d (.bool (p x))) []) :
  Cf Es 159 [.d (.sl (l.map Tm.c)),.clo 122 [.ptr firstName 0 0]] [.var [.clo F []]] (.d (.int .i64 (firstNot p l))) [.var [.clo F []]]:=by
 refine cf_intro mixs (fn:=Tryz.f159) (by kernel_rfl) rfl (by kernel_rfl) (by decide) (by simp) ?_
 generalize hres:firstNot p l=res
 simp
 (repeat refine ⟨.of (by kernel_rfl),?_⟩)
 refine aloopT mixs (by decide) (fun i:Nat=>{ s:=mkS [(0,.d (.sl (l.map Tm.c))),(1,.clo 122 [.ptr 1000000 0 0]),(7,.d (.int .i64 l.length)),(8,.d (.int .i64 i))],b:=mkB [(1000000,1000000,.var [.clo F []])] }) (fun i:Nat=>i≤l.length∧∀ j (y:Tm),j<i→l[j]?=some y→p y=true) (fun i=>l.length - i) 0 (by simp) (sub_mk _ [(1000000,1000000,_)] ⟨by simp,by simp,by simp [renOf,Blk.live],base1⟩ (by simp [renOf])) ?_
 rintro i ⟨hi,ho⟩
 by_cases hlt:i<l.length
 ·have hlt':(i:Int)<l.length:=by omega
  obtain ⟨x,hg⟩:∃ x,l[i]?=some x:=⟨_,List.getElem?_eq_getElem hlt⟩
  have hgi:∀ h,l[i]'h=x:=fun h=>(List.getElem?_eq_some_iff.1 hg).2
  have hx:=not_T F p x (h x (List.mem_of_getElem? hg))
  have c1:=x.clen
  have k1:=x.ctake
  simp [hlt,hlt',hg,hgi,c1,k1]
  (repeat refine ⟨.of (by kernel_rfl),?_⟩)
  refine acallT_hand [1000000] hx (by simp) (by simp) (by simp) (by simp) (by simp [Tm.a]) ?_
  simp
  refine ⟨.of (by kernel_rfl),fun h=>⟨.of (by kernel_rfl),?_⟩,fun h=>⟨.of (by kernel_rfl),i+1,⟨hlt,?_⟩,?_,?_⟩⟩
  ·rw [← hres]
   have:=firstNot_some hg h ho
   simp [this]
  ·intro j y hj hy
   rcases Nat.lt_or_ge j i with c | c
   ·exact ho j y c hy
   ·obtain rfl:j=i:=by omega
    rw [hg] at hy
    cases hy
    exact h
  ·refine sub_mk _ [(1000000,1000000,_)] ⟨by simp,by simp,by simp [renOf,Blk.live],base1⟩ ?_
   simp [renOf]
   exact wrap_in (by omega) (by omega)
  ·simp; omega
 ·have hlt':¬ (i:Int)<l.length:=by omega
  simp [hlt,hlt']
  (repeat refine ⟨.of (by kernel_rfl),?_⟩)
  rw [← hres]
  have:=firstNot_none (p:=p) (l:=l) fun j y hj hy=>ho j y (by omega) hy
  simp [this]
theorem contains_T (F:FuncId) (p:Tm→Bool) (l:List Tm) (hn:l.length≤9223372036854775807) (h:∀ x∈l,Cf Es F [x.a] [] (.d (.bool (p x))) []) :
  Cf Es 121 [.d (.sl (l.map Tm.c)),.clo 122 [.ptr firstName 0 0]] [.var [.clo F []]] (.d (.bool (!l.all p))) [.var [.clo F []]]:=by
 refine cf_intro mixs (fn:=Tryz.f121) (by kernel_rfl) rfl (by kernel_rfl) (by decide) (by simp) ?_
 have hx:=index_T F p l hn h
 have hd:=firstNot_neg p l
 simp
 (repeat refine ⟨.of (by kernel_rfl),?_⟩)
 refine acallT_hand [1000000] hx (by simp) (by simp) (by simp) (by simp) (by simp) ?_
 simp [hd]
 (repeat' (first|contradiction|exact .ok|apply And.intro|intro _|(refine gc (fun h=>?_) (fun h=>?_)<;>(have h':=h;(try simp at h');first|done|simp[h,h',hd]|simp[hd]))))
theorem all_T (F:FuncId) (p:Tm→Bool) (l:List Tm) (hn:l.length≤9223372036854775807) (h:∀ x∈l,Cf Es F [x.a] [] (.d (.bool (p x))) []) :
  Cf Es 82 [.d (.sl (l.map Tm.c)),.clo F []] [] (.d (.bool (l.all p))) []:=by
 refine cf_intro mixs (fn:=Tryz.f82) (by kernel_rfl) rfl (by kernel_rfl) (by decide) (by simp) ?_
 have hx:=contains_T F p l hn h
 generalize hA:l.all p=A at *
 simp
 (repeat refine ⟨.of (by kernel_rfl),?_⟩)
 refine acallT_hand [3] hx (by simp) (by simp) (by simp) (by simp) (by simp) ?_
 simp
 all_goals exact gz
end Go.Proofs.Tryz
