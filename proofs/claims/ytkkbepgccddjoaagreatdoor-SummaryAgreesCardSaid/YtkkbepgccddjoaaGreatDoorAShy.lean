import Derived.Test.YtkkbepgccddjoaaGreatDoorTy
import Derived.Shelf.Strings.Search3
import Derived.Test.YtkkbepgccddjoaaGreatDoorProg
set_option linter.all false
namespace Go.Proofs.Tryz
open Go.Ab
structure V where
 k:Int
 n:Int
 t:List UInt8
def V.a (v:V):AV:=.agg [.d (.int .i64 v.k),.d (.int .i64 v.n),.d (.str v.t)]
def V.c (v:V):List D:=[.int .i64 v.k,.int .i64 v.n,.str v.t]
end Go.Proofs.Tryz
namespace Go.Proofs.Tryz
open Go.Ab
def V.same (v u:V):Bool:=v.k==u.k&&(v.n==u.n&&v.t==u.t)
def cmpI (a b:Int):Int:=if a<b then -1 else if b<a then 1 else 0
def cmpS (a b:List UInt8):Int:=if Op.bytesLess a b=true then -1 else if a=b then 0 else 1
def orOf:List Int→Int
 | []=>0
 | x::xs=>if x ≠ 0 then x else orOf xs
def V.cmp (v u:V):Int:=orOf [cmpI v.k u.k,cmpI v.n u.n,cmpS v.t u.t]
theorem r_compare (v u:V):Cf En 50 [v.a,u.a] [] (.d (.int .i64 (v.cmp u))) []:=by
 refine cf_intro mix (fn:=Tryz.f50) (by kernel_rfl) rfl (by kernel_rfl) (by decide) (by simp) ?_
 simp [V.a]
 repeat' (first | intro _ | refine And.intro ?_ ?_)
 all_goals first | exact .of (by kernel_rfl) | skip
 all_goals (simp only [V.cmp,orOf,cmpI,cmpS]; grind)
end Go.Proofs.Tryz
namespace Go.Proofs.Tryz
open Go.Ab
theorem cmpI_self (a:Int):cmpI a a=0:=by unfold cmpI; simp
theorem less_irr:∀ a:List UInt8,Op.bytesLess a a=false
 | []=>rfl
 | a::l=>by simp [Op.bytesLess,less_irr l]
theorem less_asym:∀ a b:List UInt8,Op.bytesLess a b=true→Op.bytesLess b a=false
 | [],[],h=>by simp [Op.bytesLess] at h
 | [],_::_,_=>rfl
 | _::_,[],h=>by simp [Op.bytesLess] at h
 | x::a,y::b,h=>by
   simp only [Op.bytesLess,Bool.or_eq_true,decide_eq_true_eq,Bool.and_eq_true,beq_iff_eq,Bool.or_eq_false_iff,decide_eq_false_iff_not] at *
   rcases h with h | ⟨rfl,h⟩
   ·refine ⟨fun h2=>?_,?_⟩
    ·rw [UInt8.lt_iff_toNat_lt] at h h2; omega
    ·have:(y==x)=false:=by
      rw [beq_eq_false_iff_ne]; rintro rfl; rw [UInt8.lt_iff_toNat_lt] at h; omega
     simp [this]
   ·exact ⟨by rw [UInt8.lt_iff_toNat_lt]; omega,by simp [less_asym a b h]⟩
theorem less_tri:∀ a b:List UInt8,Op.bytesLess a b=false→Op.bytesLess b a=false→a=b
 | [],[],_,_=>rfl
 | [],_::_,h,_=>by simp [Op.bytesLess] at h
 | _::_,[],_,h=>by simp [Op.bytesLess] at h
 | x::a,y::b,h1,h2=>by
   simp only [Op.bytesLess,Bool.or_eq_false_iff,decide_eq_false_iff_not,Bool.and_eq_false_imp,beq_iff_eq] at h1 h2
   have:x=y:=by
    apply UInt8.toNat_inj.1
    have a1:=h1.1; have a2:=h2.1
    rw [UInt8.lt_iff_toNat_lt] at a1 a2
    omega
   subst this
   rw [less_tri a b (h1.2 rfl) (h2.2 rfl)]
theorem less_trans:∀ a b c:List UInt8,Op.bytesLess a b=true→Op.bytesLess b c=true→Op.bytesLess a c=true
 | _,[],_,h,_=>by cases ‹List UInt8› <;> simp [Op.bytesLess] at h
 | _,_::_,[],_,h=>by simp [Op.bytesLess] at h
 | [],_::_,_::_,_,_=>rfl
 | x::a,y::b,z::c,h1,h2=>by
   simp only [Op.bytesLess,Bool.or_eq_true,decide_eq_true_eq,Bool.and_eq_true,beq_iff_eq] at *
   rcases h1 with h1 | ⟨rfl,h1⟩ <;> rcases h2 with h2 | ⟨rfl,h2⟩
   ·left; rw [UInt8.lt_iff_toNat_lt] at *; omega
   ·exact .inl h1
   ·exact .inl h2
   ·exact .inr ⟨rfl,less_trans a b c h1 h2⟩
theorem cmpI_cases (a b:Int):(a<b∧cmpI a b=-1∧cmpI b a=1)∨(a=b∧cmpI a b=0∧cmpI b a=0)∨(b<a∧cmpI a b=1∧cmpI b a=-1):=by
 unfold cmpI; grind
theorem cmpS_cases (a b:List UInt8):(Op.bytesLess a b=true∧cmpS a b=-1∧cmpS b a=1)∨(a=b∧cmpS a b=0∧cmpS b a=0)∨(Op.bytesLess b a=true∧cmpS a b=1∧cmpS b a=-1):=by
 unfold cmpS
 cases h1:Op.bytesLess a b with
 | true =>
   have h2:=less_asym a b h1
   have:¬ b=a:=fun e=>by subst e; rw [less_irr] at h1; cases h1
   simp [h2,this]
 | false =>
   cases h2:Op.bytesLess b a with
   | true =>
     have:¬ a=b:=fun e=>by subst e; rw [less_irr] at h2; cases h2
     simp [this]
   | false =>
     have:=less_tri a b h1 h2
     subst this; simp
theorem V.cmp_def (v u:V):v.cmp u=if cmpI v.k u.k ≠ 0 then cmpI v.k u.k else if cmpI v.n u.n ≠ 0 then cmpI v.n u.n else cmpS v.t u.t:=by
 simp only [V.cmp,orOf]; grind
theorem V.cmp_self (v:V):v.cmp v=0:=by
 rw [V.cmp_def,cmpI_self,cmpI_self]
 simp [cmpS,less_irr]
theorem cmpI_trans {a b c:Int} (h1:cmpI a b≤0) (h2:cmpI b c≤0):cmpI a c≤0∧(cmpI a c=0→cmpI a b=0∧cmpI b c=0):=by
 unfold cmpI at *; grind
theorem cmpS_trans {a b c:List UInt8} (h1:cmpS a b≤0) (h2:cmpS b c≤0):cmpS a c≤0:=by
 rcases cmpS_cases a b with x | x | x
 ·rcases cmpS_cases b c with y | y | y
  ·have:=less_trans a b c x.1 y.1
   simp [cmpS,this]
  ·rw [← y.1]; omega
  ·omega
 ·rw [x.1]; exact h2
 ·omega
theorem V.cmp_le {v u:V}:v.cmp u≤0↔cmpI v.k u.k<0∨(cmpI v.k u.k=0∧(cmpI v.n u.n<0∨(cmpI v.n u.n=0∧cmpS v.t u.t≤0))):=by
 rw [V.cmp_def]
 split
 ·omega
 ·split <;> omega
theorem V.cmp_trans {a b c:V} (h1:a.cmp b≤0) (h2:b.cmp c≤0):a.cmp c≤0:=by
 rw [V.cmp_le] at *
 have k:=@cmpI_trans a.k b.k c.k
 have n:=@cmpI_trans a.n b.n c.n
 have s:=@cmpS_trans a.t b.t c.t
 have k1:cmpI a.k b.k≤0:=by omega
 have k2:cmpI b.k c.k≤0:=by omega
 have k3:=k k1 k2
 by_cases e:cmpI a.k c.k=0
 ·have e2:=k3.2 e
  have n1:cmpI a.n b.n≤0:=by omega
  have n2:cmpI b.n c.n≤0:=by omega
  have n3:=n n1 n2
  by_cases f:cmpI a.n c.n=0
  ·have f2:=n3.2 f
   exact .inr ⟨e,.inr ⟨f,s (by omega) (by omega)⟩⟩
  ·exact .inr ⟨e,.inl (by omega)⟩
 ·exact .inl (by omega)
end Go.Proofs.Tryz
namespace Go.Proofs.Tryz
open Go.Ab
def badN (c:Nat):Bool:=decide (c<32)||(decide (126<c)||c==39)
def badB (b:UInt8):Bool:=badN b.toNat
def firstBad (s:List UInt8):Int:=match s.findIdx? badB with
 | some i=>i
 | none=>-1
def textOk (s:List UInt8):Bool:=decide (s.length≤24)&&!s.any badB
theorem get_byte (s:List UInt8) (i:Nat) (h:i<s.length):(ByteArray.get! ⟨s.toArray⟩ i)=s[i]:=by
 simp [ByteArray.get!,h]
theorem dec_low {s:List UInt8} {i:Nat} (h:i<s.length) (hb:s[i].toNat<128):Utf8.decode ⟨s.toArray⟩ i=(s[i].toNat,1):=by
 unfold Utf8.decode
 simp only [Nat.add_zero,get_byte s i h,hb,if_true]
theorem dec_high {s:List UInt8} {i:Nat} (h:i<s.length) (hb:128≤s[i].toNat):128≤(Utf8.decode ⟨s.toArray⟩ i).1:=by
 unfold Utf8.decode
 simp only [Nat.add_zero,get_byte s i h,show ¬ s[i].toNat<128 from by omega,if_false]
 repeat' split
 all_goals first | (simp [Utf8.runeError]; done) | skip
 all_goals simp_all
 all_goals omega
theorem dec_bad {s:List UInt8} {i:Nat} (h:i<s.length):badN (Utf8.decode ⟨s.toArray⟩ i).1=badB s[i]:=by
 unfold badB
 by_cases hb:s[i].toNat<128
 ·rw [dec_low h hb]
 ·have:=dec_high h (by omega)
  have h1:badN (Utf8.decode ⟨s.toArray⟩ i).1=true:=by unfold badN; simp; omega
  have h2:badN s[i].toNat=true:=by unfold badN; simp; omega
  rw [h1,h2]
theorem dec_ok {s:List UInt8} {i:Nat} (h:i<s.length) (hb:badB s[i]=false):(Utf8.decode ⟨s.toArray⟩ i).2=1:=by
 have:s[i].toNat<128:=by unfold badB badN at hb; simp at hb; omega
 rw [dec_low h this]
theorem text_fun (c:Nat):Cf En 219 [.d (.int .i32 c)] [] (.d (.bool (badN c))) []:=by
 refine cf_intro mix (fn:=Tryz.f219) (by kernel_rfl) rfl (by kernel_rfl) (by decide) (by simp) ?_
 unfold badN
 by_cases h1:c<32
 ·have h1':(c:Int)<32:=by omega
  simp [h1,h1']
  exact ⟨.of (by kernel_rfl),.of (by kernel_rfl)⟩
 ·have h1':¬ (c:Int)<32:=by omega
  by_cases h2:126<c
  ·have h2':(126:Int)<c:=by omega
   simp [h1,h1',h2,h2']
   exact ⟨.of (by kernel_rfl),.of (by kernel_rfl)⟩
  ·have h2':¬ (126:Int)<c:=by omega
   simp [h1,h1',h2,h2']
   exact ⟨.of (by kernel_rfl),.of (by kernel_rfl),by rw [Bool.eq_iff_iff]; simp; omega⟩
theorem index_func (s:List UInt8) (hl:s.length≤1000000):Cf En 243 [.d (.str s),.clo 219 [],.d (.bool true)] [] (.d (.int .i64 (firstBad s))) []:=by
 refine cf_intro mix (fn:=Tryz.f243) (by kernel_rfl) rfl (by kernel_rfl) (by decide) (by simp) ?_
 simp
 refine ⟨.of (by kernel_rfl),.of (by kernel_rfl),?_⟩
 refine aloopT mix (by decide) (fun i:Nat=>{ s:=mkS [(0,.d (.str s)),(1,.clo 219 []),(2,.d (.bool true)),(10,.ptr 10 0 0)],b:=mkB [(10,10,.iter s i)] }) (fun i:Nat=>i≤s.length∧∀ j (h:j<s.length),j<i→badB s[j]=false) (fun i=>s.length - i) 0 (by simp) (sub_mk _ _ ⟨by simp,by simp,by simp [renOf,Blk.live],by simp⟩ (by simp [renOf])) ?_
 rintro i ⟨hi,ho⟩
 by_cases hlt:i<s.length
 ·simp [hlt]
  refine ⟨.of (by kernel_rfl),.of (by kernel_rfl),acallT_plain (text_fun (Utf8.decode ⟨s.toArray⟩ i).1) (by simp) ?_⟩
  simp
  have hb:=dec_bad hlt
  refine ⟨.of (by kernel_rfl),fun h=>⟨.of (by kernel_rfl),?_⟩,fun h=>⟨i+1,⟨hlt,?_⟩,?_,?_⟩⟩
  ·rw [hb] at h
   unfold firstBad
   have:s.findIdx? badB=some i:=by
    rw [List.findIdx?_eq_some_iff_getElem]
    exact ⟨hlt,h,fun j hj=>by simp [ho j (by omega) hj]⟩
   rw [this]
  ·intro j hj hji
   rcases Nat.lt_or_ge j i with c | c
   ·exact ho j hj c
   ·have:j=i:=by omega
    subst this
    rw [← hb]; exact h
  ·refine sub_mk _ [(10,10,.iter s (i+1))] ⟨by simp,by simp,?_,by simp⟩ (by simp [renOf])
   rw [hb] at h
   simp [renOf,Blk.live,dec_ok hlt h]
  ·simp; omega
 ·simp [hlt]
  refine ⟨.of (by kernel_rfl),.of (by kernel_rfl),?_⟩
  unfold firstBad
  have:s.findIdx? badB=none:=by
   rw [List.findIdx?_eq_none_iff]
   intro b hb
   obtain ⟨j,hj,rfl⟩:=List.getElem_of_mem hb
   exact ho j hj (by omega)
  rw [this]
theorem index_func2 (s:List UInt8) (hl:s.length≤1000000):Cf En 218 [.d (.str s),.clo 219 []] [] (.d (.int .i64 (firstBad s))) []:=by
 refine cf_intro mix (fn:=Tryz.f218) (by kernel_rfl) rfl (by kernel_rfl) (by decide) (by simp) ?_
 simp
 refine ⟨.of (by kernel_rfl),acallT_plain (index_func s hl) (by simp) ?_⟩
 simp
 exact .of (by kernel_rfl)
theorem firstBad_neg (s:List UInt8):decide (firstBad s<0)=!s.any badB:=by
 unfold firstBad
 cases h:s.findIdx? badB with
 | none =>
   rw [List.findIdx?_eq_none_iff] at h
   have:s.any badB=false:=by rw [List.any_eq_false]; intro x hx; simp [h x hx]
   simp [this]
 | some i =>
   rw [List.findIdx?_eq_some_iff_getElem] at h
   obtain ⟨hi,h,_⟩:=h
   have:s.any badB=true:=List.any_eq_true.2 ⟨_,List.getElem_mem hi,h⟩
   simp [this]
theorem v_text (s:List UInt8):Cf En 168 [.d (.str s)] [] (.d (.bool (textOk s))) []:=by
 refine cf_intro mix (fn:=Tryz.f168) (by kernel_rfl) rfl (by kernel_rfl) (by decide) (by simp) ?_
 have hn:=firstBad_neg s
 unfold textOk
 by_cases h:s.length≤24
 ·have h':(s.length:Int)≤24:=by omega
  simp [h,h']
  refine ⟨.of (by kernel_rfl),acallT_plain (index_func2 s (by omega)) (by simp) ?_⟩
  simp [h']
  exact ⟨.of (by kernel_rfl),by rw [hn]; simp [h]⟩
 ·have h':¬ (s.length:Int)≤24:=by omega
  simp [h,h']
  exact ⟨.of (by kernel_rfl),.of (by kernel_rfl)⟩
def V.valid (v:V):Bool :=
 if v.k=0 then v.n==0&&v.t==[]
 else if v.k=1 then decide (-1000000000000≤v.n)&&(decide (v.n≤1000000000000)&&v.t==[])
 else if v.k=2 then (v.n==0||v.n==1)&&v.t==[]
 else if v.k=3 then v.n==0&&textOk v.t
 else false
theorem v_valid (v:V):Cf En 116 [v.a] [] (.d (.bool v.valid)) []:=by
 refine cf_intro mix (fn:=Tryz.f116) (by kernel_rfl) rfl (by kernel_rfl) (by decide) (by simp) ?_
 obtain ⟨k,n,t⟩:=v
 unfold V.valid V.a
 simp
 repeat' (first | exact .of (by kernel_rfl) | refine And.intro ?_ ?_ | intro _)
 all_goals try (refine agrd_cases (fun h=>?_) (fun h=>?_) <;> (have h':=h; (try simp at h'); simp [h,h']))
 repeat' (first | exact .of (by kernel_rfl) | refine And.intro ?_ ?_ | intro _)
 all_goals try (refine agrd_cases (fun h=>?_) (fun h=>?_) <;> (have h':=h; (try simp at h'); simp [h,h']))
 repeat' (first | exact .of (by kernel_rfl) | refine And.intro ?_ ?_ | intro _)
 all_goals try (refine agrd_cases (fun h=>?_) (fun h=>?_) <;> (have h':=h; (try simp at h'); simp [h,h']))
 repeat' (first | exact .of (by kernel_rfl) | refine And.intro ?_ ?_ | intro _)
 all_goals try (refine acallT_plain (v_text t) (by simp) ?_; simp)
 repeat' (first | exact .of (by kernel_rfl) | refine And.intro ?_ ?_ | intro _)
 all_goals try (simp_all; done)
end Go.Proofs.Tryz
namespace Go.Proofs.Tryz
open Go.Ab
theorem badB_def (b:UInt8):badB b=(decide ((b.toNat:Int)<32)||(decide (126<(b.toNat:Int))||decide ((b.toNat:Int)=39))):=by
 unfold badB badN
 rw [Bool.eq_iff_iff]
 simp
 omega
theorem r_valid (v:V):Cf En 118 [v.a] [] (.d (.bool v.valid)) []:=by
 refine cf_intro mix (fn:=Tryz.f118) (by kernel_rfl) rfl (by kernel_rfl) (by decide) (by simp) ?_
 obtain ⟨k,n,t⟩:=v
 unfold V.valid V.a
 simp
 repeat' (first | exact .of (by kernel_rfl) | refine And.intro ?_ ?_ | intro _)
 all_goals try (refine agrd_cases (fun h=>?_) (fun h=>?_) <;> (have h':=h; (try simp at h'); simp [h,h']))
 repeat' (first | exact .of (by kernel_rfl) | refine And.intro ?_ ?_ | intro _)
 all_goals try (refine agrd_cases (fun h=>?_) (fun h=>?_) <;> (have h':=h; (try simp at h'); simp [h,h']))
 repeat' (first | exact .of (by kernel_rfl) | refine And.intro ?_ ?_ | intro _)
 all_goals try (refine agrd_cases (fun h=>?_) (fun h=>?_) <;> (have h':=h; (try simp at h'); simp [h,h']))
 repeat' (first | exact .of (by kernel_rfl) | refine And.intro ?_ ?_ | intro _)
 all_goals try (simp_all; done)
 ·simp_all [textOk]; omega
 ·have hl:t.length≤24:=by omega
  refine aloopT mix (by decide) (fun i:Nat=>{ s:=mkS [(1,.ptr 1 0 0),(3,.d (.int .i64 i))],b:=mkB [(1,1,.var [.d (.int .i64 k),.d (.int .i64 0),.d (.str t)])] }) (fun i:Nat=>i≤t.length∧∀ j (h:j<t.length),j<i→badB t[j]=false) (fun i=>t.length - i) 0 (by simp) (sub_mk _ _ ⟨by simp,by simp,by simp [renOf,Blk.live],by simp⟩ (by simp [renOf])) ?_
  rintro i ⟨hi,ho⟩
  by_cases hlt:i<t.length
  ·have hg:t[i]?=some t[i]:=List.getElem?_eq_getElem hlt
   have hbd:=badB_def t[i]
   simp [hlt,hg]
   have hbad:badB t[i]=true→textOk t=false:=fun h=>by
    unfold textOk
    rw [List.any_eq_true.2 ⟨_,List.getElem_mem hlt,h⟩]
    simp
   refine ⟨.of (by kernel_rfl),?_⟩
   refine agrd_cases (fun h=>?_) (fun h=>?_) <;> (have h':=h; (try simp at h'); simp [h,h',hg])
   ·refine agrd_cases (fun h=>?_) (fun h=>?_) <;> (have h':=h; (try simp at h'); simp [h,h',hg])
    ·refine ⟨.of (by kernel_rfl),fun h3=>⟨.of (by kernel_rfl),?_⟩,fun h3=>⟨.of (by kernel_rfl),i+1,⟨hlt,?_⟩,?_,?_⟩⟩
     ·simp_all
     ·intro j hj hji
      rcases Nat.lt_or_ge j i with c | c
      ·exact ho j hj c
      ·have:j=i:=by omega
       subst this
       rw [hbd]; simp; omega
     ·refine sub_mk _ [(1,1,_)] ⟨by simp,by simp,by simp [renOf,Blk.live],by simp⟩ ?_
      simp [renOf]
      exact wrap_in (by omega) (by omega)
     ·simp; omega
    ·refine ⟨.of (by kernel_rfl),.of (by kernel_rfl),?_⟩
     simp_all
   ·refine ⟨.of (by kernel_rfl),.of (by kernel_rfl),?_⟩
    simp_all
  ·simp [hlt]
   refine ⟨.of (by kernel_rfl),.of (by kernel_rfl),?_⟩
   have:textOk t=true:=by
    unfold textOk
    simp [hl]
    intro x hx
    obtain ⟨j,hj,rfl⟩:=List.getElem_of_mem hx
    exact ho j hj (by omega)
   simp_all
end Go.Proofs.Tryz
namespace Go.Proofs
open Go.Shelf
def Tryz.lays144_ren:Go.Shelf.Ren:=⟨fun | 144=>207 | 143=>237 | 219=>265 | 217=>276 | 225=>277 | 224=>278 | 267=>279 | 266=>282 | 314=>283 | n=>n,fun | 9=>9 | 4=>4 | 3=>3 | 5=>5 | 46=>203 | 146=>274 | 51=>76 | n=>n,fun | 1=>2 | n=>n⟩
theorem Tryz.lays144:Go.Proofs.Lays.n144 Tryz.prog Tryz.lays144_ren:={
 mixed:=by kernel_rfl
 f143:=Tryz.func237.trans (congrArg some (by kernel_rfl))
 f144:=Tryz.func207.trans (congrArg some (by kernel_rfl))
 f217:=Tryz.func276.trans (congrArg some (by kernel_rfl))
 f219:=Tryz.func265.trans (congrArg some (by kernel_rfl))
 f224:=Tryz.func278.trans (congrArg some (by kernel_rfl))
 f225:=Tryz.func277.trans (congrArg some (by kernel_rfl))
 f266:=Tryz.func282.trans (congrArg some (by kernel_rfl))
 f267:=Tryz.func279.trans (congrArg some (by kernel_rfl))
 f314:=Tryz.func283.trans (congrArg some (by kernel_rfl))
 t3:=Tryz.underlying3
 a3:=Tryz.isAgg3
 z3:=Tryz.sizeOf3
 v3:=Tryz.zeroValue3
 t4:=Tryz.underlying4
 a4:=Tryz.isAgg4
 z4:=Tryz.sizeOf4
 v4:=Tryz.zeroValue4
 t5:=Tryz.underlying5
 a5:=Tryz.isAgg5
 z5:=Tryz.sizeOf5
 v5:=Tryz.zeroValue5
 t9:=Tryz.underlying9
 a9:=Tryz.isAgg9
 z9:=Tryz.sizeOf9
 v9:=Tryz.zeroValue9
 t46:=Tryz.underlying203
 a46:=Tryz.isAgg203
 z46:=Tryz.sizeOf203
 v46:=Tryz.zeroValue203
 t51:=Tryz.underlying76
 a51:=Tryz.isAgg76
 z51:=Tryz.sizeOf76
 v51:=Tryz.zeroValue76
 t146:=Tryz.underlying274
 a146:=Tryz.isAgg274
 z146:=Tryz.sizeOf274
 v146:=Tryz.zeroValue274
 g1:=by kernel_rfl }
open Go.RowKit Go.Lib in
theorem Tryz.strings_Contains (s sub:ByteArray) (m:Int) (w:World) (hs:s.size<4294967281) (hm:w.cell? ⟨2,0,none⟩=some (.int .i64 m)) :
  Calls Tryz.prog 207 #[.string s,.string sub] w fun e w'=>e=.returned (.bool (Lib.contains s.data.toList sub.data.toList))∧w'=w:=Any.strings_Contains Tryz.lays144 s sub m w hs hm
end Go.Proofs
