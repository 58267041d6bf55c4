import Derived.Test.YthpmjipkofbeiaaGreatDoorAbB
import Derived.Test.YthpmjipkofbeiaaGreatDoorProg
set_option linter.all false
namespace Go.Proofs.Tryz
open Go.Ab
noncomputable def En:Env:=⟨Tryz.prog,fun _=>none⟩
@[simp] theorem En_P:En.P=Tryz.prog:=id rfl
@[simp] theorem En_G (g:Nat):En.G g=none:=rfl
theorem mix:En.P.follows .mixedOrders=true:=by kernel_rfl
@[simp] theorem tinf2:tinf Tryz.prog 2=some { size:=1,bytes:=8,zero:=some [Value.int IntKind.i64 (0)],kind:=TK.int IntKind.i64 }:=by kernel_rfl
@[simp] theorem tinf3:tinf Tryz.prog 3=some { size:=1,bytes:=8,zero:=some [Value.int IntKind.i64 (0)],kind:=TK.int IntKind.i64 }:=by kernel_rfl
@[simp] theorem tinf4:tinf Tryz.prog 4=some { size:=1,bytes:=1,zero:=some [Value.bool false],kind:=TK.bool }:=by kernel_rfl
@[simp] theorem tinf5:tinf Tryz.prog 5=some { size:=1,bytes:=1,zero:=some [Value.int IntKind.u8 (0)],kind:=TK.int IntKind.u8 }:=by kernel_rfl
@[simp] theorem tinf9:tinf Tryz.prog 9=some { size:=1,bytes:=16,zero:=some [Value.string { data:={ toList:=[] } }],kind:=TK.string }:=by kernel_rfl
@[simp] theorem tinf22:tinf Tryz.prog 22=some { size:=1,bytes:=24,zero:=some [Value.slice none 0 0],kind:=TK.slice 3 }:=by kernel_rfl
@[simp] theorem tinf23:tinf Tryz.prog 23=some { size:=1,bytes:=24,zero:=some [Value.slice none 0 0],kind:=TK.slice 25 }:=by kernel_rfl
@[simp] theorem tinf25:tinf Tryz.prog 25=some { size:=6,bytes:=80,zero:=some [Value.int IntKind.i64 (0),Value.int IntKind.i64 (0),Value.int IntKind.i64 (0),Value.string { data:={ toList:=[] } },Value.string { data:={ toList:=[] } },Value.slice none 0 0],kind:=TK.struct [(0,1,false),(1,1,false),(2,1,false),(3,1,false),(4,1,false),(5,1,false)] }:=by kernel_rfl
@[simp] theorem tinf26:tinf Tryz.prog 26=some { size:=1,bytes:=8,zero:=some [Value.nilFunc],kind:=TK.other }:=by kernel_rfl
@[simp] theorem tinf30:tinf Tryz.prog 30=some { size:=2,bytes:=32,zero:=some [Value.slice none 0 0,Value.int IntKind.i64 (0)],kind:=TK.struct [(0,1,false),(1,1,false)] }:=by kernel_rfl
@[simp] theorem tinf52:tinf Tryz.prog 52=some { size:=1,bytes:=24,zero:=some [Value.slice none 0 0],kind:=TK.slice 9 }:=by kernel_rfl
@[simp] theorem tinf55:tinf Tryz.prog 55=some { size:=3,bytes:=32,zero:=some [Value.int IntKind.i64 (0),Value.int IntKind.i64 (0),Value.string { data:={ toList:=[] } }],kind:=TK.struct [(0,1,false),(1,1,false),(2,1,false)] }:=by kernel_rfl
@[simp] theorem tinf62:tinf Tryz.prog 62=some { size:=5,bytes:=48,zero:=some [Value.int IntKind.i64 (0),Value.string { data:={ toList:=[] } },Value.int IntKind.i64 (0),Value.int IntKind.i64 (0),Value.int IntKind.i64 (0)],kind:=TK.struct [(0,1,false),(1,1,false),(2,1,false),(3,1,false),(4,1,false)] }:=by kernel_rfl
@[simp] theorem tinf64:tinf Tryz.prog 64=some { size:=7,bytes:=72,zero:=some [Value.string { data:={ toList:=[] } },Value.int IntKind.i64 (0),Value.string { data:={ toList:=[] } },Value.int IntKind.i64 (0),Value.int IntKind.i64 (0),Value.int IntKind.i64 (0),Value.int IntKind.i64 (0)],kind:=TK.struct [(0,1,false),(1,5,true),(6,1,false)] }:=by kernel_rfl
@[simp] theorem tinf80:tinf Tryz.prog 80=some { size:=1,bytes:=24,zero:=some [Value.slice none 0 0],kind:=TK.slice 55 }:=by kernel_rfl
@[simp] theorem tinf83:tinf Tryz.prog 83=some { size:=4,bytes:=40,zero:=some [Value.string { data:={ toList:=[] } },Value.int IntKind.i64 (0),Value.int IntKind.i64 (0),Value.int IntKind.i64 (0)],kind:=TK.struct [(0,1,false),(1,1,false),(2,1,false),(3,1,false)] }:=by kernel_rfl
@[simp] theorem tinf87:tinf Tryz.prog 87=some { size:=4,bytes:=64,zero:=some [Value.string { data:={ toList:=[] } },Value.string { data:={ toList:=[] } },Value.string { data:={ toList:=[] } },Value.string { data:={ toList:=[] } }],kind:=TK.array 4 9 }:=by kernel_rfl
@[simp] theorem tinf91:tinf Tryz.prog 91=some { size:=7,bytes:=112,zero:=some [Value.string { data:={ toList:=[] } },Value.string { data:={ toList:=[] } },Value.string { data:={ toList:=[] } },Value.string { data:={ toList:=[] } },Value.string { data:={ toList:=[] } },Value.string { data:={ toList:=[] } },Value.string { data:={ toList:=[] } }],kind:=TK.array 7 9 }:=by kernel_rfl
@[simp] theorem tinf98:tinf Tryz.prog 98=some { size:=1,bytes:=24,zero:=some [Value.slice none 0 0],kind:=TK.slice 103 }:=by kernel_rfl
@[simp] theorem tinf101:tinf Tryz.prog 101=some { size:=2,bytes:=32,zero:=some [Value.slice none 0 0,Value.int IntKind.i64 (0)],kind:=TK.struct [(0,1,false),(1,1,false)] }:=by kernel_rfl
@[simp] theorem tinf103:tinf Tryz.prog 103=some { size:=3,bytes:=32,zero:=some [Value.int IntKind.i64 (0),Value.string { data:={ toList:=[] } },Value.int IntKind.i64 (0)],kind:=TK.struct [(0,1,false),(1,1,false),(2,1,false)] }:=by kernel_rfl
@[simp] theorem tinf118:tinf Tryz.prog 118=some { size:=1,bytes:=24,zero:=some [Value.slice none 0 0],kind:=TK.slice 2 }:=by kernel_rfl
@[simp] theorem tinf122:tinf Tryz.prog 122=some { size:=96,bytes:=960,zero:=some [Value.string { data:={ toList:=[] } },Value.int IntKind.i64 (0),Value.int IntKind.i64 (0),Value.int IntKind.i64 (0),Value.string { data:={ toList:=[] } },Value.int IntKind.i64 (0),Value.int IntKind.i64 (0),Value.int IntKind.i64 (0),Value.string { data:={ toList:=[] } },Value.int IntKind.i64 (0),Value.int IntKind.i64 (0),Value.int IntKind.i64 (0),Value.string { data:={ toList:=[] } },Value.int IntKind.i64 (0),Value.int IntKind.i64 (0),Value.int IntKind.i64 (0),Value.string { data:={ toList:=[] } },Value.int IntKind.i64 (0),Value.int IntKind.i64 (0),Value.int IntKind.i64 (0),Value.string { data:={ toList:=[] } },Value.int IntKind.i64 (0),Value.int IntKind.i64 (0),Value.int IntKind.i64 (0),Value.string { data:={ toList:=[] } },Value.int IntKind.i64 (0),Value.int IntKind.i64 (0),Value.int IntKind.i64 (0),Value.string { data:={ toList:=[] } },Value.int IntKind.i64 (0),Value.int IntKind.i64 (0),Value.int IntKind.i64 (0),Value.string { data:={ toList:=[] } },Value.int IntKind.i64 (0),Value.int IntKind.i64 (0),Value.int IntKind.i64 (0),Value.string { data:={ toList:=[] } },Value.int IntKind.i64 (0),Value.int IntKind.i64 (0),Value.int IntKind.i64 (0),Value.string { data:={ toList:=[] } },Value.int IntKind.i64 (0),Value.int IntKind.i64 (0),Value.int IntKind.i64 (0),Value.string { data:={ toList:=[] } },Value.int IntKind.i64 (0),Value.int IntKind.i64 (0),Value.int IntKind.i64 (0),Value.string { data:={ toList:=[] } },Value.int IntKind.i64 (0),Value.int IntKind.i64 (0),Value.int IntKind.i64 (0),Value.string { data:={ toList:=[] } },Value.int IntKind.i64 (0),Value.int IntKind.i64 (0),Value.int IntKind.i64 (0),Value.string { data:={ toList:=[] } },Value.int IntKind.i64 (0),Value.int IntKind.i64 (0),Value.int IntKind.i64 (0),Value.string { data:={ toList:=[] } },Value.int IntKind.i64 (0),Value.int IntKind.i64 (0),Value.int IntKind.i64 (0),Value.string { data:={ toList:=[] } },Value.int IntKind.i64 (0),Value.int IntKind.i64 (0),Value.int IntKind.i64 (0),Value.string { data:={ toList:=[] } },Value.int IntKind.i64 (0),Value.int IntKind.i64 (0),Value.int IntKind.i64 (0),Value.string { data:={ toList:=[] } },Value.int IntKind.i64 (0),Value.int IntKind.i64 (0),Value.int IntKind.i64 (0),Value.string { data:={ toList:=[] } },Value.int IntKind.i64 (0),Value.int IntKind.i64 (0),Value.int IntKind.i64 (0),Value.string { data:={ toList:=[] } },Value.int IntKind.i64 (0),Value.int IntKind.i64 (0),Value.int IntKind.i64 (0),Value.string { data:={ toList:=[] } },Value.int IntKind.i64 (0),Value.int IntKind.i64 (0),Value.int IntKind.i64 (0),Value.string { data:={ toList:=[] } },Value.int IntKind.i64 (0),Value.int IntKind.i64 (0),Value.int IntKind.i64 (0),Value.string { data:={ toList:=[] } },Value.int IntKind.i64 (0),Value.int IntKind.i64 (0),Value.int IntKind.i64 (0)],kind:=TK.array 24 83 }:=by kernel_rfl
structure V where
 k:Int
 n:Int
 t:List UInt8
def V.a (v:V):AV:=.agg [.d (.int .i64 v.k),.d (.int .i64 v.n),.d (.str v.t)]
def V.c (v:V):List D:=[.int .i64 v.k,.int .i64 v.n,.str v.t]
def badN (c:Nat):Bool:=decide (c<32)||(decide (126<c)||c==39)
def badB (b:UInt8):Bool:=badN b.toNat
def firstBad (s:List UInt8):Int:=match s.findIdx? badB with
 | some i=>i
 | none=>-1
def textOk (s:List UInt8):Bool:=decide (s.length≤24)&&!s.any badB
theorem get_byte (s:List UInt8) (i:Nat) (h:i<s.length):(ByteArray.get! ⟨s.toArray⟩ i)=s[i]:=by
 simp [ByteArray.get!,h]
theorem dec_low {s:List UInt8} {i:Nat} (h:i<s.length) (hb:s[i].toNat<128):Utf8.decode ⟨s.toArray⟩ i=(s[i].toNat,1):=by
 unfold Utf8.decode
 simp only [Nat.add_zero,get_byte s i h,hb,if_true]
theorem dec_high {s:List UInt8} {i:Nat} (h:i<s.length) (hb:128≤s[i].toNat):128≤(Utf8.decode ⟨s.toArray⟩ i).1:=by
 unfold Utf8.decode
 simp only [Nat.add_zero,get_byte s i h,show ¬ s[i].toNat<128 from by omega,if_false]
 repeat' split
 all_goals first | (simp [Utf8.runeError]; done) | skip
 all_goals simp_all
 all_goals omega
theorem dec_bad {s:List UInt8} {i:Nat} (h:i<s.length):badN (Utf8.decode ⟨s.toArray⟩ i).1=badB s[i]:=by
 unfold badB
 by_cases hb:s[i].toNat<128
 ·rw [dec_low h hb]
 ·have:=dec_high h (by omega)
  have h1:badN (Utf8.decode ⟨s.toArray⟩ i).1=true:=by unfold badN; simp; omega
  have h2:badN s[i].toNat=true:=by unfold badN; simp; omega
  rw [h1,h2]
theorem dec_ok {s:List UInt8} {i:Nat} (h:i<s.length) (hb:badB s[i]=false):(Utf8.decode ⟨s.toArray⟩ i).2=1:=by
 have:s[i].toNat<128:=by unfold badB badN at hb; simp at hb; omega
 rw [dec_low h this]
theorem text_fun (c:Nat):Cf En 161 [.d (.int .i32 c)] [] (.d (.bool (badN c))) []:=by
 refine cf_intro mix (fn:=Tryz.f161) (by kernel_rfl) rfl (by kernel_rfl) (by decide) (by simp) ?_
 unfold badN
 by_cases h1:c<32
 ·have h1':(c:Int)<32:=by omega
  simp [h1,h1']
  exact ⟨.of (by kernel_rfl),.of (by kernel_rfl)⟩
 ·have h1':¬ (c:Int)<32:=by omega
  by_cases h2:126<c
  ·have h2':(126:Int)<c:=by omega
   simp [h1,h1',h2,h2']
   exact ⟨.of (by kernel_rfl),.of (by kernel_rfl)⟩
  ·have h2':¬ (126:Int)<c:=by omega
   simp [h1,h1',h2,h2']
   exact ⟨.of (by kernel_rfl),.of (by kernel_rfl),by rw [Bool.eq_iff_iff]; simp; omega⟩
theorem index_func (s:List UInt8) (hl:s.length≤1000000):Cf En 183 [.d (.str s),.clo 161 [],.d (.bool true)] [] (.d (.int .i64 (firstBad s))) []:=by
 refine cf_intro mix (fn:=Tryz.f183) (by kernel_rfl) rfl (by kernel_rfl) (by decide) (by simp) ?_
 simp
 refine ⟨.of (by kernel_rfl),.of (by kernel_rfl),?_⟩
 refine aloopT mix (by decide) (fun i:Nat=>{ s:=mkS [(0,.d (.str s)),(1,.clo 161 []),(2,.d (.bool true)),(10,.ptr 10 0 0)],b:=mkB [(10,10,.iter s i)] }) (fun i:Nat=>i≤s.length∧∀ j (h:j<s.length),j<i→badB s[j]=false) (fun i=>s.length - i) 0 (by simp) (sub_mk _ _ ⟨by simp,by simp,by simp [renOf,Blk.live],by simp⟩ (by simp [renOf])) ?_
 rintro i ⟨hi,ho⟩
 by_cases hlt:i<s.length
 ·simp [hlt]
  refine ⟨.of (by kernel_rfl),.of (by kernel_rfl),acallT_plain (text_fun (Utf8.decode ⟨s.toArray⟩ i).1) (by simp) ?_⟩
  simp
  have hb:=dec_bad hlt
  refine ⟨.of (by kernel_rfl),fun h=>⟨.of (by kernel_rfl),?_⟩,fun h=>⟨i+1,⟨hlt,?_⟩,?_,?_⟩⟩
  ·rw [hb] at h
   unfold firstBad
   have:s.findIdx? badB=some i:=by
    rw [List.findIdx?_eq_some_iff_getElem]
    exact ⟨hlt,h,fun j hj=>by simp [ho j (by omega) hj]⟩
   rw [this]
  ·intro j hj hji
   rcases Nat.lt_or_ge j i with c | c
   ·exact ho j hj c
   ·have:j=i:=by omega
    subst this
    rw [← hb]; exact h
  ·refine sub_mk _ [(10,10,.iter s (i+1))] ⟨by simp,by simp,?_,by simp⟩ (by simp [renOf])
   rw [hb] at h
   simp [renOf,Blk.live,dec_ok hlt h]
  ·simp; omega
 ·simp [hlt]
  refine ⟨.of (by kernel_rfl),.of (by kernel_rfl),?_⟩
  unfold firstBad
  have:s.findIdx? badB=none:=by
   rw [List.findIdx?_eq_none_iff]
   intro b hb
   obtain ⟨j,hj,rfl⟩:=List.getElem_of_mem hb
   exact ho j hj (by omega)
  rw [this]
theorem index_func2 (s:List UInt8) (hl:s.length≤1000000):Cf En 160 [.d (.str s),.clo 161 []] [] (.d (.int .i64 (firstBad s))) []:=by
 refine cf_intro mix (fn:=Tryz.f160) (by kernel_rfl) rfl (by kernel_rfl) (by decide) (by simp) ?_
 simp
 refine ⟨.of (by kernel_rfl),acallT_plain (index_func s hl) (by simp) ?_⟩
 simp
 exact .of (by kernel_rfl)
theorem firstBad_neg (s:List UInt8):decide (firstBad s<0)=!s.any badB:=by
 unfold firstBad
 cases h:s.findIdx? badB with
 | none =>
   rw [List.findIdx?_eq_none_iff] at h
   have:s.any badB=false:=by rw [List.any_eq_false]; intro x hx; simp [h x hx]
   simp [this]
 | some i =>
   rw [List.findIdx?_eq_some_iff_getElem] at h
   obtain ⟨hi,h,_⟩:=h
   have:s.any badB=true:=List.any_eq_true.2 ⟨_,List.getElem_mem hi,h⟩
   simp [this]
theorem v_text (s:List UInt8):Cf En 123 [.d (.str s)] [] (.d (.bool (textOk s))) []:=by
 refine cf_intro mix (fn:=Tryz.f123) (by kernel_rfl) rfl (by kernel_rfl) (by decide) (by simp) ?_
 have hn:=firstBad_neg s
 unfold textOk
 by_cases h:s.length≤24
 ·have h':(s.length:Int)≤24:=by omega
  simp [h,h']
  refine ⟨.of (by kernel_rfl),acallT_plain (index_func2 s (by omega)) (by simp) ?_⟩
  simp [h']
  exact ⟨.of (by kernel_rfl),by rw [hn]; simp [h]⟩
 ·have h':¬ (s.length:Int)≤24:=by omega
  simp [h,h']
  exact ⟨.of (by kernel_rfl),.of (by kernel_rfl)⟩
def V.valid (v:V):Bool :=
 if v.k=0 then v.n==0&&v.t==[]
 else if v.k=1 then decide (-1000000000000≤v.n)&&(decide (v.n≤1000000000000)&&v.t==[])
 else if v.k=2 then (v.n==0||v.n==1)&&v.t==[]
 else if v.k=3 then v.n==0&&textOk v.t
 else false
theorem v_valid (v:V):Cf En 83 [v.a] [] (.d (.bool v.valid)) []:=by
 refine cf_intro mix (fn:=Tryz.f83) (by kernel_rfl) rfl (by kernel_rfl) (by decide) (by simp) ?_
 obtain ⟨k,n,t⟩:=v
 unfold V.valid V.a
 simp
 repeat' (first | exact .of (by kernel_rfl) | refine And.intro ?_ ?_ | intro _)
 all_goals try (refine agrd_cases (fun h=>?_) (fun h=>?_) <;> (have h':=h; (try simp at h'); simp [h,h']))
 repeat' (first | exact .of (by kernel_rfl) | refine And.intro ?_ ?_ | intro _)
 all_goals try (refine agrd_cases (fun h=>?_) (fun h=>?_) <;> (have h':=h; (try simp at h'); simp [h,h']))
 repeat' (first | exact .of (by kernel_rfl) | refine And.intro ?_ ?_ | intro _)
 all_goals try (refine agrd_cases (fun h=>?_) (fun h=>?_) <;> (have h':=h; (try simp at h'); simp [h,h']))
 repeat' (first | exact .of (by kernel_rfl) | refine And.intro ?_ ?_ | intro _)
 all_goals try (refine acallT_plain (v_text t) (by simp) ?_; simp)
 repeat' (first | exact .of (by kernel_rfl) | refine And.intro ?_ ?_ | intro _)
 all_goals try (simp_all; done)
end Go.Proofs.Tryz
