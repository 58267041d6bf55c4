import Derived.Test.YthpmjipkofbeiaaGreatDoorAbB
import Derived.Test.YthpmjipkofbeiaaGreatDoorProg
import Derived.Shelf.Strings.Search3
set_option linter.all false
namespace Go.Proofs.Tryz
open Go.Ab
noncomputable def En:dA:=⟨Tryz.prog,fun _=>none⟩
@[simp] theorem aPH:En.P=Tryz.prog:=id rfl
@[simp] theorem aNx (g:Nat):En.G g=none:=rfl
theorem fQ:En.P.follows .mixedOrders=true:=by kernel_rfl
@[simp] theorem aPq:cV Tryz.prog 2=some { size:=1,bytes:=8,zero:=some [Value.int IntKind.i64 (0)],kind:=TK.int IntKind.i64 }:=by kernel_rfl
@[simp] theorem aPr:cV Tryz.prog 3=some { size:=1,bytes:=8,zero:=some [Value.int IntKind.i64 (0)],kind:=TK.int IntKind.i64 }:=by kernel_rfl
@[simp] theorem aPs:cV Tryz.prog 4=some { size:=1,bytes:=1,zero:=some [Value.bool false],kind:=TK.bool }:=by kernel_rfl
@[simp] theorem aPt:cV Tryz.prog 5=some { size:=1,bytes:=1,zero:=some [Value.int IntKind.u8 (0)],kind:=TK.int IntKind.u8 }:=by kernel_rfl
@[simp] theorem aPu:cV Tryz.prog 9=some { size:=1,bytes:=16,zero:=some [Value.string { data:={ toList:=[] } }],kind:=TK.string }:=by kernel_rfl
@[simp] theorem aOI:cV Tryz.prog 22=some { size:=1,bytes:=24,zero:=some [Value.slice none 0 0],kind:=TK.slice 3 }:=by kernel_rfl
@[simp] theorem aOJ:cV Tryz.prog 23=some { size:=1,bytes:=24,zero:=some [Value.slice none 0 0],kind:=TK.slice 25 }:=by kernel_rfl
@[simp] theorem aOK:cV Tryz.prog 25=some { size:=6,bytes:=80,zero:=some [Value.int IntKind.i64 (0),Value.int IntKind.i64 (0),Value.int IntKind.i64 (0),Value.string { data:={ toList:=[] } },Value.string { data:={ toList:=[] } },Value.slice none 0 0],kind:=TK.struct [(0,1,false),(1,1,false),(2,1,false),(3,1,false),(4,1,false),(5,1,false)] }:=by kernel_rfl
@[simp] theorem aOL:cV Tryz.prog 26=some { size:=1,bytes:=8,zero:=some [Value.nilFunc],kind:=TK.other }:=by kernel_rfl
@[simp] theorem aOM:cV Tryz.prog 30=some { size:=2,bytes:=32,zero:=some [Value.slice none 0 0,Value.int IntKind.i64 (0)],kind:=TK.struct [(0,1,false),(1,1,false)] }:=by kernel_rfl
@[simp] theorem aON:cV Tryz.prog 37=some { size:=1,bytes:=24,zero:=some [Value.slice none 0 0],kind:=TK.slice 72 }:=by kernel_rfl
@[simp] theorem aOO:cV Tryz.prog 38=some { size:=1,bytes:=24,zero:=some [Value.slice none 0 0],kind:=TK.slice 43 }:=by kernel_rfl
@[simp] theorem aOP:cV Tryz.prog 40=some { size:=3,bytes:=56,zero:=some [Value.string { data:={ toList:=[] } },Value.slice none 0 0,Value.string { data:={ toList:=[] } }],kind:=TK.struct [(0,1,false),(1,1,false),(2,1,false)] }:=by kernel_rfl
@[simp] theorem aOQ:cV Tryz.prog 41=some { size:=1,bytes:=24,zero:=some [Value.slice none 0 0],kind:=TK.slice 75 }:=by kernel_rfl
@[simp] theorem aOR:cV Tryz.prog 43=some { size:=13,bytes:=216,zero:=some [Value.int IntKind.i64 (0),Value.bool false,Value.bool false,Value.bool false,Value.slice none 0 0,Value.string { data:={ toList:=[] } },Value.slice none 0 0,Value.string { data:={ toList:=[] } },Value.slice none 0 0,Value.slice none 0 0,Value.slice none 0 0,Value.slice none 0 0,Value.slice none 0 0],kind:=TK.struct [(0,1,false),(1,1,false),(2,1,false),(3,1,false),(4,1,false),(5,3,true),(8,1,false),(9,1,false),(10,1,false),(11,1,false),(12,1,false)] }:=by kernel_rfl
@[simp] theorem aOS:cV Tryz.prog 44=some { size:=1,bytes:=8,zero:=some [Value.nilFunc],kind:=TK.other }:=by kernel_rfl
@[simp] theorem aOT:cV Tryz.prog 52=some { size:=1,bytes:=24,zero:=some [Value.slice none 0 0],kind:=TK.slice 9 }:=by kernel_rfl
@[simp] theorem aOU:cV Tryz.prog 55=some { size:=3,bytes:=32,zero:=some [Value.int IntKind.i64 (0),Value.int IntKind.i64 (0),Value.string { data:={ toList:=[] } }],kind:=TK.struct [(0,1,false),(1,1,false),(2,1,false)] }:=by kernel_rfl
@[simp] theorem aOV:cV Tryz.prog 62=some { size:=5,bytes:=48,zero:=some [Value.int IntKind.i64 (0),Value.string { data:={ toList:=[] } },Value.int IntKind.i64 (0),Value.int IntKind.i64 (0),Value.int IntKind.i64 (0)],kind:=TK.struct [(0,1,false),(1,1,false),(2,1,false),(3,1,false),(4,1,false)] }:=by kernel_rfl
@[simp] theorem aOW:cV Tryz.prog 64=some { size:=7,bytes:=72,zero:=some [Value.string { data:={ toList:=[] } },Value.int IntKind.i64 (0),Value.string { data:={ toList:=[] } },Value.int IntKind.i64 (0),Value.int IntKind.i64 (0),Value.int IntKind.i64 (0),Value.int IntKind.i64 (0)],kind:=TK.struct [(0,1,false),(1,5,true),(6,1,false)] }:=by kernel_rfl
@[simp] theorem aOX:cV Tryz.prog 72=some { size:=7,bytes:=96,zero:=some [Value.int IntKind.i64 (0),Value.int IntKind.i64 (0),Value.int IntKind.i64 (0),Value.string { data:={ toList:=[] } },Value.string { data:={ toList:=[] } },Value.slice none 0 0,Value.string { data:={ toList:=[] } }],kind:=TK.struct [(0,6,true),(6,1,false)] }:=by kernel_rfl
@[simp] theorem aOY:cV Tryz.prog 75=some { size:=5,bytes:=88,zero:=some [Value.int IntKind.i64 (0),Value.string { data:={ toList:=[] } },Value.slice none 0 0,Value.string { data:={ toList:=[] } },Value.slice none 0 0],kind:=TK.struct [(0,1,false),(1,3,true),(4,1,false)] }:=by kernel_rfl
@[simp] theorem aOZ:cV Tryz.prog 80=some { size:=1,bytes:=24,zero:=some [Value.slice none 0 0],kind:=TK.slice 55 }:=by kernel_rfl
@[simp] theorem aPa:cV Tryz.prog 83=some { size:=4,bytes:=40,zero:=some [Value.string { data:={ toList:=[] } },Value.int IntKind.i64 (0),Value.int IntKind.i64 (0),Value.int IntKind.i64 (0)],kind:=TK.struct [(0,1,false),(1,1,false),(2,1,false),(3,1,false)] }:=by kernel_rfl
@[simp] theorem aPb:cV Tryz.prog 87=some { size:=4,bytes:=64,zero:=some [Value.string { data:={ toList:=[] } },Value.string { data:={ toList:=[] } },Value.string { data:={ toList:=[] } },Value.string { data:={ toList:=[] } }],kind:=TK.array 4 9 }:=by kernel_rfl
@[simp] theorem aPc:cV Tryz.prog 91=some { size:=7,bytes:=112,zero:=some [Value.string { data:={ toList:=[] } },Value.string { data:={ toList:=[] } },Value.string { data:={ toList:=[] } },Value.string { data:={ toList:=[] } },Value.string { data:={ toList:=[] } },Value.string { data:={ toList:=[] } },Value.string { data:={ toList:=[] } }],kind:=TK.array 7 9 }:=by kernel_rfl
@[simp] theorem aPd:cV Tryz.prog 98=some { size:=1,bytes:=24,zero:=some [Value.slice none 0 0],kind:=TK.slice 103 }:=by kernel_rfl
@[simp] theorem aOb:cV Tryz.prog 101=some { size:=2,bytes:=32,zero:=some [Value.slice none 0 0,Value.int IntKind.i64 (0)],kind:=TK.struct [(0,1,false),(1,1,false)] }:=by kernel_rfl
@[simp] theorem aOc:cV Tryz.prog 103=some { size:=3,bytes:=32,zero:=some [Value.int IntKind.i64 (0),Value.string { data:={ toList:=[] } },Value.int IntKind.i64 (0)],kind:=TK.struct [(0,1,false),(1,1,false),(2,1,false)] }:=by kernel_rfl
@[simp] theorem aOd:cV Tryz.prog 110=some { size:=2,bytes:=40,zero:=some [Value.string { data:={ toList:=[] } },Value.slice none 0 0],kind:=TK.struct [(0,1,false),(1,1,false)] }:=by kernel_rfl
@[simp] theorem aOe:cV Tryz.prog 111=some { size:=1,bytes:=24,zero:=some [Value.slice none 0 0],kind:=TK.slice 110 }:=by kernel_rfl
@[simp] theorem aOf:cV Tryz.prog 117=some { size:=1,bytes:=24,zero:=some [Value.slice none 0 0],kind:=TK.slice 40 }:=by kernel_rfl
@[simp] theorem aOg:cV Tryz.prog 118=some { size:=1,bytes:=24,zero:=some [Value.slice none 0 0],kind:=TK.slice 2 }:=by kernel_rfl
@[simp] theorem aOh:cV Tryz.prog 122=some { size:=96,bytes:=960,zero:=some [Value.string { data:={ toList:=[] } },Value.int IntKind.i64 (0),Value.int IntKind.i64 (0),Value.int IntKind.i64 (0),Value.string { data:={ toList:=[] } },Value.int IntKind.i64 (0),Value.int IntKind.i64 (0),Value.int IntKind.i64 (0),Value.string { data:={ toList:=[] } },Value.int IntKind.i64 (0),Value.int IntKind.i64 (0),Value.int IntKind.i64 (0),Value.string { data:={ toList:=[] } },Value.int IntKind.i64 (0),Value.int IntKind.i64 (0),Value.int IntKind.i64 (0),Value.string { data:={ toList:=[] } },Value.int IntKind.i64 (0),Value.int IntKind.i64 (0),Value.int IntKind.i64 (0),Value.string { data:={ toList:=[] } },Value.int IntKind.i64 (0),Value.int IntKind.i64 (0),Value.int IntKind.i64 (0),Value.string { data:={ toList:=[] } },Value.int IntKind.i64 (0),Value.int IntKind.i64 (0),Value.int IntKind.i64 (0),Value.string { data:={ toList:=[] } },Value.int IntKind.i64 (0),Value.int IntKind.i64 (0),Value.int IntKind.i64 (0),Value.string { data:={ toList:=[] } },Value.int IntKind.i64 (0),Value.int IntKind.i64 (0),Value.int IntKind.i64 (0),Value.string { data:={ toList:=[] } },Value.int IntKind.i64 (0),Value.int IntKind.i64 (0),Value.int IntKind.i64 (0),Value.string { data:={ toList:=[] } },Value.int IntKind.i64 (0),Value.int IntKind.i64 (0),Value.int IntKind.i64 (0),Value.string { data:={ toList:=[] } },Value.int IntKind.i64 (0),Value.int IntKind.i64 (0),Value.int IntKind.i64 (0),Value.string { data:={ toList:=[] } },Value.int IntKind.i64 (0),Value.int IntKind.i64 (0),Value.int IntKind.i64 (0),Value.string { data:={ toList:=[] } },Value.int IntKind.i64 (0),Value.int IntKind.i64 (0),Value.int IntKind.i64 (0),Value.string { data:={ toList:=[] } },Value.int IntKind.i64 (0),Value.int IntKind.i64 (0),Value.int IntKind.i64 (0),Value.string { data:={ toList:=[] } },Value.int IntKind.i64 (0),Value.int IntKind.i64 (0),Value.int IntKind.i64 (0),Value.string { data:={ toList:=[] } },Value.int IntKind.i64 (0),Value.int IntKind.i64 (0),Value.int IntKind.i64 (0),Value.string { data:={ toList:=[] } },Value.int IntKind.i64 (0),Value.int IntKind.i64 (0),Value.int IntKind.i64 (0),Value.string { data:={ toList:=[] } },Value.int IntKind.i64 (0),Value.int IntKind.i64 (0),Value.int IntKind.i64 (0),Value.string { data:={ toList:=[] } },Value.int IntKind.i64 (0),Value.int IntKind.i64 (0),Value.int IntKind.i64 (0),Value.string { data:={ toList:=[] } },Value.int IntKind.i64 (0),Value.int IntKind.i64 (0),Value.int IntKind.i64 (0),Value.string { data:={ toList:=[] } },Value.int IntKind.i64 (0),Value.int IntKind.i64 (0),Value.int IntKind.i64 (0),Value.string { data:={ toList:=[] } },Value.int IntKind.i64 (0),Value.int IntKind.i64 (0),Value.int IntKind.i64 (0),Value.string { data:={ toList:=[] } },Value.int IntKind.i64 (0),Value.int IntKind.i64 (0),Value.int IntKind.i64 (0)],kind:=TK.array 24 83 }:=by kernel_rfl
@[simp] theorem aOi:cV Tryz.prog 132=some { size:=1,bytes:=8,zero:=some [Value.nilFunc],kind:=TK.other }:=by kernel_rfl
@[simp] theorem aOj:cV Tryz.prog 134=some { size:=1,bytes:=8,zero:=some [Value.nilFunc],kind:=TK.other }:=by kernel_rfl
@[simp] theorem aOk:cV Tryz.prog 144=some { size:=1,bytes:=24,zero:=some [Value.slice none 0 0],kind:=TK.slice 23 }:=by kernel_rfl
def tN:List (List UInt8)→List UInt8
 | []=>[32]
 | w::ws=>32::(w++tN ws)
def nA (sub:List UInt8):List UInt8→Bool
 | []=>sub.isEmpty
 | b::l=>sub.isPrefixOf (b::l)||nA sub l
theorem AE (sub:List UInt8):∀ l:List UInt8,decide (0≤Lib.index l sub)=nA sub l
 | []=>by unfold Lib.index nA; cases sub <;> simp
 | b::l=>by
   have ih:=AE sub l
   have hge:=Lib.index_ge l sub
   unfold Lib.index nA
   cases h:sub.isPrefixOf (b::l) with
   | true=>simp
   | false =>
     rw [← ih]
     simp only [Bool.false_or,Bool.false_eq_true,if_false]
     by_cases h1:Lib.index l sub=-1
     ·simp [h1]
     ·have:(Lib.index l sub==-1)=false:=by simpa using h1
      rw [this]
      simp
      omega
def oF (w:List UInt8):Bool:=w.all (· != 32)
theorem EC (s:List UInt8):∀ (w l:List UInt8),oF w=true→nA (32::(s++[32])) (w++l)=nA (32::(s++[32])) l
 | [],l,_=>rfl
 | b::w,l,h=>by
   simp only [oF,List.all_cons,Bool.and_eq_true,bne_iff_ne,ne_eq] at h
   have h2:oF w=true:=h.2
   rw [List.cons_append,nA,EC s w l h2]
   have:((32:UInt8)==b)=false:=by simpa using fun e=>h.1 e.symm
   simp [List.isPrefixOf,this]
theorem US (ws:List (List UInt8)):∃ l,tN ws=32::l:=by cases ws <;> exact ⟨_,rfl⟩
theorem ED:∀ (s w l:List UInt8),oF s=true→oF w=true→(s++[32]).isPrefixOf (w++32::l)=(s==w)
 | [],[],l,_,_=>by simp [List.isPrefixOf]
 | [],b::w,l,_,h=>by
   simp only [oF,List.all_cons,Bool.and_eq_true,bne_iff_ne,ne_eq] at h
   have:((32:UInt8)==b)=false:=by simpa using fun e=>h.1 e.symm
   simp [List.isPrefixOf,this]
 | a::s,[],l,h,_=>by
   simp only [oF,List.all_cons,Bool.and_eq_true,bne_iff_ne,ne_eq] at h
   have:(a==(32:UInt8))=false:=by simpa using h.1
   simp [List.isPrefixOf,this]
 | a::s,b::w,l,h1,h2=>by
   simp only [oF,List.all_cons,Bool.and_eq_true] at h1 h2
   have ih:=ED s w l h1.2 h2.2
   simp only [List.cons_append,List.isPrefixOf]
   rw [ih]
   rfl
theorem xJ (s:List UInt8) (hs:oF s=true):∀ ws:List (List UInt8),ws.all oF=true→nA (32::(s++[32])) (tN ws)=ws.contains s
 | [],_=>by cases s <;> simp [tN,nA,List.isPrefixOf]
 | w::ws,h=>by
   simp only [List.all_cons,Bool.and_eq_true] at h
   rw [tN,nA,EC s w _ h.1,xJ s hs ws h.2]
   obtain ⟨l,hl⟩:=US ws
   simp only [List.isPrefixOf,BEq.rfl,Bool.true_and]
   rw [hl,ED s w l hs h.1,Bool.eq_iff_iff]
   simp
def jO (c:UInt8):Bool:=decide (97≤c.toNat)&&decide (c.toNat≤122)
def dR (c:UInt8):Bool:=jO c||(decide (48≤c.toNat)&&decide (c.toNat≤57)||c.toNat==95)
theorem UT {c:UInt8} (h:dR c=true):(c != 32)=true:=by
 have:c ≠ 32:=by rintro rfl; revert h; decide
 simpa using this
theorem LK {s:List UInt8} (h:s.all dR=true):oF s=true:=by
 rw [List.all_eq_true] at h
 exact List.all_eq_true.2 fun x hx=>UT (h x hx)
def tO:List UInt8→Bool
 | []=>false
 | c::_=>jO c
def bP (ws:List (List UInt8)) (s:List UInt8):Bool:=decide (s.length≤16)&&(tO s&&(s.all dR&&!ws.contains s))
structure V where
 k:Int
 n:Int
 t:List UInt8
def V.a (v:V):AV:=.agg [.d (.int .i64 v.k),.d (.int .i64 v.n),.d (.str v.t)]
def V.c (v:V):List D:=[.int .i64 v.k,.int .i64 v.n,.str v.t]
def KH (c:Nat):Bool:=decide (c<32)||(decide (126<c)||c==39)
def uK (b:UInt8):Bool:=KH b.toNat
def sX (s:List UInt8):Int:=match s.findIdx? uK with
 | some i=>i
 | none=>-1
def oK (s:List UInt8):Bool:=decide (s.length≤24)&&!s.any uK
theorem WJ (s:List UInt8) (i:Nat) (h:i<s.length):(ByteArray.get! ⟨s.toArray⟩ i)=s[i]:=by
 simp [ByteArray.get!,h]
theorem aBZ {s:List UInt8} {i:Nat} (h:i<s.length) (hb:s[i].toNat<128):Utf8.decode ⟨s.toArray⟩ i=(s[i].toNat,1):=by
 unfold Utf8.decode
 simp only [Nat.add_zero,WJ s i h,hb,if_true]
theorem aGI {s:List UInt8} {i:Nat} (h:i<s.length) (hb:128≤s[i].toNat):128≤(Utf8.decode ⟨s.toArray⟩ i).1:=by
 unfold Utf8.decode
 simp only [Nat.add_zero,WJ s i h,show ¬ s[i].toNat<128 from by omega,if_false]
 repeat' split
 all_goals first | (simp [Utf8.runeError]; done) | skip
 all_goals simp_all
 all_goals omega
theorem aJh {s:List UInt8} {i:Nat} (h:i<s.length):KH (Utf8.decode ⟨s.toArray⟩ i).1=uK s[i]:=by
 unfold uK
 by_cases hb:s[i].toNat<128
 ·rw [aBZ h hb]
 ·have:=aGI h (by omega)
  have h1:KH (Utf8.decode ⟨s.toArray⟩ i).1=true:=by unfold KH; simp; omega
  have h2:KH s[i].toNat=true:=by unfold KH; simp; omega
  rw [h1,h2]
theorem aLT {s:List UInt8} {i:Nat} (h:i<s.length) (hb:uK s[i]=false):(Utf8.decode ⟨s.toArray⟩ i).2=1:=by
 have:s[i].toNat<128:=by unfold uK KH at hb; simp at hb; omega
 rw [aBZ h this]
theorem aGJ (c:Nat):Cf En 161 [.d (.int .i32 c)] [] (.d (.bool (KH c))) []:=by
 refine cI fQ (fn:=Tryz.f161) rfl ?_
 unfold KH
 by_cases h1:c<32
 ·have h1':(c:Int)<32:=by omega
  simp [h1,h1']
  exact ⟨.ok,.of (by kernel_rfl)⟩
 ·have h1':¬ (c:Int)<32:=by omega
  by_cases h2:126<c
  ·have h2':(126:Int)<c:=by omega
   simp [h1,h1',h2,h2']
   exact ⟨.ok,.of (by kernel_rfl)⟩
  ·have h2':¬ (126:Int)<c:=by omega
   simp [h1,h1',h2,h2']
   exact ⟨.ok,.ok,by rw [Bool.eq_iff_iff]; simp; omega⟩
theorem aAA (s:List UInt8) (hl:s.length≤1000000):Cf En 183 [.d (.str s),.clo 161 [],.d (.bool true)] [] (.d (.int .i64 (sX s))) []:=by
 refine cI fQ (fn:=Tryz.f183) rfl ?_
 simp
 refine ⟨.ok,.ok,?_⟩
 refine aL fQ (fun i:Nat=>{ s:=eP [(0,.d (.str s)),(1,.clo 161 []),(2,.d (.bool true)),(10,.ptr 10 0 0)],b:=eG [(10,10,.iter s i)] }) (fun i:Nat=>i≤s.length∧∀ j (h:j<s.length),j<i→uK s[j]=false) (fun i=>s.length - i) 0 (by simp) (aJ _ _ ⟨by simp,by simp,by simp [aD,Blk.live],by simp⟩ (by simp [aD])) ?_
 rintro i ⟨hi,ho⟩
 by_cases hlt:i<s.length
 ·simp [hlt]
  refine ⟨.ok,.ok,aA (aGJ (Utf8.decode ⟨s.toArray⟩ i).1) (by simp) ?_⟩
  simp
  have hb:=aJh hlt
  refine ⟨.ok,fun h=>⟨.ok,?_⟩,fun h=>⟨i+1,⟨hlt,?_⟩,?_,?_⟩⟩
  ·rw [hb] at h
   unfold sX
   have:s.findIdx? uK=some i:=by
    rw [List.findIdx?_eq_some_iff_getElem]
    exact ⟨hlt,h,fun j hj=>by simp [ho j (by omega) hj]⟩
   rw [this]
  ·intro j hj hji
   rcases Nat.lt_or_ge j i with c | c
   ·exact ho j hj c
   ·have:j=i:=by omega
    subst this
    rw [← hb]; exact h
  ·refine sM _ [(10,10,.iter s (i+1))] (?_) (by simp [aD])
   rw [hb] at h
   simp [aD,Blk.live,aLT hlt h]
  ·simp; omega
 ·simp [hlt]
  refine ⟨.ok,.ok,?_⟩
  unfold sX
  have:s.findIdx? uK=none:=by
   rw [List.findIdx?_eq_none_iff]
   intro b hb
   obtain ⟨j,hj,rfl⟩:=List.getElem_of_mem hb
   exact ho j hj (by omega)
  rw [this]
theorem WK (s:List UInt8) (hl:s.length≤1000000):Cf En 160 [.d (.str s),.clo 161 []] [] (.d (.int .i64 (sX s))) []:=by
 refine cI fQ (fn:=Tryz.f160) rfl ?_
 simp
 refine ⟨.ok,aA (aAA s hl) (by simp) ?_⟩
 simp
 exact .of (by kernel_rfl)
theorem QX (s:List UInt8):decide (sX s<0)=!s.any uK:=by
 unfold sX
 cases h:s.findIdx? uK with
 | none =>
   rw [List.findIdx?_eq_none_iff] at h
   have:s.any uK=false:=by rw [List.any_eq_false]; intro x hx; simp [h x hx]
   simp [this]
 | some i =>
   rw [List.findIdx?_eq_some_iff_getElem] at h
   obtain ⟨hi,h,_⟩:=h
   have:s.any uK=true:=List.any_eq_true.2 ⟨_,List.getElem_mem hi,h⟩
   simp [this]
theorem aLU (s:List UInt8):Cf En 123 [.d (.str s)] [] (.d (.bool (oK s))) []:=by
 refine cI fQ (fn:=Tryz.f123) rfl ?_
 have hn:=QX s
 unfold oK
 by_cases h:s.length≤24
 ·have h':(s.length:Int)≤24:=by omega
  simp [h']
  refine ⟨.ok,aA (WK s (by omega)) (by simp) ?_⟩
  simp
  exact ⟨.ok,by rw [hn]; simp [h]⟩
 ·have h':¬ (s.length:Int)≤24:=by omega
  simp [h,h']
  exact ⟨.ok,.of (by kernel_rfl)⟩
def V.valid (v:V):Bool :=
 if v.k=0 then v.n==0&&v.t==[]
 else if v.k=1 then decide (-1000000000000≤v.n)&&(decide (v.n≤1000000000000)&&v.t==[])
 else if v.k=2 then (v.n==0||v.n==1)&&v.t==[]
 else if v.k=3 then v.n==0&&oK v.t
 else false
theorem nR (v:V):Cf En 83 [v.a] [] (.d (.bool v.valid)) []:=by
 refine cI fQ (fn:=Tryz.f83) rfl ?_
 obtain ⟨k,n,t⟩:=v
 unfold V.valid V.a
 simp
 repeat' (first | exact .of (by kernel_rfl) | refine And.intro ?_ ?_ | intro _)
 all_goals try (refine aI (fun h=>?_) (fun h=>?_) <;> (have h':=h; (try simp at h'); simp [h,h']))
 repeat' (first | exact .of (by kernel_rfl) | refine And.intro ?_ ?_ | intro _)
 all_goals try (refine aI (fun h=>?_) (fun h=>?_) <;> (have h':=h; (try simp at h'); simp [h,h']))
 repeat' (first | exact .of (by kernel_rfl) | refine And.intro ?_ ?_ | intro _)
 all_goals try (refine aI (fun h=>?_) (fun h=>?_) <;> (have h':=h; (try simp at h'); simp [h,h']))
 repeat' (first | exact .of (by kernel_rfl) | refine And.intro ?_ ?_ | intro _)
 all_goals try (refine aP (aLU t) ?_; simp)
 repeat' (first | exact .of (by kernel_rfl) | refine And.intro ?_ ?_ | intro _)
 all_goals try (simp_all; done)
end Go.Proofs.Tryz
namespace Go.Proofs
open Go.Shelf
def Tryz.lays144_ren:Go.Shelf.Ren:=⟨fun | 144=>125 | 143=>162 | 219=>184 | 217=>176 | 225=>196 | 224=>197 | 267=>198 | 266=>194 | 314=>206 | n=>n,fun | 9=>9 | 4=>4 | 3=>3 | 5=>5 | 46=>185 | 146=>209 | 51=>182 | n=>n,fun | 1=>6 | n=>n⟩
theorem Tryz.lays144:Go.Proofs.Lays.n144 Tryz.prog Tryz.lays144_ren:={
 mixed:=by kernel_rfl
 f143:=Tryz.func162.trans (congrArg some (by kernel_rfl))
 f144:=Tryz.func125.trans (congrArg some (by kernel_rfl))
 f217:=Tryz.func176.trans (congrArg some (by kernel_rfl))
 f219:=Tryz.func184.trans (congrArg some (by kernel_rfl))
 f224:=Tryz.func197.trans (congrArg some (by kernel_rfl))
 f225:=Tryz.func196.trans (congrArg some (by kernel_rfl))
 f266:=Tryz.func194.trans (congrArg some (by kernel_rfl))
 f267:=Tryz.func198.trans (congrArg some (by kernel_rfl))
 f314:=Tryz.func206.trans (congrArg some (by kernel_rfl))
 t3:=Tryz.underlying3
 a3:=Tryz.isAgg3
 z3:=Tryz.sizeOf3
 v3:=Tryz.zeroValue3
 t4:=Tryz.underlying4
 a4:=Tryz.isAgg4
 z4:=Tryz.sizeOf4
 v4:=Tryz.zeroValue4
 t5:=Tryz.underlying5
 a5:=Tryz.isAgg5
 z5:=Tryz.sizeOf5
 v5:=Tryz.zeroValue5
 t9:=Tryz.underlying9
 a9:=Tryz.isAgg9
 z9:=Tryz.sizeOf9
 v9:=Tryz.zeroValue9
 t46:=Tryz.underlying185
 a46:=Tryz.isAgg185
 z46:=Tryz.sizeOf185
 v46:=Tryz.zeroValue185
 t51:=Tryz.underlying182
 a51:=Tryz.isAgg182
 z51:=Tryz.sizeOf182
 v51:=Tryz.zeroValue182
 t146:=Tryz.underlying209
 a146:=Tryz.isAgg209
 z146:=Tryz.sizeOf209
 v146:=Tryz.zeroValue209
 g1:=by kernel_rfl }
open Go.RowKit Go.Lib in
theorem Tryz.strings_Contains (s sub:ByteArray) (m:Int) (w:World) (hs:s.size<4294967281) (hm:w.cell? ⟨6,0,none⟩=some (.int .i64 m)) :
  Calls Tryz.prog 125 #[.string s,.string sub] w fun e w'=>e=.returned (.bool (Lib.contains s.data.toList sub.data.toList))∧w'=w:=Any.strings_Contains Tryz.lays144 s sub m w hs hm
end Go.Proofs
namespace Go.Proofs.Tryz
open Go.Ab
@[simp] theorem ZP (r:Nat→Option Nat) (bl:Nat→Blk) (kn:Bool):∀ l:List D,fL r bl kn (l.map AV.d)=(l.map AV.d,[])
  | []=>rfl
  | x::l=>by rw [List.map_cons,fL,ZP r bl kn l]; rfl
@[simp] theorem ZQ (bl:Nat→Blk):∀ l:List D,qH bl (l.map AV.d)=some (l,[])
  | []=>rfl
  | x::l=>by rw [List.map_cons,qH,ZQ bl l]; rfl
@[simp] theorem aHU:∀ l:List D,List.flatMap AV.names (l.map AV.d)=[]
  | []=>rfl
  | x::l=>by rw [List.map_cons,List.flatMap_cons,aHU l]; rfl
end Go.Proofs.Tryz
namespace Go.Proofs.Tryz
def uH {α:Type} (p:α→Bool):List α→Nat→Int
 | [],_=>-1
 | x::l,i=>if p x=true then i else uH p l (i+1)
theorem MP {α:Type} {p:α→Bool} {l:List α} {i k:Nat} (h:i<l.length):uH p (l.drop i) k=if p l[i]=true then (k:Int) else uH p (l.drop (i+1)) (k+1):=by
 rw [List.drop_eq_getElem_cons h,uH]
end Go.Proofs.Tryz
