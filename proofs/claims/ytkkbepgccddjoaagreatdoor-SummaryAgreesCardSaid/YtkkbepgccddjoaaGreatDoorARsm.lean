import Derived.Test.YtkkbepgccddjoaaGreatDoorAClo
import Derived.Test.YtkkbepgccddjoaaGreatDoorAPln
import Derived.Test.YtkkbepgccddjoaaGreatDoorPlb
import Derived.Test.YtkkbepgccddjoaaGreatDoorTye
import Derived.Test.YtkkbepgccddjoaaGreatDoorSve
import Derived.Test.YtkkbepgccddjoaaGreatDoorANamp
import Derived.Test.YtkkbepgccddjoaaGreatDoorAExp
import Derived.Test.YtkkbepgccddjoaaGreatDoorATgt
set_option linter.all false
namespace Go.Proofs.Tryz
open Go.Ab
set_option maxRecDepth 100000
set_option maxHeartbeats 1000000
end Go.Proofs.Tryz
namespace Go.Proofs.Tryz
open Go.Ab
set_option maxRecDepth 100000
set_option maxHeartbeats 2000000
def smallB (L:List Int) (i:Nat) (k:Int) (b:Bool):V:=if b=true then ((valuesOf k)[(nextV L i (min (valuesOf k).length 4:Nat)).toNat]?).getD nulV else smallV L i k
theorem t_smallB (L:List Int) (i:Nat) (hi:i≤1000000) (k:Int) (hk:k=1∨k=2∨k=3) (b:Bool) :
  Cf En 42 [.ptr 1000000 0 0,.d (.int .i64 k),.d (.bool b)] [tapB L i] (smallB L i k b).a [tapB L (i+1)]:=by
 cases b with
 | false=>exact t_small L i hi k hk
 | true =>
 have hl:(valuesOf k).length=13∨(valuesOf k).length=3∨(valuesOf k).length=8:=by
  rcases hk with rfl | rfl | rfl <;> decide
 obtain ⟨m,hm⟩:∃ m:Nat,m=min (valuesOf k).length 4:=⟨_,rfl⟩
 have hm4:3≤m∧m≤4∧m≤(valuesOf k).length:=by omega
 have hmin:(if (4:Int)<((valuesOf k).length:Int) then (4:Int) else ((valuesOf k).length:Int))=m:=by split <;> omega
 have e0:smallB L i k true=((valuesOf k)[(nextV L i (m:Nat)).toNat]?).getD nulV:=by unfold smallB; rw [if_pos rfl,hm]
 have hn:=nextV_in L i (n:=(m:Int)) (by omega)
 have hlt:(nextV L i (m:Nat)).toNat<(valuesOf k).length:=by omega
 have hg:(valuesOf k)[(nextV L i (m:Nat)).toNat]?=some (valuesOf k)[(nextV L i (m:Nat)).toNat]:=List.getElem?_eq_getElem hlt
 have ht:=t_next1 L i (by omega) (m:Nat) (by omega) (by omega)
 have e1:smallB L i k true=(valuesOf k)[(nextV L i (m:Nat)).toNat]:=by rw [e0,hg]; rfl
 have h0:0≤nextV L i (m:Int):=hn.1
 rw [e1]
 refine cf_intro mix (fn:=Tryz.f42) (by kernel_rfl) rfl (by kernel_rfl) (by decide) (by simp) ?_
 simp [tapB]
 (repeat' (first|contradiction|exact .ok|apply And.intro|intro _|(refine gc (fun h=>?_) (fun h=>?_)<;>(have h':=h;(try simp at h');first|done|simp[h,h']|simp))))
 refine acallT_plain (t_values k) (by simp [V.a]) ?_
 simp [hmin]
 (repeat' (first|contradiction|exact .ok|apply And.intro|intro _|(refine gc (fun h=>?_) (fun h=>?_)<;>(have h':=h;(try simp at h');first|done|simp[h,h']|simp))))
 try simp [hmin]
 refine acallT_hand [1000000] ht (by simp) (by simp) (by simp) (by simp [tapB]) (by simp) ?_
 simp [tapB,h0,hlt,V.c]
 (repeat' (first|contradiction|exact .ok|apply And.intro|intro _|(refine gc (fun h=>?_) (fun h=>?_)<;>(have h':=h;(try simp at h');first|done|simp[h,h']|simp))))
 all_goals simp [V.a]
end Go.Proofs.Tryz
namespace Go.Proofs.Tryz
open Go.Ab
set_option maxRecDepth 100000
set_option maxHeartbeats 8000000
end Go.Proofs.Tryz
namespace Go.Proofs.Tryz
open Go.Ab
set_option maxRecDepth 100000
set_option maxHeartbeats 1000000
structure SOk (S:List Tb):Prop where
 len:S.length≤1000
 ok:∀ x∈S,x.ok
 un:∀ x∈S,∀ l∈x.un,l.length≤1000
 ch:∀ x∈S,∀ e∈x.ch,ChOk e
def tyT (x:Tb) (e:Ex):Int×Int:=typeA (x.cols.map Col.t) e
def validS (S:List Tb):Int:=validE nm3 tyT S
def plainS (S:List Tb):Bool:=plnS (validS S) S
theorem s_validA {S:List Tb} (h:SOk S):Cf Es 104 [schA S] [] (.d (.int .i64 (validS S))) [] :=
 s_valid S h.len h.ok h.un tyT fun x hx e he=>x_typeA (by rw [List.length_map]; exact (h.ok x hx).cols) (h.ch x hx e he).few
theorem r_validA {S:List Tb} (h:SOk S):Cf Es 80 [schA S] [] (.d (.int .i64 (validS S))) [] :=
 r3_valid S h.len h.ok h.un tyT fun x hx e he=>ups (r_typeA (by rw [List.length_map]; exact (h.ok x hx).cols) (h.ch x hx e he).few)
theorem p_PlainA {S:List Tb} (h:SOk S):Cf Es 59 [schA S] [] (.d (.bool (plainS S))) []:=p_Plain S h.len h.ok h.ch tyT (s_validA h)
end Go.Proofs.Tryz
namespace Go.Proofs.Tryz
open Go.Ab
set_option maxRecDepth 100000
set_option maxHeartbeats 1000000
structure Bk where
 n:Nat
 v:List V
 p:List Int
def Bk.c (x:Bk):List D:=[.int .i64 x.n,.sl (x.v.map V.c),.sl (ints x.p)]
def bkD (l:List Bk):List D:=[.sl (l.map Bk.c)]
def smyA (X:List (List Bk)):AV:=.agg [.d (.sl (X.map bkD))]
def cntB (l:List Bk):List Nat:=l.map Bk.n
def sumN:List Nat→Nat
 | []=>0
 | c::cs=>c+sumN cs
def offN (at_:Nat):List Nat→List Nat
 | []=>[at_]
 | c::cs=>at_::offN (at_+c) cs
theorem offN_len (at_:Nat):∀ l:List Nat,(offN at_ l).length=l.length+1
 | []=>rfl
 | c::cs=>by rw [offN,List.length_cons,offN_len _ cs,List.length_cons]
theorem sumN_app (a b:List Nat):sumN (a++b)=sumN a+sumN b:=by
 induction a with
 | nil=>simp [sumN]
 | cons c a ih=>rw [List.cons_append,sumN,sumN,ih]; omega
theorem offN_get:∀ (l:List Nat) (at_ j:Nat),j≤l.length→(offN at_ l)[j]?=some (at_+sumN (l.take j))
 | [],at_,j,h=>by
   obtain rfl:j=0:=by simpa using h
   simp [offN,sumN]
 | c::cs,at_,0,_=>by simp [offN,sumN]
 | c::cs,at_,j+1,h=>by
   rw [offN,List.getElem?_cons_succ,offN_get cs _ j (by simpa using h),List.take_succ_cons,sumN]
   congr 1
   omega
def fndN:List Nat→Nat→Nat×Nat
 | [],n=>(0,n)
 | c::cs,n=>if n<c then (0,n) else ((fndN cs (n - c)).1+1,(fndN cs (n - c)).2)
theorem fndN_spec:∀ {l:List Nat} {n:Nat},n<sumN l→∃ h:(fndN l n).1<l.length,(fndN l n).2<l[(fndN l n).1]∧n=sumN (l.take (fndN l n).1)+(fndN l n).2
 | [],n,h=>by simp [sumN] at h
 | c::cs,n,h=>by
   rw [fndN]
   by_cases hc:n<c
   ·rw [if_pos hc]
    exact ⟨by simp,by simpa using hc,by simp [sumN]⟩
   ·rw [if_neg hc]
    obtain ⟨h1,h2,h3⟩:=fndN_spec (l:=cs) (n:=n - c) (by rw [sumN] at h; omega)
    refine ⟨by simpa using h1,by simpa using h2,?_⟩
    simp only [List.take_succ_cons,sumN]
    omega
theorem sumN_take {l:List Nat} {j:Nat} (h:j<l.length):sumN (l.take (j+1))=sumN (l.take j)+l[j]:=by
 rw [take_snoc h,sumN_app]
 simp [sumN]
theorem sumN_le (l:List Nat) (j:Nat):sumN (l.take j)≤sumN l:=by
 have:=sumN_app (l.take j) (l.drop j)
 rw [List.take_append_drop] at this
 omega
def tgtN (l:List Nat) (b j:Nat):Nat:=sumN (l.take b)+j % (l[b]?).getD 1
theorem tgtN_lt {l:List Nat} {b j:Nat} (h:b<l.length) (h0:0<l[b]):tgtN l b j<sumN l:=by
 unfold tgtN
 rw [List.getElem?_eq_getElem h,Option.getD_some]
 have h1:=Nat.mod_lt j h0
 have h2:=sumN_take h
 have h3:=sumN_le l (b+1)
 omega
def natI (l:List Nat):List Int:=l.map fun n:Nat=>(n:Int)
theorem natI_len (l:List Nat):(natI l).length=l.length:=List.length_map _
theorem natI_get {l:List Nat} {i:Nat} (h:i<l.length):(natI l)[i]'(by rw [natI_len]; exact h)=(l[i]:Int):=by unfold natI; rw [List.getElem_map]
theorem sumN_mono (l:List Nat) {i j:Nat} (h:i≤j):sumN (l.take i)≤sumN (l.take j):=by
 have:=sumN_le (l.take j) i
 rwa [List.take_take,Nat.min_eq_left h] at this
theorem offN_at {l:List Nat} {j:Nat} (h:j≤l.length):(offN 0 l)[j]?=some (sumN (l.take j)):=by
 rw [offN_get l 0 j h,Nat.zero_add]
theorem offN_last (l:List Nat):(offN 0 l)[l.length]?=some (sumN l):=by
 rw [offN_at (Nat.le_refl _),List.take_length]
end Go.Proofs.Tryz
namespace Go.Proofs.Tryz
open Go.Ab
set_option maxRecDepth 100000
set_option maxHeartbeats 4000000
theorem k_neg1 (n:Nat):Cf En 84 [.d (.int .i64 n)] [] (.d (.bool false)) []:=by
 refine cf_intro mix (fn:=Tryz.f84) (by kernel_rfl) rfl (by kernel_rfl) (by decide) (by simp) ?_
 simp
 all_goals exact gz
theorem k_negI (l:List Nat) (hl:l.length≤1000):Cf En 126 [.d (.sl (ints (natI l))),.clo 84 []] [] (.d (.int .i64 (-1))) []:=by
 refine cf_intro mix (fn:=Tryz.f126) (by kernel_rfl) rfl (by kernel_rfl) (by decide) (by simp) ?_
 have hll:=natI_len l
 simp [hll]
 (repeat' (first|contradiction|exact .ok|apply And.intro|intro _|(refine gc (fun h=>?_) (fun h=>?_)<;>(have h':=h;(try simp at h');first|done|simp[h,h']|simp))))
 refine aloopT mix (by decide) (fun i:Nat=>{ s:=mkS [(0,.d (.sl (ints (natI l)))),(1,.clo 84 []),(7,.d (.int .i64 l.length)),(8,.d (.int .i64 i))],b:=mkB [] }) (fun i=>i≤l.length) (fun i=>l.length - i) 0 (by simp) (sub_mk _ [] .nil (by simp)) ?_
 intro i hi
 by_cases hlt:i<l.length
 ·have hgi:=fun h=>natI_get (l:=l) (i:=i) h
  have hli:i<(natI l).length:=by omega
  have hw:=wrap_in (n:=(i:Int)+1) (by omega) (by omega)
  have hc:=k_neg1 l[i]
  simp [hlt,hli,hgi,hll]
  (repeat' (first|contradiction|exact .ok|apply And.intro|intro _|(refine gc (fun h=>?_) (fun h=>?_)<;>(have h':=h;(try simp at h');first|done|simp[h,h']|simp))))
  refine acallT_plain hc (by simp) ?_
  simp
  (repeat' (first|contradiction|exact .ok|apply And.intro|intro _|(refine gc (fun h=>?_) (fun h=>?_)<;>(have h':=h;(try simp at h');first|done|simp[h,h']|simp))))
  refine ⟨i+1,by omega,?_,by simp; omega⟩
  exact sub_mk _ [] .nil (by simp [hw])
 obtain rfl:i=l.length:=by omega
 simp
 all_goals exact gz
theorem k_negC (l:List Nat) (hl:l.length≤1000):Cf En 83 [.d (.sl (ints (natI l))),.clo 84 []] [] (.d (.bool false)) []:=by
 refine cf_intro mix (fn:=Tryz.f83) (by kernel_rfl) rfl (by kernel_rfl) (by decide) (by simp) ?_
 have hc:=k_negI l hl
 simp
 (repeat' (first|contradiction|exact .ok|apply And.intro|intro _|(refine gc (fun h=>?_) (fun h=>?_)<;>(have h':=h;(try simp at h');first|done|simp[h,h']|simp))))
 refine acallT_plain hc (by simp) ?_
 simp
 all_goals exact gz
theorem offN_snoc (l:List Nat) (a c:Nat):offN a (l++[c])=offN a l++[a+sumN l+c]:=by
 induction l generalizing a with
 | nil=>simp [offN,sumN]
 | cons d l ih =>
   rw [List.cons_append,offN,offN,ih,sumN,List.cons_append]
   congr 3
   omega
theorem k_offsets (l:List Nat) (hl:l.length≤1000) (hs:sumN l≤1000000):Cf En 46 [.d (.sl (ints (natI l)))] [] (.tup [.d (.sl (ints (natI (offN 0 l)))),.d (.int .i64 0)]) []:=by
 refine cf_intro mix (fn:=Tryz.f46) (by kernel_rfl) rfl (by kernel_rfl) (by decide) (by simp) ?_
 have hll:=natI_len l
 have hc:=k_negC l hl
 simp
 (repeat' (first|contradiction|exact .ok|apply And.intro|intro _|(refine gc (fun h=>?_) (fun h=>?_)<;>(have h':=h;(try simp at h');first|done|simp[h,h']|simp))))
 refine acallT_plain hc (by simp) ?_
 simp [hll]
 (repeat' (first|contradiction|exact .ok|apply And.intro|intro _|(refine gc (fun h=>?_) (fun h=>?_)<;>(have h':=h;(try simp at h');first|done|simp[h,h']|simp))))
 refine aloopT mix (by decide) (fun i:Nat=>{ s:=mkS [(4,.ref 900 0 (i+1) 1),(5,.d (.int .i64 (sumN (l.take i)))),(11,.d (.sl (ints (natI l)))),(12,.d (.int .i64 l.length)),(13,.d (.int .i64 i))],b:=mkB [(900,900,.arr 3 1 (ints (natI (offN 0 (l.take i)))) false)] }) (fun i=>i≤l.length) (fun i=>l.length - i) 0 (by simp)
  (sub_mk _ [(900,10,_)] ⟨by simp,by simp,by simp [renOf,Blk.live,offN,natI,ints],by simp⟩ (by simp [renOf,sumN])) ?_
 intro i hi
 have hol:(natI (offN 0 (l.take i))).length=i+1:=by rw [natI_len,offN_len,List.length_take]; omega
 by_cases hlt:i<l.length
 ·have hli:i<(natI l).length:=by omega
  have hw:=wrap_in (n:=(i:Int)+1) (by omega) (by omega)
  have hst:=sumN_take hlt
  have hsl:=sumN_le l (i+1)
  have hon:natI (offN 0 (l.take (i+1)))=natI (offN 0 (l.take i))++[((sumN (l.take i)+l[i]:Nat):Int)]:=by
   rw [take_snoc hlt,offN_snoc,Nat.zero_add]
   unfold natI
   rw [List.map_append]
   rfl
  generalize natI (offN 0 (l.take i))=O at *
  obtain ⟨c,hc0⟩:∃ c,c=l[i]:=⟨_,rfl⟩
  rw [← hc0] at hst hon
  have hgi:∀ h,(natI l)[i]'h=(c:Int):=fun _=>by rw [natI_get hlt,hc0]
  generalize sumN (l.take i)=a at *
  have hw1:=wrap_in (n:=1000000000 - (a:Int)) (by omega) (by omega)
  have hw2:=wrap_in (n:=(a:Int)+c) (by omega) (by omega)
  have hbig:¬ (1000000000:Int) - a<c:=by omega
  have htk:(ints O).take (i+1)=ints O:=List.take_of_length_le (by simp [ints,hol])
  simp [hlt,hli,hgi,hll,hw1,hw2,hbig,hol,htk,szs (i+1) (by omega) 8 (by decide),szs (i+1+1) (by omega) 8 (by decide)]
  (repeat' (first|contradiction|exact .ok|apply And.intro|intro _|(refine gc (fun h=>?_) (fun h=>?_)<;>(have h':=h;(try simp at h');first|done|simp[h,h',hbig]|simp[hbig]))))
  refine ⟨i+1,by omega,?_,by simp; omega⟩
  exact sub_mk _ [(900,27,_)] ⟨by simp,by simp,by simp [renOf,Blk.live,hon,ints],by simp⟩ (by simp [renOf,hw,hst])
 obtain rfl:i=l.length:=by omega
 rw [List.take_length] at *
 have htk:(ints (natI (offN 0 l))).take (l.length+1)=ints (natI (offN 0 l)):=List.take_of_length_le (by simp [ints,hol])
 simp [hol,htk]
 all_goals exact gz
theorem nan_c (a:Int):Cf En 220 [.d (.int .i64 a)] [] (.d (.bool false)) []:=by
 refine cf_intro mix (fn:=Tryz.f220) (by kernel_rfl) rfl (by kernel_rfl) (by decide) (by simp) ?_
 simp
 all_goals exact gz
theorem nan_s (a:Int):Cf En 174 [.d (.int .i64 a)] [] (.d (.bool false)) []:=by
 refine cf_intro mix (fn:=Tryz.f174) (by kernel_rfl) rfl (by kernel_rfl) (by decide) (by simp) ?_
 simp
 all_goals exact gz
theorem c_less (a b:Int):Cf En 173 [.d (.int .i64 a),.d (.int .i64 b)] [] (.d (.bool (decide (a<b)))) []:=by
 refine cf_intro mix (fn:=Tryz.f173) (by kernel_rfl) rfl (by kernel_rfl) (by decide) (by simp) ?_
 simp
 (repeat' (first|contradiction|exact .ok|apply And.intro|intro _|(refine gc (fun h=>?_) (fun h=>?_)<;>(have h':=h;(try simp at h');first|done|simp[h,h']|simp))))
 refine acallT_plain (nan_c a) (by simp) ?_
 simp
 all_goals exact gz
theorem wrapU_in {n:Int} (h0:0≤n) (h1:n<9223372036854775808):IntKind.u64.wrap n=n:=by
 unfold IntKind.wrap
 simp [IntKind.bits,IntKind.signed]
 omega
theorem k_search (l:List Int) (hl:l.length≤1000) (t:Int) (K:Nat) (hK:K≤l.length) (h1:∀ q (h:q<l.length),q<K→l[q]<t) (h2:∀ q (h:q<l.length),K≤q→t≤l[q]) :
  Cf En 127 [.d (.sl (ints l)),.d (.int .i64 t)] [] (.tup [.d (.int .i64 K),.d (.bool (match l[K]? with | some z=>z==t | none=>false))]) []:=by
 refine cf_intro mix (fn:=Tryz.f127) (by kernel_rfl) rfl (by kernel_rfl) (by decide) (by simp) ?_
 simp
 (repeat' (first|contradiction|exact .ok|apply And.intro|intro _|(refine gc (fun h=>?_) (fun h=>?_)<;>(have h':=h;(try simp at h');first|done|simp[h,h']|simp))))
 refine aloopT mix (by decide) (fun y:Nat×Nat=>{ s:=mkS [(0,.d (.sl (ints l))),(1,.d (.int .i64 t)),(6,.d (.int .i64 l.length)),(7,.d (.int .i64 y.1)),(8,.d (.int .i64 y.2))],b:=mkB [] }) (fun y=>y.1≤K∧K≤y.2∧y.2≤l.length) (fun y=>y.2 - y.1) (0,l.length) ⟨by simp,by simpa using hK,by simp⟩ (sub_mk _ [] .nil (by simp)) ?_
 rintro ⟨i,j⟩ ⟨hi,hj,hjl⟩
 simp only at hi hj hjl
 by_cases hij:i<j
 ·have hiji:(i:Int)<j:=by omega
  obtain ⟨m,hm⟩:∃ m,m=(i+j) / 2:=⟨_,rfl⟩
  have hml:m<l.length:=by omega
  obtain ⟨z,hz⟩:∃ z,z=l[m]:=⟨_,rfl⟩
  have hgz:∀ h,l[m]'h=z:=fun _=>hz.symm
  have hw1:=wrap_in (n:=(i:Int)+j) (by omega) (by omega)
  have hw2:=wrap_in (n:=(m:Int)) (by omega) (by omega)
  have hwu:IntKind.u64.wrap ((i:Int)+j)=(i:Int)+j:=wrapU_in (by omega) (by omega)
  have hfd:((i:Int)+j).fdiv 2=(m:Int):=by
   rw [Int.fdiv_eq_ediv_of_nonneg _ (by omega)]
   omega
  have hbt:IntKind.u64.bits=64:=rfl
  have hw3:=wrap_in (n:=(m:Int)+1) (by omega) (by omega)
  have hc:=c_less z t
  by_cases hzt:z<t
  ·have hmK:m<K:=by
    rcases Nat.lt_or_ge m K with h | h
    ·exact h
    ·have:=h2 m hml h
     rw [← hz] at this; omega
   simp [hiji,hw1,hw2,hwu,hfd,hbt,hml,hgz]
   (repeat' (first|contradiction|exact .ok|apply And.intro|intro _|(refine gc (fun h=>?_) (fun h=>?_)<;>(have h':=h;(try simp at h');first|done|simp[h,h',hiji]|simp[hiji]))))
   refine acallT_plain hc (by simp) ?_
   simp [hzt,hw3]
   (repeat' (first|contradiction|exact .ok|apply And.intro|intro _|(refine gc (fun h=>?_) (fun h=>?_)<;>(have h':=h;(try simp at h');first|done|simp[h,h',hzt]|simp[hzt]))))
   refine ⟨(m+1,j),⟨by simp only; omega,by simp only; omega,by simp only; omega⟩,?_,by simp; omega⟩
   exact sub_mk _ [] .nil (by simp [hw3])
  ·have hKm:K≤m:=by
    rcases Nat.lt_or_ge m K with h | h
    ·have:=h1 m hml h
     rw [← hz] at this; omega
    ·exact h
   simp [hiji,hw1,hw2,hwu,hfd,hbt,hml,hgz]
   (repeat' (first|contradiction|exact .ok|apply And.intro|intro _|(refine gc (fun h=>?_) (fun h=>?_)<;>(have h':=h;(try simp at h');first|done|simp[h,h',hiji]|simp[hiji]))))
   refine acallT_plain hc (by simp) ?_
   simp [hzt]
   (repeat' (first|contradiction|exact .ok|apply And.intro|intro _|(refine gc (fun h=>?_) (fun h=>?_)<;>(have h':=h;(try simp at h');first|done|simp[h,h',hzt]|simp[hzt]))))
   refine ⟨(i,m),⟨by simp only; omega,by simp only; omega,by simp only; omega⟩,?_,by simp; omega⟩
   exact sub_mk _ [] .nil (by simp)
 have hie:K=i:=by omega
 have hje:K=j:=by omega
 subst hie hje
 by_cases hKl:K<l.length
 ·have hKli:(K:Int)<l.length:=by omega
  obtain ⟨z,hz⟩:∃ z,z=l[K]:=⟨_,rfl⟩
  have hgz:∀ h,l[K]'h=z:=fun _=>hz.symm
  rw [List.getElem?_eq_getElem hKl,← hz]
  by_cases hzt:z=t
  ·simp [hKl,hgz,hzt]
   (repeat' (first|contradiction|exact .ok|apply And.intro|intro _|(refine gc (fun h=>?_) (fun h=>?_)<;>(have h':=h;(try simp at h');first|done|simp[h,h',hKl,hgz,hzt]|simp[hKl,hgz,hzt]))))
  ·simp [hKl,hgz,hzt]
   (repeat' (first|contradiction|exact .ok|apply And.intro|intro _|(refine gc (fun h=>?_) (fun h=>?_)<;>(have h':=h;(try simp at h');first|done|simp[h,h',hKl,hgz,hzt]|simp[hKl,hgz,hzt]))))
   refine acallT_plain (nan_s z) (by simp) ?_
   simp
   all_goals exact gz
 ·rw [List.getElem?_eq_none (by omega)]
  simp [hKl]
  (repeat' (first|contradiction|exact .ok|apply And.intro|intro _|(refine gc (fun h=>?_) (fun h=>?_)<;>(have h':=h;(try simp at h');first|done|simp[h,h',hKl]|simp[hKl]))))
theorem k_find (l:List Nat) (hl:l.length≤900) (hs:sumN l≤1000000) (n:Nat) (hn:n<sumN l):Cf En 86 [.d (.sl (ints (natI l))),.d (.int .i64 n)] [] (.tup [.d (.int .i64 (fndN l n).1),.d (.int .i64 (fndN l n).2),.d (.bool true)]) []:=by
 refine cf_intro mix (fn:=Tryz.f86) (by kernel_rfl) rfl (by kernel_rfl) (by decide) (by simp) ?_
 have ho:=k_offsets l (by omega) hs
 obtain ⟨k1,k2,k3⟩:=fndN_spec hn
 have hol:(natI (offN 0 l)).length=l.length+1:=by rw [natI_len,offN_len]
 have hat:∀ (j:Nat) (h:j<(natI (offN 0 l)).length),(natI (offN 0 l))[j]=(sumN (l.take j):Int):=fun j h=>by
  have hj:j<(offN 0 l).length:=by rw [natI_len] at h; exact h
  rw [natI_get hj]
  have:=offN_at (l:=l) (j:=j) (by rw [offN_len] at hj; omega)
  rw [List.getElem?_eq_getElem hj,Option.some.injEq] at this
  rw [this]
 have hst:=sumN_take k1
 have hsm:=k_search (natI (offN 0 l)) (by omega) ((n:Int)+1) ((fndN l n).1+1) (by omega)
  (fun q h hq=>by
   rw [hat q h]
   have:=sumN_mono l (i:=q) (j:=(fndN l n).1) (by omega)
   omega)
  (fun q h hq=>by
   rw [hat q h]
   have:=sumN_mono l (i:=(fndN l n).1+1) (j:=q) hq
   omega)
 have hgl:∀ h,(natI (offN 0 l))[l.length]'h=(sumN l:Int):=fun h=>by rw [hat _ h,List.take_length]
 have hgk:∀ h,(natI (offN 0 l))[(fndN l n).1]'h=(sumN (l.take (fndN l n).1):Int):=fun h=>hat _ h
 have hkl:(fndN l n).1<l.length:=k1
 clear hst k2 hat
 clear k1
 generalize natI (offN 0 l)=O at *
 generalize (match O[(fndN l n).1+1]? with | some z=>z==(n:Int)+1 | none=>false)=Q at *
 generalize (fndN l n).1=k at *
 generalize (fndN l n).2=j at *
 generalize sumN (l.take k)=a at *
 have hw1:=wrap_in (n:=(l.length:Int)) (by omega) (by omega)
 have hw2:=wrap_in (n:=(n:Int)+1) (by omega) (by omega)
 have hw3:=wrap_in (n:=(k:Int)) (by omega) (by omega)
 have hw4:=wrap_in (n:=(j:Int)) (by omega) (by omega)
 have hnj:(n:Int) - a=j:=by omega
 have hnn:¬ (n:Int)<0:=by omega
 have hns:¬ (sumN l:Int)≤n:=by omega
 have hll:l.length<O.length:=by omega
 have hkk:k<O.length:=by omega
 have e1:(l.length:Int)+1 - 1=l.length:=by omega
 have e2:(k:Int)+1 - 1=k:=by omega
 simp
 (repeat' (first|contradiction|exact .ok|apply And.intro|intro _|(refine gc (fun h=>?_) (fun h=>?_)<;>(have h':=h;(try simp at h');first|done|simp[h,h']|simp))))
 refine acallT_plain ho (by simp) ?_
 have hns2:¬ sumN l≤n:=by omega
 simp [hol,e1,hw1,hll,hgl,hns,hns2,hnn]
 (repeat' (first|contradiction|exact .ok|apply And.intro|intro _|(refine gc (fun h=>?_) (fun h=>?_)<;>(have h':=h;(try simp at h');first|done|simp[h,h',hol,e1,hw1,hll,hgl,hns,hns2,hnn]|simp[hol,e1,hw1,hll,hgl,hns,hns2,hnn]))))
 refine acallT_plain hsm (by simp [hw2]) ?_
 simp [e2,hw3,hkk,hgk,hnj,hw4]
 all_goals exact gz
theorem k_target (l:List Nat) (hl:l.length≤900) (hs:sumN l≤1000000) (b j:Nat) (hb:b<l.length) (h0:0<l[b]) (hj:j≤1000000):Cf En 88 [.d (.sl (ints (natI l))),.d (.int .i64 b),.d (.int .i64 j)] [] (.tup [.d (.int .i64 (tgtN l b j)),.d (.bool true)]) []:=by
 refine cf_intro mix (fn:=Tryz.f88) (by kernel_rfl) rfl (by kernel_rfl) (by decide) (by simp) ?_
 have ho:=k_offsets l (by omega) hs
 have hol:(natI (offN 0 l)).length=l.length+1:=by rw [natI_len,offN_len]
 have hat:∀ h,(natI (offN 0 l))[b]'h=(sumN (l.take b):Int):=fun h=>by
  have hj:b<(offN 0 l).length:=by rw [natI_len] at h; exact h
  rw [natI_get hj]
  have:=offN_at (l:=l) (j:=b) (by omega)
  rw [List.getElem?_eq_getElem hj,Option.some.injEq] at this
  rw [this]
 have hll:=natI_len l
 have hst:=sumN_take hb
 have hsl:=sumN_le l (b+1)
 have htg:tgtN l b j=sumN (l.take b)+j % l[b]:=by unfold tgtN; rw [List.getElem?_eq_getElem hb]; rfl
 obtain ⟨c,hc⟩:∃ c,c=l[b]:=⟨_,rfl⟩
 have hgb:∀ h,(natI l)[b]'h=(c:Int):=fun _=>by rw [natI_get hb,hc]
 rw [← hc] at h0 hst htg
 rw [htg]
 have hmd:=Nat.mod_lt j h0
 have htm:(j:Int).tmod c=((j % c:Nat):Int):=by
  rw [Int.tmod_eq_emod_of_nonneg (by omega)]; rfl
 have hbO:b<(natI (offN 0 l)).length:=by omega
 have hbl:b<(natI l).length:=by omega
 generalize natI (offN 0 l)=O at *
 generalize natI l=M at *
 generalize sumN (l.take b)=a at *
 generalize j % c=r at *
 have hw1:=wrap_in (n:=(a:Int)+r) (by omega) (by omega)
 have hbn:¬ (b:Int)<0:=by omega
 have hbg:¬ (l.length:Int)≤b:=by omega
 have hcn:¬ (c:Int)=0:=by omega
 have hcn2:¬ c=0:=by omega
 have hjn:¬ (j:Int)<0:=by omega
 simp
 (repeat' (first|contradiction|exact .ok|apply And.intro|intro _|(refine gc (fun h=>?_) (fun h=>?_)<;>(have h':=h;(try simp at h');first|done|simp[h,h']|simp))))
 refine acallT_plain ho (by simp) ?_
 have hbm:¬ M.length≤b:=by omega
 simp [hbm,hbl,hgb,hcn,hcn2,hbO,hat,htm,hw1,hbn,hjn]
 (repeat' (first|contradiction|exact .ok|apply And.intro|intro _|(refine gc (fun h=>?_) (fun h=>?_)<;>(have h':=h;(try simp at h');first|done|simp[h,h',hbm,hbl,hgb,hcn,hcn2,hbO,hat,htm,hw1,hbn,hjn]|simp[hbm,hbl,hgb,hcn,hcn2,hbO,hat,htm,hw1,hbn,hjn]))))
end Go.Proofs.Tryz
namespace Go.Proofs.Tryz
open Go.Ab
set_option maxRecDepth 100000
set_option maxHeartbeats 4000000
@[simp] theorem Bk.clen (x:Bk):x.c.length=3:=rfl
theorem cntB_len (l:List Bk):(cntB l).length=l.length:=List.length_map _
theorem cntB_take {l:List Bk} {i:Nat} (h:i<l.length):natI (cntB (l.take (i+1)))=natI (cntB (l.take i))++[(l[i].n:Int)]:=by
 unfold natI cntB
 rw [take_snoc h,List.map_append,List.map_append]
 rfl
theorem m_counts (l:List Bk) (hl:l.length≤900):Cf En 47 [.d (.sl (l.map Bk.c))] [] (.d (.sl (ints (natI (cntB l))))) []:=by
 refine cf_intro mix (fn:=Tryz.f47) (by kernel_rfl) rfl (by kernel_rfl) (by decide) (by simp) ?_
 simp
 (repeat' (first|contradiction|exact .ok|apply And.intro|intro _|(refine gc (fun h=>?_) (fun h=>?_)<;>(have h':=h;(try simp at h');first|done|simp[h,h']|simp))))
 refine aloopT mix (by decide) (fun i:Nat=>{ s:=mkS [(3,.ref 900 0 i 1),(6,.d (.sl (l.map Bk.c))),(7,.d (.int .i64 l.length)),(8,.d (.int .i64 i))],b:=mkB [(900,900,.arr 3 1 (ints (natI (cntB (l.take i)))) false)] }) (fun i=>i≤l.length) (fun i=>l.length - i) 0 (by simp)
  (sub_mkn 3 900 3 1 (by simp) (by simp) (by decide) (by decide) _ [(900,900,_)] ⟨by simp,by simp,by simp [renOf,Blk.live,natI,cntB,ints],by simp⟩ (by simp [renOf])) ?_
 intro i hi
 have hol:(natI (cntB (l.take i))).length=i:=by rw [natI_len,cntB_len,List.length_take]; omega
 by_cases hlt:i<l.length
 ·obtain ⟨b,hb⟩:∃ b,b=l[i]:=⟨_,rfl⟩
  have hgb:∀ h,l[i]'h=b:=fun _=>hb.symm
  have hct:=cntB_take hlt
  rw [← hb] at hct
  have hw:=wrap_in (n:=(i:Int)+1) (by omega) (by omega)
  generalize natI (cntB (l.take i))=O at *
  have htk:(ints O).take i=ints O:=List.take_of_length_le (by simp [ints,hol])
  simp [hlt,hgb,Bk.c,hol,htk,szs i (by omega) 8 (by decide),szs (i+1) (by omega) 8 (by decide)]
  (repeat' (first|contradiction|exact .ok|apply And.intro|intro _|(refine gc (fun h=>?_) (fun h=>?_)<;>(have h':=h;(try simp at h');first|done|simp[h,h']|simp))))
  refine ⟨i+1,by omega,?_,by simp; omega⟩
  exact sub_mk _ [(900,16,_)] ⟨by simp,by simp,by simp [renOf,Blk.live,hct,ints],by simp⟩ (by simp [renOf,hw])
 obtain rfl:i=l.length:=by omega
 rw [List.take_length] at *
 have htk:(ints (natI (cntB l))).take l.length=ints (natI (cntB l)):=List.take_of_length_le (by simp [ints,hol])
 simp [hol,htk]
 all_goals exact gz
theorem m_size (X:List (List Bk)) (k:Nat) (l:List Bk) (hXk:X[k]?=some l) (hl:l.length≤900) (hs:sumN (cntB l)≤1000000) (hX:X.length≤1000):Cf En 13 [smyA X,.d (.int .i64 k)] [] (.d (.int .i64 (sumN (cntB l)))) []:=by
 refine cf_intro mix (fn:=Tryz.f13) (by kernel_rfl) rfl (by kernel_rfl) (by decide) (by simp) ?_
 obtain ⟨hk,hgl0⟩:=List.getElem?_eq_some_iff.1 hXk
 have hgl:∀ h,X[k]'h=l:=fun _=>hgl0
 have hc:=m_counts l hl
 have ho:=k_offsets (cntB l) (by rw [cntB_len]; omega) hs
 have hol:(natI (offN 0 (cntB l))).length=l.length+1:=by rw [natI_len,offN_len,cntB_len]
 have hlast:∀ h,(natI (offN 0 (cntB l)))[l.length]'h=(sumN (cntB l):Int):=fun h=>by
  have hj:l.length<(offN 0 (cntB l)).length:=by rw [natI_len] at h; exact h
  rw [natI_get hj]
  have:=offN_last (cntB l)
  rw [cntB_len,List.getElem?_eq_getElem hj,Option.some.injEq] at this
  rw [this]
 generalize natI (offN 0 (cntB l))=O at *
 have hkn:¬ (k:Int)<0:=by omega
 have hkg:¬ (X.length:Int)≤k:=by omega
 have hkg2:¬ X.length≤k:=by omega
 have e1:(l.length:Int)+1 - 1=l.length:=by omega
 have hw1:=wrap_in (n:=(l.length:Int)) (by omega) (by omega)
 have hll:l.length<O.length:=by omega
 simp [smyA,hkn,hkg,hkg2]
 (repeat' (first|contradiction|exact .ok|apply And.intro|intro _|(refine gc (fun h=>?_) (fun h=>?_)<;>(have h':=h;(try simp at h');first|done|simp[h,h',hkn,hkg,hkg2]|simp[hkn,hkg,hkg2]))))
 simp [hk,hgl,bkD]
 (repeat' (first|contradiction|exact .ok|apply And.intro|intro _|(refine gc (fun h=>?_) (fun h=>?_)<;>(have h':=h;(try simp at h');first|done|simp[h,h']|simp))))
 refine acallT_plain hc (by simp) ?_
 simp
 refine acallT_plain ho (by simp) ?_
 simp [hol,e1,hw1,hll,hlast]
 (repeat' (first|contradiction|exact .ok|apply And.intro|intro _|(refine gc (fun h=>?_) (fun h=>?_)<;>(have h':=h;(try simp at h');first|done|simp[h,h',hol,e1,hw1,hll,hlast]|simp[hol,e1,hw1,hll,hlast]))))
end Go.Proofs.Tryz
namespace Go.Proofs.Tryz
open Go.Ab
set_option maxRecDepth 100000
set_option maxHeartbeats 4000000
theorem q_keyed1 (f:Fk) (hf:f.cols.length≤1000) (c:Int):Cf En 167 [f.a,.ptr 1000000 0 0] [.var [.d (.int .i64 c)]] (.d (.bool (f.cols.contains c))) [.var [.d (.int .i64 c)]]:=by
 refine cf_intro mix (fn:=Tryz.f167) (by kernel_rfl) rfl (by kernel_rfl) (by decide) (by simp) ?_
 simp [Fk.a,Fk.c]
 (repeat' (first|contradiction|exact .ok|apply And.intro|intro _|(refine gc (fun h=>?_) (fun h=>?_)<;>(have h':=h;(try simp at h');first|done|simp[h,h']|simp))))
 refine acallT_plain (i_contains f.cols hf c) (by simp) ?_
 simp
 all_goals exact gz
theorem q_keyedI (l:List Fk) (hl:l.length≤1000) (hf:∀ f∈l,f.cols.length≤1000) (c:Int):Cf En 217 [.d (.sl (l.map Fk.c)),.clo 167 [.ptr 1000000 0 0]] [.var [.d (.int .i64 c)]] (.d (.int .i64 (fidx (fun f:Fk=>f.cols.contains c) l 0))) [.var [.d (.int .i64 c)]]:=by
 refine cf_intro mix (fn:=Tryz.f217) (by kernel_rfl) rfl (by kernel_rfl) (by decide) (by simp) ?_
 generalize hF:fidx (fun f:Fk=>f.cols.contains c) l 0=F
 simp
 (repeat' (first|contradiction|exact .ok|apply And.intro|intro _|(refine gc (fun h=>?_) (fun h=>?_)<;>(have h':=h;(try simp at h');first|done|simp[h,h']|simp))))
 refine aloopT mix (by decide) (fun i:Nat=>{ s:=mkS [(0,.d (.sl (l.map Fk.c))),(1,.clo 167 [.ptr 1000000 0 0]),(7,.d (.int .i64 l.length)),(8,.d (.int .i64 i))],b:=mkB [(1000000,1000000,.var [.d (.int .i64 c)])] }) (fun i=>i≤l.length∧fidx (fun f:Fk=>f.cols.contains c) (l.drop i) i=F) (fun i=>l.length - i) 0 ⟨by simp,hF⟩ (sub_mk _ [(1000000,1000000,_)] ⟨by simp,by simp,by simp [renOf,Blk.live],base1⟩ (by simp [renOf])) ?_
 rintro i ⟨hi,hg⟩
 by_cases hlt:i<l.length
 ·rw [fidx_drop hlt] at hg
  obtain ⟨u,hu⟩:∃ u,u=l[i]:=⟨_,rfl⟩
  have hgi:∀ h,l[i]'h=u:=fun _=>hu.symm
  have hru:=hf u (by rw [hu]; exact List.getElem_mem hlt)
  rw [← hu] at hg
  have hw:=wrap_in (n:=(i:Int)+1) (by omega) (by omega)
  simp [hlt,hgi,Fk.c]
  (repeat' (first|contradiction|exact .ok|apply And.intro|intro _|(refine gc (fun h=>?_) (fun h=>?_)<;>(have h':=h;(try simp at h');first|done|simp[h,h']|simp))))
  refine acallT_hand [1000000] (q_keyed1 u hru c) (by simp) (by simp) (by simp) (by simp) (by simp [Fk.a,Fk.c]) ?_
  cases he:u.cols.contains c
  ·rw [he] at hg
   simp [he]
   (repeat' (first|contradiction|exact .ok|apply And.intro|intro _|(refine gc (fun h=>?_) (fun h=>?_)<;>(have h':=h;(try simp at h');first|done|simp[h,h',he]|simp[he]))))
   refine ⟨i+1,⟨by omega,by simpa using hg⟩,?_,by simp; omega⟩
   exact sub_mk _ [(1000000,1000000,_)] ⟨by simp,by simp,by simp [renOf,Blk.live],base1⟩ (by simp [renOf,hw])
  ·rw [he] at hg
   simp only [if_true] at hg
   simp [he,← hg]
   (repeat' (first|contradiction|exact .ok|apply And.intro|intro _|(refine gc (fun h=>?_) (fun h=>?_)<;>(have h':=h;(try simp at h');first|done|simp[h,h',he]|simp[he]))))
 obtain rfl:i=l.length:=by omega
 rw [List.drop_length,fidx] at hg
 simp [← hg]
 all_goals exact gz
theorem q_keyedC (l:List Fk) (hl:l.length≤1000) (hf:∀ f∈l,f.cols.length≤1000) (c:Int):Cf En 166 [.d (.sl (l.map Fk.c)),.clo 167 [.ptr 1000000 0 0]] [.var [.d (.int .i64 c)]] (.d (.bool (l.any fun f=>f.cols.contains c))) [.var [.d (.int .i64 c)]]:=by
 refine cf_intro mix (fn:=Tryz.f166) (by kernel_rfl) rfl (by kernel_rfl) (by decide) (by simp) ?_
 have h:=fidx_any (p:=fun f:Fk=>f.cols.contains c) (l:=l) (i:=0)
 have hc:=q_keyedI l hl hf c
 generalize (l.any fun f=>f.cols.contains c)=A at *
 generalize fidx (fun f:Fk=>f.cols.contains c) l 0=F at *
 simp
 (repeat' (first|contradiction|exact .ok|apply And.intro|intro _|(refine gc (fun h=>?_) (fun h=>?_)<;>(have h':=h;(try simp at h');first|done|simp[h,h']|simp))))
 refine acallT_hand [1000000] hc (by simp) (by simp) (by simp) (by simp) (by simp) ?_
 simp [h]
 all_goals exact gz
theorem q_keyed (x:Tb) (hx:x.ok) (c:Int):Cf En 111 [x.a,.d (.int .i64 c)] [] (.d (.bool (keyT x c))) []:=by
 refine cf_intro mix (fn:=Tryz.f111) (by kernel_rfl) rfl (by kernel_rfl) (by decide) (by simp) ?_
 have hk:keyT x c=(x.pr.contains c||x.fk.any fun f=>f.cols.contains c):=rfl
 rw [hk]
 have hc:=q_keyedC x.fk hx.fk hx.fkc c
 generalize (x.fk.any fun f=>f.cols.contains c)=A at *
 have hp:=i_contains x.pr hx.pr c
 generalize x.pr.contains c=B at *
 simp [Tb.a,Tb.c]
 (repeat' (first|contradiction|exact .ok|apply And.intro|intro _|(refine gc (fun h=>?_) (fun h=>?_)<;>(have h':=h;(try simp at h');first|done|simp[h,h']|simp))))
 refine acallT_plain hp (by simp) ?_
 cases B with
 | true =>
   simp
   all_goals exact gz
 | false =>
   simp [Tb.c]
   (repeat' (first|contradiction|exact .ok|apply And.intro|intro _|(refine gc (fun h=>?_) (fun h=>?_)<;>(have h':=h;(try simp at h');first|done|simp[h,h']|simp))))
   refine acallT_hand [3] hc (by simp) (by simp) (by simp) (by simp) (by simp) ?_
   simp
   all_goals exact gz
def barS (x:Tb) (v:List V) (n:Nat):List V:=seqF (fun c=>if c<n∧keyT x c=true then ⟨1,0,[]⟩ else (v[c]?).getD ⟨0,0,[]⟩) v.length
theorem barS_len (x:Tb) (v:List V) (n:Nat):(barS x v n).length=v.length:=seqF_len _ _
theorem barS_zero (x:Tb) (v:List V):barS x v 0=v:=by
 apply List.ext_getElem?
 intro i
 unfold barS
 rw [seqF_get]
 split
 ·rename_i h
  rw [if_neg (fun e=>absurd e.1 (by omega)),List.getElem?_eq_getElem h]
  rfl
 ·rename_i h
  rw [List.getElem?_eq_none (by omega)]
theorem barS_succ {x:Tb} {v:List V} {n:Nat}:barS x v (n+1)=if keyT x n=true then (barS x v n).set n ⟨1,0,[]⟩ else barS x v n:=by
 by_cases h:keyT x n=true
 ·rw [if_pos h]
  unfold barS
  rw [seqF_set]
  refine seqF_congr fun j _=>?_
  by_cases hj:j=n
  ·subst hj; simp [h]
  ·by_cases h2:j<n
   ·simp [hj,h2,show j<n+1 from by omega]
   ·simp [hj,h2,show ¬ j<n+1 from by omega]
 ·rw [if_neg h]
  unfold barS
  refine seqF_congr fun j _=>?_
  by_cases hj:j=n
  ·subst hj; simp [h]
  ·by_cases h2:j<n
   ·simp [h2,show j<n+1 from by omega]
   ·simp [h2,show ¬ j<n+1 from by omega]
theorem q_bare (x:Tb) (hx:x.ok) (b:Bk) (hb:b.v.length≤1000):Cf En 65 [x.a,.agg (b.c.map AV.d)] [] (.d (.sl ((barS x b.v b.v.length).map V.c))) []:=by
 refine cf_intro mix (fn:=Tryz.f65) (by kernel_rfl) rfl (by kernel_rfl) (by decide) (by simp) ?_
 have hcl:=s_cloneV b.v hb
 simp [Tb.a,Bk.c]
 (repeat' (first|contradiction|exact .ok|apply And.intro|intro _|(refine gc (fun h=>?_) (fun h=>?_)<;>(have h':=h;(try simp at h');first|done|simp[h,h']|simp))))
 refine acallT_new [] hcl (by simp) (by simp) (by simp) (by simp) (by simp) (by simp) (by simp) ?_
 simp [Tb.c]
 (repeat' (first|contradiction|exact .ok|apply And.intro|intro _|(refine gc (fun h=>?_) (fun h=>?_)<;>(have h':=h;(try simp at h');first|done|simp[h,h']|simp))))
 refine aloopT mix (by decide) (fun c:Nat=>{ s:=mkS [(2,.ptr 2 0 0),(5,.ref 905 0 b.v.length 3),(11,.d (.int .i64 b.v.length)),(12,.d (.int .i64 c))],b:=mkB [(2,2,.var (x.c.map AV.d)),(905,905,.arr 92 3 ((barS x b.v c).map V.c) false)] }) (fun c=>c≤b.v.length) (fun c=>b.v.length - c) 0 (by simp)
  (sub_mk _ [(2,2,_),(905,10000,_)] ⟨by simp,by simp,by simp [renOf,Blk.live,Tb.c,barS_zero],by simp⟩ (by simp [renOf])) ?_
 intro c hc
 have hbl:=barS_len x b.v c
 by_cases hlt:c<b.v.length
 ·have hk:=q_keyed x hx c
  have hs:=barS_succ (x:=x) (v:=b.v) (n:=c)
  have hw:=wrap_in (n:=(c:Int)+1) (by omega) (by omega)
  cases hK:keyT x c with
  | true =>
    rw [hK] at hk
    rw [hK,if_pos rfl] at hs
    simp [hlt,Tb.c]
    (repeat' (first|contradiction|exact .ok|apply And.intro|intro _|(refine gc (fun h=>?_) (fun h=>?_)<;>(have h':=h;(try simp at h');first|done|simp[h,h']|simp))))
    refine acallT_plain hk (by simp [Tb.a,Tb.c]) ?_
    simp [hlt,hbl,V.c]
    (repeat' (first|contradiction|exact .ok|apply And.intro|intro _|(refine gc (fun h=>?_) (fun h=>?_)<;>(have h':=h;(try simp at h');first|done|simp[h,h']|simp))))
    refine ⟨c+1,by omega,?_,by simp; omega⟩
    simp only [hs]
    exact sub_mk _ [(2,2,_),(905,905,_)] ⟨by simp,by simp,by simp [renOf,Blk.live,Tb.c,List.map_set,V.c],by simp⟩ (by simp [renOf,hw])
  | false =>
    rw [hK] at hk
    rw [hK,if_neg (by simp)] at hs
    simp [hlt,Tb.c]
    (repeat' (first|contradiction|exact .ok|apply And.intro|intro _|(refine gc (fun h=>?_) (fun h=>?_)<;>(have h':=h;(try simp at h');first|done|simp[h,h']|simp))))
    refine acallT_plain hk (by simp [Tb.a,Tb.c]) ?_
    simp
    (repeat' (first|contradiction|exact .ok|apply And.intro|intro _|(refine gc (fun h=>?_) (fun h=>?_)<;>(have h':=h;(try simp at h');first|done|simp[h,h']|simp))))
    refine ⟨c+1,by omega,?_,by simp; omega⟩
    simp only [hs]
    exact sub_mk _ [(2,2,_),(905,905,_)] ⟨by simp,by simp,by simp [renOf,Blk.live,Tb.c],by simp⟩ (by simp [renOf,hw])
 obtain rfl:c=b.v.length:=by omega
 have htk:((barS x b.v b.v.length).map V.c).take b.v.length=(barS x b.v b.v.length).map V.c:=List.take_of_length_le (by simp [hbl])
 simp [hbl,htk]
 all_goals exact gz
end Go.Proofs.Tryz
namespace Go.Proofs.Tryz
open Go.Ab
set_option maxRecDepth 100000
set_option maxHeartbeats 2000000
end Go.Proofs.Tryz
