import Derived.Test.YtkkbepgccddjoaaGreatDoorCTap
import Derived.Shelf.Sort.Plain
import Derived.Shelf.Slices.CompactI
import Derived.Shelf.Slices.In.SortNone
import Derived.Test.YtkkbepgccddjoaaGreatDoorProg
import Derived.Test.YtkkbepgccddjoaaGreatDoorCEnvR
import Derived.Test.YtkkbepgccddjoaaGreatDoorAbB
import Derived.Test.YtkkbepgccddjoaaGreatDoorCSmn
set_option linter.all false
namespace Go.Proofs.Tryz
open Go.Ab
set_option maxRecDepth 100000
set_option maxHeartbeats 1000000
def LF (S:List Tb) (k:Nat):List Fk:=match S[k]? with | some x=>x.fk | none=>[]
theorem VM (S:List Tb) (k:Nat):kX S k=gA S (LF S k) []:=by
 unfold kX LF
 cases S[k]? <;> rfl
theorem aBC {S:List Tb} {k:Nat} {z:Int}:z∈kX S k↔∃ f∈LF S k,tgt S f=z:=by
 rw [VM,GU]
 simp
theorem SR {S:List Tb} {k:Nat}:(kX S k).Nodup:=by
 rw [VM]
 exact yY List.nodup_nil
def DE (S:List Tb) (done:Nat→Bool) (k:Nat):Bool:=!done k&&(LF S k).all fun f=>done (tgt S f).toNat
def jQ (S:List Tb) (done:Nat→Bool):Int:=aV (DE S done) (aO (fun k=>k) S.length) 0
def dnO (done:Nat→Bool) (z:Int) (k:Nat):Bool:=done k||decide ((k:Int)=z)
def lD (S:List Tb):Nat→(Nat→Bool)→List Int→List Int×Int
 | 0,_,out=>(out,0)
 | n+1,done,out=>if jQ S done<0 then ([],7) else lD S n (dnO done (jQ S done)) (out++[jQ S done])
theorem DF {α:Type} {p q:α→Bool}:∀ {l:List α} {i:Nat},(∀ x∈l,p x=q x)→aV p l i=aV q l i
 | [],_,_=>rfl
 | x::l,i,h=>by
   rw [aV,aV,h x List.mem_cons_self,DF fun y hy=>h y (List.mem_cons_of_mem _ hy)]
theorem wB {α:Type} {p:α→Bool}:∀ {l:List α} {i:Nat},aV p l i<(i:Int)+l.length
 | [],i=>by rw [aV]; simp; omega
 | x::l,i=>by
   rw [aV,List.length_cons]
   split
   ·omega
   ·have:=wB (p:=p) (l:=l) (i:=i+1)
    push_cast at this ⊢
    omega
structure OkO (S:List Tb) (al:Nat→Bool) (es:Nat→List Int) (done:Nat→Bool):Prop where
 ha:∀ k,k<S.length→al k=!done k
 nd:∀ k,k<S.length→(es k).Nodup
 mem:∀ k,k<S.length→al k=true→∀ z,z∈es k↔(∃ f∈LF S k,tgt S f=z)∧done z.toNat=false
theorem aEe {S:List Tb} {al:Nat→Bool} {es:Nat→List Int} {done:Nat→Bool} (h:OkO S al es done):mL S.length al es=jQ S done:=by
 unfold mL jQ
 refine DF fun k hk=>?_
 obtain ⟨j,hj,hkj⟩:=fE.1 hk
 subst hkj
 unfold DE
 rw [← h.ha k hj]
 cases ha:al k
 ·rfl
 ·rw [Bool.true_and,Bool.true_and,Bool.eq_iff_iff,beq_iff_eq,List.length_eq_zero_iff,List.all_eq_true,List.eq_nil_iff_forall_not_mem]
  constructor
  ·intro h1 f hf
   cases hd:done (tgt S f).toNat
   ·exact absurd ((h.mem k hj ha _).2 ⟨⟨f,hf,rfl⟩,hd⟩) (h1 _)
   ·rfl
  ·intro h1 z hz
   obtain ⟨⟨f,hf,rfl⟩,hd⟩:=(h.mem k hj ha _).1 hz
   rw [h1 f hf] at hd
   cases hd
theorem aBD {S:List Tb} {al:Nat→Bool} {es:Nat→List Int} {done:Nat→Bool} (hT:∀ k,∀ f∈LF S k,0≤tgt S f) (h:OkO S al es done) {z:Int} (hz:0≤z):OkO S (zZ al z) (esO al es z) (dnO done z):=by
 refine ⟨fun k hk=>?_,fun k hk=>?_,fun k hk ha y=>?_⟩
 ·unfold zZ dnO
  rw [h.ha k hk,Bool.not_or]
  congr 1
 ·unfold esO
  split
  ·exact (h.nd k hk).erase z
  ·exact h.nd k hk
 ·unfold esO
  rw [if_pos ha,(h.nd k hk).mem_erase_iff,h.mem k hk (by unfold zZ at ha; rw [Bool.and_eq_true] at ha; exact ha.1)]
  unfold dnO
  rw [Bool.or_eq_false_iff,decide_eq_false_iff_not]
  constructor
  ·rintro ⟨h1,⟨f,hf,rfl⟩,h2⟩
   have:=hT k f hf
   exact ⟨⟨f,hf,rfl⟩,h2,by omega⟩
  ·rintro ⟨⟨f,hf,rfl⟩,h2,h3⟩
   have:=hT k f hf
   exact ⟨by omega,⟨f,hf,rfl⟩,h2⟩
theorem VN {S:List Tb} (hT:∀ k,∀ f∈LF S k,0≤tgt S f):∀ (n:Nat) {al:Nat→Bool} {es:Nat→List Int} {done:Nat→Bool} {out:List Int},OkO S al es done→wD S.length n al es out=lD S n done out
 | 0,_,_,_,_,_=>rfl
 | n+1,al,es,done,out,h=>by
   rw [wD,lD,aEe h]
   split
   ·rfl
   ·rename_i hz
    exact VN hT n (aBD hT h (by omega))
theorem aEf {S:List Tb} {k:Nat} {f:Fk} (h:f∈LF S k):∃ x∈S,f∈x.fk:=by
 unfold LF at h
 split at h
 ·rename_i x hx
  exact ⟨x,List.mem_of_getElem? hx,h⟩
 ·cases h
theorem DG {S:List Tb} (h:nN S=false) (k:Nat):∀ f∈LF S k,0≤tgt S f:=by
 intro f hf
 obtain ⟨x,hx,hfx⟩:=aEf hf
 unfold nN at h
 rw [List.any_eq_false] at h
 have:=h x hx
 rw [List.any_eq_true] at this
 by_cases h0:0≤tgt S f
 ·exact h0
 ·exact absurd ⟨f,hfx,by simp; omega⟩ this
theorem wC (S:List Tb):gB S=if nN S=true then ([],11) else lD S S.length (fun _=>false) []:=by
 unfold gB
 split
 ·rfl
 ·rename_i h
  have hm:nN S=false:=by simpa using h
  refine VN (fun k=>DG hm k) _ ⟨fun _ _=>rfl,fun k _=>SR,fun k _ _ z=>?_⟩
  rw [aBC]
  simp
end Go.Proofs.Tryz
namespace Go.Proofs
open Go.Shelf
def Tryz.lays189_ren:Go.Shelf.Ren:=⟨fun | 189=>179 | 125=>224 | 257=>223 | 128=>252 | 129=>253 | 294=>244 | 295=>245 | 296=>246 | 297=>247 | 298=>248 | 299=>249 | 216=>173 | 300=>250 | 301=>251 | 328=>266 | 329=>267 | 330=>268 | 331=>269 | 332=>270 | 215=>220 | 343=>280 | n=>n,fun | 28=>22 | 3=>3 | 46=>203 | 0=>0 | 51=>76 | 53=>253 | 4=>4 | 183=>246 | 182=>245 | 131=>101 | 5=>5 | 9=>9 | 218=>260 | 222=>264 | 228=>270 | 229=>271 | n=>n,fun | n=>n⟩
theorem Tryz.lays189:Go.Proofs.Lays.n189 Tryz.prog Tryz.lays189_ren:={
 mixed:=by kernel_rfl
 f125:=Tryz.func224.trans (congrArg some (by kernel_rfl))
 f128:=Tryz.func252.trans (congrArg some (by kernel_rfl))
 f129:=Tryz.func253.trans (congrArg some (by kernel_rfl))
 f189:=Tryz.func179.trans (congrArg some (by kernel_rfl))
 f215:=Tryz.func220.trans (congrArg some (by kernel_rfl))
 f216:=Tryz.func173.trans (congrArg some (by kernel_rfl))
 f257:=Tryz.func223.trans (congrArg some (by kernel_rfl))
 f294:=Tryz.func244.trans (congrArg some (by kernel_rfl))
 f295:=Tryz.func245.trans (congrArg some (by kernel_rfl))
 f296:=Tryz.func246.trans (congrArg some (by kernel_rfl))
 f297:=Tryz.func247.trans (congrArg some (by kernel_rfl))
 f298:=Tryz.func248.trans (congrArg some (by kernel_rfl))
 f299:=Tryz.func249.trans (congrArg some (by kernel_rfl))
 f300:=Tryz.func250.trans (congrArg some (by kernel_rfl))
 f301:=Tryz.func251.trans (congrArg some (by kernel_rfl))
 f328:=Tryz.func266.trans (congrArg some (by kernel_rfl))
 f329:=Tryz.func267.trans (congrArg some (by kernel_rfl))
 f330:=Tryz.func268.trans (congrArg some (by kernel_rfl))
 f331:=Tryz.func269.trans (congrArg some (by kernel_rfl))
 f332:=Tryz.func270.trans (congrArg some (by kernel_rfl))
 f343:=Tryz.func280.trans (congrArg some (by kernel_rfl))
 t0:=Tryz.underlying0
 a0:=Tryz.isAgg0
 z0:=Tryz.sizeOf0
 v0:=Tryz.zeroValue0
 t3:=Tryz.underlying3
 a3:=Tryz.isAgg3
 z3:=Tryz.sizeOf3
 v3:=Tryz.zeroValue3
 t4:=Tryz.underlying4
 a4:=Tryz.isAgg4
 z4:=Tryz.sizeOf4
 v4:=Tryz.zeroValue4
 t5:=Tryz.underlying5
 a5:=Tryz.isAgg5
 z5:=Tryz.sizeOf5
 v5:=Tryz.zeroValue5
 t9:=Tryz.underlying9
 a9:=Tryz.isAgg9
 z9:=Tryz.sizeOf9
 v9:=Tryz.zeroValue9
 t28:=Tryz.underlying22
 a28:=Tryz.isAgg22
 z28:=Tryz.sizeOf22
 v28:=Tryz.zeroValue22
 t46:=Tryz.underlying203
 a46:=Tryz.isAgg203
 z46:=Tryz.sizeOf203
 v46:=Tryz.zeroValue203
 t51:=Tryz.underlying76
 a51:=Tryz.isAgg76
 z51:=Tryz.sizeOf76
 v51:=Tryz.zeroValue76
 t53:=Tryz.underlying253
 a53:=Tryz.isAgg253
 z53:=Tryz.sizeOf253
 v53:=Tryz.zeroValue253
 t131:=Tryz.underlying101
 a131:=Tryz.isAgg101
 z131:=Tryz.sizeOf101
 v131:=Tryz.zeroValue101
 t182:=Tryz.underlying245
 a182:=Tryz.isAgg245
 z182:=Tryz.sizeOf245
 v182:=Tryz.zeroValue245
 t183:=Tryz.underlying246
 a183:=Tryz.isAgg246
 z183:=Tryz.sizeOf246
 v183:=Tryz.zeroValue246
 t218:=Tryz.underlying260
 a218:=Tryz.isAgg260
 z218:=Tryz.sizeOf260
 v218:=Tryz.zeroValue260
 t222:=Tryz.underlying264
 a222:=Tryz.isAgg264
 z222:=Tryz.sizeOf264
 v222:=Tryz.zeroValue264
 t228:=Tryz.underlying270
 a228:=Tryz.isAgg270
 z228:=Tryz.sizeOf270
 v228:=Tryz.zeroValue270
 t229:=Tryz.underlying271
 a229:=Tryz.isAgg271
 z229:=Tryz.sizeOf271
 v229:=Tryz.zeroValue271 }
open Go.Sort Go.RowKit in
theorem Tryz.slices_Sort_int (blk off cap:Nat) (zs:List Int) (w:World) (hH:Holds (Value.int .i64) w blk off zs.toArray) (hblk:blk<w.heap.size) (hsz:zs.length<4611686018427387904) :
  Calls Tryz.prog 179 #[.slice (some ⟨blk,off,none⟩) zs.length cap] w fun e w' =>
   e=.returned (.tuple #[])∧∃ n os,w'=grow (putRow (Value.int .i64) (Sort.ahead w n) blk off (zs.mergeSort fun x y=>decide (x≤y)).toArray) os:=Any.slices_Sort_int Tryz.lays189 blk off cap zs w hH hblk hsz
def Tryz.laysNm220_ren:Go.Shelf.Ren:=⟨fun | 20=>180 | n=>n,fun | 22=>22 | 3=>3 | 4=>4 | 0=>0 | n=>n,fun | n=>n⟩
theorem Tryz.laysNm220:Go.Proofs.Lays2.n20 Tryz.prog Tryz.laysNm220_ren:={
 mixed:=by kernel_rfl
 f20:=Tryz.func180.trans (congrArg some (by kernel_rfl))
 t0:=Tryz.underlying0
 a0:=Tryz.isAgg0
 z0:=Tryz.sizeOf0
 v0:=Tryz.zeroValue0
 t3:=Tryz.underlying3
 a3:=Tryz.isAgg3
 z3:=Tryz.sizeOf3
 v3:=Tryz.zeroValue3
 t4:=Tryz.underlying4
 a4:=Tryz.isAgg4
 z4:=Tryz.sizeOf4
 v4:=Tryz.zeroValue4
 t22:=Tryz.underlying22
 a22:=Tryz.isAgg22
 z22:=Tryz.sizeOf22
 v22:=Tryz.zeroValue22
 i3:=by kernel_rfl }
open Go.RowKit Go.Lib Go.Sort in
theorem Tryz.slices_Compact_int (blk off cap:Nat) (zs:List Int) (w:World) (hH:Holds (Value.int .i64) w blk off zs.toArray) (hsz:zs.length≤9223372036854775807) (hcap:zs.length≤cap) :
  Calls Tryz.prog 180 #[.slice (some ⟨blk,off,none⟩) zs.length cap] w fun e w'=>e=.returned (.slice (some ⟨blk,off,none⟩) (Lib.compact zs).length cap)∧∃ q,w'=putRow (Value.int .i64) (Sort.ahead w q) blk off (Lib.compact zs++List.replicate (zs.length - (Lib.compact zs).length) 0).toArray:=Any.slices_Compact_int Tryz.laysNm220 blk off cap zs w hH hsz hcap
open Go.RowKit Go.Lib Go.Sort in
theorem Tryz.slices_Compact_int_empty (a:Option Addr) (cap:Nat) (w:World) :
  Calls Tryz.prog 180 #[.slice a 0 cap] w fun e w'=>e=.returned (.slice a 0 cap)∧w'=w:=Any.slices_Compact_int_empty Tryz.laysNm220 a cap w
open Go.RowKit Go.Sort in
theorem Tryz.slices_Sort_int_none (p:Option Addr) (cap:Nat) (w:World) :
  Calls Tryz.prog 179 #[.slice p 0 cap] w fun e w'=>e=.returned (.tuple #[])∧w'=w:=Any.slices_Sort_int_none Tryz.lays189 p cap w
end Go.Proofs
namespace Go.Proofs.Tryz
open Go.Ab
theorem CH (d:Array Int) (hs:∀ i j,i≤j→j<d.size→d[i]! ≤ d[j]!):∀ m,m≤d.size→(Go.Lib.compactUpTo d m).Pairwise (·<·)∧∀ x,x∈Go.Lib.compactUpTo d m↔∃ j,j<m∧d[j]! = x
 | 0,_=>⟨by simp [Go.Lib.compactUpTo],by simp [Go.Lib.compactUpTo]⟩
 | m+1,hm=>by
   obtain ⟨h1,h2⟩:=CH d hs m (by omega)
   rw [Go.Lib.compactUpTo_succ]
   cases hk:Go.Lib.keeps d m with
   | true =>
     rw [if_pos rfl]
     have hlt:∀ x∈Go.Lib.compactUpTo d m,x<d[m]! := fun x hx=>by
      obtain ⟨j,hj,rfl⟩:=(h2 x).1 hx
      have a1:=hs j (m - 1) (by omega) (by omega)
      have a2:=hs (m - 1) m (by omega) (by omega)
      have a3:d[m]! ≠ d[m - 1]! := by
       simp only [Go.Lib.keeps,decide_eq_true_eq] at hk
       rcases hk with hk | hk
       ·omega
       ·exact hk
      omega
     refine ⟨List.pairwise_append.2 ⟨h1,List.pairwise_singleton _ _,fun a ha b hb=>?_⟩,fun x=>?_⟩
     ·rw [List.mem_singleton.1 hb]; exact hlt a ha
     ·rw [List.mem_append,List.mem_singleton,h2]
      constructor
      ·rintro (⟨j,hj,e⟩ | rfl)
       ·exact ⟨j,by omega,e⟩
       ·exact ⟨m,by omega,rfl⟩
      ·rintro ⟨j,hj,e⟩
       by_cases hjm:j=m
       ·subst hjm; exact .inr e.symm
       ·exact .inl ⟨j,by omega,e⟩
   | false =>
     rw [if_neg (by decide),List.append_nil]
     refine ⟨h1,fun x=>?_⟩
     rw [h2]
     constructor
     ·rintro ⟨j,hj,e⟩; exact ⟨j,by omega,e⟩
     ·rintro ⟨j,hj,e⟩
      by_cases hjm:j=m
      ·subst hjm
       simp only [Go.Lib.keeps,decide_eq_false_iff_not,not_or,Classical.not_not] at hk
       exact ⟨j - 1,by omega,by rw [← e]; exact hk.2.symm⟩
      ·exact ⟨j,by omega,e⟩
def vL (l:List Int):List Int:=l.mergeSort fun x y=>decide (x≤y)
theorem vM (l:List Int):(vL l).length=l.length:=List.length_mergeSort _
theorem aDC (l:List Int) (x:Int):x∈vL l↔x∈l:=List.mem_mergeSort
theorem aAL (l:List Int):(vL l).Pairwise (·≤·):=by
 have:=List.pairwise_mergeSort (le:=fun x y:Int=>decide (x≤y)) (fun a b c h1 h2=>by simp at *; omega) (fun a b=>by simp; omega) l
 exact this.imp fun h=>by simpa using h
theorem vN (l:List Int) (hs:l.Pairwise (·≤·)):(Go.Lib.compact l).Pairwise (·<·)∧∀ x,x∈Go.Lib.compact l↔x∈l:=by
 have hget:∀ i j,i≤j→j<l.toArray.size→l.toArray[i]! ≤ l.toArray[j]! := fun i j hij hj=>by
  have hj':j<l.length:=by simpa using hj
  have hi':i<l.length:=by omega
  rw [getElem!_pos l.toArray i (by simpa using hi'),getElem!_pos l.toArray j hj]
  simp only [List.getElem_toArray]
  rcases Nat.lt_or_ge i j with h | h
  ·exact List.pairwise_iff_getElem.1 hs i j hi' hj' h
  ·have:i=j:=by omega
   subst this; exact Int.le_refl _
 obtain ⟨h1,h2⟩:=CH l.toArray hget l.length (by simp)
 refine ⟨h1,fun x=>(h2 x).trans ?_⟩
 rw [List.mem_iff_getElem]
 constructor
 ·rintro ⟨j,hj,e⟩
  refine ⟨j,hj,?_⟩
  rw [getElem!_pos l.toArray j (by simpa using hj)] at e
  simpa using e
 ·rintro ⟨j,hj,e⟩
  refine ⟨j,hj,?_⟩
  rw [getElem!_pos l.toArray j (by simpa using hj)]
  simpa using e
theorem GE:∀ (a b:List Int),a.Pairwise (·<·)→b.Pairwise (·<·)→(∀ x,x∈a↔x∈b)→a=b
 | [],[],_,_,_=>rfl
 | [],y::b,_,_,h=>absurd ((h y).2 List.mem_cons_self) (by simp)
 | x::a,[],_,_,h=>absurd ((h x).1 List.mem_cons_self) (by simp)
 | x::a,y::b,ha,hb,h=>by
   rw [List.pairwise_cons] at ha hb
   have hxy:x=y:=by
    rcases List.mem_cons.1 ((h x).1 List.mem_cons_self) with e | e
    ·exact e
    ·rcases List.mem_cons.1 ((h y).2 List.mem_cons_self) with e2 | e2
     ·exact e2.symm
     ·have:=hb.1 x e; have:=ha.1 y e2; omega
   subst hxy
   rw [GE a b ha.2 hb.2 fun z=>?_]
   constructor
   ·intro hz
    rcases List.mem_cons.1 ((h z).1 (List.mem_cons_of_mem _ hz)) with e | e
    ·subst e; exact absurd (ha.1 z hz) (by omega)
    ·exact e
   ·intro hz
    rcases List.mem_cons.1 ((h z).2 (List.mem_cons_of_mem _ hz)) with e | e
    ·subst e; exact absurd (hb.1 z hz) (by omega)
    ·exact e
def oJ (l:List Int) (n:Int):Nat:=(l.takeWhile fun x=>decide (x<n)).length
def zQ (l:List Int) (n:Int):List Int:=if l[oJ l n]?=some n then l else l.take (oJ l n)++n::l.drop (oJ l n)
theorem tV:∀ (l:List Int) (n:Int),oJ l n≤l.length∧(∀ i x,l[i]?=some x→i<oJ l n→x<n)∧∀ x,l[oJ l n]?=some x→n≤x
 | [],n=>⟨by simp [oJ],by simp,by simp⟩
 | y::l,n=>by
   obtain ⟨h1,h2,h3⟩:=tV l n
   unfold oJ at *
   by_cases hy:y<n
   ·rw [List.takeWhile_cons_of_pos (by simpa using hy),List.length_cons]
    refine ⟨by simp; omega,fun i x hx hi=>?_,fun x hx=>h3 x (by simpa using hx)⟩
    cases i with
    | zero=>simp at hx; subst hx; exact hy
    | succ i=>exact h2 i x (by simpa using hx) (by omega)
   ·rw [List.takeWhile_cons_of_neg (by simpa using hy)]
    refine ⟨by simp,fun i x _ hi=>absurd hi (by simp),fun x hx=>?_⟩
    simp at hx; subst hx; omega
theorem MX (l:List Int) (n:Int) (hs:l.Pairwise (·<·)):(zQ l n).Pairwise (·<·)∧∀ x,x∈zQ l n↔x=n∨x∈l:=by
 obtain ⟨h1,h2,h3⟩:=tV l n
 unfold zQ
 split
 ·rename_i h
  exact ⟨hs,fun x=>⟨.inr,fun hx=>by
   rcases hx with rfl | hx
   ·exact List.mem_of_getElem? h
   ·exact hx⟩⟩
 ·rename_i h
  generalize oJ l n=k at *
  have hl:l=l.take k++l.drop k:=(List.take_append_drop k l).symm
  have hlow:∀ x∈l.take k,x<n:=fun x hx=>by
   obtain ⟨i,hi⟩:=List.mem_iff_getElem?.1 hx
   rw [List.getElem?_take] at hi
   split at hi
   ·exact h2 i x hi (by assumption)
   ·cases hi
  have hhigh:∀ x∈l.drop k,n<x:=fun x hx=>by
   have hp:(l.drop k).Pairwise (·<·):=hs.sublist (List.drop_sublist k l)
   cases hd:l.drop k with
   | nil=>rw [hd] at hx; cases hx
   | cons y r =>
     have hy:l[k]?=some y:=by
      have:=congrArg (·[0]?) hd
      simpa using this
     have h4:=h3 y hy
     have h5:y ≠ n:=fun e=>h (by rw [hy,e])
     rw [hd] at hx hp
     rcases List.mem_cons.1 hx with rfl | hx
     ·omega
     ·have:=(List.pairwise_cons.1 hp).1 x hx; omega
  refine ⟨?_,fun x=>?_⟩
  ·rw [List.pairwise_append]
   refine ⟨hs.sublist (List.take_sublist k l),List.pairwise_cons.2 ⟨hhigh,hs.sublist (List.drop_sublist k l)⟩,fun a ha b hb=>?_⟩
   rcases List.mem_cons.1 hb with rfl | hb
   ·exact hlow a ha
   ·have:=hlow a ha; have:=hhigh b hb; omega
  ·rw [List.mem_append,List.mem_cons]
   constructor
   ·rintro (hx | rfl | hx)
    ·exact .inr (List.mem_of_mem_take hx)
    ·exact .inl rfl
    ·exact .inr (List.mem_of_mem_drop hx)
   ·rintro (rfl | hx)
    ·exact .inr (.inl rfl)
    ·rw [hl,List.mem_append] at hx
     rcases hx with hx | hx
     ·exact .inl hx
     ·exact .inr (.inr hx)
theorem UN (l:List Int) (n:Int):(zQ l n).length≤l.length+1:=by
 unfold zQ
 split
 ·omega
 ·simp; omega
mutual
def Ex.cols:Ex→List Int
 | .mk o _ _ _ g ks=>Go.Lib.compact (vL ((if o=5 then [g] else [])++bH ks))
def bH:List Ex→List Int
 | []=>[]
 | e::es=>e.cols++bH es
end
mutual
def Ex.rcols:Ex→List Int
 | .mk o _ _ _ g ks=>if o=5 then zQ (dL [] ks) g else dL [] ks
def dL:List Int→List Ex→List Int
 | a,[]=>a
 | a,e::es=>dL (e.rcols.foldl zQ a) es
end
mutual
def Ex.has:Ex→Int→Prop
 | .mk o _ _ _ g ks,x=>(o=5∧x=g)∨eN ks x
def eN:List Ex→Int→Prop
 | [],_=>False
 | e::es,x=>e.has x∨eN es x
end
theorem MY (e:Ex):e.cols.Pairwise (·<·):=by
 cases e with
 | mk o c n t g ks=>rw [Ex.cols]; exact (vN _ (aAL _)).1
mutual
theorem mF:∀ (e:Ex) (x:Int),x∈e.cols↔e.has x
 | .mk o c n t g ks,x=>by
   rw [Ex.cols,(vN _ (aAL _)).2,aDC,List.mem_append,Ex.has,yT ks x]
   by_cases h:o=5 <;> simp [h]
theorem yT:∀ (l:List Ex) (x:Int),x∈bH l↔eN l x
 | [],x=>by simp [bH,eN]
 | e::es,x=>by rw [bH,List.mem_append,eN,mF e x,yT es x]
end
theorem GF:∀ (l a:List Int),a.Pairwise (·<·)→(l.foldl zQ a).Pairwise (·<·)∧∀ x,x∈l.foldl zQ a↔x∈a∨x∈l
 | [],a,h=>⟨h,by simp⟩
 | n::l,a,h=>by
   obtain ⟨h1,h2⟩:=MX a n h
   obtain ⟨h3,h4⟩:=GF l (zQ a n) h1
   refine ⟨h3,fun x=>?_⟩
   rw [List.foldl_cons,h4,h2,List.mem_cons]
   constructor
   ·rintro ((h | h) | h)
    ·exact .inr (.inl h)
    ·exact .inl h
    ·exact .inr (.inr h)
   ·rintro (h | h | h)
    ·exact .inl (.inr h)
    ·exact .inl (.inl h)
    ·exact .inr h
mutual
theorem tW:∀ e:Ex,e.rcols.Pairwise (·<·)∧∀ x,x∈e.rcols↔e.has x
 | .mk o c n t g ks=>by
   obtain ⟨h1,h2⟩:=tL ks [] List.Pairwise.nil
   rw [Ex.rcols]
   by_cases h:o=5
   ·rw [if_pos h]
    obtain ⟨h3,h4⟩:=MX _ g h1
    refine ⟨h3,fun x=>?_⟩
    rw [h4,h2,Ex.has]
    simp [h]
   ·rw [if_neg h]
    refine ⟨h1,fun x=>?_⟩
    rw [h2,Ex.has]
    simp [h]
theorem tL:∀ (l:List Ex) (a:List Int),a.Pairwise (·<·)→(dL a l).Pairwise (·<·)∧∀ x,x∈dL a l↔x∈a∨eN l x
 | [],a,h=>by rw [dL]; exact ⟨h,by simp [eN]⟩
 | e::es,a,h=>by
   obtain ⟨h1,h2⟩:=tW e
   obtain ⟨h3,h4⟩:=GF e.rcols a h
   obtain ⟨h5,h6⟩:=tL es _ h3
   rw [dL]
   refine ⟨h5,fun x=>?_⟩
   rw [h6,h4,h2,eN]
   exact or_assoc
end
theorem JI (e:Ex):e.rcols=e.cols:=GE _ _ (tW e).1 (MY e) fun x=>by rw [(tW e).2,mF]
end Go.Proofs.Tryz
namespace Go.Proofs.Tryz
open Go.Ab Go.Sort
set_option maxRecDepth 100000
set_option maxHeartbeats 4000000
def gI (l:List Int):D:=.sl (l.map fun n=>[.int .i64 n])
theorem aAM (l:List Int) (hl:l.length<4611686018427387904):Cf En 179 [.ref aC 0 l.length 1] [.arr 3 1 (l.map fun z=>[.int .i64 z]) false] (.tup []) [.arr 3 1 ((vL l).map fun z=>[.int .i64 z]) false]:=by
 refine GB (by kernel_rfl) (vM l) (fun _ h l p cap w _ _ _=>?_) (fun _ h lo w _ _ _ _ _ hH hb=>?_)
 ·refine (Tryz.slices_Sort_int_none p cap w).mono ?_
  rintro e w' ⟨rfl,rfl⟩
  exact ⟨_,rfl,by simp only [aF]; exact ⟨[],rfl,rfl⟩,rfl⟩
 ·refine (Tryz.slices_Sort_int lo.blk 0 lo.asz l w hH hb hl).mono ?_
  rintro e w' ⟨rfl,n,os,rfl⟩
  exact ⟨_,rfl,by simp only [aF]; exact ⟨[],rfl,rfl⟩,n,os,rfl⟩
theorem SB:Cf En 179 [.d (.sl [])] [] (.tup []) []:=by
 refine rM (by kernel_rfl) fun w g vs hr m=>?_
 simp only [bA,aF,aY] at hr
 obtain ⟨u,us,rfl,⟨a,cap,rfl,_,_⟩,rfl⟩:=hr
 refine (Tryz.slices_Sort_int_none a cap w).mono ?_
 rintro e w' ⟨rfl,rfl⟩
 exact ⟨_,rfl,by simp only [aF]; exact ⟨[],rfl,rfl⟩,Go.RowKit.Below.refl _ _⟩
def EW (l:List Int):List Int:=Go.Lib.compact l++List.replicate (l.length - (Go.Lib.compact l).length) 0
theorem cmp_le (l:List Int):(Go.Lib.compact l).length≤l.length:=by
 unfold Go.Lib.compact Go.Lib.compactUpTo
 rw [List.length_map]
 have:=List.length_filter_le (Go.Lib.keeps l.toArray) (List.range l.length)
 rw [List.length_range] at this
 exact this
theorem GG (l:List Int) (hl:l.length≤9223372036854775807):Cf En 180 [.ref aC 0 l.length 1] [.arr 3 1 (l.map fun z=>[.int .i64 z]) false] (.ref aC 0 (Go.Lib.compact l).length 1) [.arr 3 1 ((EW l).map fun z=>[.int .i64 z]) false]:=by
 refine GB (by kernel_rfl) (by have:=cmp_le l; simp [EW]; omega) (fun h0 h lo p cap w hL hs hp=>?_) (fun h0 h lo w hL hs hn hm hle hH hb=>?_)
 ·subst h0
  refine (Tryz.slices_Compact_int_empty p cap w).mono ?_
  rintro e w' ⟨rfl,rfl⟩
  refine ⟨_,rfl,?_,rfl⟩
  have he:(Go.Lib.compact ([]:List Int)).length=0:=rfl
  rw [he]
  simp only [aF]
  refine ⟨lo,hL,hs,?_⟩
  split
  ·rename_i hn
   rw [if_pos hn] at hp
   obtain ⟨rfl,rfl⟩:=hp
   exact ⟨rfl,trivial,trivial⟩
  ·rename_i hn
   rw [if_neg hn] at hp
   obtain ⟨rfl,h1,h2⟩:=hp
   exact ⟨cap,by rw [Nat.zero_mul],Nat.zero_le _,h1,by rw [hs]; omega⟩
 ·refine (Tryz.slices_Compact_int lo.blk 0 lo.asz l w hH hl hle).mono ?_
  rintro e w' ⟨rfl,q,rfl⟩
  refine ⟨_,rfl,?_,q,#[],by rw [grow_empty]; rfl⟩
  have:=cmp_le l
  simp only [aF]
  refine ⟨lo,hL,hs,?_⟩
  rw [hn]
  exact ⟨lo.asz,by rw [Nat.zero_mul],by omega,hm,by rw [hs]; omega⟩
theorem EX:Cf En 180 [.d (.sl [])] [] (.d (.sl [])) []:=by
 refine rM (by kernel_rfl) fun w g vs hr m=>?_
 simp only [bA,aF,aY] at hr
 obtain ⟨u,us,rfl,⟨a,cap,rfl,hc,hr⟩,rfl⟩:=hr
 refine (Tryz.slices_Compact_int_empty a cap w).mono ?_
 rintro e w' ⟨rfl,rfl⟩
 exact ⟨_,rfl,by simp only [aF,aY]; exact ⟨a,cap,rfl,hc,hr⟩,Go.RowKit.Below.refl _ _⟩
mutual
def Ex.nodes:Ex→Nat
 | .mk _ _ _ _ _ ks=>aU ks+1
def aU:List Ex→Nat
 | []=>0
 | e::es=>e.nodes+aU es
end
mutual
theorem MZ:∀ e:Ex,e.cols.length≤e.nodes
 | .mk o c n t g ks=>by
   rw [Ex.cols,Ex.nodes]
   have h1:=cmp_le (vL ((if o=5 then [g] else [])++bH ks))
   have h2:=rO ks
   rw [vM,List.length_append] at h1
   by_cases h:o=5 <;> simp [h] at h1 ⊢ <;> omega
theorem rO:∀ l:List Ex,(bH l).length≤aU l
 | []=>by simp [bH]
 | e::es=>by
   have h1:=MZ e
   have h2:=rO es
   rw [bH,aU,List.length_append]; omega
end
theorem vO {l:List Ex} {i:Nat} {x:Ex} (h:l[i]?=some x):bH (l.take (i+1))=bH (l.take i)++x.cols:=by
 induction l generalizing i with
 | nil=>cases h
 | cons e es ih =>
   cases i with
   | zero=>simp at h; subst h; simp [bH]
   | succ i =>
     rw [List.take_succ_cons,List.take_succ_cons,bH,bH,ih (by simpa using h),List.append_assoc]
theorem iM (l:List Ex) (i:Nat):(bH (l.take i)).length≤(bH l).length:=by
 induction l generalizing i with
 | nil=>simp
 | cons e es ih =>
   cases i with
   | zero=>simp [bH]
   | succ i=>rw [List.take_succ_cons,bH,bH,List.length_append,List.length_append]; have:=ih i; omega
def clS (o c n g:Int) (t:List UInt8) (ks:List Ex) (L:List Int) (i:Nat):St :=
 { s:=cE [(1,.ptr 1 0 0),(3,.ref 900 0 L.length 1),(15,.d (.sl (ks.map Ex.c))),(16,.d (.int .i64 ks.length)),(17,.d (.int .i64 i))],b:=cC [(1,1,.var [.d (.int .i64 o),.d (.int .i64 c),.d (.int .i64 n),.d (.str t),.d (.int .i64 g),.d (.sl (ks.map Ex.c))]),(900,900,.arr 3 1 (L.map fun z=>[.int .i64 z]) false)] }
def clN (o c n g:Int) (t:List UInt8) (ks:List Ex):St :=
 { s:=cE [(1,.ptr 1 0 0),(3,.nils),(15,.d (.sl (ks.map Ex.c))),(16,.d (.int .i64 ks.length)),(17,.d (.int .i64 0))],b:=cC [(1,1,.var [.d (.int .i64 o),.d (.int .i64 c),.d (.int .i64 n),.d (.str t),.d (.int .i64 g),.d (.sl (ks.map Ex.c))])] }
theorem NA (o c n g:Int) (t:List UInt8) (ks:List Ex) (hk:ks.length≤12) (hn:(bH ks).length≤1099511627776)
  (hrec:∀ e∈ks,Cf En 136 [e.a] [] (.d (gI e.cols)) []) :
  Cf En 136 [(Ex.mk o c n t g ks).a] [] (.d (gI (Ex.cols (.mk o c n t g ks)))) []:=by
 refine cI aW (fn:=Tryz.f136) rfl ?_
 simp only [gI] at hrec ⊢
 by_cases h5:o=5
 ·subst h5
  rw [show Ex.cols (.mk 5 c n t g ks)=Go.Lib.compact (vL (g::bH ks)) from by rw [Ex.cols]; simp]
  simp [Ex.a,Ex.c,aE]
  (repeat' first|contradiction|exact .ok|apply And.intro|intro _|(apply gc<;>simp+contextual))
  refine aL aW (fun i=>clS 5 c n g t ks (g::bH (ks.take i)) i) (fun i:Nat=>i≤ks.length) (fun i=>ks.length - i) 0 (by simp) (aI [(1,_),(3,_),(15,_),(16,_),(17,_)] [(1,1,_),(900,13,_)] ⟨by simp,by simp,by simp [aB,Blk.live,bH],by simp⟩ (by simp [aB,bH])) ?_
  intro i hi
  have hle:=iM ks i
  by_cases hlt:i<ks.length
  ·have hgi:ks[i]?=some ks[i]:=gE hlt
   have c1:=Ex.clen ks[i]
   have k1:=Ex.ctake ks[i]
   have hr:=hrec ks[i] (List.getElem_mem hlt)
   have hlt2:(i:Int)<ks.length:=by omega
   have hle2:=iM ks (i+1)
   have htk:=vO hgi
   rw [htk,List.length_append] at hle2
   simp only [clS]
   generalize bH (ks.take i)=L at *
   have s1:(L.length+1+ks[i].cols.length)*8≤140737488355328:=by omega
   have s2:L.length+1+ks[i].cols.length≤9223372036854775807:=by omega
   simp [hlt,hlt2,c1,k1]
   (repeat' first|contradiction|exact .ok|apply And.intro|intro _|(apply gc<;>simp+contextual))
   refine aA hr (by simp [Ex.a]) ?_
   simp [s1,s2]
   (repeat' first|contradiction|exact .ok|apply And.intro|intro _|(apply gc<;>simp+contextual))
   refine ⟨i+1,hlt,?_,?_⟩
   ·refine aI [(1,_),(3,_),(15,_),(16,_),(17,_)] [(1,1,_),(900,24,_)] ⟨by simp,by simp,by simp [aB,Blk.live,htk],by simp⟩ ?_
    simp [aB,htk]
    exact ⟨by omega,bL (by omega) (by omega)⟩
   ·simp; omega
  ·have hie:i=ks.length:=by omega
   subst hie
   rw [List.take_length]
   have hz:(vL (g::bH ks)).length=(bH ks).length+1:=by rw [vM]; rfl
   have cs:=aAM (g::bH ks) (by simp; omega)
   have cc:=GG (vL (g::bH ks)) (by rw [hz]; omega)
   rw [hz] at cc
   have htk:List.take (Go.Lib.compact (vL (g::bH ks))).length (List.map (fun z=>[D.int .i64 z]) (EW (vL (g::bH ks))))=List.map (fun z=>[D.int .i64 z]) (Go.Lib.compact (vL (g::bH ks))):=by
    rw [EW,List.map_append,List.take_left' (by simp)]
   have hlen:(Go.Lib.compact (vL (g::bH ks))).length≤(EW (vL (g::bH ks))).length:=by rw [EW,List.length_append]; omega
   simp only [clS]
   simp
   (repeat' first|contradiction|exact .ok|apply And.intro|intro _|(apply gc<;>simp+contextual))
   refine aH [900] cs (by simp) (by simp) ?_
   generalize vL (g::bH ks)=S at *
   simp
   (repeat' first|contradiction|exact .ok|apply And.intro|intro _|(apply gc<;>simp+contextual))
   refine aH [900] cc (by simp) (by simp) ?_
   generalize Go.Lib.compact S=K at *
   simp [htk,hlen]
   all_goals exact gz
 ·rw [show Ex.cols (.mk o c n t g ks)=Go.Lib.compact (vL (bH ks)) from by rw [Ex.cols,if_neg h5]; rfl]
  simp [Ex.a,Ex.c,aE,h5]
  (repeat' first|contradiction|exact .ok|apply And.intro|intro _|(apply gc<;>simp+contextual[h5]))
  refine aL aW (fun i:Nat=>match i with | 0=>clN o c n g t ks | i+1=>clS o c n g t ks (bH (ks.take (i+1))) (i+1)) (fun i:Nat=>i≤ks.length) (fun i=>ks.length - i) 0 (by simp) (aI [(1,_),(3,_),(15,_),(16,_),(17,_)] [(1,1,_)] ⟨by simp,by simp,by simp [aB,Blk.live],by simp⟩ (by simp [aB])) ?_
  intro i hi
  have hle:=iM ks i
  by_cases hlt:i<ks.length
  ·have hgi:ks[i]?=some ks[i]:=gE hlt
   have c1:=Ex.clen ks[i]
   have k1:=Ex.ctake ks[i]
   have hr:=hrec ks[i] (List.getElem_mem hlt)
   have hle2:=iM ks (i+1)
   have htk:=vO hgi
   rw [htk,List.length_append] at hle2
   cases i with
   | zero =>
     have hlt2:(0:Int)<ks.length:=by omega
     have s1:(ks[0].cols.length)*8≤140737488355328:=by omega
     have s2:ks[0].cols.length≤9223372036854775807:=by omega
     have ht0:bH (ks.take 1)=ks[0].cols:=by rw [htk]; simp [bH]
     simp [clN,hlt,c1,k1]
     (repeat' first|contradiction|exact .ok|apply And.intro|intro _|(apply gc<;>simp+contextual))
     refine aA hr (by simp [Ex.a]) ?_
     simp [s1,s2]
     (repeat' first|contradiction|exact .ok|apply And.intro|intro _|(apply gc<;>simp+contextual))
     refine ⟨1,hlt,?_,?_⟩
     ·refine aI [(1,_),(3,_),(15,_),(16,_),(17,_)] [(1,1,_),(900,24,_)] ⟨by simp,by simp,by simp [aB,Blk.live,ht0],by simp⟩ ?_
      simp [aB,ht0]
      exact bL (by omega) (by omega)
     ·simp; omega
   | succ i =>
     have hlt2:((i+1:Nat):Int)<ks.length:=by omega
     have hlt3:(i:Int)+1<ks.length:=by omega
     have hp:(0:Int)≤(i:Int)+1:=by omega
     simp only [clS]
     generalize bH (ks.take (i+1))=L at *
     have s1:(L.length+ks[i+1].cols.length)*8≤140737488355328:=by omega
     have s2:L.length+ks[i+1].cols.length≤9223372036854775807:=by omega
     simp [hlt,hlt3,hp,c1,k1]
     (repeat' first|contradiction|exact .ok|apply And.intro|intro _|(apply gc<;>simp+contextual))
     refine aA hr (by simp [Ex.a]) ?_
     simp [s1,s2]
     (repeat' first|contradiction|exact .ok|apply And.intro|intro _|(apply gc<;>simp+contextual))
     refine ⟨i+2,by omega,?_,?_⟩
     ·refine aI [(1,_),(3,_),(15,_),(16,_),(17,_)] [(1,1,_),(900,24,_)] ⟨by simp,by simp,by simp [aB,Blk.live,htk],by simp⟩ ?_
      simp [aB,htk]
      rw [bL (by omega) (by omega)]
     ·simp; omega
  ·have hie:i=ks.length:=by omega
   subst hie
   cases hkl:ks.length with
   | zero =>
     have:ks=[]:=List.eq_nil_of_length_eq_zero hkl
     subst this
     have he:Go.Lib.compact (vL (bH []))=[]:=by simp [bH,vL,Go.Lib.compact,Go.Lib.compactUpTo]
     rw [he]
     simp [clN]
     (repeat' first|contradiction|exact .ok|apply And.intro|intro _|(apply gc<;>simp+contextual))
     refine aP SB ?_
     simp
     (repeat' first|contradiction|exact .ok|apply And.intro|intro _|(apply gc<;>simp+contextual))
     refine aP EX ?_
     simp
     all_goals exact gz
   | succ i =>
     simp only []
     have hlt:¬ ((i+1:Nat):Int)<ks.length:=by omega
     have hlt2:¬ (i:Int)+1<ks.length:=by omega
     have hki:ks.take (i+1)=ks:=List.take_of_length_le (by omega)
     rw [hki]
     have cs:=aAM (bH ks) (by omega)
     have cc:=GG (vL (bH ks)) (by rw [vM]; omega)
     rw [vM] at cc
     have htk:List.take (Go.Lib.compact (vL (bH ks))).length (List.map (fun z=>[D.int .i64 z]) (EW (vL (bH ks))))=List.map (fun z=>[D.int .i64 z]) (Go.Lib.compact (vL (bH ks))):=by
      rw [EW,List.map_append,List.take_left' (by simp)]
     have hlen:(Go.Lib.compact (vL (bH ks))).length≤(EW (vL (bH ks))).length:=by rw [EW,List.length_append]; omega
     simp only [clS]
     simp [hkl]
     (repeat' first|contradiction|exact .ok|apply And.intro|intro _|(apply gc<;>simp+contextual))
     refine aH [900] cs (by simp) (by simp) ?_
     generalize vL (bH ks)=S at *
     simp
     (repeat' first|contradiction|exact .ok|apply And.intro|intro _|(apply gc<;>simp+contextual))
     refine aH [900] cc (by simp) (by simp) ?_
     generalize Go.Lib.compact S=K at *
     simp [htk,hlen]
     all_goals exact gz
end Go.Proofs.Tryz
namespace Go.Proofs.Tryz
open Go.Ab
set_option maxRecDepth 100000
set_option maxHeartbeats 4000000
theorem gH (S:List Tb) (hl:S.length≤1000) (hS:∀ x∈S,x.ok) {i k:Nat} {u:Tb} {f:Fk} (hi:i<S.length) (hu:S[i]=u) (hk:k<u.fk.length) (hf:u.fk[k]=f) :
  Cf En 43 [aN S,.d (.int .i64 i),.d (.int .i64 k)] [] (place (fun x:Tb=>x.n==f.t) S) []:=by
 refine cI aW (fn:=Tryz.f43) rfl ?_
 have h1:¬ (i:Int)<0:=by omega
 have h2:¬ (k:Int)<0:=by omega
 have h3:¬ (S.length:Int)≤i:=by omega
 have h4:¬ (u.fk.length:Int)≤k:=by omega
 have hgi:∀ h,S[i]'h=u:=fun _=>hu
 have hgf:∀ h,u.fk[k]'h=f:=fun _=>hf
 have hgf2:u.fk[k]?=some f:=by rw [gE hk,hf]
 simp [aN,h1,h2,h3,h4,hi,hgi,Tb.c]
 (repeat' first|contradiction|exact .ok|apply And.intro|intro _|(apply gc<;>simp+contextual[h1,h2,h3,h4,hi,hgi,Tb.c,hk,hgf,hgf2,Fk.c]))
 simp [hgf2,Fk.c]
 (repeat' first|contradiction|exact .ok|apply And.intro|intro _|(apply gc<;>simp+contextual))
 refine aA (wJ S hl f.t) (by simp [aN]) ?_
 unfold place
 simp
 all_goals exact gz
def dnB (N:Nat) (done:Nat→Bool) (out:List Int) (S:List Tb):Nat→Blk:=cC [(1,1,.var [.d (.sl (S.map Tb.c))]),(900,900,.arr 4 1 (aO (fun k=>[.bool (done k)]) N) false),(901,901,.arr 3 1 (aD out) false)]
theorem DI (S:List Tb) (hl:S.length≤1000) (hS:∀ x∈S,x.ok):Cf En 41 [aN S] [] (.tup [.d (.sl (aD (gB S).1)),.d (.int .i64 (gB S).2)]) []:=by
 refine cI aW (fn:=Tryz.f41) rfl ?_
 simp [aN]
 (repeat' first|contradiction|exact .ok|apply And.intro|intro _|(apply gc<;>simp+contextual))
 refine aL aW (fun i:Nat=>{ s:=cE [(1,.ptr 1 0 0),(4,.d (.int .i64 i))],b:=cC [(1,1,.var [.d (.sl (S.map Tb.c))])] }) (fun i=>i≤S.length∧∀ x∈S.take i,∀ f∈x.fk,0≤tgt S f) (fun i=>S.length - i) 0 (by simp) (sM _ [(1,1,_)] (by simp [aB,Blk.live]) (by simp [aB])) ?_
 rintro i ⟨hi,hall⟩
 by_cases hlt:i<S.length
 ·obtain ⟨u,hu⟩:∃ u,u=S[i]:=⟨_,rfl⟩
  have hgi:∀ h,S[i]'h=u:=fun _=>hu.symm
  have hw:=wI (n:=(i:Int)+1)
  have hok:=hS u (by rw [hu]; exact List.getElem_mem hlt)
  have hfk:=hok.fk
  simp [hlt]
  (repeat' first|contradiction|exact .ok|apply And.intro|intro _|(apply gc<;>simp+contextual))
  refine aL aW (fun j:Nat=>{ s:=cE [(1,.ptr 1 0 0),(4,.d (.int .i64 i)),(5,.d (.int .i64 j))],b:=cC [(1,1,.var [.d (.sl (S.map Tb.c))])] }) (fun j=>j≤u.fk.length∧∀ f∈u.fk.take j,0≤tgt S f) (fun j=>u.fk.length - j) 0 (by simp) (sM _ [(1,1,_)] (by simp [aB,Blk.live]) (by simp [aB])) ?_
  rintro j ⟨hj,ha⟩
  by_cases hjl:j<u.fk.length
  ·obtain ⟨f,hf⟩:∃ f,f=u.fk[j]:=⟨_,rfl⟩
   have hgf:∀ h,u.fk[j]'h=f:=fun _=>hf.symm
   have hwj:=wI (n:=(j:Int)+1)
   simp [hlt,hgi,hjl,Tb.c]
   (repeat' first|contradiction|exact .ok|apply And.intro|intro _|(apply gc<;>simp+contextual))
   refine aA (gH S hl hS hlt hu.symm hjl hf.symm) (by simp [aN]) ?_
   by_cases hz:0≤tgt S f
   ·obtain ⟨k,hk⟩:∃ k:Nat,tgt S f=k:=⟨(tgt S f).toNat,by omega⟩
    rw [cN (show aV (fun x:Tb=>x.n==f.t) S 0=k from hk)]
    simp
    (repeat' first|contradiction|exact .ok|apply And.intro|intro _|(apply gc<;>simp+contextual))
    refine ⟨j+1,⟨by omega,fun g hg=>?_⟩,?_,by simp; omega⟩
    ·rw [bI hjl,← hf] at hg
     rcases List.mem_append.1 hg with hg | hg
     ·exact ha g hg
     ·simp at hg; subst hg; exact hz
    ·exact sM _ [(1,1,_)] (by simp [aB,Blk.live]) (by simp [aB,hwj])
   ·have hm:gB S=([],11):=by
     unfold gB
     rw [if_pos]
     unfold nN
     rw [List.any_eq_true]
     refine ⟨u,by rw [hu]; exact List.getElem_mem hlt,?_⟩
     rw [List.any_eq_true]
     exact ⟨f,by rw [hf]; exact List.getElem_mem hjl,by simp; omega⟩
    rw [oS (rV hz),hm]
    simp
    (repeat' first|contradiction|exact .ok|apply And.intro|intro _|(apply gc<;>simp+contextual))
    try rfl
  ·obtain rfl:j=u.fk.length:=by omega
   simp [hlt,hgi,Tb.c]
   (repeat' first|contradiction|exact .ok|apply And.intro|intro _|(apply gc<;>simp+contextual))
   refine ⟨i+1,⟨by omega,fun x hx=>?_⟩,?_,by simp; omega⟩
   ·rw [bI hlt,← hu] at hx
    rcases List.mem_append.1 hx with hx | hx
    ·exact hall x hx
    ·simp at hx
     subst hx
     rw [List.take_length] at ha
     exact ha
   ·exact sM _ [(1,1,_)] (by simp [aB,Blk.live]) (by simp [aB,hw])
 ·obtain rfl:i=S.length:=by omega
  have hms:nN S=false:=by
   rw [List.take_length] at hall
   unfold nN
   rw [List.any_eq_false]
   intro x hx
   rw [List.any_eq_true]
   rintro ⟨f,hf,h0⟩
   have:=hall x hx f hf
   simp at h0
   omega
  have hor:lD S (S.length - 0) (fun _=>false) []=gB S:=by
   rw [wC,hms]; rfl
  clear hall hi hlt
  have hsz:(S.length:Int)≤281474976710656:=by omega
  have hsz2:=(mk8 S.length hl).1
  have hT:=DG hms
  have hTn:∀ f:Fk,tgt S f<S.length:=fun f=>by
   have:=qB (p:=fun x:Tb=>x.n==f.t) (l:=S) (i:=0)
   unfold tgt
   simpa using this
  simp [hsz,hsz2]
  (repeat' first|contradiction|exact .ok|apply And.intro|intro _|(apply gc<;>simp+contextual))
  clear hsz hsz2
  refine aL aW (fun x:Nat×(Nat→Bool)×List Int=>{ s:=cE [(1,.ptr 1 0 0),(8,.ref 900 0 S.length 1),(9,.ref 901 0 x.1 1)],b:=dnB S.length x.2.1 x.2.2 S })
   (fun x=>x.1≤S.length∧x.2.2.length=x.1∧lD S (S.length - x.1) x.2.1 x.2.2=gB S) (fun x=>S.length - x.1) (0,fun _=>false,[]) ⟨by simp,by simp,hor⟩ ?_ ?_
  ·refine (pL (i:=9) (m:=901) (ety:=3) (sz:=1) (by simp) ?_ (by decide) (by decide)).trans ?_
   ·simp
   refine sM _ [(1,1,_),(900,46,_),(901,901,_)] (by simp [aB,Blk.live,lY,aD]) (by simp [aB])
  rintro ⟨i,done,out⟩ ⟨hi,hlo,hL⟩
  simp only at hi hlo hL ⊢
  unfold dnB
  have hgd:∀ (k:Nat) (hk:k<S.length),∀ h,(aO (fun k=>[D.bool (done k)]) S.length)[k]'h=[.bool (done k)]:=fun k hk h=>by
   have:=bE (fun k=>[D.bool (done k)]) S.length k
   rw [gE h,if_pos hk] at this
   exact Option.some.inj this
  by_cases hlt:i<S.length
  ·rw [show S.length - i=(S.length - (i+1))+1 from by omega,lD] at hL
   have hrl:jQ S done<S.length:=by
    have:=qB (p:=DE S done) (l:=aO (fun k=>k) S.length) (i:=0)
    unfold jQ
    simpa using this
   simp [hlt]
   (repeat' first|contradiction|exact .ok|apply And.intro|intro _|(apply gc<;>simp+contextual))
   refine xA aW (by decide) (fun x:Nat×Int=>{ s:=cE [(1,.ptr 1 0 0),(8,.ref 900 0 S.length 1),(9,.ref 901 0 i 1),(10,.d (.int .i64 x.2)),(11,.d (.int .i64 x.1))],b:=dnB S.length done out S })
    (fun x=>x.1≤S.length∧((x.2=-1∧aV (DE S done) ((aO (fun k=>k) S.length).drop x.1) x.1=jQ S done)∨(0≤x.2∧x.2=jQ S done))) (fun x=>S.length - x.1) (0,-1) ⟨by simp,.inl ⟨rfl,rfl⟩⟩ 6
    { s:=cE [(1,.ptr 1 0 0),(8,.ref 900 0 S.length 1),(9,.ref 901 0 i 1),(10,.d (.int .i64 (jQ S done)))],b:=dnB S.length done out S }
    (sM _ [(1,1,_),(900,900,_),(901,901,_)] (by simp [aB,Blk.live]) (by simp [aB])) ?_ ?_
   ·rintro ⟨k,z⟩ ⟨hk,hz⟩
    simp only at hk hz ⊢
    unfold dnB
    rcases hz with ⟨rfl,hf⟩ | ⟨hz0,hzr⟩
    rotate_left
    ·have hzn:¬ z<0:=by omega
     subst hzr
     by_cases hkl:k<S.length
     ·have hkl':(k:Int)<S.length:=by omega
      simp [hkl,hzn]
      (repeat' first|contradiction|exact .ok|apply And.intro|intro _|(apply gc<;>simp+contextual[hkl,hzn]))
      refine AExitTo.mk rfl ?_
      exact sM _ [(1,1,_),(900,900,_),(901,901,_)] (by simp [aB,Blk.live]) (by simp [aB])
     ·obtain rfl:k=S.length:=by omega
      simp
      (repeat' first|contradiction|exact .ok|apply And.intro|intro _|(apply gc<;>simp+contextual[hzn]))
      refine AExitTo.mk rfl ?_
      exact sM _ [(1,1,_),(900,900,_),(901,901,_)] (by simp [aB,Blk.live]) (by simp [aB])
    ·by_cases hkl:k<S.length
     ·obtain ⟨u,hu⟩:∃ u,u=S[k]:=⟨_,rfl⟩
      have hgi:∀ h,S[k]'h=u:=fun _=>hu.symm
      have hok:=hS u (by rw [hu]; exact List.getElem_mem hkl)
      have hfk:=hok.fk
      have hfo:LF S k=u.fk:=by unfold LF; rw [gE hkl,← hu]
      have hwk:=wI (n:=(k:Int)+1)
      rw [dM (by simpa using hkl)] at hf
      have hid:∀ h,(aO (fun k=>k) S.length)[k]'h=k:=fun h=>by
       have:=bE (fun k=>k) S.length k
       rw [gE h,if_pos hkl] at this
       exact Option.some.inj this
      rw [hid] at hf
      simp [hkl,hgd k hkl]
      (repeat' first|contradiction|exact .ok|apply And.intro|intro _|(apply gc<;>simp+contextual))
      refine aL aW (fun x:Nat×Bool=>{ s:=cE [(1,.ptr 1 0 0),(8,.ref 900 0 S.length 1),(9,.ref 901 0 i 1),(10,.d (.int .i64 (-1))),(11,.d (.int .i64 k)),(12,.d (.bool x.2)),(13,.d (.int .i64 x.1))],b:=dnB S.length done out S })
       (fun x=>x.1≤u.fk.length∧(x.2&&(u.fk.drop x.1).all fun f=>done (tgt S f).toNat)=DE S done k) (fun x=>u.fk.length - x.1) (0,!done k) ⟨by simp,by unfold DE; rw [hfo]; rfl⟩
       (sM _ [(1,1,_),(900,900,_),(901,901,_)] (by simp [aB,Blk.live]) (by simp [aB])) ?_
      rintro ⟨j,r⟩ ⟨hj,hr⟩
      simp only at hj hr ⊢
      unfold dnB
      by_cases hjl:j<u.fk.length
      ·obtain ⟨f,hfj⟩:∃ f,f=u.fk[j]:=⟨_,rfl⟩
       have hgf:∀ h,u.fk[j]'h=f:=fun _=>hfj.symm
       have hwj:=wI (n:=(j:Int)+1)
       have hft:=hT k f (by rw [hfo,hfj]; exact List.getElem_mem hjl)
       have hfn:=hTn f
       obtain ⟨t,ht⟩:∃ t:Nat,tgt S f=t:=⟨(tgt S f).toNat,by omega⟩
       have htl:t<S.length:=by omega
       rw [List.drop_eq_getElem_cons hjl,← hfj,List.all_cons,ht,Int.toNat_natCast] at hr
       simp [hkl,hgi,hjl,Tb.c]
       (repeat' first|contradiction|exact .ok|apply And.intro|intro _|(apply gc<;>simp+contextual))
       refine aA (gH S hl hS hkl hu.symm hjl hfj.symm) (by simp [aN]) ?_
       rw [cN (show aV (fun x:Tb=>x.n==f.t) S 0=t from ht)]
       cases r with
       | true =>
         simp [htl,hgd t htl]
         (repeat' first|contradiction|exact .ok|apply And.intro|intro _|(apply gc<;>simp+contextual[htl,hgd t htl]))
         refine ⟨(j+1,done t),⟨by simp; omega,by simpa using hr⟩,?_,by simp; omega⟩
         exact sM _ [(1,1,_),(900,900,_),(901,901,_)] (by simp [aB,Blk.live]) (by simp [aB,hwj])
       | false =>
         simp
         (repeat' first|contradiction|exact .ok|apply And.intro|intro _|(apply gc<;>simp+contextual))
         refine ⟨(j+1,false),⟨by simp; omega,by simpa using hr⟩,?_,by simp; omega⟩
         exact sM _ [(1,1,_),(900,900,_),(901,901,_)] (by simp [aB,Blk.live]) (by simp [aB,hwj])
      ·obtain rfl:j=u.fk.length:=by omega
       rw [List.drop_length,List.all_nil,Bool.and_true] at hr
       cases r with
       | true =>
         rw [← hr,if_pos rfl] at hf
         simp [hkl,hgi,Tb.c]
         (repeat' first|contradiction|exact .ok|apply And.intro|intro _|(apply gc<;>simp+contextual))
         refine ⟨(k+1,(k:Int)),⟨by simp; omega,.inr ⟨by simp,hf⟩⟩,?_,by simp; omega⟩
         exact sM _ [(1,1,_),(900,900,_),(901,901,_)] (by simp [aB,Blk.live]) (by simp [aB,hwk])
       | false =>
         rw [← hr,if_neg (by decide)] at hf
         simp [hkl,hgi,Tb.c]
         (repeat' first|contradiction|exact .ok|apply And.intro|intro _|(apply gc<;>simp+contextual))
         refine ⟨(k+1,-1),⟨by simp; omega,.inl ⟨rfl,hf⟩⟩,?_,by simp; omega⟩
         exact sM _ [(1,1,_),(900,900,_),(901,901,_)] (by simp [aB,Blk.live]) (by simp [aB,hwk])
     ·obtain rfl:k=S.length:=by omega
      rw [List.drop_of_length_le (by simp),aV] at hf
      simp
      (repeat' first|contradiction|exact .ok|apply And.intro|intro _|(apply gc<;>simp+contextual))
      refine AExitTo.mk rfl ?_
      exact sM _ [(1,1,_),(900,900,_),(901,901,_)] (by simp [aB,Blk.live]) (by simp [aB,← hf])
   ·generalize jQ S done=z at *
    unfold dnB
    by_cases hz:z<0
    ·rw [if_pos hz] at hL
     rw [← hL]
     simp [hz]
     (repeat' first|contradiction|exact .ok|apply And.intro|intro _|(apply gc<;>simp+contextual[hz]))
     try rfl
    ·rw [if_neg hz] at hL
     obtain ⟨q,rfl⟩:∃ q:Nat,z=q:=⟨z.toNat,by omega⟩
     have hq:q<S.length:=by omega
     have hz1:(aD out).take i=aD out:=List.take_of_length_le (by simp [hlo])
     simp [hz,hq,hgd q hq,hlo,gF (i+1) (by omega) 8 (by decide)]
     (repeat' first|contradiction|exact .ok|apply And.intro|intro _|(apply gc<;>simp+contextual))
     have hset:(aO (fun k=>[D.bool (done k)]) S.length).set q [.bool true]=aO (fun k=>[D.bool (dnO done q k)]) S.length:=by
      rw [kR]
      refine bV fun k _=>?_
      by_cases hk:k=q
      ·subst hk
       simp [dnO]
      ·have hk':¬ (k:Int)=q:=by omega
       simp [dnO,hk,hk']
     have hio:aD (out++[(q:Int)])=aD out++[[.int .i64 q]]:=by simp [aD]
     refine ⟨(i+1,dnO done q,out++[(q:Int)]),⟨by simp; omega,by simp [hlo],hL⟩,?_,by simp; omega⟩
     exact sM _ [(1,1,_),(900,900,_),(901,104,_)] (by simp [aB,Blk.live,hset,hio]) (by simp [aB])
  ·obtain rfl:i=S.length:=by omega
   rw [Nat.sub_self,show lD S 0 done out=(out,0) from rfl] at hL
   rw [← hL]
   have ht:(aD out).take S.length=aD out:=List.take_of_length_le (by simp [hlo])
   simp [hlo,ht]
   all_goals exact gz
theorem vP (l:List V) (hl:l.length≤1000):Cf En 69 [.d (.sl (l.map V.c))] [] (.ref 1000000 0 l.length 3) [.arr 92 3 (l.map V.c) false]:=by
 refine cJ aW (fn:=Tryz.f69) rfl ?_
 cases l with
 | nil =>
   simp
   (repeat' first|contradiction|exact .ok|apply And.intro|intro _|(apply gc<;>simp+contextual))
   ·refine EndsS.mk _ (pL (i:=2) (m:=9) (ety:=92) (sz:=3) (by simp) ?_ (by decide) (by decide)) ?_
    ·simp
    ·exact ⟨_,[(1000000,9,.arr 92 3 [] false)],by simp; rfl,⟨by simp,by simp,by simp [aB,Blk.live],by simp⟩,by simp [List.zipIdx,aM],by simp [aB]⟩
   ·refine EndsS.mk _ (.refl _ _ _ _) ?_
    exact ⟨_,[(1000000,7,.arr 92 3 [] false)],by simp; rfl,⟨by simp,by simp,by simp [aB,Blk.live],by simp⟩,by simp [List.zipIdx,aM],by simp [aB]⟩
 | cons a l =>
   have hs:=gF (l.length+1) (by simp at hl; omega) 32 (by decide)
   have hs2:=gF l.length (by simp at hl; omega) 32 (by decide)
   simp [hs,V.c]
   (repeat' first|contradiction|exact .ok|apply And.intro|intro _|(apply gc<;>simp+contextual))
   refine EndsS.mk _ (.refl _ _ _ _) ?_
   exact ⟨_,[(1000000,7,.arr 92 3 ((a::l).map V.c) false)],by simp; rfl,⟨by simp,by simp,by simp [aB,Blk.live,V.c],by simp⟩,by simp [List.zipIdx,aM]; rfl,by simp [aB]⟩
theorem aAO (l:List Int) (hl:l.length≤1000):Cf En 70 [.d (.sl (aD l))] [] (.ref 1000000 0 l.length 1) [.arr 3 1 (aD l) false]:=by
 refine cJ aW (fn:=Tryz.f70) rfl ?_
 cases l with
 | nil =>
   simp [aD]
   (repeat' first|contradiction|exact .ok|apply And.intro|intro _|(apply gc<;>simp+contextual))
   ·refine EndsS.mk _ (pL (i:=2) (m:=9) (ety:=3) (sz:=1) (by simp) ?_ (by decide) (by decide)) ?_
    ·simp
    ·exact ⟨_,[(1000000,9,.arr 3 1 [] false)],by simp; rfl,⟨by simp,by simp,by simp [aB,Blk.live],by simp⟩,by simp [List.zipIdx,aM],by simp [aB]⟩
   ·refine EndsS.mk _ (.refl _ _ _ _) ?_
    exact ⟨_,[(1000000,7,.arr 3 1 [] false)],by simp; rfl,⟨by simp,by simp,by simp [aB,Blk.live],by simp⟩,by simp [List.zipIdx,aM],by simp [aB]⟩
 | cons a l =>
   have hs:=gF (l.length+1) (by simp at hl; omega) 8 (by decide)
   have hs2:=gF l.length (by simp at hl; omega) 8 (by decide)
   simp [hs,aD]
   (repeat' first|contradiction|exact .ok|apply And.intro|intro _|(apply gc<;>simp+contextual))
   refine EndsS.mk _ (.refl _ _ _ _) ?_
   exact ⟨_,[(1000000,7,.arr 3 1 (aD (a::l)) false)],by simp; rfl,⟨by simp,by simp,by simp [aB,Blk.live,aD],by simp⟩,by simp [List.zipIdx,aM]; rfl,by simp [aB]⟩
end Go.Proofs.Tryz
