import Derived.Test.YthbnleoonldffaaGreatDoorQSfi
import Derived.Test.YthbnleoonldffaaGreatDoorAbB
import Derived.Shelf.Sort.Plain
import Derived.Shelf.Slices.CompactI
import Derived.Shelf.Slices.In.SortNone
import Derived.Test.YthbnleoonldffaaGreatDoorProg
import Derived.Test.YthbnleoonldffaaGreatDoorQExp
set_option linter.all false
namespace Go.Proofs.Tryz
open Go.Ab
set_option maxRecDepth 100000
set_option maxHeartbeats 2000000
@[simp] theorem aHw:kB Tryz.prog 195=some (.int .i64,some (.bool false)):=by kernel_rfl
theorem aFu:Cf En 145 [.d (.val (.map none))] [] (.d (.bool false)) []:=by
 refine aD aW (fn:=Tryz.f145) (by kernel_rfl) rfl (by kernel_rfl) (by decide) (by simp) ?_
 simp
 all_goals exact gz
theorem aFv (es:List (D×D)) (h:es.length≤1000):Cf En 145 [.mref 1000000] [.mp es] (.d (.bool (es.length==0))) [.mp es]:=by
 refine aD aW (fn:=Tryz.f145) (by kernel_rfl) rfl (by kernel_rfl) (by decide) (by simp) ?_
 have e:((es.length:Int)==0)=(es.length==0):=by rw [Bool.eq_iff_iff]; simp
 simp [e]
 all_goals exact gz
def oU (al:Nat→Bool) (o k:Nat):AV:=if al k=true then .mref (o+k) else .d (.val (.map none))
def mB (al:Nat→Bool) (es:Nat→List (D×D)) (o N:Nat):List Blk:=.varr 195 1 (bE (fun k=>[oU al o k]) N)::bE (fun k=>.mp (es k)) N
theorem YW (al:Nat→Bool) (es:Nat→List (D×D)) (o N:Nat):(mB al es o N).length=N+1:=by simp [mB]
theorem aFw (al:Nat→Bool) (es:Nat→List (D×D)) (N:Nat) (hN:N≤1000) (hes:∀ k,k<N→(es k).length≤1000) :
  Cf En 144 [.ref 1000000 0 N 1,.clo 145 []] (mB al es 1000001 N) (.d (.int .i64 (aY (fun k=>al k&&(es k).length==0) (bE (fun k=>k) N) 0))) (mB al es 1000001 N):=by
 refine aD aW (fn:=Tryz.f144) (by kernel_rfl) rfl (by kernel_rfl) (by decide) (by simp) ?_
 have b0:cS (mB al es 1000001 N) 1000000=.varr 195 1 (bE (fun k=>[oU al 1000001 k]) N):=by simp [cS,mB]
 have b1:∀ k,k<N→cS (mB al es 1000001 N) (1000001+k)=.mp (es k):=fun k hk=>by
  unfold cS mB
  rw [if_pos (by rw [aP]; omega),show 1000001+k - aF=k+1 from by rw [aP]; omega,List.getElem?_cons_succ,bR,if_pos hk]; rfl
 have hkeep:KeptOk (mB al es 1000001 N).length (cS (mB al es 1000001 N)) (rZ (mB al es 1000001 N)):=by
  refine aCY rfl fun i b hb=>?_
  have hil:=(List.getElem?_eq_some_iff.1 hb).1
  rw [YW] at hil
  cases i with
  | zero =>
    simp only [mB,List.getElem?_cons_zero,Option.some.injEq] at hb
    subst hb
    rw [show aF+0=1000000 from rfl,b0]
    refine ⟨.inl rfl,?_⟩
    simp only [iH,eB]
    congr 1
    refine cJ fun k hk=>?_
    simp only [cQ,oU]
    split
    ·simp only [dU,CV,YW,aP]
     rw [if_pos (by omega)]
    ·simp only [dU]
  | succ k =>
    simp only [mB,List.getElem?_cons_succ,bR] at hb
    split at hb <;> simp only [Option.some.injEq,reduceCtorEq] at hb
    subst hb
    rename_i hk
    rw [show aF+(k+1)=1000001+k from by rw [aP]; omega,b1 k hk]
    exact ⟨.inl rfl,rfl⟩
 simp
 (repeat' first|contradiction|exact .ok|apply And.intro|intro _|(apply gc<;>simp+contextual))
 refine aL aW (by decide) (fun i:Nat=>{ s:=cG [(0,.ref 1000000 0 N 1),(1,.clo 145 []),(7,.d (.int .i64 N)),(8,.d (.int .i64 i))],b:=cS (mB al es 1000001 N) }) (fun i=>i≤N∧aY (fun k=>al k&&(es k).length==0) ((bE (fun k=>k) N).drop i) i=aY (fun k=>al k&&(es k).length==0) (bE (fun k=>k) N) 0) (fun i=>N - i) 0 (by simp) (uZ rfl _ (by simp)) ?_
 rintro i ⟨hi,hf⟩
 by_cases hlt:i<N
 ·rw [dX (by simpa using hlt)] at hf
  have hgi:∀ h,(bE (fun k=>k) N)[i]'h=i:=fun h=>by
   have:=bR (fun k=>k) N i
   rw [List.getElem?_eq_getElem h,if_pos hlt] at this
   exact Option.some.inj this
  rw [hgi] at hf
  have hw:=aH (n:=(i:Int)+1) (by omega) (by omega)
  have hr:(bE (fun k=>[oU al 1000001 k]) N)[i]?=some [oU al 1000001 i]:=by rw [bR,if_pos hlt]
  have hr2:∀ h,(bE (fun k=>[oU al 1000001 k]) N)[i]'h=[oU al 1000001 i]:=fun h=>by
   rw [List.getElem?_eq_getElem h] at hr
   exact Option.some.inj hr
  cases ha:al i
  ·have hr3:∀ h,(bE (fun k=>[oU al 1000001 k]) N)[i]'h=[.d (.val (.map none))]:=fun h=>by rw [hr2,oU,ha]; rfl
   rw [ha] at hf
   simp [hlt,b0,hr3]
   (repeat' first|contradiction|exact .ok|apply And.intro|intro _|(apply gc<;>simp+contextual))
   refine aA aFu (by simp) ?_
   simp
   (repeat' first|contradiction|exact .ok|apply And.intro|intro _|(apply gc<;>simp+contextual))
   refine ⟨i+1,⟨by omega,by simpa using hf⟩,?_,by simp; omega⟩
   exact uZ rfl _ (by simp [hw])
  ·have hr3:∀ h,(bE (fun k=>[oU al 1000001 k]) N)[i]'h=[.mref (1000001+i)]:=fun h=>by rw [hr2,oU,ha]; rfl
   rw [ha] at hf
   have b1i:=b1 i hlt
   simp [hlt,b0,hr3]
   (repeat' first|contradiction|exact .ok|apply And.intro|intro _|(apply gc<;>simp+contextual))
   refine aK [1000001+i] (aFv (es i) (hes i hlt)) (by simp) (by simp) (by simp [b1i]) (by simp [b1i]) (by simp [kQ]) ?_
   cases he:(es i).length==0
   ·rw [he] at hf
    simp [he,b1i]
    (repeat' first|contradiction|exact .ok|apply And.intro|intro _|(apply gc<;>simp+contextual))
    refine ⟨i+1,⟨by omega,by simpa using hf⟩,?_,by simp; omega⟩
    refine uZ (IK b1i) _ (by simp [hw])
   ·rw [he] at hf
    simp [he,b1i]
    (repeat' first|contradiction|exact .ok|apply And.intro|intro _|(apply gc<;>simp+contextual))
    rw [kP,IK b1i]
    simp only [Bool.and_self,if_true] at hf
    simp [← hf]
    exact hkeep
 have hie:i=N:=by omega
 subst hie
 rw [List.drop_of_length_le (by simp),aY] at hf
 simp
 (repeat' first|contradiction|exact .ok|apply And.intro|intro _|(apply gc<;>simp+contextual))
 rw [kP]
 simp [← hf]
 exact hkeep
def kM (l:List Int):List (D×D):=l.map fun z=>(.int .i64 z,.bool true)
def vS (z:Int) (l:List Int):List Int:=if z∈l then l else l++[z]
@[simp] theorem YP (l:List Int):(kM l).length=l.length:=by simp [kM]
@[simp] theorem aHl (l:List Int):(kM l).all (fun e=>nB (.int .i64) e.1)=true:=by
  rw [List.all_eq_true]
  intro e he
  obtain ⟨z,_,rfl⟩:=List.mem_map.1 he
  rfl
theorem RI (a b:Int):uS (.int .i64 a) (.int .i64 b)=(a==b):=by simp [uS]
theorem YQ (z:Int):∀ l:List Int,rO (.int .i64 z) (.bool true) (kM l)=kM (vS z l)
 | []=>rfl
 | a::l=>by
   have ih:=YQ z l
   show rO _ _ ((.int .i64 a,.bool true)::kM l)=_
   rw [rO,RI]
   by_cases h:z=a
   ·subst h
    simp [vS,kM]
   ·rw [if_neg (by simpa using h),ih]
    unfold vS
    by_cases h2:z∈l
    ·rw [if_pos h2,if_pos (List.mem_cons_of_mem _ h2)]; rfl
    ·rw [if_neg h2,if_neg (by simp [h,h2])]; rfl
theorem YR (z:Int):∀ l:List Int,rP (.int .i64 z) (kM l)=kM (l.erase z)
 | []=>rfl
 | a::l=>by
   have ih:=YR z l
   show rP _ ((.int .i64 a,.bool true)::kM l)=_
   rw [rP,RI]
   by_cases h:z=a
   ·subst h
    simp
   ·rw [if_neg (by simpa using h),ih,List.erase_cons_tail (by simpa using fun e=>h e.symm)]
    rfl
theorem YS {z x:Int} {l:List Int}:x∈vS z l↔x=z∨x∈l:=by
 unfold vS
 split
 ·rename_i h
  constructor
  ·exact fun h=>.inr h
  ·rintro (rfl | h2)
   ·exact h
   ·exact h2
 ·simp [or_comm]
theorem OX {z:Int} {l:List Int} (h:l.Nodup):(vS z l).Nodup:=by
 unfold vS
 split
 ·exact h
 ·rename_i hz
  rw [List.nodup_append]
  refine ⟨h,by simp,fun a ha b hb e=>?_⟩
  simp at hb
  subst hb e
  exact hz ha
def iB (S:List Tb) (f:Fk):Int:=aY (fun x:Tb=>x.n==f.t) S 0
def fR (S:List Tb):List Fk→List Int→List Int
 | [],l=>l
 | f::r,l=>fR S r (vS (iB S f) l)
theorem DZ {S:List Tb} {x:Int}:∀ {r:List Fk} {l:List Int},x∈fR S r l↔x∈l∨∃ f∈r,iB S f=x
 | [],l=>by simp [fR]
 | f::r,l=>by
   rw [fR,DZ,YS]
   simp only [List.mem_cons,exists_eq_or_imp]
   constructor
   ·rintro ((rfl | h) | h)
    ·exact .inr (.inl rfl)
    ·exact .inl h
    ·exact .inr (.inr h)
   ·rintro (h | h | h)
    ·exact .inl (.inr h)
    ·exact .inl (.inl h.symm)
    ·exact .inr h
theorem xA {S:List Tb}:∀ {r:List Fk} {l:List Int},l.Nodup→(fR S r l).Nodup
 | [],_,h=>h
 | f::r,l,h=>by rw [fR]; exact xA (OX h)
end Go.Proofs.Tryz
namespace Go.Proofs.Tryz
def dE (x:Tb) (c:Int):Int:=((x.cols[c.toNat]?).map Col.t).getD 0
end Go.Proofs.Tryz
namespace Go.Proofs
open Go.Shelf
def Tryz.lays189_ren:Go.Shelf.Ren:=⟨fun | 189=>261 | 125=>333 | 257=>332 | 128=>373 | 129=>374 | 294=>364 | 295=>365 | 296=>366 | 297=>367 | 298=>368 | 299=>369 | 216=>370 | 300=>371 | 301=>372 | 328=>394 | 329=>395 | 330=>396 | 331=>397 | 332=>398 | 215=>384 | 343=>406 | n=>n,fun | 28=>22 | 3=>3 | 46=>346 | 0=>0 | 51=>384 | 53=>356 | 4=>4 | 183=>378 | 182=>377 | 131=>116 | 5=>5 | 9=>9 | 218=>397 | 222=>401 | 228=>406 | 229=>407 | n=>n,fun | n=>n⟩
theorem Tryz.lays189:Go.Proofs.Lays.n189 Tryz.prog Tryz.lays189_ren:={
 mixed:=by kernel_rfl
 f125:=Tryz.func333.trans (congrArg some (by kernel_rfl))
 f128:=Tryz.func373.trans (congrArg some (by kernel_rfl))
 f129:=Tryz.func374.trans (congrArg some (by kernel_rfl))
 f189:=Tryz.func261.trans (congrArg some (by kernel_rfl))
 f215:=Tryz.func384.trans (congrArg some (by kernel_rfl))
 f216:=Tryz.func370.trans (congrArg some (by kernel_rfl))
 f257:=Tryz.func332.trans (congrArg some (by kernel_rfl))
 f294:=Tryz.func364.trans (congrArg some (by kernel_rfl))
 f295:=Tryz.func365.trans (congrArg some (by kernel_rfl))
 f296:=Tryz.func366.trans (congrArg some (by kernel_rfl))
 f297:=Tryz.func367.trans (congrArg some (by kernel_rfl))
 f298:=Tryz.func368.trans (congrArg some (by kernel_rfl))
 f299:=Tryz.func369.trans (congrArg some (by kernel_rfl))
 f300:=Tryz.func371.trans (congrArg some (by kernel_rfl))
 f301:=Tryz.func372.trans (congrArg some (by kernel_rfl))
 f328:=Tryz.func394.trans (congrArg some (by kernel_rfl))
 f329:=Tryz.func395.trans (congrArg some (by kernel_rfl))
 f330:=Tryz.func396.trans (congrArg some (by kernel_rfl))
 f331:=Tryz.func397.trans (congrArg some (by kernel_rfl))
 f332:=Tryz.func398.trans (congrArg some (by kernel_rfl))
 f343:=Tryz.func406.trans (congrArg some (by kernel_rfl))
 t0:=Tryz.underlying0
 a0:=Tryz.isAgg0
 z0:=Tryz.sizeOf0
 v0:=Tryz.zeroValue0
 t3:=Tryz.underlying3
 a3:=Tryz.isAgg3
 z3:=Tryz.sizeOf3
 v3:=Tryz.zeroValue3
 t4:=Tryz.underlying4
 a4:=Tryz.isAgg4
 z4:=Tryz.sizeOf4
 v4:=Tryz.zeroValue4
 t5:=Tryz.underlying5
 a5:=Tryz.isAgg5
 z5:=Tryz.sizeOf5
 v5:=Tryz.zeroValue5
 t9:=Tryz.underlying9
 a9:=Tryz.isAgg9
 z9:=Tryz.sizeOf9
 v9:=Tryz.zeroValue9
 t28:=Tryz.underlying22
 a28:=Tryz.isAgg22
 z28:=Tryz.sizeOf22
 v28:=Tryz.zeroValue22
 t46:=Tryz.underlying346
 a46:=Tryz.isAgg346
 z46:=Tryz.sizeOf346
 v46:=Tryz.zeroValue346
 t51:=Tryz.underlying384
 a51:=Tryz.isAgg384
 z51:=Tryz.sizeOf384
 v51:=Tryz.zeroValue384
 t53:=Tryz.underlying356
 a53:=Tryz.isAgg356
 z53:=Tryz.sizeOf356
 v53:=Tryz.zeroValue356
 t131:=Tryz.underlying116
 a131:=Tryz.isAgg116
 z131:=Tryz.sizeOf116
 v131:=Tryz.zeroValue116
 t182:=Tryz.underlying377
 a182:=Tryz.isAgg377
 z182:=Tryz.sizeOf377
 v182:=Tryz.zeroValue377
 t183:=Tryz.underlying378
 a183:=Tryz.isAgg378
 z183:=Tryz.sizeOf378
 v183:=Tryz.zeroValue378
 t218:=Tryz.underlying397
 a218:=Tryz.isAgg397
 z218:=Tryz.sizeOf397
 v218:=Tryz.zeroValue397
 t222:=Tryz.underlying401
 a222:=Tryz.isAgg401
 z222:=Tryz.sizeOf401
 v222:=Tryz.zeroValue401
 t228:=Tryz.underlying406
 a228:=Tryz.isAgg406
 z228:=Tryz.sizeOf406
 v228:=Tryz.zeroValue406
 t229:=Tryz.underlying407
 a229:=Tryz.isAgg407
 z229:=Tryz.sizeOf407
 v229:=Tryz.zeroValue407 }
open Go.Sort Go.RowKit in
theorem Tryz.slices_Sort_int (blk off cap:Nat) (zs:List Int) (w:World) (hH:Holds (Value.int .i64) w blk off zs.toArray) (hblk:blk<w.heap.size) (hsz:zs.length<4611686018427387904) :
  Calls Tryz.prog 261 #[.slice (some ⟨blk,off,none⟩) zs.length cap] w fun e w' =>
   e=.returned (.tuple #[])∧∃ n os,w'=grow (putRow (Value.int .i64) (Sort.ahead w n) blk off (zs.mergeSort fun x y=>decide (x≤y)).toArray) os:=Any.slices_Sort_int Tryz.lays189 blk off cap zs w hH hblk hsz
def Tryz.laysNm220_ren:Go.Shelf.Ren:=⟨fun | 20=>262 | n=>n,fun | 22=>22 | 3=>3 | 4=>4 | 0=>0 | n=>n,fun | n=>n⟩
theorem Tryz.laysNm220:Go.Proofs.Lays2.n20 Tryz.prog Tryz.laysNm220_ren:={
 mixed:=by kernel_rfl
 f20:=Tryz.func262.trans (congrArg some (by kernel_rfl))
 t0:=Tryz.underlying0
 a0:=Tryz.isAgg0
 z0:=Tryz.sizeOf0
 v0:=Tryz.zeroValue0
 t3:=Tryz.underlying3
 a3:=Tryz.isAgg3
 z3:=Tryz.sizeOf3
 v3:=Tryz.zeroValue3
 t4:=Tryz.underlying4
 a4:=Tryz.isAgg4
 z4:=Tryz.sizeOf4
 v4:=Tryz.zeroValue4
 t22:=Tryz.underlying22
 a22:=Tryz.isAgg22
 z22:=Tryz.sizeOf22
 v22:=Tryz.zeroValue22
 i3:=by kernel_rfl }
open Go.RowKit Go.Lib Go.Sort in
theorem Tryz.slices_Compact_int (blk off cap:Nat) (zs:List Int) (w:World) (hH:Holds (Value.int .i64) w blk off zs.toArray) (hsz:zs.length≤9223372036854775807) (hcap:zs.length≤cap) :
  Calls Tryz.prog 262 #[.slice (some ⟨blk,off,none⟩) zs.length cap] w fun e w'=>e=.returned (.slice (some ⟨blk,off,none⟩) (Lib.compact zs).length cap)∧∃ q,w'=putRow (Value.int .i64) (Sort.ahead w q) blk off (Lib.compact zs++List.replicate (zs.length - (Lib.compact zs).length) 0).toArray:=Any.slices_Compact_int Tryz.laysNm220 blk off cap zs w hH hsz hcap
open Go.RowKit Go.Lib Go.Sort in
theorem Tryz.slices_Compact_int_empty (a:Option Addr) (cap:Nat) (w:World) :
  Calls Tryz.prog 262 #[.slice a 0 cap] w fun e w'=>e=.returned (.slice a 0 cap)∧w'=w:=Any.slices_Compact_int_empty Tryz.laysNm220 a cap w
open Go.RowKit Go.Sort in
theorem Tryz.slices_Sort_int_none (p:Option Addr) (cap:Nat) (w:World) :
  Calls Tryz.prog 261 #[.slice p 0 cap] w fun e w'=>e=.returned (.tuple #[])∧w'=w:=Any.slices_Sort_int_none Tryz.lays189 p cap w
end Go.Proofs
namespace Go.Proofs.Tryz
open Go.Ab
set_option maxRecDepth 100000
set_option maxHeartbeats 8000000
theorem zV (d:Array Int) (hs:∀ i j,i≤j→j<d.size→d[i]! ≤ d[j]!):∀ m,m≤d.size→(Go.Lib.compactUpTo d m).Pairwise (·<·)∧∀ x,x∈Go.Lib.compactUpTo d m↔∃ j,j<m∧d[j]! = x
 | 0,_=>⟨by simp [Go.Lib.compactUpTo],by simp [Go.Lib.compactUpTo]⟩
 | m+1,hm=>by
   obtain ⟨h1,h2⟩:=zV d hs m (by omega)
   rw [Go.Lib.compactUpTo_succ]
   cases hk:Go.Lib.keeps d m with
   | true =>
     rw [if_pos rfl]
     have hlt:∀ x∈Go.Lib.compactUpTo d m,x<d[m]! := fun x hx=>by
      obtain ⟨j,hj,rfl⟩:=(h2 x).1 hx
      have a1:=hs j (m - 1) (by omega) (by omega)
      have a2:=hs (m - 1) m (by omega) (by omega)
      have a3:d[m]! ≠ d[m - 1]! := by
       simp only [Go.Lib.keeps,decide_eq_true_eq] at hk
       rcases hk with hk | hk
       ·omega
       ·exact hk
      omega
     refine ⟨List.pairwise_append.2 ⟨h1,List.pairwise_singleton _ _,fun a ha b hb=>?_⟩,fun x=>?_⟩
     ·rw [List.mem_singleton.1 hb]; exact hlt a ha
     ·rw [List.mem_append,List.mem_singleton,h2]
      constructor
      ·rintro (⟨j,hj,e⟩ | rfl)
       ·exact ⟨j,by omega,e⟩
       ·exact ⟨m,by omega,rfl⟩
      ·rintro ⟨j,hj,e⟩
       by_cases hjm:j=m
       ·subst hjm; exact .inr e.symm
       ·exact .inl ⟨j,by omega,e⟩
   | false =>
     rw [if_neg (by decide),List.append_nil]
     refine ⟨h1,fun x=>?_⟩
     rw [h2]
     constructor
     ·rintro ⟨j,hj,e⟩; exact ⟨j,by omega,e⟩
     ·rintro ⟨j,hj,e⟩
      by_cases hjm:j=m
      ·subst hjm
       simp only [Go.Lib.keeps,decide_eq_false_iff_not,not_or,Classical.not_not] at hk
       exact ⟨j - 1,by omega,by rw [← e]; exact hk.2.symm⟩
      ·exact ⟨j,by omega,e⟩
def tU (l:List Int):List Int:=l.mergeSort fun x y=>decide (x≤y)
theorem tV (l:List Int):(tU l).length=l.length:=List.length_mergeSort _
theorem aBq (l:List Int) (x:Int):x∈tU l↔x∈l:=List.mem_mergeSort
theorem XD (l:List Int):(tU l).Pairwise (·≤·):=by
 have:=List.pairwise_mergeSort (le:=fun x y:Int=>decide (x≤y)) (fun a b c h1 h2=>by simp at *; omega) (fun a b=>by simp; omega) l
 exact this.imp fun h=>by simpa using h
theorem tW (l:List Int) (hs:l.Pairwise (·≤·)):(Go.Lib.compact l).Pairwise (·<·)∧∀ x,x∈Go.Lib.compact l↔x∈l:=by
 have hget:∀ i j,i≤j→j<l.toArray.size→l.toArray[i]! ≤ l.toArray[j]! := fun i j hij hj=>by
  have hj':j<l.length:=by simpa using hj
  have hi':i<l.length:=by omega
  rw [getElem!_pos l.toArray i (by simpa using hi'),getElem!_pos l.toArray j hj]
  simp only [List.getElem_toArray]
  rcases Nat.lt_or_ge i j with h | h
  ·exact List.pairwise_iff_getElem.1 hs i j hi' hj' h
  ·have:i=j:=by omega
   subst this; exact Int.le_refl _
 obtain ⟨h1,h2⟩:=zV l.toArray hget l.length (by simp)
 refine ⟨h1,fun x=>(h2 x).trans ?_⟩
 rw [List.mem_iff_getElem]
 constructor
 ·rintro ⟨j,hj,e⟩
  refine ⟨j,hj,?_⟩
  rw [getElem!_pos l.toArray j (by simpa using hj)] at e
  simpa using e
 ·rintro ⟨j,hj,e⟩
  refine ⟨j,hj,?_⟩
  rw [getElem!_pos l.toArray j (by simpa using hj)]
  simpa using e
theorem DK:∀ (a b:List Int),a.Pairwise (·<·)→b.Pairwise (·<·)→(∀ x,x∈a↔x∈b)→a=b
 | [],[],_,_,_=>rfl
 | [],y::b,_,_,h=>absurd ((h y).2 List.mem_cons_self) (by simp)
 | x::a,[],_,_,h=>absurd ((h x).1 List.mem_cons_self) (by simp)
 | x::a,y::b,ha,hb,h=>by
   rw [List.pairwise_cons] at ha hb
   have hxy:x=y:=by
    rcases List.mem_cons.1 ((h x).1 List.mem_cons_self) with e | e
    ·exact e
    ·rcases List.mem_cons.1 ((h y).2 List.mem_cons_self) with e2 | e2
     ·exact e2.symm
     ·have:=hb.1 x e; have:=ha.1 y e2; omega
   subst hxy
   rw [DK a b ha.2 hb.2 fun z=>?_]
   constructor
   ·intro hz
    rcases List.mem_cons.1 ((h z).1 (List.mem_cons_of_mem _ hz)) with e | e
    ·subst e; exact absurd (ha.1 z hz) (by omega)
    ·exact e
   ·intro hz
    rcases List.mem_cons.1 ((h z).2 (List.mem_cons_of_mem _ hz)) with e | e
    ·subst e; exact absurd (hb.1 z hz) (by omega)
    ·exact e
def nI (l:List Int) (n:Int):Nat:=(l.takeWhile fun x=>decide (x<n)).length
def xQ (l:List Int) (n:Int):List Int:=if l[nI l n]?=some n then l else l.take (nI l n)++n::l.drop (nI l n)
theorem sD:∀ (l:List Int) (n:Int),nI l n≤l.length∧(∀ i x,l[i]?=some x→i<nI l n→x<n)∧∀ x,l[nI l n]?=some x→n≤x
 | [],n=>⟨by simp [nI],by simp,by simp⟩
 | y::l,n=>by
   obtain ⟨h1,h2,h3⟩:=sD l n
   unfold nI at *
   by_cases hy:y<n
   ·rw [List.takeWhile_cons_of_pos (by simpa using hy),List.length_cons]
    refine ⟨by simp; omega,fun i x hx hi=>?_,fun x hx=>h3 x (by simpa using hx)⟩
    cases i with
    | zero=>simp at hx; subst hx; exact hy
    | succ i=>exact h2 i x (by simpa using hx) (by omega)
   ·rw [List.takeWhile_cons_of_neg (by simpa using hy)]
    refine ⟨by simp,fun i x _ hi=>absurd hi (by simp),fun x hx=>?_⟩
    simp at hx; subst hx; omega
theorem JM (l:List Int) (n:Int) (hs:l.Pairwise (·<·)):(xQ l n).Pairwise (·<·)∧∀ x,x∈xQ l n↔x=n∨x∈l:=by
 obtain ⟨h1,h2,h3⟩:=sD l n
 unfold xQ
 split
 ·rename_i h
  exact ⟨hs,fun x=>⟨.inr,fun hx=>by
   rcases hx with rfl | hx
   ·exact List.mem_of_getElem? h
   ·exact hx⟩⟩
 ·rename_i h
  generalize nI l n=k at *
  have hl:l=l.take k++l.drop k:=(List.take_append_drop k l).symm
  have hlow:∀ x∈l.take k,x<n:=fun x hx=>by
   obtain ⟨i,hi⟩:=List.mem_iff_getElem?.1 hx
   rw [List.getElem?_take] at hi
   split at hi
   ·exact h2 i x hi (by assumption)
   ·cases hi
  have hhigh:∀ x∈l.drop k,n<x:=fun x hx=>by
   have hp:(l.drop k).Pairwise (·<·):=hs.sublist (List.drop_sublist k l)
   cases hd:l.drop k with
   | nil=>rw [hd] at hx; cases hx
   | cons y r =>
     have hy:l[k]?=some y:=by
      have:=congrArg (·[0]?) hd
      simpa using this
     have h4:=h3 y hy
     have h5:y ≠ n:=fun e=>h (by rw [hy,e])
     rw [hd] at hx hp
     rcases List.mem_cons.1 hx with rfl | hx
     ·omega
     ·have:=(List.pairwise_cons.1 hp).1 x hx; omega
  refine ⟨?_,fun x=>?_⟩
  ·rw [List.pairwise_append]
   refine ⟨hs.sublist (List.take_sublist k l),List.pairwise_cons.2 ⟨hhigh,hs.sublist (List.drop_sublist k l)⟩,fun a ha b hb=>?_⟩
   rcases List.mem_cons.1 hb with rfl | hb
   ·exact hlow a ha
   ·have:=hlow a ha; have:=hhigh b hb; omega
  ·rw [List.mem_append,List.mem_cons]
   constructor
   ·rintro (hx | rfl | hx)
    ·exact .inr (List.mem_of_mem_take hx)
    ·exact .inl rfl
    ·exact .inr (List.mem_of_mem_drop hx)
   ·rintro (rfl | hx)
    ·exact .inr (.inl rfl)
    ·rw [hl,List.mem_append] at hx
     rcases hx with hx | hx
     ·exact .inl hx
     ·exact .inr (.inr hx)
theorem QQ (l:List Int) (n:Int):(xQ l n).length≤l.length+1:=by
 unfold xQ
 split
 ·omega
 ·simp; omega
mutual
def Ex.cols:Ex→List Int
 | .mk o _ _ _ g ks=>Go.Lib.compact (tU ((if o=5 then [g] else [])++bD ks))
def bD:List Ex→List Int
 | []=>[]
 | e::es=>e.cols++bD es
end
mutual
def Ex.rcols:Ex→List Int
 | .mk o _ _ _ g ks=>if o=5 then xQ (dH [] ks) g else dH [] ks
def dH:List Int→List Ex→List Int
 | a,[]=>a
 | a,e::es=>dH (e.rcols.foldl xQ a) es
end
mutual
def Ex.has:Ex→Int→Prop
 | .mk o _ _ _ g ks,x=>(o=5∧x=g)∨eW ks x
def eW:List Ex→Int→Prop
 | [],_=>False
 | e::es,x=>e.has x∨eW es x
end
theorem JN (e:Ex):e.cols.Pairwise (·<·):=by
 cases e with
 | mk o c n t g ks=>rw [Ex.cols]; exact (tW _ (XD _)).1
mutual
theorem lE:∀ (e:Ex) (x:Int),x∈e.cols↔e.has x
 | .mk o c n t g ks,x=>by
   rw [Ex.cols,(tW _ (XD _)).2,aBq,List.mem_append,Ex.has,wU ks x]
   by_cases h:o=5 <;> simp [h]
theorem wU:∀ (l:List Ex) (x:Int),x∈bD l↔eW l x
 | [],x=>by simp [bD,eW]
 | e::es,x=>by rw [bD,List.mem_append,eW,lE e x,wU es x]
end
theorem DL:∀ (l a:List Int),a.Pairwise (·<·)→(l.foldl xQ a).Pairwise (·<·)∧∀ x,x∈l.foldl xQ a↔x∈a∨x∈l
 | [],a,h=>⟨h,by simp⟩
 | n::l,a,h=>by
   obtain ⟨h1,h2⟩:=JM a n h
   obtain ⟨h3,h4⟩:=DL l (xQ a n) h1
   refine ⟨h3,fun x=>?_⟩
   rw [List.foldl_cons,h4,h2,List.mem_cons]
   constructor
   ·rintro ((h | h) | h)
    ·exact .inr (.inl h)
    ·exact .inl h
    ·exact .inr (.inr h)
   ·rintro (h | h | h)
    ·exact .inl (.inr h)
    ·exact .inl (.inl h)
    ·exact .inr h
mutual
theorem sE:∀ e:Ex,e.rcols.Pairwise (·<·)∧∀ x,x∈e.rcols↔e.has x
 | .mk o c n t g ks=>by
   obtain ⟨h1,h2⟩:=rU ks [] List.Pairwise.nil
   rw [Ex.rcols]
   by_cases h:o=5
   ·rw [if_pos h]
    obtain ⟨h3,h4⟩:=JM _ g h1
    refine ⟨h3,fun x=>?_⟩
    rw [h4,h2,Ex.has]
    simp [h]
   ·rw [if_neg h]
    refine ⟨h1,fun x=>?_⟩
    rw [h2,Ex.has]
    simp [h]
theorem rU:∀ (l:List Ex) (a:List Int),a.Pairwise (·<·)→(dH a l).Pairwise (·<·)∧∀ x,x∈dH a l↔x∈a∨eW l x
 | [],a,h=>by rw [dH]; exact ⟨h,by simp [eW]⟩
 | e::es,a,h=>by
   obtain ⟨h1,h2⟩:=sE e
   obtain ⟨h3,h4⟩:=DL e.rcols a h
   obtain ⟨h5,h6⟩:=rU es _ h3
   rw [dH]
   refine ⟨h5,fun x=>?_⟩
   rw [h6,h4,h2,eW]
   exact or_assoc
end
theorem GH (e:Ex):e.rcols=e.cols:=DK _ _ (sE e).1 (JN e) fun x=>by rw [(sE e).2,lE]
theorem aAC (S:List Tb) (hl:S.length≤1000) (hS:∀ x∈S,x.ok) {i k:Nat} {u:Tb} {f:Fk} (hi:i<S.length) (hu:S[i]=u) (hk:k<u.fk.length) (hf:u.fk[k]=f) :
  Cf En 122 [aR S,.d (.int .i64 i),.d (.int .i64 k)] [] (place (fun x:Tb=>x.n==f.t) S) []:=by
 refine aD aW (fn:=Tryz.f122) (by kernel_rfl) rfl (by kernel_rfl) (by decide) (by simp) ?_
 have h1:¬ (i:Int)<0:=by omega
 have h2:¬ (k:Int)<0:=by omega
 have h3:¬ (S.length:Int)≤i:=by omega
 have h4:¬ (u.fk.length:Int)≤k:=by omega
 have hgi:∀ h,S[i]'h=u:=fun _=>hu
 have hgf:∀ h,u.fk[k]'h=f:=fun _=>hf
 have hgf2:u.fk[k]?=some f:=by rw [List.getElem?_eq_getElem hk,hf]
 simp [aR,h1,h2,h3,h4,hi,hgi,Tb.c]
 (repeat' first|contradiction|exact .ok|apply And.intro|intro _|(apply gc<;>simp+contextual[h1,h2,h3,h4,hi,hgi,Tb.c,hk,hgf,hgf2,Fk.c]))
 simp [hgf2,Fk.c]
 (repeat' first|contradiction|exact .ok|apply And.intro|intro _|(apply gc<;>simp+contextual))
 refine aA (wA S hl f.t) (by simp [aR]) ?_
 unfold place
 simp
 all_goals exact gz
theorem aCy (a b:List V) (ha:a.length≤1000) (hb:b.length≤1000):Cf En 178 [.d (.sl (a.map V.c)),.d (.sl (b.map V.c))] [] (.d (.sl ((a++b).map V.c))) []:=by
 have h1:=eI a.length (by omega) 32 (by decide)
 have h2:=eI b.length (by omega) 32 (by decide)
 have h3:=eI (a.length+b.length) (by omega) 32 (by decide)
 have hvl:∀ v:V,(V.c v).length=3:=fun _=>rfl
 have ht:((a++b).map V.c).take (a.length+b.length)=(a++b).map V.c:=List.take_of_length_le (by simp)
 refine aD aW (fn:=Tryz.f178) (by kernel_rfl) rfl (by kernel_rfl) (by decide) (by simp) ?_
 simp [h1,h2,h3,hvl]
 (repeat' first|contradiction|exact .ok|apply And.intro|intro _|(apply gc<;>simp+contextual))
 exact List.take_of_length_le (by simp)
end Go.Proofs.Tryz
