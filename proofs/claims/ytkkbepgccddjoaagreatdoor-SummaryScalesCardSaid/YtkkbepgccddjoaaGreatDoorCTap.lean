import Derived.Test.YtkkbepgccddjoaaGreatDoorCSmn
import Derived.Test.YtkkbepgccddjoaaGreatDoorAbB
import Derived.Test.YtkkbepgccddjoaaGreatDoorCShy
set_option linter.all false
namespace Go.Proofs.Tryz
open Go.Ab
set_option maxRecDepth 100000
set_option maxHeartbeats 4000000
@[simp] theorem aJS:lG Tryz.prog 221=some (.int .i64,some (.bool false)):=by kernel_rfl
theorem aHS:Cf En 214 [.d (.val (.map none))] [] (.d (.bool false)) []:=by
 refine cI aW (fn:=Tryz.f214) rfl ?_
 simp
 all_goals exact gz
theorem aHT (es:List (D×D)) (h:es.length≤1000):Cf En 214 [.mref 1000000] [.mp es] (.d (.bool (es.length==0))) [.mp es]:=by
 refine cI aW (fn:=Tryz.f214) rfl ?_
 have e:((es.length:Int)==0)=(es.length==0):=by rw [Bool.eq_iff_iff]; simp
 simp [e]
 all_goals exact gz
def qA (al:Nat→Bool) (o k:Nat):AV:=if al k=true then .mref (o+k) else .d (.val (.map none))
def mB (al:Nat→Bool) (es:Nat→List (D×D)) (o N:Nat):List Blk:=.varr 221 1 (aO (fun k=>[qA al o k]) N)::aO (fun k=>.mp (es k)) N
theorem aBE (al:Nat→Bool) (es:Nat→List (D×D)) (o N:Nat):(mB al es o N).length=N+1:=by simp [mB]
theorem aHU (al:Nat→Bool) (es:Nat→List (D×D)) (N:Nat) (hN:N≤1000) (hes:∀ k,k<N→(es k).length≤1000) :
  Cf En 213 [.ref 1000000 0 N 1,.clo 214 []] (mB al es 1000001 N) (.d (.int .i64 (aV (fun k=>al k&&(es k).length==0) (aO (fun k=>k) N) 0))) (mB al es 1000001 N):=by
 refine cI aW (fn:=Tryz.f213) rfl ?_
 have b0:cY (mB al es 1000001 N) 1000000=.varr 221 1 (aO (fun k=>[qA al 1000001 k]) N):=by simp [cY,mB]
 have b1:∀ k,k<N→cY (mB al es 1000001 N) (1000001+k)=.mp (es k):=fun k hk=>by
  unfold cY mB
  rw [if_pos (by rw [aM]; omega),show 1000001+k - aC=k+1 from by rw [aM]; omega,List.getElem?_cons_succ,bE,if_pos hk]; rfl
 have hkeep:KeptOk (mB al es 1000001 N).length (cY (mB al es 1000001 N)) (tR (mB al es 1000001 N)):=by
  refine aFm rfl fun i b hb=>?_
  have hil:=(List.getElem?_eq_some_iff.1 hb).1
  rw [aBE] at hil
  cases i with
  | zero =>
    simp only [mB,List.getElem?_cons_zero,Option.some.injEq] at hb
    subst hb
    rw [show aC+0=1000000 from rfl,b0]
    refine ⟨.inl rfl,?_⟩
    simp only [jC,dB]
    congr 1
    refine bV fun k hk=>?_
    simp only [cS,qA]
    split
    ·simp only [dP,FQ,aBE,aM]
     rw [if_pos (by omega)]
    ·simp only [dP]
  | succ k =>
    simp only [mB,List.getElem?_cons_succ,bE] at hb
    split at hb <;> simp only [Option.some.injEq,reduceCtorEq] at hb
    subst hb
    rename_i hk
    rw [show aC+(k+1)=1000001+k from by rw [aM]; omega,b1 k hk]
    exact ⟨.inl rfl,rfl⟩
 simp
 (repeat' first|contradiction|exact .ok|apply And.intro|intro _|(apply gc<;>simp+contextual))
 refine aL aW (fun i:Nat=>{ s:=cE [(0,.ref 1000000 0 N 1),(1,.clo 214 []),(7,.d (.int .i64 N)),(8,.d (.int .i64 i))],b:=cY (mB al es 1000001 N) }) (fun i=>i≤N∧aV (fun k=>al k&&(es k).length==0) ((aO (fun k=>k) N).drop i) i=aV (fun k=>al k&&(es k).length==0) (aO (fun k=>k) N) 0) (fun i=>N - i) 0 (by simp) (wY rfl _ (by simp)) ?_
 rintro i ⟨hi,hf⟩
 by_cases hlt:i<N
 ·rw [dM (by simpa using hlt)] at hf
  have hgi:∀ h,(aO (fun k=>k) N)[i]'h=i:=fun h=>by
   have:=bE (fun k=>k) N i
   rw [gE h,if_pos hlt] at this
   exact Option.some.inj this
  rw [hgi] at hf
  have hw:=wI (n:=(i:Int)+1)
  have hr:(aO (fun k=>[qA al 1000001 k]) N)[i]?=some [qA al 1000001 i]:=by rw [bE,if_pos hlt]
  have hr2:∀ h,(aO (fun k=>[qA al 1000001 k]) N)[i]'h=[qA al 1000001 i]:=fun h=>by
   rw [gE h] at hr
   exact Option.some.inj hr
  cases ha:al i
  ·have hr3:∀ h,(aO (fun k=>[qA al 1000001 k]) N)[i]'h=[.d (.val (.map none))]:=fun h=>by rw [hr2,qA,ha]; rfl
   rw [ha] at hf
   simp [hlt,b0,hr3]
   (repeat' first|contradiction|exact .ok|apply And.intro|intro _|(apply gc<;>simp+contextual))
   refine aP aHS ?_
   simp
   (repeat' first|contradiction|exact .ok|apply And.intro|intro _|(apply gc<;>simp+contextual))
   refine ⟨i+1,⟨by omega,by simpa using hf⟩,?_,by simp; omega⟩
   exact wY rfl _ (by simp [hw])
  ·have hr3:∀ h,(aO (fun k=>[qA al 1000001 k]) N)[i]'h=[.mref (1000001+i)]:=fun h=>by rw [hr2,qA,ha]; rfl
   rw [ha] at hf
   have b1i:=b1 i hlt
   simp [hlt,b0,hr3]
   (repeat' first|contradiction|exact .ok|apply And.intro|intro _|(apply gc<;>simp+contextual))
   refine cV [1000001+i] (aHT (es i) (hes i hlt)) (by simp) (by simp) (by simp [b1i]) (by simp [b1i]) (by simp [fF]) ?_
   cases he:(es i).length==0
   ·rw [he] at hf
    simp [b1i]
    (repeat' first|contradiction|exact .ok|apply And.intro|intro _|(apply gc<;>simp+contextual))
    refine ⟨i+1,⟨by omega,by simpa using hf⟩,?_,by simp; omega⟩
    refine wY (LT b1i) _ (by simp [hw])
   ·rw [he] at hf
    simp [b1i]
    (repeat' first|contradiction|exact .ok|apply And.intro|intro _|(apply gc<;>simp+contextual))
    rw [lR,LT b1i]
    simp only [Bool.and_self,if_true] at hf
    simp [← hf]
    exact hkeep
 have hie:i=N:=by omega
 subst hie
 rw [List.drop_of_length_le (by simp),aV] at hf
 simp
 (repeat' first|contradiction|exact .ok|apply And.intro|intro _|(apply gc<;>simp+contextual))
 rw [lR]
 simp [← hf]
 exact hkeep
def kM (l:List Int):List (D×D):=l.map fun z=>(.int .i64 z,.bool true)
def xO (z:Int) (l:List Int):List Int:=if z∈l then l else l++[z]
@[simp] theorem aBx (l:List Int):(kM l).length=l.length:=by simp [kM]
@[simp] theorem aJH (l:List Int):(kM l).all (fun e=>oE (.int .i64) e.1)=true:=by
  rw [List.all_eq_true]
  intro e he
  obtain ⟨z,_,rfl⟩:=List.mem_map.1 he
  rfl
theorem VI (a b:Int):wQ (.int .i64 a) (.int .i64 b)=(a==b):=by simp [wQ]
theorem aBy (z:Int):∀ l:List Int,tF (.int .i64 z) (.bool true) (kM l)=kM (xO z l)
 | []=>rfl
 | a::l=>by
   have ih:=aBy z l
   show tF _ _ ((.int .i64 a,.bool true)::kM l)=_
   rw [tF,VI]
   by_cases h:z=a
   ·subst h
    simp [xO,kM]
   ·rw [if_neg (by simpa using h),ih]
    unfold xO
    by_cases h2:z∈l
    ·rw [if_pos h2,if_pos (List.mem_cons_of_mem _ h2)]; rfl
    ·rw [if_neg h2,if_neg (by simp [h,h2])]; rfl
theorem aBz (z:Int):∀ l:List Int,tG (.int .i64 z) (kM l)=kM (l.erase z)
 | []=>rfl
 | a::l=>by
   have ih:=aBz z l
   show tG _ ((.int .i64 a,.bool true)::kM l)=_
   rw [tG,VI]
   by_cases h:z=a
   ·subst h
    simp
   ·rw [if_neg (by simpa using h),ih,List.erase_cons_tail (by simpa using fun e=>h e.symm)]
    rfl
theorem aBA {z x:Int} {l:List Int}:x∈xO z l↔x=z∨x∈l:=by
 unfold xO
 split
 ·rename_i h
  constructor
  ·exact fun h=>.inr h
  ·rintro (rfl | h2)
   ·exact h
   ·exact h2
 ·simp [or_comm]
theorem SQ {z:Int} {l:List Int} (h:l.Nodup):(xO z l).Nodup:=by
 unfold xO
 split
 ·exact h
 ·rename_i hz
  rw [List.nodup_append]
  refine ⟨h,by simp,fun a ha b hb e=>?_⟩
  simp at hb
  subst hb e
  exact hz ha
def tgt (S:List Tb) (f:Fk):Int:=aV (fun x:Tb=>x.n==f.t) S 0
def gA (S:List Tb):List Fk→List Int→List Int
 | [],l=>l
 | f::r,l=>gA S r (xO (tgt S f) l)
theorem GU {S:List Tb} {x:Int}:∀ {r:List Fk} {l:List Int},x∈gA S r l↔x∈l∨∃ f∈r,tgt S f=x
 | [],l=>by simp [gA]
 | f::r,l=>by
   rw [gA,GU,aBA]
   simp only [List.mem_cons,exists_eq_or_imp]
   constructor
   ·rintro ((rfl | h) | h)
    ·exact .inr (.inl rfl)
    ·exact .inl h
    ·exact .inr (.inr h)
   ·rintro (h | h | h)
    ·exact .inl (.inr h)
    ·exact .inl (.inl h.symm)
    ·exact .inr h
theorem yY {S:List Tb}:∀ {r:List Fk} {l:List Int},l.Nodup→(gA S r l).Nodup
 | [],_,h=>h
 | f::r,l,h=>by rw [gA]; exact yY (SQ h)
def yZ:AV:=.d (.val (.map none))
def bfC (i k:Nat):List AV:=if k<i then [.mref (2000+k)] else [yZ]
def kX (S:List Tb) (k:Nat):List Int:=match S[k]? with | some x=>gA S x.fk [] | none=>[]
def SS (S:List Tb) (N i:Nat):Nat→Blk:=cC ([(1,1,.var [.d (.sl (S.map Tb.c))]),(900,900,.varr 221 1 (aO (bfC i) N))]++kS 2000 (fun k=>.mp (kM (kX S k))) i)
def KC (i k:Nat):List AV:=if k<i then [.mref (2000+k)] else if k=i then [.mref 902] else [yZ]
def uE (S:List Tb) (N i:Nat) (es:List Int):Nat→Blk:=cC ([(1,1,.var [.d (.sl (S.map Tb.c))]),(900,900,.varr 221 1 (aO (KC i) N)),(902,902,.mp (kM es))]++kS 2000 (fun k=>.mp (kM (kX S k))) i)
theorem aJc (S:List Tb) (N i:Nat):SS S N i 1=.var [.d (.sl (S.map Tb.c))]:=by
 unfold SS; rw [eB]; simp
theorem aGp (S:List Tb) (N i:Nat):SS S N i 900=.varr 221 1 (aO (bfC i) N):=by
 unfold SS; rw [eB]; simp
theorem aHV (S:List Tb) (N i n:Nat) (h:n<900) (h1:n ≠ 1):SS S N i n=.free:=by
 unfold SS
 rw [eB,if_neg (by omega)]
 have:n ≠ 900:=by omega
 simp [h1,this]
def l2 (S:List Tb) (N i m:Nat) (es:List Int):iY:=[(1,1,.var [.d (.sl (S.map Tb.c))]),(900,900,.varr 221 1 (aO (KC i) N)),(902,m,.mp (kM es))]
theorem aFr {b:Nat→Blk} {S:List Tb} {N i:Nat} {es:List Int} (m:Nat) (hm:m<2000) (hm1:m ≠ 1∧m ≠ 900) (b1:b 1=.var [.d (.sl (S.map Tb.c))])
  (b900:b 900=.varr 221 1 (aO (fun k=>if k<i then [.mref (2000+k)] else if k=i then [.mref m] else [yZ]) N)) (bm:b m=.mp (kM es))
  (bf:∀ k,k<i→b (2000+k)=.mp (kM (kX S k))):KeptOk 0 b (l2 S N i m es++kS 2000 (fun k=>.mp (kM (kX S k))) i):=by
 have hr:∀ n,aB (l2 S N i m es++kS 2000 (fun k=>.mp (kM (kX S k))) i) n=(aB (l2 S N i m es) n).or (if 2000≤n∧n<2000+i then some n else none):=wW _ _ _ _
 obtain ⟨hm2,hm3⟩:=hm1
 refine BC (by simp [l2]) (by simp [l2,Ne.symm hm2,Ne.symm hm3]) ?_ ?_ ?_ (by simp)
 ·intro p hp
  simp only [l2,List.mem_cons,List.not_mem_nil,or_false] at hp
  rcases hp with rfl | rfl | rfl <;> constructor <;> simp <;> omega
 ·intro p hp
  simp only [l2,List.mem_cons,List.not_mem_nil,or_false] at hp
  rcases hp with rfl | rfl | rfl
  ·simp [b1,Blk.live]
  ·simp only [b900]
   refine ⟨.inl rfl,?_⟩
   simp only [jC,dB]
   congr 1
   refine bV fun k hk=>?_
   unfold KC
   by_cases h1:k<i
   ·simp only [h1,if_true,cS,dP,hr]
    have e1:2000+k ≠ 1:=by omega
    have e2:2000+k ≠ 900:=by omega
    have e3:2000+k ≠ m:=by omega
    simp [l2,aB,e1,e2,e3,h1]
   ·by_cases h2:k=i
    ·subst h2
     simp [cS,dP,l2,aB,hm2,hm3]
    ·simp [h1,h2,cS,dP,yZ]
  ·simp [bm,Blk.live]
 ·intro k hk
  rw [bf k hk]
  exact ⟨.inl rfl,rfl⟩
theorem aBG (S:List Tb) (N i m:Nat) (es:List Int):uE S N i es=cC (l2 S N i m es++kS 2000 (fun k=>.mp (kM (kX S k))) i):=by
 unfold uE cC l2
 simp only [List.map_append,List.map_cons,List.map_nil]
theorem aHW (S:List Tb) (N i k:Nat) (h:k<i):SS S N i (2000+k)=.mp (kM (kX S k)):=by
 unfold SS
 rw [eB,if_pos (by omega),Nat.add_sub_cancel_left]
def l3 (S:List Tb) (N i:Nat):iY:=[(1,1,.var [.d (.sl (S.map Tb.c))]),(900,900,.varr 221 1 (aO (bfC (i+1)) N)),(2000+i,902,.mp (kM (kX S i)))]
theorem aGq (S:List Tb) (N i:Nat):SS S N (i+1)=cC (l3 S N i++kS 2000 (fun k=>.mp (kM (kX S k))) i):=by
 funext n
 unfold SS
 rw [eB,eB]
 by_cases h:2000≤n∧n<2000+i
 ·rw [if_pos h,if_pos (by omega)]
 ·rw [if_neg h]
  by_cases h2:n=2000+i
  ·subst h2
   rw [if_pos (by omega),Nat.add_sub_cancel_left]
   simp [l3]
  ·rw [if_neg (by omega)]
   simp [l3,h2]
theorem aHX {b:Nat→Blk} {S:List Tb} {N i:Nat} (b1:b 1=.var [.d (.sl (S.map Tb.c))])
  (b900:b 900=.varr 221 1 (aO (KC i) N)) (bm:b 902=.mp (kM (kX S i)))
  (bf:∀ k,k<i→b (2000+k)=.mp (kM (kX S k))):KeptOk 0 b (l3 S N i++kS 2000 (fun k=>.mp (kM (kX S k))) i):=by
 have hr:∀ n,aB (l3 S N i++kS 2000 (fun k=>.mp (kM (kX S k))) i) n=(aB (l3 S N i) n).or (if 2000≤n∧n<2000+i then some n else none):=wW _ _ _ _
 have n1:2000+i ≠ 1:=by omega
 have n2:2000+i ≠ 900:=by omega
 refine BC (by simp [l3]; omega) (by simp [l3]) ?_ ?_ ?_ (by simp)
 ·intro p hp
  simp only [l3,List.mem_cons,List.not_mem_nil,or_false] at hp
  rcases hp with rfl | rfl | rfl <;> constructor <;> simp <;> omega
 ·intro p hp
  simp only [l3,List.mem_cons,List.not_mem_nil,or_false] at hp
  rcases hp with rfl | rfl | rfl
  ·simp [b1,Blk.live]
  ·simp only [b900]
   refine ⟨.inl rfl,?_⟩
   simp only [jC,dB]
   congr 1
   refine bV fun k hk=>?_
   unfold KC bfC
   by_cases h1:k<i
   ·have e4:k<i+1:=by omega
    simp only [h1,e4,if_true,cS,dP,hr]
    have e1:2000+k ≠ 1:=by omega
    have e2:2000+k ≠ 900:=by omega
    have e3:2000+k ≠ 902:=by omega
    simp [l3,aB,e1,e2,e3,h1]
   ·by_cases h2:k=i
    ·subst h2
     simp [cS,dP,l3,aB]
    ·have e4:¬ k<i+1:=by omega
     simp [h1,h2,e4,cS,dP,yZ]
  ·simp [bm,Blk.live]
 ·intro k hk
  rw [bf k hk]
  exact ⟨.inl rfl,rfl⟩
theorem aEg (S:List Tb) (i:Nat):SS S i i 901=.free:=by
 unfold SS
 rw [eB,if_neg (by omega)]
 simp
theorem aJd (N:Nat):aO (bfC 0) N=List.replicate N [yZ]:=by
 rw [lY]
 exact bV fun k _=>by simp [bfC]
theorem rV {α:Type} {p:α→Bool}:∀ {l:List α} {i:Nat},¬ 0≤aV p l i→aV p l i=-1
 | [],_,_=>rfl
 | x::l,i,h=>by
   rw [aV] at h ⊢
   split at h
   ·exact absurd (Int.natCast_nonneg i) h
   ·rename_i hx
    rw [if_neg hx]
    exact rV h
def nN (S:List Tb):Bool:=S.any fun x=>x.fk.any fun f=>decide (tgt S f<0)
theorem xQ (z:Int):oE (.int .i64) (.int .i64 z)=true:=rfl
theorem DH (S:List Tb) (f:Fk):∀ (r:List Fk) (l:List Int),gA S (r++[f]) l=xO (tgt S f) (gA S r l)
 | [],_=>rfl
 | g::r,l=>by rw [List.cons_append,gA,DH S f r,gA]
def mL (N:Nat) (al:Nat→Bool) (es:Nat→List Int):Int:=aV (fun k=>al k&&(es k).length==0) (aO (fun k=>k) N) 0
def zZ (al:Nat→Bool) (z:Int) (k:Nat):Bool:=al k&&(k:Int) != z
def esO (al:Nat→Bool) (es:Nat→List Int) (z:Int) (k:Nat):List Int:=if zZ al z k=true then (es k).erase z else es k
def wD (N:Nat):Nat→(Nat→Bool)→(Nat→List Int)→List Int→List Int×Int
 | 0,_,_,out=>(out,0)
 | n+1,al,es,out=>if mL N al es<0 then ([],7) else wD N n (zZ al (mL N al es)) (esO al es (mL N al es)) (out++[mL N al es])
def gB (S:List Tb):List Int×Int:=if nN S=true then ([],11) else wD S.length S.length (fun _=>true) (kX S) []
def KD (N:Nat) (al:Nat→Bool) (es:Nat→List Int) (out:List Int):Nat→Blk :=
 cC ([(900,900,.varr 221 1 (aO (fun k=>[qA al 2000 k]) N)),(901,901,.arr 3 1 (aD out) false)]++kS 2000 (fun k=>.mp (kM (es k))) N)
theorem aBH (N:Nat) (al:Nat→Bool) (es:Nat→List Int) (out:List Int):KD N al es out 900=.varr 221 1 (aO (fun k=>[qA al 2000 k]) N):=by
 unfold KD; rw [eB]; simp
theorem aBI (N:Nat) (al:Nat→Bool) (es:Nat→List Int) (out:List Int):KD N al es out 901=.arr 3 1 (aD out) false:=by
 unfold KD; rw [eB]; simp
theorem aHY (N:Nat) (al:Nat→Bool) (es:Nat→List Int) (out:List Int) (k:Nat) (h:k<N):KD N al es out (2000+k)=.mp (kM (es k)):=by
 unfold KD
 rw [eB,if_pos (by omega),Nat.add_sub_cancel_left]
theorem aHZ (N:Nat) (al:Nat→Bool) (es:Nat→List Int) (out:List Int) (n:Nat) (h:n<900):KD N al es out n=.free:=by
 unfold KD
 rw [eB,if_neg (by omega)]
 have h1:n ≠ 900:=by omega
 have h2:n ≠ 901:=by omega
 simp [h1,h2]
def l4 (N m:Nat) (al:Nat→Bool) (out:List Int):iY:=[(900,900,.varr 221 1 (aO (fun k=>[qA al 2000 k]) N)),(901,m,.arr 3 1 (aD out) false)]
theorem aBJ (N m:Nat) (al:Nat→Bool) (es:Nat→List Int) (out:List Int):KD N al es out=cC (l4 N m al out++kS 2000 (fun k=>.mp (kM (es k))) N):=by
 unfold KD cC l4
 simp only [List.map_append,List.map_cons,List.map_nil]
theorem UG {b:Nat→Blk} {N:Nat} {al:Nat→Bool} {es:Nat→List Int} {out:List Int} (m:Nat) (hm:m<2000) (hm1:m ≠ 900)
  (b900:b 900=.varr 221 1 (aO (fun k=>[qA al 2000 k]) N)) (bm:b m=.arr 3 1 (aD out) false)
  (bf:∀ k,k<N→b (2000+k)=.mp (kM (es k))):KeptOk 0 b (l4 N m al out++kS 2000 (fun k=>.mp (kM (es k))) N):=by
 have hr:∀ n,aB (l4 N m al out++kS 2000 (fun k=>.mp (kM (es k))) N) n=(aB (l4 N m al out) n).or (if 2000≤n∧n<2000+N then some n else none):=wW _ _ _ _
 refine BC (by simp [l4]) (by simp [l4,Ne.symm hm1]) ?_ ?_ ?_ (by simp)
 ·intro p hp
  simp only [l4,List.mem_cons,List.not_mem_nil,or_false] at hp
  rcases hp with rfl | rfl <;> constructor <;> simp <;> omega
 ·intro p hp
  simp only [l4,List.mem_cons,List.not_mem_nil,or_false] at hp
  rcases hp with rfl | rfl
  ·simp only [b900]
   refine ⟨.inl rfl,?_⟩
   simp only [jC,dB]
   congr 1
   refine bV fun k hk=>?_
   unfold qA
   split
   ·have e2:2000+k ≠ 900:=by omega
    have e3:2000+k ≠ m:=by omega
    simp only [cS,dP,hr]
    simp [l4,aB,e2,e3,hk]
   ·simp [cS,dP]
  ·simp [bm,Blk.live]
 ·intro k hk
  rw [bf k hk]
  exact ⟨.inl rfl,rfl⟩
theorem aBK (z:Int) (l:List Int):(xO z l).length≤l.length+1:=by
 unfold xO; split <;> simp
theorem GW (S:List Tb):∀ (r:List Fk) (l:List Int),(gA S r l).length≤l.length+r.length
 | [],_=>Nat.le_refl _
 | f::r,l=>by
   rw [gA,List.length_cons]
   have h1:=GW S r (xO (tgt S f) l)
   have h2:=aBK (tgt S f) l
   omega
theorem aBL (S:List Tb) (hS:∀ x∈S,x.ok) (k:Nat) (h:k<S.length):(kX S k).length≤1000:=by
 unfold kX
 rw [gE h]
 have h1:=GW S S[k].fk []
 have h2:=(hS S[k] (List.getElem_mem h)).fk
 simp at h1 ⊢
 omega
theorem mk8 (n:Nat) (h:n≤1000):(n:Int)≤9223372036854775807∧8*(n:Int)≤281474976710656:=by omega
theorem aBM {al:Nat→Bool} {o k:Nat} {r:Nat→Option Nat} {b:Nat→Blk} {kn:Bool} {o':Nat} (h:r (o+k)=some (o'+k)):dP r b kn (qA al o k)=(qA al o' k,[]):=by
 unfold qA
 split
 ·simp only [dP,h]
 ·simp only [dP]
theorem VO {al:Nat→Bool} {o o' N:Nat} {r:Nat→Option Nat} {b:Nat→Blk} {kn:Bool} (h:∀ k,k<N→r (o+k)=some (o'+k)) :
  jC r b kn (.varr 221 1 (aO (fun k=>[qA al o k]) N))=(.varr 221 1 (aO (fun k=>[qA al o' k]) N),[]):=by
 have h1:∀ x∈aO (fun k=>[qA al o k]) N,(cS r b kn x).2=[]:=fun x hx=>by
  obtain ⟨j,hj,rfl⟩:=fE.1 hx
  simp [cS,aBM (h j hj)]
 rw [jC]
 refine Prod.ext ?_ ?_
 ·simp only [dB]
  congr 1
  exact bV fun k hk=>by simp [cS,aBM (h k hk)]
 ·simp only [List.flatMap_eq_nil_iff]
  exact h1
theorem aGs {N:Nat} {al:Nat→Bool} {es:Nat→List Int} (hN:N≤1000) (hes:∀ k,k<N→(es k).length≤1000) {st:St}
  (b900:st.b 900=.varr 221 1 (aO (fun k=>[qA al 2000 k]) N)) (bm:∀ k,k<N→st.b (2000+k)=.mp (kM (es k)))
  {dst:Option Tmp} {K:St→List Nat→List Nat→Prop} {t:qL K} (hK:∀ tl wn,K { s:=rN st.s dst (.d (.int .i64 (mL N al es))),b:=st.b } tl wn) :
  iE En 213 [.ref 900 0 N 1,.clo 214 []] dst st K t:=by
 have hm:=aHU al (fun k=>kM (es k)) N hN (fun k hk=>by rw [aBx]; exact hes k hk)
 have hf:∀ k,k<N→iX (900::aO (fun k=>2000+k) N) (2000+k)=some (1000001+k):=fun k hk=>by
  rw [LS (by omega),if_neg (by omega),if_pos (by omega),Nat.add_sub_cancel_left]
 have hb9:∀ kn,jC (iX (900::aO (fun k=>2000+k) N)) st.b kn (st.b 900)=(.varr 221 1 (aO (fun k=>[qA al 1000001 k]) N),[]):=fun kn=>by
  rw [b900]; exact VO hf
 have hbm:∀ kn k,k<N→jC (iX (900::aO (fun k=>2000+k) N)) st.b kn (st.b (2000+k))=(.mp (kM (es k)),[]):=fun kn k hk=>by
  rw [bm k hk]; rfl
 have ha:eU (900::aO (fun k=>2000+k) N) st.b [.ref 900 0 N 1,.clo 214 []]=([.ref 1000000 0 N 1,.clo 214 []],[]):=by
  have h9:iX (900::aO (fun k=>2000+k) N) 900=some 1000000:=by rw [LS (by omega),if_pos rfl]
  simp [eU,cS,dP,h9]
 refine LR (900::aO (fun k=>2000+k) N) hm (wX (by omega)) ?_ ?_ ?_ ?_ ?_ ?_
 ·intro n hn
  rcases List.mem_cons.1 hn with rfl | hn
  ·rw [b900]; rfl
  ·obtain ⟨k,hk,rfl⟩:=fE.1 hn
   rw [bm k hk]; rfl
 ·unfold bZ mB
  rw [List.map_cons,List.map_cons,hb9,dB,dB]
  congr 1
  exact bV fun k hk=>by rw [hbm true k hk]
 ·rw [ha]
 ·unfold bC
  rw [ha]
  simp only [List.nil_append,List.flatMap_eq_nil_iff]
  unfold bZ
  intro x hx
  obtain ⟨n,hn,rfl⟩:=List.mem_map.1 hx
  rcases List.mem_cons.1 hn with rfl | hn
  ·rw [hb9]
  ·obtain ⟨k,hk,rfl⟩:=fE.1 hn
   rw [hbm true k hk]
 ·intro n hn
  rcases List.mem_cons.1 hn with rfl | hn
  ·rw [hb9,b900]
   exact congrArg Prod.fst (VO (o:=1000001) (o':=2000) fun k hk=>XN 900 2000 N k hk)
  ·obtain ⟨k,hk,rfl⟩:=fE.1 hn
   rw [hbm true k hk,bm k hk]; rfl
 ·intro tl wn
  have:eV (900::aO (fun k=>2000+k) N) 0 (.d (.int .i64 (aV (fun k=>al k&&(kM (es k)).length==0) (aO (fun k=>k) N) 0)))=.d (.int .i64 (mL N al es)):=by
   simp only [aBx]
   rfl
  rw [this]
  exact hK tl wn
def OF (al:Nat→Bool) (es:Nat→List Int) (z:Int) (i k:Nat):List Int:=if k<i then esO al es z k else es k
theorem aBN (al:Nat→Bool) (es:Nat→List Int) (z:Int) (N:Nat) (out:List Int) (al':Nat→Bool):KD N al' (OF al es z N) out=KD N al' (esO al es z) out:=by
 unfold KD
 congr 2
 unfold kS
 exact bV fun k hk=>by simp [OF,hk]
theorem aBO (al:Nat→Bool) (es:Nat→List Int) (z:Int):OF al es z 0=es:=by
 funext k; simp [OF]
theorem aEh {al:Nat→Bool} {es:Nat→List Int} {z:Int} {j:Nat} (h:zZ al z j=false):OF al es z (j+1)=OF al es z j:=by
 funext k
 unfold OF
 by_cases hk:k<j
 ·rw [if_pos hk,if_pos (by omega)]
 ·rw [if_neg hk]
  by_cases hkj:k=j
  ·subst hkj
   rw [if_pos (by omega)]
   unfold esO
   rw [if_neg (by simp [h])]
  ·rw [if_neg (by omega)]
theorem aEi {N:Nat} {al al':Nat→Bool} {es:Nat→List Int} {z:Int} {out:List Int} {j:Nat} (hj:j<N) (h:zZ al z j=true) :
  bP (KD N al' (OF al es z j) out) (2000+j) (.mp (kM ((es j).erase z)))=KD N al' (OF al es z (j+1)) out:=by
 funext n
 unfold bP
 by_cases hn:n=2000+j
 ·subst hn
  rw [if_pos rfl,KD,eB,if_pos (by omega),Nat.add_sub_cancel_left]
  unfold OF esO
  rw [if_pos (by omega),if_pos h]
 ·rw [if_neg hn]
  unfold KD
  rw [eB,eB]
  by_cases hf:2000≤n∧n<2000+N
  ·rw [if_pos hf,if_pos hf]
   unfold OF
   by_cases hk:n - 2000<j
   ·rw [if_pos hk,if_pos (by omega)]
   ·rw [if_neg hk,if_neg (by omega)]
  ·rw [if_neg hf,if_neg hf]
theorem qB {α:Type} {p:α→Bool}:∀ {l:List α} {i:Nat},aV p l i<(i:Int)+l.length
 | [],i=>by rw [aV]; simp; omega
 | x::l,i=>by
   rw [aV,List.length_cons]
   split
   ·omega
   ·have:=qB (p:=p) (l:=l) (i:=i+1)
    push_cast at this ⊢
    omega
theorem aBP (N:Nat) (al:Nat→Bool) (es:Nat→List Int):mL N al es<N:=by
 have:=qB (p:=fun k=>al k&&(es k).length==0) (l:=aO (fun k=>k) N) (i:=0)
 unfold mL
 simpa using this
theorem ST (N n:Nat) (al:Nat→Bool) (es:Nat→List Int) (out:List Int):wD N (n+1) al es out=if mL N al es<0 then ([],7) else wD N n (zZ al (mL N al es)) (esO al es (mL N al es)) (out++[mL N al es]):=rfl
theorem aEj {al:Nat→Bool} {es:Nat→List Int} {z:Int} {k:Nat} (h:(es k).length≤1000):(esO al es z k).length≤1000:=by
 unfold esO
 split
 ·exact Nat.le_trans (List.length_erase_le) h
 ·exact h
theorem aEk (S:List Tb) (hl:S.length≤1000) (hS:∀ x∈S,x.ok):Cf En 160 [aN S] [] (.tup [.d (.sl (aD (gB S).1)),.d (.int .i64 (gB S).2)]) []:=by
 refine cI aW (fn:=Tryz.f160) rfl ?_
 simp [aN]
 (repeat' first|contradiction|exact .ok|apply And.intro|intro _|(apply gc<;>simp+contextual))
 simp [mk8 S.length hl]
 (repeat' first|contradiction|exact .ok|apply And.intro|intro _|(apply gc<;>simp+contextual))
 refine aL aW (fun i:Nat=>{ s:=cE [(1,.ptr 1 0 0),(4,.ref 900 0 S.length 1),(20,.d (.sl (S.map Tb.c))),(21,.d (.int .i64 S.length)),(22,.d (.int .i64 i))],b:=SS S S.length i }) (fun i=>i≤S.length∧∀ x∈S.take i,∀ f∈x.fk,0≤tgt S f) (fun i=>S.length - i) 0 (by simp) ?_ ?_
 ·refine (aAC 18 (by simp [bP]; exact ⟨rfl,rfl,rfl⟩)).trans ?_
  refine sM _ [(1,1,_),(900,18,_)] (?_) (by simp [aB])
  rw [aJd]
  simp [aB,Blk.live,yZ]
 ·rintro i ⟨hi,hall⟩
  have a1:=aJc S S.length i
  have a2:=aGp S S.length i
  have a3:∀ n,n<900→n ≠ 1→SS S S.length i n=.free:=aHV S S.length i
  by_cases hlt:i<S.length
  ·obtain ⟨u,hu⟩:∃ u,u=S[i]:=⟨_,rfl⟩
   have hgi:∀ h,S[i]'h=u:=fun _=>hu.symm
   have hw:=wI (n:=(i:Int)+1)
   have f6:=a3 6 (by omega) (by omega)
   have f29:=a3 29 (by omega) (by omega)
   have f8:=a3 8 (by omega) (by omega)
   simp [hlt,hgi,a1,f6,Tb.c]
   (repeat' first|contradiction|exact .ok|apply And.intro|intro _|(apply gc<;>simp+contextual))
   have hbc:∀ h,(aO (bfC i) S.length)[i]'h=[yZ]:=fun h=>by
    have:=bE (bfC i) S.length i
    rw [gE h,if_pos hlt] at this
    rw [Option.some.inj this]; simp [bfC]
   simp [f29,hlt,a2,hbc]
   (repeat' first|contradiction|exact .ok|apply And.intro|intro _|(apply gc<;>simp+contextual))
   have hok:=hS u (by rw [hu]; exact List.getElem_mem hlt)
   have hfk:=hok.fk
   refine aL aW (fun j:Nat=>{ s:=cE [(1,.ptr 1 0 0),(4,.ref 900 0 S.length 1),(5,.d (.int .i64 i)),(20,.d (.sl (S.map Tb.c))),(21,.d (.int .i64 S.length)),(22,.d (.int .i64 i)),(32,.d (.sl (u.fk.map Fk.c))),(33,.d (.int .i64 u.fk.length)),(34,.d (.int .i64 j))],b:=uE S S.length i (gA S (u.fk.take j) []) })
    (fun j=>j≤u.fk.length∧∀ f∈u.fk.take j,0≤tgt S f) (fun j=>u.fk.length - j) 0 (by simp) ?_ ?_
   ·rw [aBG S S.length i 29]
    refine aI _ _ (aFr 29 (by omega) (by omega) ?_ ?_ ?_ ?_) (by simp [l2,aB])
    ·simp [a1]
    ·simp [kR,bfC]
     exact bV fun k _=>by
      by_cases h1:k<i
      ·have h2:k ≠ i:=by omega
       simp [h1,h2]
      ·simp [h1]
    ·simp [gA,kM]
    ·intro k hk
     have e1:2000+k ≠ 6:=by omega
     have e2:2000+k ≠ 29:=by omega
     have e3:2000+k ≠ 900:=by omega
     simp [aHW S S.length i k hk,e1,e2,e3]
   ·rintro j ⟨hj,ha⟩
    have d1:uE S S.length i (gA S (u.fk.take j) []) 1=.var [.d (.sl (S.map Tb.c))]:=by unfold uE; rw [eB]; simp
    have d2:uE S S.length i (gA S (u.fk.take j) []) 900=.varr 221 1 (aO (KC i) S.length):=by unfold uE; rw [eB]; simp
    have d3:uE S S.length i (gA S (u.fk.take j) []) 902=.mp (kM (gA S (u.fk.take j) [])):=by unfold uE; rw [eB]; simp
    have d4:uE S S.length i (gA S (u.fk.take j) []) 8=.free:=by unfold uE; rw [eB]; simp
    have hb2:∀ h,(aO (KC i) S.length)[i]'h=[.mref 902]:=fun h=>by
     have:=bE (KC i) S.length i
     rw [gE h,if_pos hlt] at this
     rw [Option.some.inj this]; simp [KC]
    by_cases hjl:j<u.fk.length
    ·obtain ⟨f,hf⟩:∃ f,f=u.fk[j]:=⟨_,rfl⟩
     have hgf:∀ h,u.fk[j]'h=f:=fun _=>hf.symm
     have hwj:=wI (n:=(j:Int)+1)
     simp [hjl,hgf,d4,Fk.c]
     (repeat' first|contradiction|exact .ok|apply And.intro|intro _|(apply gc<;>simp+contextual))
     simp [d1]
     (repeat' first|contradiction|exact .ok|apply And.intro|intro _|(apply gc<;>simp+contextual))
     refine aA (xT S hl f.t) (by simp [aN]) ?_
     by_cases hz:0≤tgt S f
     ·obtain ⟨k,hk⟩:∃ k:Nat,tgt S f=k:=⟨(tgt S f).toNat,by omega⟩
      rw [cN (show aV (fun x:Tb=>x.n==f.t) S 0=k from hk)]
      simp
      (repeat' first|contradiction|exact .ok|apply And.intro|intro _|(apply gc<;>simp+contextual))
      simp [hlt,d2,hb2,d3,xQ,aBy]
      (repeat' first|contradiction|exact .ok|apply And.intro|intro _|(apply gc<;>simp+contextual))
      have htk:u.fk.take (j+1)=u.fk.take j++[f]:=by rw [List.take_add_one,gE hjl,hf]; rfl
      refine ⟨j+1,⟨by omega,fun g hg=>?_⟩,?_,by simp; omega⟩
      ·rw [htk] at hg
       rcases List.mem_append.1 hg with hg | hg
       ·exact ha g hg
       ·simp at hg; subst hg; exact hz
      ·simp only [htk,DH,hk]
       rw [aBG S S.length i 902 (xO k (gA S (u.fk.take j) []))]
       refine aI _ _ (aFr 902 (by omega) (by omega) ?_ ?_ ?_ ?_) (by simp [l2,aB,hwj])
       ·simp [d1]
       ·simp only [bP]
        simp [d2]
        rfl
       ·simp
       ·intro q hq
        have e1:2000+q ≠ 8:=by omega
        have e3:2000+q ≠ 902:=by omega
        have:uE S S.length i (gA S (u.fk.take j) []) (2000+q)=.mp (kM (kX S q)):=by
         unfold uE
         rw [eB,if_pos (by omega),Nat.add_sub_cancel_left]
        simp [this,e1,e3]
     ·have hm:gB S=([],11):=by
       unfold gB
       rw [if_pos]
       unfold nN
       rw [List.any_eq_true]
       refine ⟨u,by rw [hu]; exact List.getElem_mem hlt,?_⟩
       rw [List.any_eq_true]
       exact ⟨f,by rw [hf]; exact List.getElem_mem hjl,by simp; omega⟩
      rw [oS (rV hz),hm]
      simp
      (repeat' first|contradiction|exact .ok|apply And.intro|intro _|(apply gc<;>simp+contextual))
      rfl
    ·have hje:j=u.fk.length:=by omega
     subst hje
     have hko:kX S i=gA S u.fk []:=by
      unfold kX
      rw [gE hlt,← hu]
     rw [List.take_length] at d1 d2 d3 ⊢
     simp
     (repeat' first|contradiction|exact .ok|apply And.intro|intro _|(apply gc<;>simp+contextual))
     refine ⟨i+1,⟨by omega,fun x hx=>?_⟩,?_,by simp; omega⟩
     ·rw [List.take_add_one,gE hlt,← hu] at hx
      rcases List.mem_append.1 hx with hx | hx
      ·exact hall x hx
      ·simp at hx
       subst hx
       rw [List.take_length] at ha
       exact ha
     simp only [aGq]
     refine aI _ _ (aHX ?_ ?_ ?_ ?_) (by simp [l3,aB,hw])
     ·simp [d1]
     ·simp [d2]
     ·simp [d3,hko]
     ·intro q hq
      show uE S S.length i (gA S u.fk []) (2000+q)=_
      unfold uE
      rw [eB,if_pos (by omega),Nat.add_sub_cancel_left]
  ·have hie:i=S.length:=by omega
   subst hie
   have f900:∀ n,n<900→n ≠ 1→SS S S.length S.length n=.free:=aHV S S.length S.length
   have hms:nN S=false:=by
    rw [List.take_length] at hall
    unfold nN
    rw [List.any_eq_false]
    intro x hx
    rw [List.any_eq_true]
    rintro ⟨f,hf,h0⟩
    have:=hall x hx f hf
    simp at h0
    omega
   have hor:wD S.length (S.length - 0) (fun _=>true) (kX S) []=gB S:=by
    unfold gB
    rw [hms]; rfl
   simp [a1]
   (repeat' first|contradiction|exact .ok|apply And.intro|intro _|(apply gc<;>simp+contextual))
   refine aL aW (fun x:Nat×(Nat→Bool)×(Nat→List Int)×List Int=>{ s:=cE [(4,.ref 900 0 S.length 1),(11,.ref 901 0 x.1 1),(56,.d (.int .i64 S.length)),(57,.d (.int .i64 x.1))],b:=KD S.length x.2.1 x.2.2.1 x.2.2.2 })
    (fun x=>x.1≤S.length∧x.2.2.2.length=x.1∧wD S.length (S.length - x.1) x.2.1 x.2.2.1 x.2.2.2=gB S∧∀ k,k<S.length→(x.2.2.1 k).length≤1000) (fun x=>S.length - x.1) (0,fun _=>true,kX S,[]) ?_ ?_ ?_
   ·exact ⟨by simp,by simp,hor,fun k hk=>aBL S hS k hk⟩
   ·refine (pL (i:=11) (m:=901) (ety:=3) (sz:=1) (by simp) ?_ (by decide) (by decide)).trans ?_
    ·simp; exact aEg S S.length
    ·simp only [aBJ S.length 901 (fun _=>true) (kX S) []]
     refine aI _ _ (UG 901 (by omega) (by omega) ?_ ?_ ?_) (by simp [l4,aB])
     ·simp [a2]
      exact bV fun k hk=>by simp [bfC,qA,hk]
     ·simp [aD]
     ·intro k hk
      have e1:2000+k ≠ 901:=by omega
      simp [aHW S S.length S.length k hk,e1]
   ·rintro ⟨i,al,es,out⟩ ⟨hi,hlo,hL,hes⟩
    simp only at hi hlo hL hes ⊢
    have b9:=aBH S.length al es out
    have b91:=aBI S.length al es out
    have bm:=aHY S.length al es out
    by_cases hlt:i<S.length
    ·have hw:=wI (n:=(i:Int)+1)
     rw [show S.length - i=(S.length - (i+1))+1 from by omega,ST] at hL
     have hzl:=aBP S.length al es
     simp [hlt]
     (repeat' first|contradiction|exact .ok|apply And.intro|intro _|(apply gc<;>simp+contextual))
     refine aGs (al:=al) (es:=es) hl hes (by simp [b9]) (fun k hk=>by simp [bm k hk]) (fun tl wn=>?_)
     generalize mL S.length al es=z at *
     by_cases hz:z<0
     ·rw [if_pos hz] at hL
      rw [← hL]
      simp [hz]
      (repeat' first|contradiction|exact .ok|apply And.intro|intro _|(apply gc<;>simp+contextual[hz]))
      try rfl
     ·rw [if_neg hz] at hL
      obtain ⟨q,rfl⟩:∃ q:Nat,z=q:=⟨z.toNat,by omega⟩
      have hq:q<S.length:=by omega
      have hb2:out.length≤1000:=by omega
      have f65:=aHZ S.length al es out 65 (by omega)
      have f66:=aHZ S.length al es out 66 (by omega)
      have hz1:(aD out).take i=aD out:=List.take_of_length_le (by simp [hlo])
      simp [hz,b91,f65,f66,gF (i+1) (by omega) 8 (by decide),hlo]
      (repeat' first|contradiction|exact .ok|apply And.intro|intro _|(apply gc<;>simp+contextual))
      have hgq:∀ h,(aO (fun k=>[qA al 2000 k]) S.length)[q]'h=[qA al 2000 q]:=fun h=>by
       have:=bE (fun k=>[qA al 2000 k]) S.length q
       rw [gE h,if_pos hq] at this
       exact Option.some.inj this
      simp [b9,hq,hgq]
      (repeat' first|contradiction|exact .ok|apply And.intro|intro _|(apply gc<;>simp+contextual))
      have hset:(aO (fun k=>[qA al 2000 k]) S.length).set q [.d (.val (.map none))]=aO (fun k=>[qA (zZ al q) 2000 k]) S.length:=by
       rw [kR]
       refine bV fun k _=>?_
       by_cases hk:k=q
       ·subst hk
        simp [qA,zZ]
       ·have hk':¬ (k:Int)=q:=by omega
        simp [qA,zZ,hk,hk']
      have hio:aD (out++[(q:Int)])=aD out++[[.int .i64 q]]:=by simp [aD]
      refine aL aW (fun j:Nat=>{ s:=cE [(4,.ref 900 0 S.length 1),(11,.ref 901 0 (i+1) 1),(12,.d (.int .i64 q)),(56,.d (.int .i64 S.length)),(57,.d (.int .i64 i)),(70,.ref 900 0 S.length 1),(71,.d (.int .i64 S.length)),(72,.d (.int .i64 j))],b:=KD S.length (zZ al q) (OF al es q j) (out++[(q:Int)]) })
       (fun j=>j≤S.length) (fun j=>S.length - j) 0 (by simp) ?_ ?_
      ·rw [aBO,aBJ S.length 66 (zZ al q) es (out++[(q:Int)])]
       refine aI _ _ (UG 66 (by omega) (by omega) ?_ ?_ ?_) (by simp [l4,aB])
       ·simp [hset]
       ·simp [hio]
       ·intro k hk
        have e1:2000+k ≠ 901:=by omega
        have e2:2000+k ≠ 65:=by omega
        have e3:2000+k ≠ 66:=by omega
        have e4:2000+k ≠ 900:=by omega
        simp [bm k hk,e1,e2,e3,e4]
      ·intro j hj
       have c9:=aBH S.length (zZ al q) (OF al es q j) (out++[(q:Int)])
       have c91:=aBI S.length (zZ al q) (OF al es q j) (out++[(q:Int)])
       have cm:=aHY S.length (zZ al q) (OF al es q j) (out++[(q:Int)])
       by_cases hjl:j<S.length
       ·have hwj:=wI (n:=(j:Int)+1)
        have hgj:∀ h,(aO (fun k=>[qA (zZ al q) 2000 k]) S.length)[j]'h=[qA (zZ al q) 2000 j]:=fun h=>by
         have:=bE (fun k=>[qA (zZ al q) 2000 k]) S.length j
         rw [gE h,if_pos hjl] at this
         exact Option.some.inj this
        cases hal:zZ al q j
        ·have hgj2:∀ h,(aO (fun k=>[qA (zZ al q) 2000 k]) S.length)[j]'h=[.d (.val (.map none))]:=fun h=>by rw [hgj,qA,hal]; rfl
         simp [hjl,c9,hgj2,xQ]
         (repeat' first|contradiction|exact .ok|apply And.intro|intro _|(apply gc<;>simp+contextual))
         refine ⟨j+1,by omega,?_,by simp; omega⟩
         refine wY ?_ _ (by simp [hwj])
         simp only [aEh hal]
        ·have hgj2:∀ h,(aO (fun k=>[qA (zZ al q) 2000 k]) S.length)[j]'h=[.mref (2000+j)]:=fun h=>by rw [hgj,qA,hal]; rfl
         have cmj:=cm j hjl
         have he:OF al es q j j=es j:=by simp [OF]
         rw [he] at cmj
         simp [hjl,c9,hgj2,xQ,cmj,aBz]
         (repeat' first|contradiction|exact .ok|apply And.intro|intro _|(apply gc<;>simp+contextual))
         refine ⟨j+1,by omega,?_,by simp; omega⟩
         exact wY (aEi hjl hal) _ (by simp [hwj])
       ·obtain rfl:j=S.length:=by omega
        simp
        (repeat' first|contradiction|exact .ok|apply And.intro|intro _|(apply gc<;>simp+contextual))
        refine ⟨⟨i+1,zZ al q,esO al es q,out++[(q:Int)]⟩,⟨by simp; omega,by simp [hlo],hL,fun k hk=>aEj (hes k hk)⟩,?_,by simp; omega⟩
        simp only [← aBN al es q S.length (out++[(q:Int)]) (zZ al q)]
        exact wY rfl _ (by simp [hw])
    ·obtain rfl:i=S.length:=by omega
     rw [Nat.sub_self,show wD S.length 0 al es out=(out,0) from rfl] at hL
     rw [← hL]
     have ht:(aD out).take S.length=aD out:=List.take_of_length_le (by simp [hlo])
     simp [b91,hlo,ht]
     all_goals exact gz
def aQ (L:List Int) (i:Int):Blk:=.var [.d (.sl (L.map fun n=>[.int .i64 n])),.d (.int .i64 i)]
def aS (L:List Int) (i:Nat) (n:Int):Int :=
 if n<1 then 0 else
  let x:=match L[i]? with
   | some z=>z.tmod n
   | none=>0
  if x<0 then x+n else x
def sG (i:Nat) (n:Int):Nat:=if n<1 then i else i+1
theorem bB (L:List Int) (i:Nat) {n:Int} (h:1≤n):0≤aS L i n∧aS L i n<n:=by
 unfold aS
 rw [if_neg (by omega)]
 cases L[i]? with
 | none=>simp; omega
 | some z =>
   have h1:=Int.natAbs_tmod z n
   have h2:=Nat.mod_lt z.natAbs (show 0<n.natAbs by omega)
   simp only
   split <;> omega
theorem aCS (L:List Int) (i:Nat) (hi:i≤1000000000) (n:Int) (hn:n≤1000000) :
  Cf En 14 [.ptr 1000000 0 0,.d (.int .i64 n)] [aQ L i] (.d (.int .i64 (aS L i n))) [aQ L (sG i n)]:=by
 refine cI aW (fn:=Tryz.f14) rfl ?_
 simp [aQ]
 (repeat' first|contradiction|exact .ok|apply And.intro|intro _|(apply gc<;>simp+contextual))
 ·rename_i h
  simp [sG,h]
 ·rename_i h
  simp [aS,h]
 ·rename_i h1 h2
  have hg:L[i]?=some L[i]:=gE h2
  have hn0:¬ n<1:=by omega
  have hz:¬ n=0:=by omega
  have hw:=wI (n:=(i:Int)+1)
  have e1:=Int.natAbs_tmod L[i] n
  have e2:=Nat.mod_lt L[i].natAbs (show 0<n.natAbs by omega)
  have hw2:=wI (n:=L[i].tmod n+n)
  have hV:aS L i n=if L[i].tmod n<0 then L[i].tmod n+n else L[i].tmod n:=by simp [aS,hn0,hg]
  have hI:sG i n=i+1:=by simp [sG,hn0]
  rw [hV,hI]
  clear hV hI
  by_cases hneg:L[i].tmod n<0
  ·simp [hg,hz,hneg,hw,hw2]
   all_goals exact gz
  ·simp [hg,hz,hneg,hw]
   all_goals exact gz
 ·rename_i h1 h2
  simp [sG,show ¬ n<1 by omega]
  exact bL (by omega) (by omega)
 ·rename_i h1 h2
  simp [aS,show ¬ n<1 by omega,List.getElem?_eq_none h2]
def intsL:List Int:=[0,1,2,-1,5,7,-7,100,1000000000000,-1000000000000,999999999999,1000000]
def textsL:List (List UInt8):=[[],[97],[98],[97,98],[48],[32],[97,98,99,100,101,102,103,104,105,106,107,108,109,110,111,112,113,114,115,116,117,118,119,120]]
def bF (k:Int):List V :=
 if k=1 then nulV::intsL.map fun n=>⟨1,n,[]⟩ else if k=2 then [nulV,⟨2,0,[]⟩,⟨2,1,[]⟩] else if k=3 then nulV::textsL.map fun t=>⟨3,0,t⟩ else [nulV]
theorem PQ (k:Int):Cf En 79 [.d (.int .i64 k)] [] (.d (.sl ((bF k).map V.c))) []:=by
 refine cI aW (fn:=Tryz.f79) rfl ?_
 by_cases h1:k=1
 ·subst h1
  simp
  (repeat' first|contradiction|exact .ok|apply And.intro|intro _|(apply gc<;>simp+contextual))
  have hlen:intsL.length=12:=by decide
  refine aL aW (fun i:Nat=>{ s:=cE [(3,.ref 900 0 (i+1) 3),(4,.d (.sl (intsL.map fun n=>[.int .i64 n]))),(5,.d (.int .i64 i))],b:=cC [(900,900,.arr 92 3 ((nulV::(intsL.take i).map fun n=>⟨1,n,[]⟩).map V.c) false)] }) (fun i:Nat=>i≤12) (fun i=>12 - i) 0 (by simp) (sM _ [(900,9,_)] (by simp [aB,Blk.live,nulV,V.c]) (by simp [aB,intsL])) ?_
  intro i hi
  by_cases hlt:i<12
  ·have hlt':(i:Int)<12:=by omega
   have hg:intsL[i]?=some intsL[i]:=gE (by omega)
   have htk:intsL.take (i+1)=intsL.take i++[intsL[i]]:=by rw [List.take_add_one,hg]; rfl
   have hmin:min i 12=i:=by omega
   have s1:(i+1+1)*32≤140737488355328:=by omega
   have s2:i+1+1≤9223372036854775807:=by omega
   have s3:i≤9223372036854775805:=by omega
   simp [hlt,hlt',hlen,hmin,s1,s2]
   (repeat' first|contradiction|exact .ok|apply And.intro|intro _|(apply gc<;>simp+contextual))
   refine ⟨i+1,by omega,?_,?_⟩
   ·refine sM _ [(900,27,_)] (?_) ?_
    ·simp [aB,Blk.live,htk,V.c]
     try rfl
    ·simp [aB]
     exact bL (by omega) (by omega)
   ·simp; omega
  ·have hlt':¬ (i:Int)<12:=by omega
   have hi12:i=12:=by omega
   subst hi12
   have htk:intsL.take 12=intsL:=List.take_of_length_le (by omega)
   simp [hlen,htk]
   (repeat' first|contradiction|exact .ok|apply And.intro|intro _|(apply gc<;>simp+contextual))
   all_goals (simp [bF]; rw [← List.map_take,htk])
 by_cases h2:k=2
 ·subst h2
  simp
  (repeat' first|contradiction|exact .ok|apply And.intro|intro _|(apply gc<;>simp+contextual))
  refine aP (nX 0) ?_
  simp [V.a,mI]
  refine aP (nX 1) ?_
  simp [V.a,nW]
  (repeat' first|contradiction|exact .ok|apply And.intro|intro _|(apply gc<;>simp+contextual))
  all_goals simp [bF,V.c,nulV]
 by_cases h3:k=3
 ·subst h3
  simp
  (repeat' first|contradiction|exact .ok|apply And.intro|intro _|(apply gc<;>simp+contextual))
  have hlen:textsL.length=7:=by decide
  refine aL aW (fun i:Nat=>{ s:=cE [(3,.ref 900 0 (i+1) 3),(6,.d (.sl (textsL.map fun n=>[.str n]))),(7,.d (.int .i64 i))],b:=cC [(900,900,.arr 92 3 ((nulV::(textsL.take i).map fun n=>⟨3,0,n⟩).map V.c) false)] }) (fun i:Nat=>i≤7) (fun i=>7 - i) 0 (by simp) (sM _ [(900,9,_)] (by simp [aB,Blk.live,nulV,V.c]) (by simp [aB,textsL])) ?_
  intro i hi
  by_cases hlt:i<7
  ·have hlt':(i:Int)<7:=by omega
   have hg:textsL[i]?=some textsL[i]:=gE (by omega)
   have htk:textsL.take (i+1)=textsL.take i++[textsL[i]]:=by rw [List.take_add_one,hg]; rfl
   have hmin:min i 7=i:=by omega
   have s1:(i+1+1)*32≤140737488355328:=by omega
   have s2:i+1+1≤9223372036854775807:=by omega
   have s3:i≤9223372036854775805:=by omega
   simp [hlt,hlt',hlen,hmin,s1,s2]
   (repeat' first|contradiction|exact .ok|apply And.intro|intro _|(apply gc<;>simp+contextual))
   refine ⟨i+1,by omega,?_,?_⟩
   ·refine sM _ [(900,51,_)] (?_) ?_
    ·simp [aB,Blk.live,htk,V.c]
     try rfl
    ·simp [aB]
     exact bL (by omega) (by omega)
   ·simp; omega
  ·have hlt':¬ (i:Int)<7:=by omega
   have hi12:i=7:=by omega
   subst hi12
   have htk:textsL.take 7=textsL:=List.take_of_length_le (by omega)
   simp [hlen,htk]
   (repeat' first|contradiction|exact .ok|apply And.intro|intro _|(apply gc<;>simp+contextual))
   all_goals (simp [bF]; rw [← List.map_take,htk])
 simp [h1,h2,h3]
 (repeat' first|contradiction|exact .ok|apply And.intro|intro _|(apply gc<;>simp+contextual))
 all_goals simp [bF,h1,h2,h3,V.c,nulV]
end Go.Proofs.Tryz
