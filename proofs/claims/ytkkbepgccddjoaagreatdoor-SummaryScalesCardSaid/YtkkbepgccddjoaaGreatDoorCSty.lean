import Derived.Test.YtkkbepgccddjoaaGreatDoorCSmn
import Derived.Test.YtkkbepgccddjoaaGreatDoorCClo
import Derived.Test.YtkkbepgccddjoaaGreatDoorCEnvR
import Derived.Test.YtkkbepgccddjoaaGreatDoorCShy
import Derived.Test.YtkkbepgccddjoaaGreatDoorNamR
import Derived.Test.YtkkbepgccddjoaaGreatDoorAbB
set_option linter.all false
namespace Go.Proofs.Tryz
open Go.Ab
set_option maxRecDepth 100000
set_option maxHeartbeats 4000000
theorem EH (S:List Tb) (hl:S.length≤1000) (hS:∀ x∈S,x.ok) {i k:Nat} {u:Tb} {f:Fk} (hi:i<S.length) (hu:S[i]=u) (hk:k<u.fk.length) (hf:u.fk[k]=f) :
  Cf En 85 [aN S,.d (.int .i64 i),.d (.int .i64 k)] [] (place (fun x:Tb=>x.n==f.t) S) []:=by
 refine cI aW (fn:=Tryz.f85) rfl ?_
 have h1:¬ (i:Int)<0:=by omega
 have h2:¬ (k:Int)<0:=by omega
 have h3:¬ (S.length:Int)≤i:=by omega
 have h4:¬ (u.fk.length:Int)≤k:=by omega
 have hgi:∀ h,S[i]'h=u:=fun _=>hu
 have hgf:∀ h,u.fk[k]'h=f:=fun _=>hf
 have hgf2:u.fk[k]?=some f:=by rw [gE hk,hf]
 simp [aN,h1,h2,h3,h4,hi,hgi,Tb.c]
 (repeat' first|contradiction|exact .ok|apply And.intro|intro _|(apply gc<;>simp+contextual[h1,h2,h3,h4,hi,hgi,Tb.c,hk,hgf,hgf2,Fk.c]))
 simp [hgf2,Fk.c]
 (repeat' first|contradiction|exact .ok|apply And.intro|intro _|(apply gc<;>simp+contextual))
 refine aA (xT S hl f.t) (by simp [aN]) ?_
 unfold place
 simp
 all_goals exact gz
theorem hJ {o c n:Int} {t:List UInt8} {g:Int} {ks:List Ex} {q:Nat} (hq:(Ex.mk o c n t g ks).few q=true):ks.length≤12∧t.length≤200∧∀ e∈ks,e.few (q+1)=true:=by
 rw [Ex.few] at hq
 by_cases h1:60<q
 ·simp [h1] at hq
 by_cases h2:12<ks.length
 ·simp [h1,h2] at hq
 by_cases h3:200<t.length
 ·simp [h1,h2,h3] at hq
 ·simp [h1,h2,h3] at hq
  rw [pW,List.all_eq_true] at hq
  exact ⟨by omega,by omega,hq⟩
def aAN (l:List Int) (n:Int) (i:Nat):St:={ s:=cE [(0,.d (gI l)),(1,.d (.int .i64 n)),(5,.d (.int .i64 i))],b:=cC [] }
theorem NB (l:List Int) (n:Int) (hl:l.length≤1099511627776):Cf En 165 [.d (gI l),.d (.int .i64 n)] [] (.d (gI (zQ l n))) []:=by
 refine cI aW (fn:=Tryz.f165) rfl ?_
 obtain ⟨h1,h2,h3⟩:=tV l n
 have hins:zQ l n=if l[oJ l n]?=some n then l else l.take (oJ l n)++n::l.drop (oJ l n):=rfl
 rw [hins]
 generalize oJ l n=k at *
 simp
 (repeat' first|contradiction|exact .ok|apply And.intro|intro _|(apply gc<;>simp+contextual))
 refine aL aW (aAN l n) (fun i:Nat=>i≤k) (fun i=>k - i) 0 (by simp) (aI [(0,_),(1,_),(5,_)] [] ⟨by simp,by simp,by simp [Blk.live],by simp⟩ (by simp [aB])) ?_
 intro i hi
 by_cases hlt:i<k
 ·have hil:i<l.length:=by omega
  have hgi:l[i]?=some l[i]:=gE hil
  have hx:=h2 i _ hgi hlt
  have hil2:(i:Int)<l.length:=by omega
  simp [aAN,gI,hil,hil2,hx]
  (repeat' first|contradiction|exact .ok|apply And.intro|intro _|(apply gc<;>simp+contextual[hil,hil2,hgi,hx]))
  refine ⟨i+1,by omega,?_,?_⟩
  ·refine aI [(0,_),(1,_),(5,_)] [] ⟨by simp,by simp,by simp [Blk.live],by simp⟩ ?_
   simp [aB,gI]
   exact bL (by omega) (by omega)
  ·simp; omega
 ·have hie:i=k:=by omega
  subst hie
  by_cases hkl:i<l.length
  ·have hgi:l[i]?=some l[i]:=gE hkl
   have hx:=h3 _ hgi
   have hx2:¬ l[i]<n:=by omega
   have hil2:(i:Int)<l.length:=by omega
   by_cases he:l[i]=n
   ·rw [if_pos (by rw [hgi,he])]
    simp [aAN,gI,hkl,hil2,he]
    (repeat' first|contradiction|exact .ok|apply And.intro|intro _|(apply gc<;>simp+contextual[hkl,hil2,hgi,hx2,he]))
   ·rw [if_neg (by rw [hgi]; simpa using he)]
    have f1:∀ x:List D,x∈List.take i (List.map (fun n=>[D.int .i64 n]) l)→x.length=1:=fun x hx=>by
     obtain ⟨z,_,rfl⟩:=List.mem_map.1 (List.mem_of_mem_take hx); rfl
    have f2:∀ x:List D,x∈List.drop i (List.map (fun n=>[D.int .i64 n]) l)→x.length=1:=fun x hx=>by
     obtain ⟨z,_,rfl⟩:=List.mem_map.1 (List.mem_of_mem_drop hx); rfl
    have ftk:List.take l.length (List.map (fun n=>[D.int .i64 n]) l)=List.map (fun n=>[D.int .i64 n]) l:=List.take_of_length_le (by simp)
    have f3:min i l.length=i:=by omega
    have f4:i≤l.length:=by omega
    have f5:i*8≤140737488355328:=by omega
    have f6:(i+1)*8≤140737488355328:=by omega
    have f7:i≤9223372036854775807:=by omega
    have f8:i+1≤9223372036854775807:=by omega
    have f9:(i+1+(l.length - i))*8≤140737488355328:=by omega
    have f10:i+1+(l.length - i)≤9223372036854775807:=by omega
    have f11:i≤9223372036854775806:=by omega
    simp [aAN,gI,hkl,hil2,hx2,he]
    (repeat' first|contradiction|exact .ok|apply And.intro|intro _|(apply gc<;>simp+contextual[hkl,hil2,hgi,hx2,he]))
    all_goals rw [if_pos ⟨f4,f1⟩]
    all_goals simp [f3,f5,f7]
    all_goals rw [if_pos f1]
    all_goals simp [f3,f4,f6,f8]
    (repeat' first|contradiction|exact .ok|apply And.intro|intro _|(apply gc<;>simp+contextual))
    all_goals (first | rw [ftk,if_pos f2] | rw [if_pos f2])
    all_goals simp [f3,f9,f10]
    all_goals rw [if_pos f2]
    all_goals simp [f3]
    (repeat' first|contradiction|exact .ok|apply And.intro|intro _|(apply gc<;>simp+contextual))
    all_goals
     rw [if_pos (by omega),List.take_of_length_le (by simp <;> omega)]
     try simp [List.map_take,List.map_drop]
  ·have hgi:l[i]?=none:=List.getElem?_eq_none (by omega)
   rw [if_neg (by rw [hgi]; simp)]
   have hil2:¬ (i:Int)<l.length:=by omega
   have f1:∀ x:List D,x∈List.take i (List.map (fun n=>[D.int .i64 n]) l)→x.length=1:=fun x hx=>by
    obtain ⟨z,_,rfl⟩:=List.mem_map.1 (List.mem_of_mem_take hx); rfl
   have f2:∀ x:List D,x∈List.drop i (List.map (fun n=>[D.int .i64 n]) l)→x.length=1:=fun x hx=>by
    obtain ⟨z,_,rfl⟩:=List.mem_map.1 (List.mem_of_mem_drop hx); rfl
   have ftk:List.take l.length (List.map (fun n=>[D.int .i64 n]) l)=List.map (fun n=>[D.int .i64 n]) l:=List.take_of_length_le (by simp)
   have f3:min i l.length=i:=by omega
   have f4:i≤l.length:=by omega
   have f5:i*8≤140737488355328:=by omega
   have f6:(i+1)*8≤140737488355328:=by omega
   have f7:i≤9223372036854775807:=by omega
   have f8:i+1≤9223372036854775807:=by omega
   have f9:(i+1+(l.length - i))*8≤140737488355328:=by omega
   have f10:i+1+(l.length - i)≤9223372036854775807:=by omega
   have f11:i≤9223372036854775806:=by omega
   simp [aAN,gI,hil2]
   (repeat' first|contradiction|exact .ok|apply And.intro|intro _|(apply gc<;>simp+contextual[hkl,hil2,hgi]))
   all_goals rw [if_pos ⟨f4,f1⟩]
   all_goals simp [f3,f5,f7]
   all_goals rw [if_pos f1]
   all_goals simp [f3,f4,f6,f8]
   (repeat' first|contradiction|exact .ok|apply And.intro|intro _|(apply gc<;>simp+contextual))
   all_goals (first | rw [ftk,if_pos f2] | rw [if_pos f2])
   all_goals simp [f3,f9,f10]
   all_goals rw [if_pos f2]
   all_goals simp [f3]
   (repeat' first|contradiction|exact .ok|apply And.intro|intro _|(apply gc<;>simp+contextual))
   all_goals
    rw [if_pos (by omega),List.take_of_length_le (by simp <;> omega)]
    try simp [List.map_take,List.map_drop]
theorem nU:∀ (l a:List Int),(l.foldl zQ a).length≤a.length+l.length
 | [],a=>by simp
 | n::l,a=>by
   have h1:=nU l (zQ a n)
   have h2:=UN a n
   rw [List.foldl_cons,List.length_cons]; omega
theorem EY {l:List Ex} {i:Nat} {x:Ex} (a:List Int) (h:l[i]?=some x):dL a (l.take (i+1))=x.rcols.foldl zQ (dL a (l.take i)):=by
 induction l generalizing i a with
 | nil=>cases h
 | cons e es ih =>
   cases i with
   | zero=>simp at h; subst h; simp [dL]
   | succ i=>rw [List.take_succ_cons,List.take_succ_cons,dL,dL,ih _ (by simpa using h)]
theorem SC {l:List Int} {j:Nat} {x:Int} (a:List Int) (h:l[j]?=some x):(l.take (j+1)).foldl zQ a=zQ ((l.take j).foldl zQ a) x:=by
 rw [List.take_add_one,h,List.foldl_append]; rfl
mutual
theorem GH:∀ e:Ex,e.rcols.length≤e.nodes
 | .mk o c n t g ks=>by
   have h1:=lI ks []
   rw [Ex.rcols,Ex.nodes]
   split
   ·have:=UN (dL [] ks) g
    simp at h1; omega
   ·simp at h1; omega
theorem lI:∀ (l:List Ex) (a:List Int),(dL a l).length≤a.length+aU l
 | [],a=>by rw [dL,aU]; omega
 | e::es,a=>by
   have h1:=GH e
   have h2:=lI es (e.rcols.foldl zQ a)
   have h3:=nU e.rcols a
   rw [dL,aU]; omega
end
theorem xJ (l:List Ex) (i:Nat):aU (l.take i)≤aU l:=by
 induction l generalizing i with
 | nil=>simp
 | cons e es ih =>
   cases i with
   | zero=>simp [aU]
   | succ i=>rw [List.take_succ_cons,aU,aU]; have:=ih i; omega
theorem lJ:∀ (l:List Ex),∀ e∈l,e.nodes≤aU l
 | e::es,x,hx=>by
   rw [aU]
   rcases List.mem_cons.1 hx with rfl | hx
   ·omega
   ·have:=lJ es x hx; omega
def zE (a:List Int):AV:=if a=[] then .nils else .d (gI a)
@[simp] theorem aIj (r:Nat→Option Nat) (bl:Nat→Blk) (a:List Int):dP r bl true (zE a)=(zE a,[]):=by
  unfold zE
  split <;> simp [dP]
theorem aFF (a:List Int) (n:Int):zQ a n ≠ []:=by
 intro h
 have:=congrArg List.length h
 unfold zQ at this
 split at this
 ·rename_i h2
  have:a=[]:=List.eq_nil_of_length_eq_zero (by simpa using this)
  subst this
  simp at h2
 ·simp at this
def rcF (o c n g:Int) (t:List UInt8) (ks:List Ex) (a:AV) (i:Nat):St :=
 { s:=cE [(1,.ptr 1 0 0),(3,a),(4,.d (.int .i64 i))],b:=cC [(1,1,.var [.d (.int .i64 o),.d (.int .i64 c),.d (.int .i64 n),.d (.str t),.d (.int .i64 g),.d (.sl (ks.map Ex.c))])] }
def rcG (o c n g:Int) (t:List UInt8) (ks:List Ex) (a:AV) (i:Nat) (k:List Int) (j:Nat):St :=
 { s:=cE [(1,.ptr 1 0 0),(3,a),(4,.d (.int .i64 i)),(5,.d (gI k)),(6,.d (.int .i64 j))],b:=cC [(1,1,.var [.d (.int .i64 o),.d (.int .i64 c),.d (.int .i64 n),.d (.str t),.d (.int .i64 g),.d (.sl (ks.map Ex.c))])] }
theorem NC (o c n g:Int) (t:List UInt8) (ks:List Ex) (hk:ks.length≤12) (hn:aU ks≤1048576)
  (hrec:∀ e∈ks,Cf En 108 [e.a] [] (.d (gI e.rcols)) []) :
  Cf En 108 [(Ex.mk o c n t g ks).a] [] (.d (gI (Ex.rcols (.mk o c n t g ks)))) []:=by
 refine cI aW (fn:=Tryz.f108) rfl ?_
 simp [Ex.a,Ex.c,aE]
 (repeat' first|contradiction|exact .ok|apply And.intro|intro _|(apply gc<;>simp+contextual))
 refine aL aW (fun i=>rcF o c n g t ks (zE (dL [] (ks.take i))) i) (fun i:Nat=>i≤ks.length) (fun i=>ks.length - i) 0 (by simp) (aI [(1,_),(3,_),(4,_)] [(1,1,_)] ⟨by simp,by simp,by simp [aB,Blk.live],by simp⟩ (by simp [aB,zE,dL])) ?_
 intro i hi
 by_cases hlt:i<ks.length
 ·have hgi:ks[i]?=some ks[i]:=gE hlt
  have c1:=Ex.clen ks[i]
  have k1:=Ex.ctake ks[i]
  have hr:=hrec ks[i] (List.getElem_mem hlt)
  have hlt2:(i:Int)<ks.length:=by omega
  have hl1:=lI (ks.take i) []
  have hl2:=xJ ks i
  have hl3:=GH ks[i]
  have hl4:=lJ ks _ (List.getElem_mem hlt)
  have htk:=EY [] hgi
  generalize dL [] (ks.take i)=acc at *
  generalize hkc:ks[i].rcols=kc at *
  simp [rcF,hlt,hlt2,c1,k1]
  (repeat' first|contradiction|exact .ok|apply And.intro|intro _|(apply gc<;>simp+contextual))
  refine aA hr (by simp [Ex.a]) ?_
  simp
  (repeat' first|contradiction|exact .ok|apply And.intro|intro _|(apply gc<;>simp+contextual))
  refine aL aW (fun j=>rcG o c n g t ks (zE ((kc.take j).foldl zQ acc)) i kc j) (fun j:Nat=>j≤kc.length) (fun j=>kc.length - j) 0 (by simp) (aI [(1,_),(3,_),(4,_),(5,_),(6,_)] [(1,1,_)] ⟨by simp,by simp,by simp [aB,Blk.live],by simp⟩ (by simp [aB])) ?_
  intro j hj
  by_cases hlj:j<kc.length
  ·have hgj:kc[j]?=some kc[j]:=gE hlj
   have hlj2:(j:Int)<kc.length:=by omega
   have hfl:=nU (kc.take j) acc
   have hft:=SC acc hgj
   generalize (kc.take j).foldl zQ acc=a at *
   have hci:=NB a kc[j] (by simp at hfl hl1; omega)
   have hne:=aFF a kc[j]
   generalize hai:zQ a kc[j]=a' at *
   by_cases ha:a=[]
   ·subst ha
    simp [rcG,zE,gI,hlj,hlj2]
    (repeat' first|contradiction|exact .ok|apply And.intro|intro _|(apply gc<;>simp+contextual))
    refine aA hci (by simp [gI]) ?_
    simp
    (repeat' first|contradiction|exact .ok|apply And.intro|intro _|(apply gc<;>simp+contextual))
    refine ⟨j+1,by omega,?_,?_⟩
    ·refine aI [(1,_),(3,_),(4,_),(5,_),(6,_)] [(1,1,_)] ⟨by simp,by simp,by simp [aB,Blk.live],by simp⟩ ?_
     simp [aB,hft,hne,gI]
     exact bL (by omega) (by omega)
    ·simp; omega
   ·simp [rcG,zE,ha,gI,hlj,hlj2]
    (repeat' first|contradiction|exact .ok|apply And.intro|intro _|(apply gc<;>simp+contextual))
    refine aA hci (by simp [gI]) ?_
    simp
    (repeat' first|contradiction|exact .ok|apply And.intro|intro _|(apply gc<;>simp+contextual))
    refine ⟨j+1,by omega,?_,?_⟩
    ·refine aI [(1,_),(3,_),(4,_),(5,_),(6,_)] [(1,1,_)] ⟨by simp,by simp,by simp [aB,Blk.live],by simp⟩ ?_
     simp [aB,hft,hne,gI]
     exact bL (by omega) (by omega)
    ·simp; omega
  ·have hje:j=kc.length:=by omega
   subst hje
   rw [List.take_length,← htk]
   simp [rcG,gI]
   (repeat' first|contradiction|exact .ok|apply And.intro|intro _|(apply gc<;>simp+contextual))
   refine ⟨i+1,hlt,?_,?_⟩
   ·refine aI [(1,_),(3,_),(4,_)] [(1,1,_)] ⟨by simp,by simp,by simp [aB,Blk.live],by simp⟩ ?_
    simp [aB]
    exact bL (by omega) (by omega)
   ·simp; omega
 ·have hie:i=ks.length:=by omega
  subst hie
  rw [List.take_length,Ex.rcols]
  have hl1:=lI ks []
  generalize dL [] ks=a at *
  have hci:=NB a g (by simp at hl1; omega)
  by_cases ha:a=[]
  ·subst ha
   by_cases h5:o=5
   ·rw [if_pos h5]
    simp [rcF,zE,h5,gI]
    (repeat' first|contradiction|exact .ok|apply And.intro|intro _|(apply gc<;>simp+contextual))
    refine aA hci (by simp [gI]) ?_
    simp
    (repeat' first|contradiction|exact .ok|apply And.intro|intro _|(apply gc<;>simp+contextual))
    all_goals rfl
   ·rw [if_neg h5]
    simp [rcF,zE,h5,gI]
    (repeat' first|contradiction|exact .ok|apply And.intro|intro _|(apply gc<;>simp+contextual[h5]))
  ·by_cases h5:o=5
   ·rw [if_pos h5]
    simp [rcF,zE,h5,ha,gI]
    (repeat' first|contradiction|exact .ok|apply And.intro|intro _|(apply gc<;>simp+contextual))
    refine aA hci (by simp [gI]) ?_
    simp
    (repeat' first|contradiction|exact .ok|apply And.intro|intro _|(apply gc<;>simp+contextual))
    all_goals rfl
   ·rw [if_neg h5]
    simp [rcF,zE,h5,ha,gI]
    (repeat' first|contradiction|exact .ok|apply And.intro|intro _|(apply gc<;>simp+contextual[h5]))
def kY {α β:Type} (f:α→β×Int):List α→List β×Int
 | []=>([],0)
 | x::xs=>if (f x).2=0 then (if (kY f xs).2=0 then ((f x).1::(kY f xs).1,0) else ([],(kY f xs).2)) else ([],(f x).2)
theorem PW {α β:Type} {f:α→β×Int}:∀ {l:List α},(∀ x∈l,(f x).2=0)→kY f l=(l.map fun x=>(f x).1,0)
 | [],_=>rfl
 | x::xs,h=>by
   rw [kY,if_pos (h x List.mem_cons_self),PW fun y hy=>h y (List.mem_cons_of_mem _ hy),if_pos rfl]; rfl
theorem HS {α β:Type} {f:α→β×Int}:∀ {l:List α} {i:Nat} {x:α},(∀ j y,j<i→l[j]?=some y→(f y).2=0)→l[i]?=some x→(f x).2 ≠ 0→kY f l=([],(f x).2)
 | [],i,x,_,h,_=>by simp at h
 | y::ys,0,x,_,h,hn=>by
   have:y=x:=by simpa using h
   subst this
   rw [kY,if_neg hn]
 | y::ys,i+1,x,ho,h,hn=>by
   have h0:=ho 0 y (by omega) rfl
   have h1:=HS (l:=ys) (i:=i) (x:=x) (fun j z hj hz=>ho (j+1) z (by omega) (by simpa using hz)) (by simpa using h) hn
   rw [kY,if_pos h0,h1,if_neg hn]
theorem HT {α β:Type} {f:α→β×Int}:∀ (l:List α),(kY f l).2=0→∀ x∈l,(f x).2=0
 | [],_,x,hx=>by cases hx
 | y::ys,h,x,hx=>by
   rw [kY] at h
   split at h
   ·rename_i h1
    split at h
    ·rename_i h2
     rcases List.mem_cons.1 hx with rfl | hx
     ·exact h1
     ·exact HT ys h2 x hx
    ·exact absurd h (by assumption)
   ·exact absurd h (by assumption)
theorem wO {o:Int} (h1:6≤o) (h2:o≤28):o=6∨o=7∨o=8∨o=9∨o=10∨o=11∨o=12∨o=13∨o=14∨o=15∨o=16∨o=17∨o=18∨o=19∨o=20∨o=21∨o=22∨o=23∨o=24∨o=25∨o=26∨o=27∨o=28:=by omega
def fL (ty:Int) (l:List Int):Bool :=
 if ty=1 then l.all (·==1) else if ty=2 then l.all (·==3) else if ty=3 then l.all (·==2)
 else if ty=4 then l.all (·==(l[0]?).getD 0) else if ty=6 then (l[0]?).getD 0==2&&(l[1]?).getD 0==(l[2]?).getD 0 else true
def iW (ts:List Int) (o c g:Int) (kts:List Int):Int :=
 if o=5 then (ts[g.toNat]?).getD 0 else if o=1 then c else if (bQ o).2.2.2=0 then (kts[kts.length - 1]?).getD 0 else (bQ o).2.2.2
def dK (ts:List Int) (o c g:Int) (kts:List Int):Int×Int :=
 if o=5 then (if 1≤(ts[g.toNat]?).getD 0∧(ts[g.toNat]?).getD 0≤3 then ((ts[g.toNat]?).getD 0,0) else (0,4))
 else if fL (bQ o).2.2.1 kts=true then (iW ts o c g kts,0) else (0,4)
def eF (ts:List Int) (o c g:Int) (k:List Int):Int :=
 if o=1 then c else if o=2 then 1 else if o=3 then 2 else if o=4 then 3 else if o=5 then (ts[g.toNat]?).getD 0
 else if o≤11 then (if k.all (·==1)=true then 1 else 0)
 else if o=12 then (if k.all (·==3)=true then 3 else 0)
 else if o=13 then (if k.all (·==3)=true then 1 else 0)
 else if o=21 then 2
 else if o=22∨o=23∨o=24∨o=25 then (if k.all (·==2)=true then 2 else 0)
 else if o=26 then (if (k[0]?).getD 0=2∧(k[1]?).getD 0=(k[2]?).getD 0 then (k[1]?).getD 0 else 0)
 else if o=27 then (if (k[0]?).getD 0=(k[1]?).getD 0 then (k[0]?).getD 0 else 0)
 else (if k.all (·==(k[0]?).getD 0)=true then 2 else 0)
theorem aCV {o:Int} {k:Nat} (h:bN o k=true) (h1:6≤o):if o=11∨o=13∨o=21∨o=24∨o=25 then k=1 else if o=26 then k=3 else if o=28 then 2≤k else k=2:=by
 have h2:o≤28:=by
  unfold bN bR at h
  simp only [Bool.and_eq_true,decide_eq_true_eq] at h
  omega
 rcases wO h1 h2 with rfl | rfl | rfl | rfl | rfl | rfl | rfl | rfl | rfl | rfl | rfl | rfl | rfl | rfl | rfl | rfl | rfl | rfl | rfl | rfl | rfl | rfl | rfl <;> simp [bN,bR,bQ,ops] at h <;> simp <;> omega
theorem aCW (ts:List Int) (o c g:Int) (k:List Int) (h1:6≤o) (h2:o≤28) (hc:bN o k.length=true) (hk:∀ x∈k,1≤x∧x≤3) :
  dK ts o c g k=if eF ts o c g k<1∨3<eF ts o c g k then (0,4) else (eF ts o c g k,0):=by
 have hcn:=aCV hc h1
 rcases wO h1 h2 with rfl | rfl | rfl | rfl | rfl | rfl | rfl | rfl | rfl | rfl | rfl | rfl | rfl | rfl | rfl | rfl | rfl | rfl | rfl | rfl | rfl | rfl | rfl
 case inr.inr.inr.inr.inr.inr.inr.inr.inr.inr.inr.inr.inr.inr.inr.inr.inr.inr.inr.inr.inr.inr =>
  simp only [dK,eF,fL,iW,bQ,ops]
  simp
  split <;> simp_all
 case inr.inr.inr.inr.inr.inr.inr.inr.inr.inr.inr.inr.inr.inr.inr.inr.inr.inr.inr.inr.inl =>
  have h3:k.length=3:=by simpa using hcn
  match k,h3 with
  | [a,b,d],_ =>
    have ha:=hk a (by simp)
    have hb:=hk b (by simp)
    have hd:=hk d (by simp)
    simp [dK,eF,fL,iW,bQ,ops]
    by_cases e1:a=2 <;> by_cases e2:b=d <;> simp_all
    try omega
 case inr.inr.inr.inr.inr.inr.inr.inr.inr.inr.inr.inr.inr.inr.inr.inr.inr.inr.inr.inr.inr.inl =>
  have h3:k.length=2:=by simpa using hcn
  match k,h3 with
  | [a,b],_ =>
    have ha:=hk a (by simp)
    have hb:=hk b (by simp)
    simp [dK,eF,fL,iW,bQ,ops]
    by_cases e1:a=b
    ·subst e1
     simp
     omega
    ·simp [e1,Ne.symm e1]
     try exact fun h=>absurd h.symm e1
 all_goals
  simp [dK,eF,fL,iW,bQ,ops]
  try (split <;> simp_all)
theorem aCX (ts:List Int) (o c g:Int) (h1:1≤o) (h2:o≤5) (hc:o=1→1≤c∧c≤3) :
  dK ts o c g []=if eF ts o c g []<1∨3<eF ts o c g [] then (0,4) else (eF ts o c g [],0):=by
 have ho:o=1∨o=2∨o=3∨o=4∨o=5:=by omega
 rcases ho with rfl | rfl | rfl | rfl | rfl
 ·have:=hc rfl
  simp [dK,eF,fL,iW,bQ,ops]
  omega
 ·simp [dK,eF,fL,iW,bQ,ops]
 ·simp [dK,eF,fL,iW,bQ,ops]
 ·simp [dK,eF,fL,iW,bQ,ops]
 ·simp only [dK,eF]
  simp
  split <;> split <;> first | rfl | omega
theorem aFi (ts:List Int) (o c g:Int) (k:List Int) (h:dK ts o c g k=if eF ts o c g k<1∨3<eF ts o c g k then (0,4) else (eF ts o c g k,0)) (h0:(dK ts o c g k).2=0):1≤(dK ts o c g k).1∧(dK ts o c g k).1≤3:=by
 rw [h] at h0 ⊢
 split at h0
 ·exact absurd h0 (by decide)
 ·rename_i h1
  rw [if_neg h1]
  simp only
  omega
def bG {α:Type} (f:Nat→α→Int):List α→Nat→Int
 | [],_=>0
 | x::l,i=>if f i x ≠ 0 then f i x else bG f l (i+1)
def fI (a b:Int):Int:=if a ≠ 0 then a else b
theorem eL {α:Type} {f:Nat→α→Int} {l:List α} {i:Nat} (h:i<l.length):bG f (l.drop i) i=if f i l[i] ≠ 0 then f i l[i] else bG f (l.drop (i+1)) (i+1):=by
 rw [List.drop_eq_getElem_cons h,bG]
theorem fJ {α:Type} {f:Nat→α→Int} {l:List α} {i:Nat} (h:l.length≤i):bG f (l.drop i) i=0:=by
 rw [List.drop_of_length_le h,bG]
theorem fK {a b:Int} (h:a ≠ 0):fI a b=a:=if_pos h
theorem eY {b:Int}:fI 0 b=b:=if_neg (by simp)
theorem KT {α:Type} {f:Nat→α→Int}:∀ {l:List α} {i:Nat},bG f l i=0→∀ (j:Nat) (h:j<l.length),f (i+j) l[j]=0
 | x::l,i,h,j,hj=>by
   rw [bG] at h
   split at h
   ·rename_i h0; exact absurd h h0
   ·rename_i h0
    cases j with
    | zero=>simpa using h0
    | succ j =>
      have:=KT h j (by simpa using hj)
      rw [List.getElem_cons_succ,← this]
      congr 1
      omega
theorem EG {α:Type} {g:α→Int}:∀ (l:List α) (i j:Nat),bG (fun _=>g) l i=bG (fun _=>g) l j
 | [],_,_=>rfl
 | x::l,i,j=>by rw [bG,bG,EG l (i+1) (j+1)]
theorem zB {α:Type} {g:α→Int}:∀ (a b:List α) (i:Nat),bG (fun _=>g) (a++b) i=fI (bG (fun _=>g) a i) (bG (fun _=>g) b i)
 | [],b,i=>by rw [List.nil_append,bG,eY]
 | x::a,b,i=>by
   rw [List.cons_append,bG,bG,zB a b (i+1),EG b (i+1) i]
   split
   ·rename_i h; rw [fK h]
   ·rfl
theorem PN {α β:Type} {g:β→Int} {f:α→β}:∀ (l:List α) (i:Nat),bG (fun _=>g) (l.map f) i=bG (fun _ x=>g (f x)) l i
 | [],_=>rfl
 | x::l,i=>by rw [List.map_cons,bG,bG,PN l (i+1)]
theorem aCQ {α:Type} {g:α→Int} {l:List α} {i:Nat} (h:bG (fun _=>g) l i=0):∀ x∈l,g x=0:=by
 intro x hx
 obtain ⟨j,hj,rfl⟩:=List.getElem_of_mem hx
 exact KT h j hj
def ZV (n:Nat):List Int→List Int→Bool
 | _,[]=>true
 | pre,k::r=>(decide (0≤k)&&(decide (k<n)&&!pre.contains k))&&ZV n (pre++[k]) r
def mS (n:Nat) (l:List Int):Bool:=ZV n [] l&&!l.isEmpty
theorem PO {n:Nat} {l:List Int} {i:Nat} (h:i<l.length):ZV n (l.take i) (l.drop i)=((decide (0≤l[i])&&(decide (l[i]<n)&&!(l.take i).contains l[i]))&&ZV n (l.take (i+1)) (l.drop (i+1))):=by
 rw [List.drop_eq_getElem_cons h,ZV,bI h]
theorem WI {n:Nat}:∀ {l pre:List Int},ZV n pre l=true→∀ k∈l,0≤k∧k<n
 | k::r,pre,h,x,hx=>by
   rw [ZV] at h
   simp only [Bool.and_eq_true,decide_eq_true_eq] at h
   rcases List.mem_cons.1 hx with rfl | hx
   ·exact ⟨h.1.1,h.1.2.1⟩
   ·exact WI h.2 x hx
theorem yF {n:Nat} {l:List Int} (h:mS n l=true):∀ k∈l,0≤k∧k<n:=by
 unfold mS at h
 rw [Bool.and_eq_true] at h
 exact WI h.1
def iB (x:Tb) (l:List Int):Int:=if mS x.cols.length l=true then 0 else 6
def oV (x:Tb) (c:Int):Bool:=((x.cols[c.toNat]?).map Col.b).getD false
def gD (x:Tb):Int:=fI (iB x x.pr) (fI (if x.pr.any (oV x)=true then 4 else 0) (bG (fun _=>iB x) (x.un++x.fk.map Fk.cols) 0))
def mY (nm:List UInt8→Bool) (cs:List Col) (i:Nat) (c:Col):Int :=
 if nm c.n=false then 3 else if aV (fun d:Col=>d.n==c.n) cs 0<i then 5 else if c.t=1∨c.t=2∨c.t=3 then 0 else 4
def mZ (ty:Ex→Int×Int) (e:Ex):Int:=if (ty e).2 ≠ 0 then (ty e).2 else if (ty e).1 ≠ 2 then 4 else 0
def fB (nm:List UInt8→Bool) (ty:Tb→Ex→Int×Int) (x:Tb):Int :=
 if 8<x.cols.length∨3<x.un.length∨3<x.fk.length∨4<x.ch.length then 8 else if x.cols.length=0 then 9 else
 fI (bG (mY nm x.cols) x.cols 0) (fI (gD x) (bG (fun _=>mZ (ty x)) x.ch 0))
def kI (nm:List UInt8→Bool) (ty:Tb→Ex→Int×Int) (S:List Tb) (i:Nat) (x:Tb):Int :=
 if nm x.n=false then 3 else if aV (fun y:Tb=>y.n==x.n) S 0<i then 5 else fB nm ty x
def mT (x o:Tb) (a b:List Int):Bool:=a.length==b.length&&(a.zip b).all fun p=>dO x p.1==dO o p.2
def kJ (S:List Tb) (x:Tb) (f:Fk):Int:=match S[(tgt S f).toNat]? with
 | some o=>if tgt S f<0 then 11 else if mT x o f.cols o.pr=true then 0 else 6
 | none=>11
def dY (nm:List UInt8→Bool) (ty:Tb→Ex→Int×Int) (S:List Tb):Int :=
 if 6<S.length then 8 else fI (bG (kI nm ty S) S 0) (fI (bG (fun _ x=>bG (fun _=>kJ S x) x.fk 0) S 0) (gB S).2)
theorem kK {a b:Int} (h:fI a b=0):a=0∧b=0:=by
 unfold fI at h
 split at h
 ·rename_i h0; exact absurd h h0
 ·rename_i h0; exact ⟨by simpa using h0,h⟩
theorem oW {x:Tb} (h:gD x=0):(∀ k∈x.pr,0≤k∧k<x.cols.length)∧∀ f∈x.fk,∀ k∈f.cols,0≤k∧k<x.cols.length:=by
 obtain ⟨h1,h2⟩:=kK h
 obtain ⟨_,h3⟩:=kK h2
 have hk:∀ {l:List Int},iB x l=0→∀ k∈l,0≤k∧k<x.cols.length:=by
  intro l hl
  unfold iB at hl
  split at hl
  ·rename_i hb; exact yF hb
  ·cases hl
 refine ⟨hk h1,fun f hf=>hk (aCQ h3 f.cols ?_)⟩
 exact List.mem_append_right _ (List.mem_map.2 ⟨f,hf,rfl⟩)
theorem ZW {nm:List UInt8→Bool} {ty:Tb→Ex→Int×Int} {x:Tb} (h:fB nm ty x=0):gD x=0:=by
 unfold fB at h
 split at h
 ·cases h
 split at h
 ·cases h
 exact (kK (kK h).2).1
theorem KU {nm:List UInt8→Bool} {ty:Tb→Ex→Int×Int} {S:List Tb} (h:bG (kI nm ty S) S 0=0):∀ x∈S,gD x=0:=by
 intro x hx
 obtain ⟨j,hj,rfl⟩:=List.getElem_of_mem hx
 have:=KT h j hj
 unfold kI at this
 split at this
 ·cases this
 split at this
 ·cases this
 exact ZW this
theorem kV {α:Type} {p:α→Bool}:∀ {l:List α} {i:Nat},decide (0≤aV p l i)=l.any p
 | [],i=>by simp [aV]
 | x::l,i=>by
   rw [aV,List.any_cons]
   split
   ·rename_i h; rw [h]; simp
   ·rename_i h
    have h':p x=false:=by simpa using h
    rw [kV,h',Bool.false_or]
theorem NF (l:List Int):∀ x∈aD l,x.length=1:=by
 intro x hx
 obtain ⟨n,_,rfl⟩:=List.mem_map.1 hx
 rfl
theorem aDE (l:List Int) (hl:l.length≤1000) (z:Int):Cf En 215 [.d (.sl (aD l)),.d (.int .i64 z)] [] (.d (.int .i64 (aV (fun x=>z==x) l 0))) []:=by
 refine cI aW (fn:=Tryz.f215) rfl ?_
 simp
 (repeat' first|contradiction|exact .ok|apply And.intro|intro _|(apply gc<;>simp+contextual))
 refine aL aW (fun i:Nat=>{ s:=cE [(0,.d (.sl (aD l))),(1,.d (.int .i64 z)),(7,.d (.int .i64 l.length)),(8,.d (.int .i64 i))],b:=cC [] }) (fun i=>i≤l.length∧aV (fun x=>z==x) (l.drop i) i=aV (fun x=>z==x) l 0) (fun i=>l.length - i) 0 (by simp) (aI _ [] .nil (by simp)) ?_
 rintro i ⟨hi,hf⟩
 by_cases hlt:i<l.length
 ·rw [dM hlt] at hf
  have hw:=wI (n:=(i:Int)+1)
  obtain ⟨u,hu⟩:∃ u,u=l[i]:=⟨_,rfl⟩
  have hgi:∀ h,l[i]'h=u:=fun _=>hu.symm
  have hg:=eE hlt
  rw [← hu] at hf hg
  by_cases he:z=u
  ·subst he
   rw [if_pos (by simp)] at hf
   simp [hlt,hgi,← hf]
   all_goals exact gz
  ·rw [if_neg (by simpa using he)] at hf
   simp [hlt,hgi,he]
   (repeat' first|contradiction|exact .ok|apply And.intro|intro _|(apply gc<;>simp+contextual[he]))
   refine ⟨i+1,⟨by omega,by simpa using hf⟩,?_,by simp; omega⟩
   exact aI _ [] .nil (by simp [hw])
 obtain rfl:i=l.length:=by omega
 rw [List.drop_length,aV] at hf
 simp [← hf]
 all_goals exact gz
theorem jZ (l:List Int) (hl:l.length≤1000) (z:Int):Cf En 161 [.d (.sl (aD l)),.d (.int .i64 z)] [] (.d (.bool (l.contains z))) []:=by
 refine cI aW (fn:=Tryz.f161) rfl ?_
 have h:=kV (p:=fun x=>z==x) (l:=l) (i:=0)
 have hc:l.contains z=l.any fun x=>z==x:=by rw [List.contains_eq_any_beq]
 rw [hc]
 simp
 (repeat' first|contradiction|exact .ok|apply And.intro|intro _|(apply gc<;>simp+contextual))
 refine aP (aDE l hl z) ?_
 simp [h]
 all_goals exact gz
theorem aFw (x:Tb) (hx:x.ok) (l:List Int) (hl:l.length≤1000):Cf En 240 [x.a,.d (.sl (aD l))] [] (.d (.int .i64 (iB x l))) []:=by
 refine cI aW (fn:=Tryz.f240) rfl ?_
 have hcl:=hx.cols
 simp [Tb.a,Tb.c]
 (repeat' first|contradiction|exact .ok|apply And.intro|intro _|(apply gc<;>simp+contextual))
 refine aL aW (fun i:Nat=>{ s:=cE [(1,.d (.sl (aD l))),(2,.ptr 2 0 0),(7,.d (.sl (aD l))),(8,.d (.int .i64 l.length)),(9,.d (.int .i64 i))],b:=cC [(2,2,.var (x.c.map AV.d))] }) (fun i=>i≤l.length∧ZV x.cols.length (l.take i) (l.drop i)=ZV x.cols.length [] l) (fun i=>l.length - i) 0 (by simp) (sM _ [(2,2,_)] (by simp [aB,Blk.live,Tb.c]) (by simp [aB])) ?_
 rintro i ⟨hi,hf⟩
 by_cases hlt:i<l.length
 ·rw [PO hlt] at hf
  have hw:=wI (n:=(i:Int)+1)
  obtain ⟨u,hu⟩:∃ u,u=l[i]:=⟨_,rfl⟩
  have hgi:∀ h,l[i]'h=u:=fun _=>hu.symm
  have hg:=eE hlt
  rw [← hu] at hf hg
  have htk:(aD l).take i=aD (l.take i):=by simp [aD,List.map_take]
  have hbad:(decide (0≤u)&&(decide (u<x.cols.length)&&!(l.take i).contains u))=false→iB x l=6:=fun h=>by
   rw [h,Bool.false_and] at hf
   unfold iB mS
   rw [← hf]; rfl
  by_cases h1:u<0
  ·have hb:=hbad (by simp; intro h; omega)
   simp [hlt,hgi,h1,hb]
   (repeat' first|contradiction|exact .ok|apply And.intro|intro _|(apply gc<;>simp+contextual[h1]))
  by_cases h2:(x.cols.length:Int)≤u
  ·have hb:=hbad (by simp; intro h h'; omega)
   simp [hlt,hgi,h1,h2,hb,Tb.c]
   (repeat' first|contradiction|exact .ok|apply And.intro|intro _|(apply gc<;>simp+contextual[h1,h2,Tb.c]))
  have hci:=jZ (l.take i) (by simp; omega) u
  have hone:=NF (l.take i)
  have h3:0≤u:=by omega
  have h4:u<x.cols.length:=by omega
  cases hc:(l.take i).contains u with
  | true =>
    have hb:=hbad (by rw [hc]; simp)
    rw [hc] at hci
    simp [hlt,hgi,h1,h2,hb,Tb.c,htk]
    (repeat' first|contradiction|exact .ok|apply And.intro|intro _|(apply gc<;>simp+contextual[h1,h2,Tb.c,htk]))
    rw [if_pos ⟨hi,hone⟩]
    simp
    (repeat' first|contradiction|exact .ok|apply And.intro|intro _|(apply gc<;>simp+contextual))
    refine aP hci ?_
    simp [hb]
    all_goals exact gz
  | false =>
    rw [hc] at hci
    simp [hlt,hgi,h1,h2,Tb.c,htk]
    (repeat' first|contradiction|exact .ok|apply And.intro|intro _|(apply gc<;>simp+contextual[h1,h2,Tb.c,htk]))
    rw [if_pos ⟨hi,hone⟩]
    simp
    (repeat' first|contradiction|exact .ok|apply And.intro|intro _|(apply gc<;>simp+contextual))
    refine aP hci ?_
    simp
    (repeat' first|contradiction|exact .ok|apply And.intro|intro _|(apply gc<;>simp+contextual))
    refine ⟨i+1,⟨by omega,?_⟩,?_,by simp; omega⟩
    ·rw [← hf,hc]; simp [h3,h4]
    ·exact sM _ [(2,2,_)] (by simp [aB,Blk.live]) (by simp [aB,hw])
 obtain rfl:i=l.length:=by omega
 rw [List.drop_length,ZV] at hf
 cases l with
 | nil =>
   simp [iB,mS]
   all_goals exact gz
 | cons a l =>
   have hk:iB x (a::l)=0:=by unfold iB mS; rw [← hf]; rfl
   have hne:¬ ((l.length:Int)+1=0):=by omega
   simp [hk,hne]
   (repeat' first|contradiction|exact .ok|apply And.intro|intro _|(apply gc<;>simp+contextual[hne]))
theorem CI:∀ (m:Nat) (e:Ex),SizeOf.sizeOf e<m→∀ q:Nat,e.few q=true→e.nodes≤1048576→Cf En 136 [e.a] [] (.d (gI e.cols)) []
 | 0,_,h,_,_,_=>absurd h (by omega)
 | m+1,.mk o c n t g ks,hm,q,hq,hn=>by
   obtain ⟨hk,ht,hfew⟩:=hJ hq
   rw [Ex.nodes] at hn
   have:=rO ks
   exact NA o c n g t ks hk (by omega) fun e he=>by
    have:=lJ ks e he
    exact CI m e (by have:=Ex.kid_lt (e:=.mk o c n t g ks) (k:=e) he; omega) (q+1) (hfew e he) (by omega)
theorem JJ:∀ (m:Nat) (e:Ex),SizeOf.sizeOf e<m→∀ q:Nat,e.few q=true→e.nodes≤1048576→Cf En 108 [e.a] [] (.d (gI e.rcols)) []
 | 0,_,h,_,_,_=>absurd h (by omega)
 | m+1,.mk o c n t g ks,hm,q,hq,hn=>by
   obtain ⟨hk,ht,hfew⟩:=hJ hq
   rw [Ex.nodes] at hn
   exact NC o c n g t ks hk (by omega) fun e he=>by
    have:=lJ ks e he
    exact JJ m e (by have:=Ex.kid_lt (e:=.mk o c n t g ks) (k:=e) he; omega) (q+1) (hfew e he) (by omega)
theorem aGH (x:Tb) (c:Int) (h:0≤c∧c<x.cols.length):Cf En 241 [.d (.int .i64 c),.ptr 1000000 0 0] [.var (x.c.map AV.d)] (.d (.bool (oV x c))) [.var (x.c.map AV.d)]:=by
 refine cI aW (fn:=Tryz.f241) rfl ?_
 obtain ⟨k,rfl⟩:∃ k:Nat,c=k:=⟨c.toNat,by omega⟩
 have hk:k<x.cols.length:=by omega
 obtain ⟨u,hu⟩:∃ u,u=x.cols[k]:=⟨_,rfl⟩
 have hgi:∀ h,x.cols[k]'h=u:=fun _=>hu.symm
 have hn:oV x k=u.b:=by unfold oV; rw [Int.toNat_natCast,gE hk,hgi]; rfl
 rw [hn]
 simp [Tb.c,hk,hgi,Col.c]
 all_goals exact gz
theorem aGI (x:Tb) (l:List Int) (hl:l.length≤1000) (hr:∀ c∈l,0≤c∧c<x.cols.length):Cf En 126 [.d (.sl (aD l)),.clo 241 [.ptr 1000000 0 0]] [.var (x.c.map AV.d)] (.d (.int .i64 (aV (oV x) l 0))) [.var (x.c.map AV.d)]:=by
 refine cI aW (fn:=Tryz.f126) rfl ?_
 simp
 (repeat' first|contradiction|exact .ok|apply And.intro|intro _|(apply gc<;>simp+contextual))
 refine aL aW (fun i:Nat=>{ s:=cE [(0,.d (.sl (aD l))),(1,.clo 241 [.ptr 1000000 0 0]),(7,.d (.int .i64 l.length)),(8,.d (.int .i64 i))],b:=cC [(1000000,1000000,.var (x.c.map AV.d))] }) (fun i=>i≤l.length∧aV (oV x) (l.drop i) i=aV (oV x) l 0) (fun i=>l.length - i) 0 (by simp) (aI _ [(1000000,1000000,_)] ⟨by simp,by simp,by simp [aB,Blk.live,Tb.c],bK⟩ (by simp [aB])) ?_
 rintro i ⟨hi,hf⟩
 by_cases hlt:i<l.length
 ·rw [dM hlt] at hf
  obtain ⟨u,hu⟩:∃ u,u=l[i]:=⟨_,rfl⟩
  have hg:=eE hlt
  have hgi:∀ h,l[i]'h=u:=fun _=>hu.symm
  have hru:=hr u (by rw [hu]; exact List.getElem_mem hlt)
  rw [← hu] at hf hg
  have hw:=wI (n:=(i:Int)+1)
  simp [hlt,hgi]
  (repeat' first|contradiction|exact .ok|apply And.intro|intro _|(apply gc<;>simp+contextual))
  refine aH [1000000] (aGH x u hru) (by simp [Tb.c]) (by simp) ?_
  cases he:oV x u
  ·rw [he] at hf
   simp
   (repeat' first|contradiction|exact .ok|apply And.intro|intro _|(apply gc<;>simp+contextual[he]))
   refine ⟨i+1,⟨by omega,by simpa using hf⟩,?_,by simp; omega⟩
   exact aI _ [(1000000,1000000,_)] ⟨by simp,by simp,by simp [aB,Blk.live,Tb.c],bK⟩ (by simp [aB,hw])
  ·rw [he] at hf
   simp only [if_true] at hf
   simp [← hf,Tb.c]
   (repeat' first|contradiction|exact .ok|apply And.intro|intro _|(apply gc<;>simp+contextual[he]))
 obtain rfl:i=l.length:=by omega
 rw [List.drop_length,aV] at hf
 simp [← hf,Tb.c]
 all_goals exact gz
theorem aGJ (x:Tb) (l:List Int) (hl:l.length≤1000) (hr:∀ c∈l,0≤c∧c<x.cols.length):Cf En 83 [.d (.sl (aD l)),.clo 241 [.ptr 1000000 0 0]] [.var (x.c.map AV.d)] (.d (.bool (l.any (oV x)))) [.var (x.c.map AV.d)]:=by
 refine cI aW (fn:=Tryz.f83) rfl ?_
 have h:=kV (p:=oV x) (l:=l) (i:=0)
 simp
 (repeat' first|contradiction|exact .ok|apply And.intro|intro _|(apply gc<;>simp+contextual))
 refine aH [1000000] (aGI x l hl hr) (by simp [Tb.c]) (by simp) ?_
 simp [h,Tb.c]
 all_goals exact gz
theorem aCy (l:List (List Int)) (hl:l.length≤1000):Cf En 242 [.d (.sl (l.map oX))] [] (.ref 1000000 0 l.length 1) [.arr 22 1 (l.map oX) false]:=by
 refine cJ aW (fn:=Tryz.f242) rfl ?_
 cases l with
 | nil =>
   simp
   (repeat' first|contradiction|exact .ok|apply And.intro|intro _|(apply gc<;>simp+contextual))
   ·refine EndsS.mk _ (pL (i:=2) (m:=9) (ety:=22) (sz:=1) (by simp) ?_ (by decide) (by decide)) ?_
    ·simp
    ·exact ⟨_,[(1000000,9,.arr 22 1 [] false)],by simp; rfl,⟨by simp,by simp,by simp [aB,Blk.live],by simp⟩,by simp [List.zipIdx,aM],by simp [aB]⟩
   ·refine EndsS.mk _ (.refl _ _ _ _) ?_
    exact ⟨_,[(1000000,7,.arr 22 1 [] false)],by simp; rfl,⟨by simp,by simp,by simp [aB,Blk.live],by simp⟩,by simp [List.zipIdx,aM],by simp [aB]⟩
 | cons a l =>
   have hs:=gF (l.length+1) (by simp at hl; omega) 24 (by decide)
   have hs2:=gF l.length (by simp at hl; omega) 24 (by decide)
   simp [hs,oX]
   (repeat' first|contradiction|exact .ok|apply And.intro|intro _|(apply gc<;>simp+contextual))
   refine EndsS.mk _ (.refl _ _ _ _) ?_
   exact ⟨_,[(1000000,7,.arr 22 1 ((a::l).map oX) false)],by simp; rfl,⟨by simp,by simp,by simp [aB,Blk.live,oX],by simp⟩,by simp [List.zipIdx,aM]; rfl,by simp [aB]⟩
theorem ZJ {x:Tb} {l:List (List Int)} {i:Nat} (h:i<l.length):bG (fun _=>iB x) (l.drop i) i=if iB x l[i] ≠ 0 then iB x l[i] else bG (fun _=>iB x) (l.drop (i+1)) (i+1):=eL h
def sA (x:Tb) (j:Nat):List (List Int):=x.un++(x.fk.take j).map Fk.cols
theorem ZK {x:Tb} {j:Nat} (h:j≤x.fk.length):(sA x j).length=x.un.length+j:=by
 unfold sA; simp; omega
theorem TJ (x:Tb):sA x 0=x.un:=by simp [sA]
theorem TL (x:Tb):sA x x.fk.length=x.un++x.fk.map Fk.cols:=by simp [sA]
theorem TM {x:Tb} {j:Nat} (h:j<x.fk.length):sA x (j+1)=sA x j++[x.fk[j].cols]:=by unfold sA; rw [bI h,List.map_append,List.append_assoc]; rfl
theorem aGK (x:Tb) (hx:x.ok) (hu:∀ l∈x.un,l.length≤1000):Cf En 209 [x.a] [] (.d (.int .i64 (gD x))) []:=by
 refine cI aW (fn:=Tryz.f209) rfl ?_
 have hpl:=hx.pr
 have hfl:=hx.fk
 have hul:=hx.un
 simp [Tb.a,Tb.c]
 (repeat' first|contradiction|exact .ok|apply And.intro|intro _|(apply gc<;>simp+contextual))
 refine aA (aFw x hx x.pr hpl) (by simp [Tb.a,Tb.c]) ?_
 by_cases hk:iB x x.pr=0
 rotate_left
 ·have hr:gD x=iB x x.pr:=by unfold gD; rw [fK hk]
  rw [hr]
  simp [hk]
  (repeat' first|contradiction|exact .ok|apply And.intro|intro _|(apply gc<;>simp+contextual[hk]))
 have hin:∀ k∈x.pr,0≤k∧k<x.cols.length:=by
  unfold iB at hk
  split at hk
  ·rename_i hb; exact yF hb
  ·cases hk
 simp [hk]
 (repeat' first|contradiction|exact .ok|apply And.intro|intro _|(apply gc<;>simp+contextual))
 refine aH [1] (aGJ x x.pr hpl hin) (by simp [Tb.c]) (by simp) ?_
 cases hn:x.pr.any (oV x) with
 | true =>
   have hr:gD x=4:=by unfold gD; rw [hk,eY,hn]; rfl
   rw [hr]
   simp [Tb.c]
   all_goals exact gz
 | false =>
   have hr:gD x=bG (fun _=>iB x) (x.un++x.fk.map Fk.cols) 0:=by unfold gD; rw [hk,eY,hn]; exact eY
   rw [hr]
   clear hr hn hk hin
   simp [Tb.c]
   (repeat' first|contradiction|exact .ok|apply And.intro|intro _|(apply gc<;>simp+contextual))
   refine eM [] (aCy x.un hul) rfl (by simp) (by simp) (by decide) (by simp) (by simp) (by simp) ?_
   simp
   (repeat' first|contradiction|exact .ok|apply And.intro|intro _|(apply gc<;>simp+contextual))
   refine aL aW (fun j:Nat=>{ s:=cE [(1,.ptr 1 0 0),(4,.ref 900 0 (x.un.length+j) 1),(25,.d (.sl (x.fk.map Fk.c))),(26,.d (.int .i64 x.fk.length)),(27,.d (.int .i64 j))],b:=cC [(1,1,.var (x.c.map AV.d)),(900,900,.arr 22 1 ((sA x j).map oX) false)] }) (fun j=>j≤x.fk.length) (fun j=>x.fk.length - j) 0 (by simp)
    (sM _ [(1,1,_),(900,24000,_)] (by simp [aB,Blk.live,Tb.c,TJ]) (by simp [aB])) ?_
   intro j hj
   have hLl:=ZK hj
   by_cases hjl:j<x.fk.length
   ·obtain ⟨f,hf⟩:∃ f,f=x.fk[j]:=⟨_,rfl⟩
    have hgf:∀ h,x.fk[j]'h=f:=fun _=>hf.symm
    have hwj:=wI (n:=(j:Int)+1)
    have hnx:=TM hjl
    rw [← hf] at hnx
    generalize hL:sA x j=L at *
    have htk:(L.map oX).take (x.un.length+j)=L.map oX:=List.take_of_length_le (by simp [hLl])
    simp [hjl,hgf,Fk.c,hLl,gF (x.un.length+j+1) (by omega) 24 (by decide)]
    (repeat' first|contradiction|exact .ok|apply And.intro|intro _|(apply gc<;>simp+contextual))
    refine ⟨j+1,by omega,?_,by simp; omega⟩
    exact sM _ [(1,1,_),(900,35,_)] (by simp [aB,Blk.live,Tb.c,hnx,oX]) (by simp [aB,hwj]; try omega)
   obtain rfl:j=x.fk.length:=by omega
   rw [TL] at *
   generalize hL:x.un++x.fk.map Fk.cols=L at *
   have hLm:∀ l∈L,l.length≤1000:=by
    intro l hl
    rw [← hL] at hl
    rcases List.mem_append.1 hl with h | h
    ·exact hu l h
    ·obtain ⟨f,hf,rfl⟩:=List.mem_map.1 h
     exact hx.fkc f hf
   simp
   (repeat' first|contradiction|exact .ok|apply And.intro|intro _|(apply gc<;>simp+contextual))
   refine aL aW (fun j:Nat=>{ s:=cE [(1,.ptr 1 0 0),(37,.ref 900 0 L.length 1),(38,.d (.int .i64 L.length)),(39,.d (.int .i64 j))],b:=cC [(1,1,.var (x.c.map AV.d)),(900,900,.arr 22 1 (L.map oX) false)] }) (fun j=>j≤L.length∧bG (fun _=>iB x) (L.drop j) j=bG (fun _=>iB x) L 0) (fun j=>L.length - j) 0 (by simp)
    (sM _ [(1,1,_),(900,900,_)] (by simp [aB,Blk.live,Tb.c]) (by simp [aB,hLl])) ?_
   rintro j ⟨hj,hs⟩
   by_cases hjl:j<L.length
   ·rw [ZJ hjl] at hs
    obtain ⟨l,hl⟩:∃ l,l=L[j]:=⟨_,rfl⟩
    have hgf:∀ h,L[j]'h=l:=fun _=>hl.symm
    rw [← hl] at hs
    have hwj:=wI (n:=(j:Int)+1)
    simp [hjl,hgf,oX,Tb.c]
    (repeat' first|contradiction|exact .ok|apply And.intro|intro _|(apply gc<;>simp+contextual))
    refine aA (aFw x hx l (hLm l (by rw [hl]; exact List.getElem_mem hjl))) (by simp [Tb.a,Tb.c]) ?_
    by_cases hk:iB x l=0
    ·rw [if_neg (by simpa using hk)] at hs
     simp [hk]
     (repeat' first|contradiction|exact .ok|apply And.intro|intro _|(apply gc<;>simp+contextual))
     refine ⟨j+1,⟨by omega,hs⟩,?_,by simp; omega⟩
     exact sM _ [(1,1,_),(900,900,_)] (by simp [aB,Blk.live]) (by simp [aB,hwj])
    ·rw [if_pos hk] at hs
     rw [← hs]
     simp [hk]
     (repeat' first|contradiction|exact .ok|apply And.intro|intro _|(apply gc<;>simp+contextual[hk]))
   obtain rfl:j=L.length:=by omega
   rw [fJ (Nat.le_refl _)] at hs
   rw [← hs]
   simp
   all_goals exact gz
def yC (x:Tb) (j:Nat):List Int:=(x.cols.take j).map Col.t
theorem PM {x:Tb} {j:Nat} (h:j≤x.cols.length):(yC x j).length=j:=by unfold yC; simp; omega
theorem HP {x:Tb} {j:Nat} (h:j<x.cols.length):yC x (j+1)=yC x j++[x.cols[j].t]:=by unfold yC; rw [bI h,List.map_append]; rfl
theorem HQ (x:Tb):yC x x.cols.length=x.cols.map Col.t:=by simp [yC]
theorem yD (l:List Int) (z:Int):aD (l++[z])=aD l++[[.int .i64 z]]:=by simp [aD]
theorem aFa (x:Tb) (hx:x.ok):Cf En 210 [x.a] [] (.d (.sl (aD (x.cols.map Col.t)))) []:=by
 refine cI aW (fn:=Tryz.f210) rfl ?_
 have hl:=hx.cols
 simp [Tb.a,Tb.c]
 (repeat' first|contradiction|exact .ok|apply And.intro|intro _|(apply gc<;>simp+contextual))
 refine aL aW (fun j:Nat=>{ s:=cE [(3,.ref 900 0 j 1),(7,.d (.sl (x.cols.map Col.c))),(8,.d (.int .i64 x.cols.length)),(9,.d (.int .i64 j))],b:=cC [(900,900,.arr 3 1 (aD (yC x j)) false)] }) (fun j=>j≤x.cols.length) (fun j=>x.cols.length - j) 0 (by simp)
  (fD 3 900 3 1 (by simp) (by simp) (by decide) (by decide) _ [(900,900,_)] ⟨by simp,by simp,by simp [aB,Blk.live,yC,aD],by simp⟩ (by simp [aB])) ?_
 intro j hj
 have hLl:=PM hj
 by_cases hjl:j<x.cols.length
 ·obtain ⟨c,hc⟩:∃ c,c=x.cols[j]:=⟨_,rfl⟩
  have hgc:∀ h,x.cols[j]'h=c:=fun _=>hc.symm
  have hwj:=wI (n:=(j:Int)+1)
  have hnx:=HP hjl
  rw [← hc] at hnx
  generalize hL:yC x j=L at *
  have htk:(aD L).take j=aD L:=List.take_of_length_le (by simp [hLl])
  simp [hjl,hgc,Col.c,hLl,htk,gF (j+1) (by omega) 8 (by decide)]
  (repeat' first|contradiction|exact .ok|apply And.intro|intro _|(apply gc<;>simp+contextual))
  refine ⟨j+1,by omega,?_,by simp; omega⟩
  exact sM _ [(900,17,_)] (by simp [aB,Blk.live,hnx,yD]) (by simp [aB,hwj])
 obtain rfl:j=x.cols.length:=by omega
 rw [HQ]
 have htk:(aD (x.cols.map Col.t)).take x.cols.length=aD (x.cols.map Col.t):=List.take_of_length_le (by simp)
 simp [htk]
 all_goals exact gz
theorem aCM (x:Tb) (hx:x.ok):Cf En 172 [x.a] [] (.d (.sl (aD (x.cols.map Col.t)))) []:=by
 refine cI aW (fn:=Tryz.f172) rfl ?_
 have hl:=hx.cols
 simp [Tb.a,Tb.c]
 (repeat' first|contradiction|exact .ok|apply And.intro|intro _|(apply gc<;>simp+contextual))
 refine aL aW (fun j:Nat=>{ s:=cE [(1,.ptr 1 0 0),(3,.ref 900 0 j 1),(4,.d (.int .i64 j))],b:=cC [(1,1,.var (x.c.map AV.d)),(900,900,.arr 3 1 (aD (yC x j)) false)] }) (fun j=>j≤x.cols.length) (fun j=>x.cols.length - j) 0 (by simp)
  (fD 3 900 3 1 (by simp) (by simp) (by decide) (by decide) _ [(1,1,_),(900,900,_)] ⟨by simp,by simp,by simp [aB,Blk.live,yC,aD,Tb.c],by simp⟩ (by simp [aB])) ?_
 intro j hj
 have hLl:=PM hj
 by_cases hjl:j<x.cols.length
 ·obtain ⟨c,hc⟩:∃ c,c=x.cols[j]:=⟨_,rfl⟩
  have hgc:∀ h,x.cols[j]'h=c:=fun _=>hc.symm
  have hwj:=wI (n:=(j:Int)+1)
  have hnx:=HP hjl
  rw [← hc] at hnx
  generalize hL:yC x j=L at *
  have htk:(aD L).take j=aD L:=List.take_of_length_le (by simp [hLl])
  simp [hjl,hgc,Tb.c,Col.c,hLl,htk,gF (j+1) (by omega) 8 (by decide)]
  (repeat' first|contradiction|exact .ok|apply And.intro|intro _|(apply gc<;>simp+contextual))
  refine ⟨j+1,by omega,?_,by simp; omega⟩
  exact sM _ [(1,1,_),(900,20,_)] (by simp [aB,Blk.live,hnx,yD]) (by simp [aB,hwj])
 obtain rfl:j=x.cols.length:=by omega
 rw [HQ]
 have htk:(aD (x.cols.map Col.t)).take x.cols.length=aD (x.cols.map Col.t):=List.take_of_length_le (by simp)
 simp [Tb.c,htk]
 all_goals exact gz
theorem EC (x:Tb) (hx:x.ok) (l:List Int) (hl:l.length≤1000):Cf En 171 [x.a,.d (.sl (aD l))] [] (.d (.bool (mS x.cols.length l))) []:=by
 refine cI aW (fn:=Tryz.f171) rfl ?_
 have hcl:=hx.cols
 simp [Tb.a,Tb.c]
 (repeat' first|contradiction|exact .ok|apply And.intro|intro _|(apply gc<;>simp+contextual))
 refine aL aW (fun i:Nat=>{ s:=cE [(1,.d (.sl (aD l))),(2,.ptr 2 0 0),(5,.d (.int .i64 i))],b:=cC [(2,2,.var (x.c.map AV.d))] }) (fun i=>i≤l.length∧ZV x.cols.length (l.take i) (l.drop i)=ZV x.cols.length [] l) (fun i=>l.length - i) 0 (by simp) (sM _ [(2,2,_)] (by simp [aB,Blk.live,Tb.c]) (by simp [aB])) ?_
 rintro i ⟨hi,hf⟩
 by_cases hlt:i<l.length
 ·rw [PO hlt] at hf
  have hw:=wI (n:=(i:Int)+1)
  obtain ⟨u,hu⟩:∃ u,u=l[i]:=⟨_,rfl⟩
  have hgi:∀ h,l[i]'h=u:=fun _=>hu.symm
  have hg:=eE hlt
  rw [← hu] at hf hg
  have hbad:(decide (0≤u)&&(decide (u<x.cols.length)&&!(l.take i).contains u))=false→mS x.cols.length l=false:=fun h=>by
   rw [h,Bool.false_and] at hf
   unfold mS
   rw [← hf]; rfl
  by_cases h1:u<0
  ·have hb:=hbad (by simp; intro h; omega)
   simp [hlt,hgi,h1,hb]
   (repeat' first|contradiction|exact .ok|apply And.intro|intro _|(apply gc<;>simp+contextual[h1]))
  by_cases h2:(x.cols.length:Int)≤u
  ·have hb:=hbad (by simp; intro h h'; omega)
   simp [hlt,hgi,h1,h2,hb,Tb.c]
   (repeat' first|contradiction|exact .ok|apply And.intro|intro _|(apply gc<;>simp+contextual[h1,h2,Tb.c,hlt,hgi,hg]))
  have h3:0≤u:=by omega
  have h4:u<x.cols.length:=by omega
  simp [hlt,hgi,h1,h2,Tb.c]
  (repeat' first|contradiction|exact .ok|apply And.intro|intro _|(apply gc<;>simp+contextual[h1,h2,Tb.c,hlt,hgi,hg]))
  refine aL aW (fun k:Nat=>{ s:=cE [(1,.d (.sl (aD l))),(2,.ptr 2 0 0),(5,.d (.int .i64 i)),(6,.d (.int .i64 k))],b:=cC [(2,2,.var (x.c.map AV.d))] }) (fun k=>k≤i∧(l.take k).contains u=false) (fun k=>i - k) 0 (by simp) (sM _ [(2,2,_)] (by simp [aB,Blk.live,Tb.c]) (by simp [aB])) ?_
  rintro k ⟨hk,hc⟩
  by_cases hkl:k<i
  ·have hkl2:k<l.length:=by omega
   have hgk:=eE hkl2
   have hct:=oB (c:=u) hkl2
   obtain ⟨v,hv⟩:∃ v,v=l[k]:=⟨_,rfl⟩
   have hgk2:∀ h,l[k]'h=v:=fun _=>hv.symm
   rw [← hv] at hgk hct
   have hwk:=wI (n:=(k:Int)+1)
   by_cases he:v=u
   ·subst he
    have hcc:(l.take i).contains v=true:=by
     rw [List.contains_iff_mem,hv]
     exact List.mem_take_iff_getElem.2 ⟨k,by omega,rfl⟩
    have hb:=hbad (by rw [hcc]; simp)
    simp [hkl,hkl2,hlt,hgk2,hgi,hb]
    all_goals exact gz
   ·have he':¬ u=v:=fun e=>he e.symm
    simp [hkl,hkl2,hlt,hgk2,hgi,he]
    (repeat' first|contradiction|exact .ok|apply And.intro|intro _|(apply gc<;>simp+contextual[he]))
    refine ⟨k+1,⟨by omega,by rw [hct,hc]; simpa using he'⟩,?_,by simp; omega⟩
    exact sM _ [(2,2,_)] (by simp [aB,Blk.live,Tb.c]) (by simp [aB,hwk])
  ·obtain rfl:k=i:=by omega
   simp
   (repeat' first|contradiction|exact .ok|apply And.intro|intro _|(apply gc<;>simp+contextual))
   refine ⟨k+1,⟨by omega,?_⟩,?_,by simp; omega⟩
   ·rw [← hf,hc]; simp [h3,h4]
   ·exact sM _ [(2,2,_)] (by simp [aB,Blk.live,Tb.c]) (by simp [aB,hw])
 obtain rfl:i=l.length:=by omega
 rw [List.drop_length,ZV] at hf
 unfold mS
 rw [← hf]
 cases l with
 | nil =>
   simp
   all_goals exact gz
 | cons a l =>
   have hne:(0:Int)<(l.length:Int)+1:=by omega
   simp [hne]
   (repeat' first|contradiction|exact .ok|apply And.intro|intro _|(apply gc<;>simp+contextual[hne]))
end Go.Proofs.Tryz
