import Derived.Test.YtklnfckiabhceaaGreatDoorKEnvR
set_option linter.all false
namespace Go.Proofs.Tryz
open Go.Ab
set_option maxRecDepth 100000
set_option maxHeartbeats 4000000
theorem fewC_kids {o c n:Int} {t:List UInt8} {g:Int} {ks:List Ex} {q:Nat} (hq:(Ex.mk o c n t g ks).few q=true):ks.length≤12∧t.length≤200∧∀ e∈ks,e.few (q+1)=true:=by
 rw [Ex.few] at hq
 by_cases h1:60<q
 ·simp [h1] at hq
 by_cases h2:12<ks.length
 ·simp [h1,h2] at hq
 by_cases h3:200<t.length
 ·simp [h1,h2,h3] at hq
 ·simp [h1,h2,h3] at hq
  rw [fewAll_all,List.all_eq_true] at hq
  exact ⟨by omega,by omega,hq⟩
def insF (l:List Int) (n:Int) (i:Nat):St:={ s:=mkS [(0,.d (nums l)),(1,.d (.int .i64 n)),(5,.d (.int .i64 i))],b:=mkB [] }
theorem r_insert (l:List Int) (n:Int) (hl:l.length≤1099511627776):Cf En 80 [.d (nums l),.d (.int .i64 n)] [] (.d (nums (ins l n))) []:=by
 refine cf_intro mix (fn:=Tryz.f80) (by kernel_rfl) rfl (by kernel_rfl) (by decide) (by simp) ?_
 obtain ⟨h1,h2,h3⟩:=insAt_spec l n
 have hins:ins l n=if l[insAt l n]?=some n then l else l.take (insAt l n)++n::l.drop (insAt l n):=rfl
 rw [hins]
 generalize insAt l n=k at *
 simp
 (repeat' (first|contradiction|exact .ok|apply And.intro|intro _|(refine gc (fun h=>?_) (fun h=>?_)<;>(have i:=h;(try simp at i);first|done|simp[h,i]|simp))))
 refine aloopT mix (by decide) (insF l n) (fun i:Nat=>i≤k) (fun i=>k - i) 0 (by simp) (sub_mk [(0,_),(1,_),(5,_)] [] ⟨by simp,by simp,by simp [renOf,Blk.live],by simp⟩ (by simp [renOf])) ?_
 intro i hi
 by_cases hlt:i<k
 ·have hil:i<l.length:=by omega
  have hgi:l[i]?=some l[i]:=List.getElem?_eq_getElem hil
  have hx:=h2 i _ hgi hlt
  have hil2:(i:Int)<l.length:=by omega
  simp [insF,nums,hil,hil2,hgi,hx]
  (repeat' (first|contradiction|exact .ok|apply And.intro|intro _|(refine gc (fun h=>?_) (fun h=>?_)<;>(have i:=h;(try simp at i);first|done|simp[h,i,hil,hil2,hgi,hx]|simp[hil,hil2,hgi,hx]))))
  refine ⟨i+1,by omega,?_,?_⟩
  ·refine sub_mk [(0,_),(1,_),(5,_)] [] ⟨by simp,by simp,by simp [renOf,Blk.live],by simp⟩ ?_
   simp [renOf,nums]
   exact wrap_in (by omega) (by omega)
  ·simp; omega
 ·have hie:i=k:=by omega
  subst hie
  by_cases hkl:i<l.length
  ·have hgi:l[i]?=some l[i]:=List.getElem?_eq_getElem hkl
   have hx:=h3 _ hgi
   have hx2:¬ l[i]<n:=by omega
   have hil2:(i:Int)<l.length:=by omega
   by_cases he:l[i]=n
   ·rw [if_pos (by rw [hgi,he])]
    simp [insF,nums,hkl,hil2,hgi,hx2,he]
    (repeat' (first|contradiction|exact .ok|apply And.intro|intro _|(refine gc (fun h=>?_) (fun h=>?_)<;>(have i:=h;(try simp at i);first|done|simp[h,i,hkl,hil2,hgi,hx2,he]|simp[hkl,hil2,hgi,hx2,he]))))
   ·rw [if_neg (by rw [hgi]; simpa using he)]
    have f1:∀ x:List D,x∈List.take i (List.map (fun n=>[D.int .i64 n]) l)→x.length=1:=fun x hx=>by
     obtain ⟨z,_,rfl⟩:=List.mem_map.1 (List.mem_of_mem_take hx); rfl
    have f2:∀ x:List D,x∈List.drop i (List.map (fun n=>[D.int .i64 n]) l)→x.length=1:=fun x hx=>by
     obtain ⟨z,_,rfl⟩:=List.mem_map.1 (List.mem_of_mem_drop hx); rfl
    have ftk:List.take l.length (List.map (fun n=>[D.int .i64 n]) l)=List.map (fun n=>[D.int .i64 n]) l:=List.take_of_length_le (by simp)
    have f3:min i l.length=i:=by omega
    have f4:i≤l.length:=by omega
    have f5:i*8≤140737488355328:=by omega
    have f6:(i+1)*8≤140737488355328:=by omega
    have f7:i≤9223372036854775807:=by omega
    have f8:i+1≤9223372036854775807:=by omega
    have f9:(i+1+(l.length - i))*8≤140737488355328:=by omega
    have f10:i+1+(l.length - i)≤9223372036854775807:=by omega
    have f11:i≤9223372036854775806:=by omega
    simp [insF,nums,hkl,hil2,hgi,hx2,he]
    (repeat' (first|contradiction|exact .ok|apply And.intro|intro _|(refine gc (fun h=>?_) (fun h=>?_)<;>(have i:=h;(try simp at i);first|done|simp[h,i,hkl,hil2,hgi,hx2,he]|simp[hkl,hil2,hgi,hx2,he]))))
    all_goals rw [if_pos ⟨f4,f1⟩]
    all_goals simp [f3,f4,f5,f6,f7,f8,f9,f10,f11]
    all_goals rw [if_pos f1]
    all_goals simp [f3,f4,f5,f6,f7,f8,f9,f10,f11]
    (repeat' (first|contradiction|exact .ok|apply And.intro|intro _|(refine gc (fun h=>?_) (fun h=>?_)<;>(have i:=h;(try simp at i);first|done|simp[h,i]|simp))))
    all_goals (first | rw [ftk,if_pos f2] | rw [if_pos f2])
    all_goals simp [f3,f4,f5,f6,f7,f8,f9,f10,f11]
    all_goals rw [if_pos f2]
    all_goals simp [f3,f4,f5,f6,f7,f8,f9,f10,f11]
    (repeat' (first|contradiction|exact .ok|apply And.intro|intro _|(refine gc (fun h=>?_) (fun h=>?_)<;>(have i:=h;(try simp at i);first|done|simp[h,i]|simp))))
    all_goals
     rw [if_pos (by omega),List.take_of_length_le (by simp <;> omega)]
     try simp [List.map_take,List.map_drop]
  ·have hgi:l[i]?=none:=List.getElem?_eq_none (by omega)
   rw [if_neg (by rw [hgi]; simp)]
   have hil2:¬ (i:Int)<l.length:=by omega
   have f1:∀ x:List D,x∈List.take i (List.map (fun n=>[D.int .i64 n]) l)→x.length=1:=fun x hx=>by
    obtain ⟨z,_,rfl⟩:=List.mem_map.1 (List.mem_of_mem_take hx); rfl
   have f2:∀ x:List D,x∈List.drop i (List.map (fun n=>[D.int .i64 n]) l)→x.length=1:=fun x hx=>by
    obtain ⟨z,_,rfl⟩:=List.mem_map.1 (List.mem_of_mem_drop hx); rfl
   have ftk:List.take l.length (List.map (fun n=>[D.int .i64 n]) l)=List.map (fun n=>[D.int .i64 n]) l:=List.take_of_length_le (by simp)
   have f3:min i l.length=i:=by omega
   have f4:i≤l.length:=by omega
   have f5:i*8≤140737488355328:=by omega
   have f6:(i+1)*8≤140737488355328:=by omega
   have f7:i≤9223372036854775807:=by omega
   have f8:i+1≤9223372036854775807:=by omega
   have f9:(i+1+(l.length - i))*8≤140737488355328:=by omega
   have f10:i+1+(l.length - i)≤9223372036854775807:=by omega
   have f11:i≤9223372036854775806:=by omega
   simp [insF,nums,hkl,hil2,hgi]
   (repeat' (first|contradiction|exact .ok|apply And.intro|intro _|(refine gc (fun h=>?_) (fun h=>?_)<;>(have i:=h;(try simp at i);first|done|simp[h,i,hkl,hil2,hgi]|simp[hkl,hil2,hgi]))))
   all_goals rw [if_pos ⟨f4,f1⟩]
   all_goals simp [f3,f4,f5,f6,f7,f8,f9,f10,f11]
   all_goals rw [if_pos f1]
   all_goals simp [f3,f4,f5,f6,f7,f8,f9,f10,f11]
   (repeat' (first|contradiction|exact .ok|apply And.intro|intro _|(refine gc (fun h=>?_) (fun h=>?_)<;>(have i:=h;(try simp at i);first|done|simp[h,i]|simp))))
   all_goals (first | rw [ftk,if_pos f2] | rw [if_pos f2])
   all_goals simp [f3,f4,f5,f6,f7,f8,f9,f10,f11]
   all_goals rw [if_pos f2]
   all_goals simp [f3,f4,f5,f6,f7,f8,f9,f10,f11]
   (repeat' (first|contradiction|exact .ok|apply And.intro|intro _|(refine gc (fun h=>?_) (fun h=>?_)<;>(have i:=h;(try simp at i);first|done|simp[h,i]|simp))))
   all_goals
    rw [if_pos (by omega),List.take_of_length_le (by simp <;> omega)]
    try simp [List.map_take,List.map_drop]
theorem foldl_ins_len:∀ (l a:List Int),(l.foldl ins a).length≤a.length+l.length
 | [],a=>by simp
 | n::l,a=>by
   have h1:=foldl_ins_len l (ins a n)
   have h2:=ins_len a n
   rw [List.foldl_cons,List.length_cons]; omega
theorem rcolsAll_take {l:List Ex} {i:Nat} {x:Ex} (a:List Int) (h:l[i]?=some x):rcolsAll a (l.take (i+1))=x.rcols.foldl ins (rcolsAll a (l.take i)):=by
 induction l generalizing i a with
 | nil=>cases h
 | cons e es ih =>
   cases i with
   | zero=>simp at h; subst h; simp [rcolsAll]
   | succ i=>rw [List.take_succ_cons,List.take_succ_cons,rcolsAll,rcolsAll,ih _ (by simpa using h)]
theorem foldl_take {l:List Int} {j:Nat} {x:Int} (a:List Int) (h:l[j]?=some x):(l.take (j+1)).foldl ins a=ins ((l.take j).foldl ins a) x:=by
 rw [List.take_add_one,h,List.foldl_append]; rfl
mutual
theorem rcols_len:∀ e:Ex,e.rcols.length≤e.nodes
 | .mk o c n t g ks=>by
   have h1:=rcolsAll_len ks []
   rw [Ex.rcols,Ex.nodes]
   split
   ·have:=ins_len (rcolsAll [] ks) g
    simp at h1; omega
   ·simp at h1; omega
theorem rcolsAll_len:∀ (l:List Ex) (a:List Int),(rcolsAll a l).length≤a.length+nodesAll l
 | [],a=>by rw [rcolsAll,nodesAll]; omega
 | e::es,a=>by
   have h1:=rcols_len e
   have h2:=rcolsAll_len es (e.rcols.foldl ins a)
   have h3:=foldl_ins_len e.rcols a
   rw [rcolsAll,nodesAll]; omega
end
theorem nodesAll_take_le (l:List Ex) (i:Nat):nodesAll (l.take i)≤nodesAll l:=by
 induction l generalizing i with
 | nil=>simp
 | cons e es ih =>
   cases i with
   | zero=>simp [nodesAll]
   | succ i=>rw [List.take_succ_cons,nodesAll,nodesAll]; have:=ih i; omega
theorem nodesAll_get:∀ (l:List Ex),∀ e∈l,e.nodes≤nodesAll l
 | e::es,x,hx=>by
   rw [nodesAll]
   rcases List.mem_cons.1 hx with rfl | hx
   ·omega
   ·have:=nodesAll_get es x hx; omega
def accV (a:List Int):AV:=if a=[] then .nils else .d (nums a)
@[simp] theorem cv_accV (r:Nat→Option Nat) (bl:Nat→Blk) (a:List Int):cvA r bl true (accV a)=(accV a,[]):=by
  unfold accV
  split <;> simp [cvA]
theorem ins_ne (a:List Int) (n:Int):ins a n ≠ []:=by
 intro h
 have:=congrArg List.length h
 unfold ins at this
 split at this
 ·rename_i h2
  have:a=[]:=List.eq_nil_of_length_eq_zero (by simpa using this)
  subst this
  simp at h2
 ·simp at this
def rcF (o c n g:Int) (t:List UInt8) (ks:List Ex) (a:AV) (i:Nat):St :=
 { s:=mkS [(1,.ptr 1 0 0),(3,a),(4,.d (.int .i64 i))],b:=mkB [(1,1,.var [.d (.int .i64 o),.d (.int .i64 c),.d (.int .i64 n),.d (.str t),.d (.int .i64 g),.d (.sl (ks.map Ex.c))])] }
def rcG (o c n g:Int) (t:List UInt8) (ks:List Ex) (a:AV) (i:Nat) (k:List Int) (j:Nat):St :=
 { s:=mkS [(1,.ptr 1 0 0),(3,a),(4,.d (.int .i64 i)),(5,.d (nums k)),(6,.d (.int .i64 j))],b:=mkB [(1,1,.var [.d (.int .i64 o),.d (.int .i64 c),.d (.int .i64 n),.d (.str t),.d (.int .i64 g),.d (.sl (ks.map Ex.c))])] }
theorem r_cols_step (o c n g:Int) (t:List UInt8) (ks:List Ex) (hk:ks.length≤12) (hn:nodesAll ks≤1048576)
  (hrec:∀ e∈ks,Cf En 33 [e.a] [] (.d (nums e.rcols)) []) :
  Cf En 33 [(Ex.mk o c n t g ks).a] [] (.d (nums (Ex.rcols (.mk o c n t g ks)))) []:=by
 refine cf_intro mix (fn:=Tryz.f33) (by kernel_rfl) rfl (by kernel_rfl) (by decide) (by simp) ?_
 simp [Ex.a,Ex.c,kidsC_map]
 (repeat' (first|contradiction|exact .ok|apply And.intro|intro _|(refine gc (fun h=>?_) (fun h=>?_)<;>(have i:=h;(try simp at i);first|done|simp[h,i]|simp))))
 refine aloopT mix (by decide) (fun i=>rcF o c n g t ks (accV (rcolsAll [] (ks.take i))) i) (fun i:Nat=>i≤ks.length) (fun i=>ks.length - i) 0 (by simp) (sub_mk [(1,_),(3,_),(4,_)] [(1,1,_)] ⟨by simp,by simp,by simp [renOf,Blk.live],by simp⟩ (by simp [renOf,accV,rcolsAll])) ?_
 intro i hi
 by_cases hlt:i<ks.length
 ·have hgi:ks[i]?=some ks[i]:=List.getElem?_eq_getElem hlt
  have c1:=Ex.clen ks[i]
  have k1:=Ex.ctake ks[i]
  have hr:=hrec ks[i] (List.getElem_mem hlt)
  have hlt2:(i:Int)<ks.length:=by omega
  have hl1:=rcolsAll_len (ks.take i) []
  have hl2:=nodesAll_take_le ks i
  have hl3:=rcols_len ks[i]
  have hl4:=nodesAll_get ks _ (List.getElem_mem hlt)
  have htk:=rcolsAll_take [] hgi
  generalize rcolsAll [] (ks.take i)=acc at *
  generalize hkc:ks[i].rcols=kc at *
  simp [rcF,hlt,hlt2,hgi,c1,k1]
  (repeat' (first|contradiction|exact .ok|apply And.intro|intro _|(refine gc (fun h=>?_) (fun h=>?_)<;>(have i:=h;(try simp at i);first|done|simp[h,i]|simp))))
  refine acallT_plain hr (by simp [Ex.a]) ?_
  simp
  (repeat' (first|contradiction|exact .ok|apply And.intro|intro _|(refine gc (fun h=>?_) (fun h=>?_)<;>(have i:=h;(try simp at i);first|done|simp[h,i]|simp))))
  refine aloopT mix (by decide) (fun j=>rcG o c n g t ks (accV ((kc.take j).foldl ins acc)) i kc j) (fun j:Nat=>j≤kc.length) (fun j=>kc.length - j) 0 (by simp) (sub_mk [(1,_),(3,_),(4,_),(5,_),(6,_)] [(1,1,_)] ⟨by simp,by simp,by simp [renOf,Blk.live],by simp⟩ (by simp [renOf])) ?_
  intro j hj
  by_cases hlj:j<kc.length
  ·have hgj:kc[j]?=some kc[j]:=List.getElem?_eq_getElem hlj
   have hlj2:(j:Int)<kc.length:=by omega
   have hfl:=foldl_ins_len (kc.take j) acc
   have hft:=foldl_take acc hgj
   generalize (kc.take j).foldl ins acc=a at *
   have hci:=r_insert a kc[j] (by simp at hfl hl1; omega)
   have hne:=ins_ne a kc[j]
   generalize hai:ins a kc[j]=a' at *
   by_cases ha:a=[]
   ·subst ha
    simp [rcG,accV,nums,hlj,hlj2,hgj]
    (repeat' (first|contradiction|exact .ok|apply And.intro|intro _|(refine gc (fun h=>?_) (fun h=>?_)<;>(have i:=h;(try simp at i);first|done|simp[h,i]|simp))))
    refine acallT_plain hci (by simp [nums]) ?_
    simp
    (repeat' (first|contradiction|exact .ok|apply And.intro|intro _|(refine gc (fun h=>?_) (fun h=>?_)<;>(have i:=h;(try simp at i);first|done|simp[h,i]|simp))))
    refine ⟨j+1,by omega,?_,?_⟩
    ·refine sub_mk [(1,_),(3,_),(4,_),(5,_),(6,_)] [(1,1,_)] ⟨by simp,by simp,by simp [renOf,Blk.live],by simp⟩ ?_
     simp [renOf,rcG,hft,accV,hne,nums]
     exact wrap_in (by omega) (by omega)
    ·simp; omega
   ·simp [rcG,accV,ha,nums,hlj,hlj2,hgj]
    (repeat' (first|contradiction|exact .ok|apply And.intro|intro _|(refine gc (fun h=>?_) (fun h=>?_)<;>(have i:=h;(try simp at i);first|done|simp[h,i]|simp))))
    refine acallT_plain hci (by simp [nums]) ?_
    simp
    (repeat' (first|contradiction|exact .ok|apply And.intro|intro _|(refine gc (fun h=>?_) (fun h=>?_)<;>(have i:=h;(try simp at i);first|done|simp[h,i]|simp))))
    refine ⟨j+1,by omega,?_,?_⟩
    ·refine sub_mk [(1,_),(3,_),(4,_),(5,_),(6,_)] [(1,1,_)] ⟨by simp,by simp,by simp [renOf,Blk.live],by simp⟩ ?_
     simp [renOf,rcG,hft,accV,hne,nums]
     exact wrap_in (by omega) (by omega)
    ·simp; omega
  ·have hje:j=kc.length:=by omega
   subst hje
   rw [List.take_length,← htk]
   simp [rcG,nums]
   (repeat' (first|contradiction|exact .ok|apply And.intro|intro _|(refine gc (fun h=>?_) (fun h=>?_)<;>(have i:=h;(try simp at i);first|done|simp[h,i]|simp))))
   refine ⟨i+1,hlt,?_,?_⟩
   ·refine sub_mk [(1,_),(3,_),(4,_)] [(1,1,_)] ⟨by simp,by simp,by simp [renOf,Blk.live],by simp⟩ ?_
    simp [renOf,rcF]
    exact wrap_in (by omega) (by omega)
   ·simp; omega
 ·have hie:i=ks.length:=by omega
  subst hie
  rw [List.take_length,Ex.rcols]
  have hl1:=rcolsAll_len ks []
  generalize rcolsAll [] ks=a at *
  have hci:=r_insert a g (by simp at hl1; omega)
  by_cases ha:a=[]
  ·subst ha
   by_cases h5:o=5
   ·rw [if_pos h5]
    simp [rcF,accV,h5,nums]
    (repeat' (first|contradiction|exact .ok|apply And.intro|intro _|(refine gc (fun h=>?_) (fun h=>?_)<;>(have i:=h;(try simp at i);first|done|simp[h,i]|simp))))
    refine acallT_plain hci (by simp [nums]) ?_
    simp
    (repeat' (first|contradiction|exact .ok|apply And.intro|intro _|(refine gc (fun h=>?_) (fun h=>?_)<;>(have i:=h;(try simp at i);first|done|simp[h,i]|simp))))
    all_goals rfl
   ·rw [if_neg h5]
    simp [rcF,accV,h5,nums]
    (repeat' (first|contradiction|exact .ok|apply And.intro|intro _|(refine gc (fun h=>?_) (fun h=>?_)<;>(have i:=h;(try simp at i);first|done|simp[h,i,h5]|simp[h5]))))
  ·by_cases h5:o=5
   ·rw [if_pos h5]
    simp [rcF,accV,h5,ha,nums]
    (repeat' (first|contradiction|exact .ok|apply And.intro|intro _|(refine gc (fun h=>?_) (fun h=>?_)<;>(have i:=h;(try simp at i);first|done|simp[h,i]|simp))))
    refine acallT_plain hci (by simp [nums]) ?_
    simp
    (repeat' (first|contradiction|exact .ok|apply And.intro|intro _|(refine gc (fun h=>?_) (fun h=>?_)<;>(have i:=h;(try simp at i);first|done|simp[h,i]|simp))))
    all_goals rfl
   ·rw [if_neg h5]
    simp [rcF,accV,h5,ha,nums]
    (repeat' (first|contradiction|exact .ok|apply And.intro|intro _|(refine gc (fun h=>?_) (fun h=>?_)<;>(have i:=h;(try simp at i);first|done|simp[h,i,h5]|simp[h5]))))
end Go.Proofs.Tryz
