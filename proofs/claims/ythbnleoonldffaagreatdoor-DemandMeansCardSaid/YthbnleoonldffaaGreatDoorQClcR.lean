import Derived.Test.YthbnleoonldffaaGreatDoorQR8c
import Derived.Test.YthbnleoonldffaaGreatDoorAbB
set_option linter.all false
namespace Go.Proofs.Tryz
open Go.Ab Go.Sort
set_option maxRecDepth 100000
set_option maxHeartbeats 4000000
def fV (l:List Int):D:=.sl (l.map fun n=>[.int .i64 n])
theorem XE (l:List Int) (hl:l.length<4611686018427387904):Cf En 261 [.ref aF 0 l.length 1] [.arr 3 1 (l.map fun z=>[.int .i64 z]) false] (.tup []) [.arr 3 1 ((tU l).map fun z=>[.int .i64 z]) false]:=by
 refine DF (by kernel_rfl) (tV l) (fun _ h l p cap w _ _ _=>?_) (fun _ h lo w _ _ _ _ _ hH hb=>?_)
 ·refine (Tryz.slices_Sort_int_none p cap w).mono ?_
  rintro e w' ⟨rfl,rfl⟩
  exact ⟨_,rfl,by simp only [aJ]; exact ⟨[],rfl,rfl⟩,rfl⟩
 ·refine (Tryz.slices_Sort_int lo.blk 0 lo.asz l w hH hb hl).mono ?_
  rintro e w' ⟨rfl,n,os,rfl⟩
  exact ⟨_,rfl,by simp only [aJ]; exact ⟨[],rfl,rfl⟩,n,os,rfl⟩
theorem OC:Cf En 261 [.d (.sl [])] [] (.tup []) []:=by
 refine qA (by kernel_rfl) fun w g vs hr m=>?_
 simp only [bA,aJ,aX] at hr
 obtain ⟨u,us,rfl,⟨a,cap,rfl,_,_⟩,rfl⟩:=hr
 refine (Tryz.slices_Sort_int_none a cap w).mono ?_
 rintro e w' ⟨rfl,rfl⟩
 exact ⟨_,rfl,by simp only [aJ]; exact ⟨[],rfl,rfl⟩,Go.RowKit.Below.refl _ _⟩
def CC (l:List Int):List Int:=Go.Lib.compact l++List.replicate (l.length - (Go.Lib.compact l).length) 0
theorem cmp_le (l:List Int):(Go.Lib.compact l).length≤l.length:=by
 unfold Go.Lib.compact Go.Lib.compactUpTo
 rw [List.length_map]
 have:=List.length_filter_le (Go.Lib.keeps l.toArray) (List.range l.length)
 rw [List.length_range] at this
 exact this
theorem DM (l:List Int) (hl:l.length≤9223372036854775807):Cf En 262 [.ref aF 0 l.length 1] [.arr 3 1 (l.map fun z=>[.int .i64 z]) false] (.ref aF 0 (Go.Lib.compact l).length 1) [.arr 3 1 ((CC l).map fun z=>[.int .i64 z]) false]:=by
 refine DF (by kernel_rfl) (by have:=cmp_le l; simp [CC]; omega) (fun h0 h lo p cap w hL hs hp=>?_) (fun h0 h lo w hL hs hn hm hle hH hb=>?_)
 ·subst h0
  refine (Tryz.slices_Compact_int_empty p cap w).mono ?_
  rintro e w' ⟨rfl,rfl⟩
  refine ⟨_,rfl,?_,rfl⟩
  have he:(Go.Lib.compact ([]:List Int)).length=0:=rfl
  rw [he]
  simp only [aJ]
  refine ⟨lo,hL,hs,?_⟩
  split
  ·rename_i hn
   rw [if_pos hn] at hp
   obtain ⟨rfl,rfl⟩:=hp
   exact ⟨rfl,trivial,trivial⟩
  ·rename_i hn
   rw [if_neg hn] at hp
   obtain ⟨rfl,h1,h2⟩:=hp
   exact ⟨cap,by rw [Nat.zero_mul],Nat.zero_le _,h1,by rw [hs]; omega⟩
 ·refine (Tryz.slices_Compact_int lo.blk 0 lo.asz l w hH hl hle).mono ?_
  rintro e w' ⟨rfl,q,rfl⟩
  refine ⟨_,rfl,?_,q,#[],by rw [grow_empty]; rfl⟩
  have:=cmp_le l
  simp only [aJ]
  refine ⟨lo,hL,hs,?_⟩
  rw [hn]
  exact ⟨lo.asz,by rw [Nat.zero_mul],by omega,hm,by rw [hs]; omega⟩
theorem CD:Cf En 262 [.d (.sl [])] [] (.d (.sl [])) []:=by
 refine qA (by kernel_rfl) fun w g vs hr m=>?_
 simp only [bA,aJ,aX] at hr
 obtain ⟨u,us,rfl,⟨a,cap,rfl,hc,hr⟩,rfl⟩:=hr
 refine (Tryz.slices_Compact_int_empty a cap w).mono ?_
 rintro e w' ⟨rfl,rfl⟩
 exact ⟨_,rfl,by simp only [aJ,aX]; exact ⟨a,cap,rfl,hc,hr⟩,Go.RowKit.Below.refl _ _⟩
mutual
def Ex.nodes:Ex→Nat
 | .mk _ _ _ _ _ ks=>aT ks+1
def aT:List Ex→Nat
 | []=>0
 | e::es=>e.nodes+aT es
end
mutual
theorem JO:∀ e:Ex,e.cols.length≤e.nodes
 | .mk o c n t g ks=>by
   rw [Ex.cols,Ex.nodes]
   have h1:=cmp_le (tU ((if o=5 then [g] else [])++bD ks))
   have h2:=qD ks
   rw [tV,List.length_append] at h1
   by_cases h:o=5 <;> simp [h] at h1 ⊢ <;> omega
theorem qD:∀ l:List Ex,(bD l).length≤aT l
 | []=>by simp [bD]
 | e::es=>by
   have h1:=JO e
   have h2:=qD es
   rw [bD,aT,List.length_append]; omega
end
theorem tX {l:List Ex} {i:Nat} {x:Ex} (h:l[i]?=some x):bD (l.take (i+1))=bD (l.take i)++x.cols:=by
 induction l generalizing i with
 | nil=>cases h
 | cons e es ih =>
   cases i with
   | zero=>simp at h; subst h; simp [bD]
   | succ i =>
     rw [List.take_succ_cons,List.take_succ_cons,bD,bD,ih (by simpa using h),List.append_assoc]
theorem gT (l:List Ex) (i:Nat):(bD (l.take i)).length≤(bD l).length:=by
 induction l generalizing i with
 | nil=>simp
 | cons e es ih =>
   cases i with
   | zero=>simp [bD]
   | succ i=>rw [List.take_succ_cons,bD,bD,List.length_append,List.length_append]; have:=ih i; omega
def clS (o c n g:Int) (t:List UInt8) (ks:List Ex) (L:List Int) (i:Nat):St :=
 { s:=cG [(1,.ptr 1 0 0),(3,.ref 900 0 L.length 1),(15,.d (.sl (ks.map Ex.c))),(16,.d (.int .i64 ks.length)),(17,.d (.int .i64 i))],b:=cE [(1,1,.var [.d (.int .i64 o),.d (.int .i64 c),.d (.int .i64 n),.d (.str t),.d (.int .i64 g),.d (.sl (ks.map Ex.c))]),(900,900,.arr 3 1 (L.map fun z=>[.int .i64 z]) false)] }
def clN (o c n g:Int) (t:List UInt8) (ks:List Ex):St :=
 { s:=cG [(1,.ptr 1 0 0),(3,.nils),(15,.d (.sl (ks.map Ex.c))),(16,.d (.int .i64 ks.length)),(17,.d (.int .i64 0))],b:=cE [(1,1,.var [.d (.int .i64 o),.d (.int .i64 c),.d (.int .i64 n),.d (.str t),.d (.int .i64 g),.d (.sl (ks.map Ex.c))])] }
theorem JP (o c n g:Int) (t:List UInt8) (ks:List Ex) (hk:ks.length≤12) (hn:(bD ks).length≤1099511627776)
  (hrec:∀ e∈ks,Cf En 191 [e.a] [] (.d (fV e.cols)) []) :
  Cf En 191 [(Ex.mk o c n t g ks).a] [] (.d (fV (Ex.cols (.mk o c n t g ks)))) []:=by
 refine aD aW (fn:=Tryz.f191) (by kernel_rfl) rfl (by kernel_rfl) (by decide) (by simp) ?_
 simp only [fV] at hrec ⊢
 by_cases h5:o=5
 ·subst h5
  rw [show Ex.cols (.mk 5 c n t g ks)=Go.Lib.compact (tU (g::bD ks)) from by rw [Ex.cols]; simp]
  simp [Ex.a,Ex.c,aC]
  (repeat' first|contradiction|exact .ok|apply And.intro|intro _|(apply gc<;>simp+contextual))
  refine aL aW (by decide) (fun i=>clS 5 c n g t ks (g::bD (ks.take i)) i) (fun i:Nat=>i≤ks.length) (fun i=>ks.length - i) 0 (by simp) (aE [(1,_),(3,_),(15,_),(16,_),(17,_)] [(1,1,_),(900,13,_)] ⟨by simp,by simp,by simp [aB,Blk.live,bD],by simp⟩ (by simp [aB,bD])) ?_
  intro i hi
  have hle:=gT ks i
  by_cases hlt:i<ks.length
  ·have hgi:ks[i]?=some ks[i]:=List.getElem?_eq_getElem hlt
   have c1:=Ex.clen ks[i]
   have k1:=Ex.ctake ks[i]
   have hr:=hrec ks[i] (List.getElem_mem hlt)
   have hlt2:(i:Int)<ks.length:=by omega
   have hle2:=gT ks (i+1)
   have htk:=tX hgi
   rw [htk,List.length_append] at hle2
   simp only [clS]
   generalize bD (ks.take i)=L at *
   have s1:(L.length+1+ks[i].cols.length)*8≤140737488355328:=by omega
   have s2:L.length+1+ks[i].cols.length≤9223372036854775807:=by omega
   simp [hlt,hlt2,hgi,c1,k1]
   (repeat' first|contradiction|exact .ok|apply And.intro|intro _|(apply gc<;>simp+contextual))
   refine aA hr (by simp [Ex.a]) ?_
   simp [s1,s2]
   (repeat' first|contradiction|exact .ok|apply And.intro|intro _|(apply gc<;>simp+contextual))
   refine ⟨i+1,hlt,?_,?_⟩
   ·refine aE [(1,_),(3,_),(15,_),(16,_),(17,_)] [(1,1,_),(900,24,_)] ⟨by simp,by simp,by simp [aB,Blk.live,htk],by simp⟩ ?_
    simp [aB,htk]
    exact ⟨by omega,aH (by omega) (by omega)⟩
   ·simp; omega
  ·have hie:i=ks.length:=by omega
   subst hie
   rw [List.take_length]
   have hz:(tU (g::bD ks)).length=(bD ks).length+1:=by rw [tV]; rfl
   have cs:=XE (g::bD ks) (by simp; omega)
   have cc:=DM (tU (g::bD ks)) (by rw [hz]; omega)
   rw [hz] at cc
   have htk:List.take (Go.Lib.compact (tU (g::bD ks))).length (List.map (fun z=>[D.int .i64 z]) (CC (tU (g::bD ks))))=List.map (fun z=>[D.int .i64 z]) (Go.Lib.compact (tU (g::bD ks))):=by
    rw [CC,List.map_append,List.take_left' (by simp)]
   have hlen:(Go.Lib.compact (tU (g::bD ks))).length≤(CC (tU (g::bD ks))).length:=by rw [CC,List.length_append]; omega
   simp only [clS]
   simp
   (repeat' first|contradiction|exact .ok|apply And.intro|intro _|(apply gc<;>simp+contextual))
   refine aK [900] cs (by simp) (by simp) (by simp) (by simp) (by simp) ?_
   generalize tU (g::bD ks)=S at *
   simp
   (repeat' first|contradiction|exact .ok|apply And.intro|intro _|(apply gc<;>simp+contextual))
   refine aK [900] cc (by simp) (by simp) (by simp) (by simp) (by simp) ?_
   generalize Go.Lib.compact S=K at *
   simp [htk,hlen]
   all_goals exact gz
 ·rw [show Ex.cols (.mk o c n t g ks)=Go.Lib.compact (tU (bD ks)) from by rw [Ex.cols,if_neg h5]; rfl]
  simp [Ex.a,Ex.c,aC,h5]
  (repeat' first|contradiction|exact .ok|apply And.intro|intro _|(apply gc<;>simp+contextual[h5]))
  refine aL aW (by decide) (fun i:Nat=>match i with | 0=>clN o c n g t ks | i+1=>clS o c n g t ks (bD (ks.take (i+1))) (i+1)) (fun i:Nat=>i≤ks.length) (fun i=>ks.length - i) 0 (by simp) (aE [(1,_),(3,_),(15,_),(16,_),(17,_)] [(1,1,_)] ⟨by simp,by simp,by simp [aB,Blk.live],by simp⟩ (by simp [aB])) ?_
  intro i hi
  have hle:=gT ks i
  by_cases hlt:i<ks.length
  ·have hgi:ks[i]?=some ks[i]:=List.getElem?_eq_getElem hlt
   have c1:=Ex.clen ks[i]
   have k1:=Ex.ctake ks[i]
   have hr:=hrec ks[i] (List.getElem_mem hlt)
   have hle2:=gT ks (i+1)
   have htk:=tX hgi
   rw [htk,List.length_append] at hle2
   cases i with
   | zero =>
     have hlt2:(0:Int)<ks.length:=by omega
     have s1:(ks[0].cols.length)*8≤140737488355328:=by omega
     have s2:ks[0].cols.length≤9223372036854775807:=by omega
     have ht0:bD (ks.take 1)=ks[0].cols:=by rw [htk]; simp [bD]
     simp [clN,hlt,hlt2,hgi,c1,k1]
     (repeat' first|contradiction|exact .ok|apply And.intro|intro _|(apply gc<;>simp+contextual))
     refine aA hr (by simp [Ex.a]) ?_
     simp [s1,s2]
     (repeat' first|contradiction|exact .ok|apply And.intro|intro _|(apply gc<;>simp+contextual))
     refine ⟨1,hlt,?_,?_⟩
     ·refine aE [(1,_),(3,_),(15,_),(16,_),(17,_)] [(1,1,_),(900,24,_)] ⟨by simp,by simp,by simp [aB,Blk.live,ht0],by simp⟩ ?_
      simp [aB,ht0]
      exact aH (by omega) (by omega)
     ·simp; omega
   | succ i =>
     have hlt2:((i+1:Nat):Int)<ks.length:=by omega
     have hlt3:(i:Int)+1<ks.length:=by omega
     have hp:(0:Int)≤(i:Int)+1:=by omega
     simp only [clS]
     generalize bD (ks.take (i+1))=L at *
     have s1:(L.length+ks[i+1].cols.length)*8≤140737488355328:=by omega
     have s2:L.length+ks[i+1].cols.length≤9223372036854775807:=by omega
     simp [hlt,hlt2,hlt3,hp,hgi,c1,k1]
     (repeat' first|contradiction|exact .ok|apply And.intro|intro _|(apply gc<;>simp+contextual))
     refine aA hr (by simp [Ex.a]) ?_
     simp [s1,s2]
     (repeat' first|contradiction|exact .ok|apply And.intro|intro _|(apply gc<;>simp+contextual))
     refine ⟨i+2,by omega,?_,?_⟩
     ·refine aE [(1,_),(3,_),(15,_),(16,_),(17,_)] [(1,1,_),(900,24,_)] ⟨by simp,by simp,by simp [aB,Blk.live,htk],by simp⟩ ?_
      simp [aB,htk]
      rw [aH (by omega) (by omega)]
     ·simp; omega
  ·have hie:i=ks.length:=by omega
   subst hie
   cases hkl:ks.length with
   | zero =>
     have:ks=[]:=List.eq_nil_of_length_eq_zero hkl
     subst this
     have he:Go.Lib.compact (tU (bD []))=[]:=by simp [bD,tU,Go.Lib.compact,Go.Lib.compactUpTo]
     rw [he]
     simp [clN]
     (repeat' first|contradiction|exact .ok|apply And.intro|intro _|(apply gc<;>simp+contextual))
     refine aA OC (by simp) ?_
     simp
     (repeat' first|contradiction|exact .ok|apply And.intro|intro _|(apply gc<;>simp+contextual))
     refine aA CD (by simp) ?_
     simp
     all_goals exact gz
   | succ i =>
     simp only []
     have hlt:¬ ((i+1:Nat):Int)<ks.length:=by omega
     have hlt2:¬ (i:Int)+1<ks.length:=by omega
     have hki:ks.take (i+1)=ks:=List.take_of_length_le (by omega)
     rw [hki]
     have cs:=XE (bD ks) (by omega)
     have cc:=DM (tU (bD ks)) (by rw [tV]; omega)
     rw [tV] at cc
     have htk:List.take (Go.Lib.compact (tU (bD ks))).length (List.map (fun z=>[D.int .i64 z]) (CC (tU (bD ks))))=List.map (fun z=>[D.int .i64 z]) (Go.Lib.compact (tU (bD ks))):=by
      rw [CC,List.map_append,List.take_left' (by simp)]
     have hlen:(Go.Lib.compact (tU (bD ks))).length≤(CC (tU (bD ks))).length:=by rw [CC,List.length_append]; omega
     simp only [clS]
     simp [hkl]
     (repeat' first|contradiction|exact .ok|apply And.intro|intro _|(apply gc<;>simp+contextual))
     refine aK [900] cs (by simp) (by simp) (by simp) (by simp) (by simp) ?_
     generalize tU (bD ks)=S at *
     simp
     (repeat' first|contradiction|exact .ok|apply And.intro|intro _|(apply gc<;>simp+contextual))
     refine aK [900] cc (by simp) (by simp) (by simp) (by simp) (by simp) ?_
     generalize Go.Lib.compact S=K at *
     simp [htk,hlen]
     all_goals exact gz
end Go.Proofs.Tryz
namespace Go.Proofs.Tryz
open Go.Ab
set_option maxRecDepth 100000
set_option maxHeartbeats 4000000
theorem gI {o c n:Int} {t:List UInt8} {g:Int} {ks:List Ex} {q:Nat} (hq:(Ex.mk o c n t g ks).few q=true):ks.length≤12∧t.length≤200∧∀ e∈ks,e.few (q+1)=true:=by
 rw [Ex.few] at hq
 by_cases h1:60<q
 ·simp [h1] at hq
 by_cases h2:12<ks.length
 ·simp [h1,h2] at hq
 by_cases h3:200<t.length
 ·simp [h1,h2,h3] at hq
 ·simp [h1,h2,h3] at hq
  rw [oP,List.all_eq_true] at hq
  exact ⟨by omega,by omega,hq⟩
def XF (l:List Int) (n:Int) (i:Nat):St:={ s:=cG [(0,.d (fV l)),(1,.d (.int .i64 n)),(5,.d (.int .i64 i))],b:=cE [] }
theorem JQ (l:List Int) (n:Int) (hl:l.length≤1099511627776):Cf En 201 [.d (fV l),.d (.int .i64 n)] [] (.d (fV (xQ l n))) []:=by
 refine aD aW (fn:=Tryz.f201) (by kernel_rfl) rfl (by kernel_rfl) (by decide) (by simp) ?_
 obtain ⟨h1,h2,h3⟩:=sD l n
 have hins:xQ l n=if l[nI l n]?=some n then l else l.take (nI l n)++n::l.drop (nI l n):=rfl
 rw [hins]
 generalize nI l n=k at *
 simp
 (repeat' first|contradiction|exact .ok|apply And.intro|intro _|(apply gc<;>simp+contextual))
 refine aL aW (by decide) (XF l n) (fun i:Nat=>i≤k) (fun i=>k - i) 0 (by simp) (aE [(0,_),(1,_),(5,_)] [] ⟨by simp,by simp,by simp [aB,Blk.live],by simp⟩ (by simp [aB])) ?_
 intro i hi
 by_cases hlt:i<k
 ·have hil:i<l.length:=by omega
  have hgi:l[i]?=some l[i]:=List.getElem?_eq_getElem hil
  have hx:=h2 i _ hgi hlt
  have hil2:(i:Int)<l.length:=by omega
  simp [XF,fV,hil,hil2,hgi,hx]
  (repeat' first|contradiction|exact .ok|apply And.intro|intro _|(apply gc<;>simp+contextual[hil,hil2,hgi,hx]))
  refine ⟨i+1,by omega,?_,?_⟩
  ·refine aE [(0,_),(1,_),(5,_)] [] ⟨by simp,by simp,by simp [aB,Blk.live],by simp⟩ ?_
   simp [aB,fV]
   exact aH (by omega) (by omega)
  ·simp; omega
 ·have hie:i=k:=by omega
  subst hie
  by_cases hkl:i<l.length
  ·have hgi:l[i]?=some l[i]:=List.getElem?_eq_getElem hkl
   have hx:=h3 _ hgi
   have hx2:¬ l[i]<n:=by omega
   have hil2:(i:Int)<l.length:=by omega
   by_cases he:l[i]=n
   ·rw [if_pos (by rw [hgi,he])]
    simp [XF,fV,hkl,hil2,hgi,hx2,he]
    (repeat' first|contradiction|exact .ok|apply And.intro|intro _|(apply gc<;>simp+contextual[hkl,hil2,hgi,hx2,he]))
   ·rw [if_neg (by rw [hgi]; simpa using he)]
    have f1:∀ x:List D,x∈List.take i (List.map (fun n=>[D.int .i64 n]) l)→x.length=1:=fun x hx=>by
     obtain ⟨z,_,rfl⟩:=List.mem_map.1 (List.mem_of_mem_take hx); rfl
    have f2:∀ x:List D,x∈List.drop i (List.map (fun n=>[D.int .i64 n]) l)→x.length=1:=fun x hx=>by
     obtain ⟨z,_,rfl⟩:=List.mem_map.1 (List.mem_of_mem_drop hx); rfl
    have ftk:List.take l.length (List.map (fun n=>[D.int .i64 n]) l)=List.map (fun n=>[D.int .i64 n]) l:=List.take_of_length_le (by simp)
    have f3:min i l.length=i:=by omega
    have f4:i≤l.length:=by omega
    have f5:i*8≤140737488355328:=by omega
    have f6:(i+1)*8≤140737488355328:=by omega
    have f7:i≤9223372036854775807:=by omega
    have f8:i+1≤9223372036854775807:=by omega
    have f9:(i+1+(l.length - i))*8≤140737488355328:=by omega
    have f10:i+1+(l.length - i)≤9223372036854775807:=by omega
    have f11:i≤9223372036854775806:=by omega
    simp [XF,fV,hkl,hil2,hgi,hx2,he]
    (repeat' first|contradiction|exact .ok|apply And.intro|intro _|(apply gc<;>simp+contextual[hkl,hil2,hgi,hx2,he]))
    all_goals rw [if_pos ⟨f4,f1⟩]
    all_goals simp [f3,f4,f5,f6,f7,f8,f9,f10,f11]
    all_goals rw [if_pos f1]
    all_goals simp [f3,f4,f5,f6,f7,f8,f9,f10,f11]
    (repeat' first|contradiction|exact .ok|apply And.intro|intro _|(apply gc<;>simp+contextual))
    all_goals (first | rw [ftk,if_pos f2] | rw [if_pos f2])
    all_goals simp [f3,f4,f5,f6,f7,f8,f9,f10,f11]
    all_goals rw [if_pos f2]
    all_goals simp [f3,f4,f5,f6,f7,f8,f9,f10,f11]
    (repeat' first|contradiction|exact .ok|apply And.intro|intro _|(apply gc<;>simp+contextual))
    all_goals
     rw [if_pos (by omega),List.take_of_length_le (by simp <;> omega)]
     try simp [List.map_take,List.map_drop]
  ·have hgi:l[i]?=none:=List.getElem?_eq_none (by omega)
   rw [if_neg (by rw [hgi]; simp)]
   have hil2:¬ (i:Int)<l.length:=by omega
   have f1:∀ x:List D,x∈List.take i (List.map (fun n=>[D.int .i64 n]) l)→x.length=1:=fun x hx=>by
    obtain ⟨z,_,rfl⟩:=List.mem_map.1 (List.mem_of_mem_take hx); rfl
   have f2:∀ x:List D,x∈List.drop i (List.map (fun n=>[D.int .i64 n]) l)→x.length=1:=fun x hx=>by
    obtain ⟨z,_,rfl⟩:=List.mem_map.1 (List.mem_of_mem_drop hx); rfl
   have ftk:List.take l.length (List.map (fun n=>[D.int .i64 n]) l)=List.map (fun n=>[D.int .i64 n]) l:=List.take_of_length_le (by simp)
   have f3:min i l.length=i:=by omega
   have f4:i≤l.length:=by omega
   have f5:i*8≤140737488355328:=by omega
   have f6:(i+1)*8≤140737488355328:=by omega
   have f7:i≤9223372036854775807:=by omega
   have f8:i+1≤9223372036854775807:=by omega
   have f9:(i+1+(l.length - i))*8≤140737488355328:=by omega
   have f10:i+1+(l.length - i)≤9223372036854775807:=by omega
   have f11:i≤9223372036854775806:=by omega
   simp [XF,fV,hkl,hil2,hgi]
   (repeat' first|contradiction|exact .ok|apply And.intro|intro _|(apply gc<;>simp+contextual[hkl,hil2,hgi]))
   all_goals rw [if_pos ⟨f4,f1⟩]
   all_goals simp [f3,f4,f5,f6,f7,f8,f9,f10,f11]
   all_goals rw [if_pos f1]
   all_goals simp [f3,f4,f5,f6,f7,f8,f9,f10,f11]
   (repeat' first|contradiction|exact .ok|apply And.intro|intro _|(apply gc<;>simp+contextual))
   all_goals (first | rw [ftk,if_pos f2] | rw [if_pos f2])
   all_goals simp [f3,f4,f5,f6,f7,f8,f9,f10,f11]
   all_goals rw [if_pos f2]
   all_goals simp [f3,f4,f5,f6,f7,f8,f9,f10,f11]
   (repeat' first|contradiction|exact .ok|apply And.intro|intro _|(apply gc<;>simp+contextual))
   all_goals
    rw [if_pos (by omega),List.take_of_length_le (by simp <;> omega)]
    try simp [List.map_take,List.map_drop]
theorem mT:∀ (l a:List Int),(l.foldl xQ a).length≤a.length+l.length
 | [],a=>by simp
 | n::l,a=>by
   have h1:=mT l (xQ a n)
   have h2:=QQ a n
   rw [List.foldl_cons,List.length_cons]; omega
theorem CE {l:List Ex} {i:Nat} {x:Ex} (a:List Int) (h:l[i]?=some x):dH a (l.take (i+1))=x.rcols.foldl xQ (dH a (l.take i)):=by
 induction l generalizing i a with
 | nil=>cases h
 | cons e es ih =>
   cases i with
   | zero=>simp at h; subst h; simp [dH]
   | succ i=>rw [List.take_succ_cons,List.take_succ_cons,dH,dH,ih _ (by simpa using h)]
theorem OD {l:List Int} {j:Nat} {x:Int} (a:List Int) (h:l[j]?=some x):(l.take (j+1)).foldl xQ a=xQ ((l.take j).foldl xQ a) x:=by
 rw [List.take_add_one,h,List.foldl_append]; rfl
mutual
theorem DN:∀ e:Ex,e.rcols.length≤e.nodes
 | .mk o c n t g ks=>by
   have h1:=kE ks []
   rw [Ex.rcols,Ex.nodes]
   split
   ·have:=QQ (dH [] ks) g
    simp at h1; omega
   ·simp at h1; omega
theorem kE:∀ (l:List Ex) (a:List Int),(dH a l).length≤a.length+aT l
 | [],a=>by rw [dH,aT]; omega
 | e::es,a=>by
   have h1:=DN e
   have h2:=kE es (e.rcols.foldl xQ a)
   have h3:=mT e.rcols a
   rw [dH,aT]; omega
end
theorem vK (l:List Ex) (i:Nat):aT (l.take i)≤aT l:=by
 induction l generalizing i with
 | nil=>simp
 | cons e es ih =>
   cases i with
   | zero=>simp [aT]
   | succ i=>rw [List.take_succ_cons,aT,aT]; have:=ih i; omega
theorem kF:∀ (l:List Ex),∀ e∈l,e.nodes≤aT l
 | e::es,x,hx=>by
   rw [aT]
   rcases List.mem_cons.1 hx with rfl | hx
   ·omega
   ·have:=kF es x hx; omega
def tY (a:List Int):AV:=if a=[] then .nils else .d (fV a)
@[simp] theorem aFN (r:Nat→Option Nat) (bl:Nat→Blk) (a:List Int):dU r bl true (tY a)=(tY a,[]):=by
  unfold tY
  split <;> simp [dU]
theorem aDn (a:List Int) (n:Int):xQ a n ≠ []:=by
 intro h
 have:=congrArg List.length h
 unfold xQ at this
 split at this
 ·rename_i h2
  have:a=[]:=List.eq_nil_of_length_eq_zero (by simpa using this)
  subst this
  simp at h2
 ·simp at this
def rcF (o c n g:Int) (t:List UInt8) (ks:List Ex) (a:AV) (i:Nat):St :=
 { s:=cG [(1,.ptr 1 0 0),(3,a),(4,.d (.int .i64 i))],b:=cE [(1,1,.var [.d (.int .i64 o),.d (.int .i64 c),.d (.int .i64 n),.d (.str t),.d (.int .i64 g),.d (.sl (ks.map Ex.c))])] }
def rcG (o c n g:Int) (t:List UInt8) (ks:List Ex) (a:AV) (i:Nat) (k:List Int) (j:Nat):St :=
 { s:=cG [(1,.ptr 1 0 0),(3,a),(4,.d (.int .i64 i)),(5,.d (fV k)),(6,.d (.int .i64 j))],b:=cE [(1,1,.var [.d (.int .i64 o),.d (.int .i64 c),.d (.int .i64 n),.d (.str t),.d (.int .i64 g),.d (.sl (ks.map Ex.c))])] }
theorem JR (o c n g:Int) (t:List UInt8) (ks:List Ex) (hk:ks.length≤12) (hn:aT ks≤1048576)
  (hrec:∀ e∈ks,Cf En 131 [e.a] [] (.d (fV e.rcols)) []) :
  Cf En 131 [(Ex.mk o c n t g ks).a] [] (.d (fV (Ex.rcols (.mk o c n t g ks)))) []:=by
 refine aD aW (fn:=Tryz.f131) (by kernel_rfl) rfl (by kernel_rfl) (by decide) (by simp) ?_
 simp [Ex.a,Ex.c,aC]
 (repeat' first|contradiction|exact .ok|apply And.intro|intro _|(apply gc<;>simp+contextual))
 refine aL aW (by decide) (fun i=>rcF o c n g t ks (tY (dH [] (ks.take i))) i) (fun i:Nat=>i≤ks.length) (fun i=>ks.length - i) 0 (by simp) (aE [(1,_),(3,_),(4,_)] [(1,1,_)] ⟨by simp,by simp,by simp [aB,Blk.live],by simp⟩ (by simp [aB,tY,dH])) ?_
 intro i hi
 by_cases hlt:i<ks.length
 ·have hgi:ks[i]?=some ks[i]:=List.getElem?_eq_getElem hlt
  have c1:=Ex.clen ks[i]
  have k1:=Ex.ctake ks[i]
  have hr:=hrec ks[i] (List.getElem_mem hlt)
  have hlt2:(i:Int)<ks.length:=by omega
  have hl1:=kE (ks.take i) []
  have hl2:=vK ks i
  have hl3:=DN ks[i]
  have hl4:=kF ks _ (List.getElem_mem hlt)
  have htk:=CE [] hgi
  generalize dH [] (ks.take i)=acc at *
  generalize hkc:ks[i].rcols=kc at *
  simp [rcF,hlt,hlt2,hgi,c1,k1]
  (repeat' first|contradiction|exact .ok|apply And.intro|intro _|(apply gc<;>simp+contextual))
  refine aA hr (by simp [Ex.a]) ?_
  simp
  (repeat' first|contradiction|exact .ok|apply And.intro|intro _|(apply gc<;>simp+contextual))
  refine aL aW (by decide) (fun j=>rcG o c n g t ks (tY ((kc.take j).foldl xQ acc)) i kc j) (fun j:Nat=>j≤kc.length) (fun j=>kc.length - j) 0 (by simp) (aE [(1,_),(3,_),(4,_),(5,_),(6,_)] [(1,1,_)] ⟨by simp,by simp,by simp [aB,Blk.live],by simp⟩ (by simp [aB])) ?_
  intro j hj
  by_cases hlj:j<kc.length
  ·have hgj:kc[j]?=some kc[j]:=List.getElem?_eq_getElem hlj
   have hlj2:(j:Int)<kc.length:=by omega
   have hfl:=mT (kc.take j) acc
   have hft:=OD acc hgj
   generalize (kc.take j).foldl xQ acc=a at *
   have hci:=JQ a kc[j] (by simp at hfl hl1; omega)
   have hne:=aDn a kc[j]
   generalize hai:xQ a kc[j]=a' at *
   by_cases ha:a=[]
   ·subst ha
    simp [rcG,tY,fV,hlj,hlj2,hgj]
    (repeat' first|contradiction|exact .ok|apply And.intro|intro _|(apply gc<;>simp+contextual))
    refine aA hci (by simp [fV]) ?_
    simp
    (repeat' first|contradiction|exact .ok|apply And.intro|intro _|(apply gc<;>simp+contextual))
    refine ⟨j+1,by omega,?_,?_⟩
    ·refine aE [(1,_),(3,_),(4,_),(5,_),(6,_)] [(1,1,_)] ⟨by simp,by simp,by simp [aB,Blk.live],by simp⟩ ?_
     simp [aB,rcG,hft,tY,hne,fV]
     exact aH (by omega) (by omega)
    ·simp; omega
   ·simp [rcG,tY,ha,fV,hlj,hlj2,hgj]
    (repeat' first|contradiction|exact .ok|apply And.intro|intro _|(apply gc<;>simp+contextual))
    refine aA hci (by simp [fV]) ?_
    simp
    (repeat' first|contradiction|exact .ok|apply And.intro|intro _|(apply gc<;>simp+contextual))
    refine ⟨j+1,by omega,?_,?_⟩
    ·refine aE [(1,_),(3,_),(4,_),(5,_),(6,_)] [(1,1,_)] ⟨by simp,by simp,by simp [aB,Blk.live],by simp⟩ ?_
     simp [aB,rcG,hft,tY,hne,fV]
     exact aH (by omega) (by omega)
    ·simp; omega
  ·have hje:j=kc.length:=by omega
   subst hje
   rw [List.take_length,← htk]
   simp [rcG,fV]
   (repeat' first|contradiction|exact .ok|apply And.intro|intro _|(apply gc<;>simp+contextual))
   refine ⟨i+1,hlt,?_,?_⟩
   ·refine aE [(1,_),(3,_),(4,_)] [(1,1,_)] ⟨by simp,by simp,by simp [aB,Blk.live],by simp⟩ ?_
    simp [aB,rcF]
    exact aH (by omega) (by omega)
   ·simp; omega
 ·have hie:i=ks.length:=by omega
  subst hie
  rw [List.take_length,Ex.rcols]
  have hl1:=kE ks []
  generalize dH [] ks=a at *
  have hci:=JQ a g (by simp at hl1; omega)
  by_cases ha:a=[]
  ·subst ha
   by_cases h5:o=5
   ·rw [if_pos h5]
    simp [rcF,tY,h5,fV]
    (repeat' first|contradiction|exact .ok|apply And.intro|intro _|(apply gc<;>simp+contextual))
    refine aA hci (by simp [fV]) ?_
    simp
    (repeat' first|contradiction|exact .ok|apply And.intro|intro _|(apply gc<;>simp+contextual))
    all_goals rfl
   ·rw [if_neg h5]
    simp [rcF,tY,h5,fV]
    (repeat' first|contradiction|exact .ok|apply And.intro|intro _|(apply gc<;>simp+contextual[h5]))
  ·by_cases h5:o=5
   ·rw [if_pos h5]
    simp [rcF,tY,h5,ha,fV]
    (repeat' first|contradiction|exact .ok|apply And.intro|intro _|(apply gc<;>simp+contextual))
    refine aA hci (by simp [fV]) ?_
    simp
    (repeat' first|contradiction|exact .ok|apply And.intro|intro _|(apply gc<;>simp+contextual))
    all_goals rfl
   ·rw [if_neg h5]
    simp [rcF,tY,h5,ha,fV]
    (repeat' first|contradiction|exact .ok|apply And.intro|intro _|(apply gc<;>simp+contextual[h5]))
end Go.Proofs.Tryz
