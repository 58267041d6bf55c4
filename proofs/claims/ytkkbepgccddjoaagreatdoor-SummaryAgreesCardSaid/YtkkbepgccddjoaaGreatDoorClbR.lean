import Derived.Test.YtkkbepgccddjoaaGreatDoorAClo
import Derived.Test.YtkkbepgccddjoaaGreatDoorAbB
set_option linter.all false
namespace Go.Proofs.Tryz
open Go.Ab Go.Sort
set_option maxRecDepth 100000
set_option maxHeartbeats 4000000
def nums (l:List Int):D:=.sl (l.map fun n=>[.int .i64 n])
theorem c_sort (l:List Int) (hl:l.length<4611686018427387904):Cf En 179 [.ref firstName 0 l.length 1] [.arr 3 1 (l.map fun z=>[.int .i64 z]) false] (.tup []) [.arr 3 1 ((srt l).map fun z=>[.int .i64 z]) false]:=by
 refine cf_of_row (by kernel_rfl) (srt_len l) (fun _ h l p cap w _ _ _=>?_) (fun _ h lo w _ _ _ _ _ hH hb=>?_)
 ·refine (Tryz.slices_Sort_int_none p cap w).mono ?_
  rintro e w' ⟨rfl,rfl⟩
  exact ⟨_,rfl,by simp only [RepA]; exact ⟨[],rfl,rfl⟩,rfl⟩
 ·refine (Tryz.slices_Sort_int lo.blk 0 lo.asz l w hH hb hl).mono ?_
  rintro e w' ⟨rfl,n,os,rfl⟩
  exact ⟨_,rfl,by simp only [RepA]; exact ⟨[],rfl,rfl⟩,n,os,rfl⟩
theorem c_sort_nil:Cf En 179 [.d (.sl [])] [] (.tup []) []:=by
 refine cf_of_calls (by kernel_rfl) fun w g vs hr m=>?_
 simp only [RepAs,RepA,RepD] at hr
 obtain ⟨u,us,rfl,⟨a,cap,rfl,_,_⟩,rfl⟩:=hr
 refine (Tryz.slices_Sort_int_none a cap w).mono ?_
 rintro e w' ⟨rfl,rfl⟩
 exact ⟨_,rfl,by simp only [RepA]; exact ⟨[],rfl,rfl⟩,Go.RowKit.Below.refl _ _⟩
def cmp0 (l:List Int):List Int:=Go.Lib.compact l++List.replicate (l.length - (Go.Lib.compact l).length) 0
theorem cmp_le (l:List Int):(Go.Lib.compact l).length≤l.length:=by
 unfold Go.Lib.compact Go.Lib.compactUpTo
 rw [List.length_map]
 have:=List.length_filter_le (Go.Lib.keeps l.toArray) (List.range l.length)
 rw [List.length_range] at this
 exact this
theorem c_compact (l:List Int) (hl:l.length≤9223372036854775807):Cf En 180 [.ref firstName 0 l.length 1] [.arr 3 1 (l.map fun z=>[.int .i64 z]) false] (.ref firstName 0 (Go.Lib.compact l).length 1) [.arr 3 1 ((cmp0 l).map fun z=>[.int .i64 z]) false]:=by
 refine cf_of_row (by kernel_rfl) (by have:=cmp_le l; simp [cmp0]; omega) (fun h0 h lo p cap w hL hs hp=>?_) (fun h0 h lo w hL hs hn hm hle hH hb=>?_)
 ·subst h0
  refine (Tryz.slices_Compact_int_empty p cap w).mono ?_
  rintro e w' ⟨rfl,rfl⟩
  refine ⟨_,rfl,?_,rfl⟩
  have he:(Go.Lib.compact ([]:List Int)).length=0:=rfl
  rw [he]
  simp only [RepA]
  refine ⟨lo,hL,hs,?_⟩
  split
  ·rename_i hn
   rw [if_pos hn] at hp
   obtain ⟨rfl,rfl⟩:=hp
   exact ⟨rfl,trivial,trivial⟩
  ·rename_i hn
   rw [if_neg hn] at hp
   obtain ⟨rfl,h1,h2⟩:=hp
   exact ⟨cap,by rw [Nat.zero_mul],Nat.zero_le _,h1,by rw [hs]; omega⟩
 ·refine (Tryz.slices_Compact_int lo.blk 0 lo.asz l w hH hl hle).mono ?_
  rintro e w' ⟨rfl,q,rfl⟩
  refine ⟨_,rfl,?_,q,#[],by rw [grow_empty]; rfl⟩
  have:=cmp_le l
  simp only [RepA]
  refine ⟨lo,hL,hs,?_⟩
  rw [hn]
  exact ⟨lo.asz,by rw [Nat.zero_mul],by omega,hm,by rw [hs]; omega⟩
theorem c_compact_nil:Cf En 180 [.d (.sl [])] [] (.d (.sl [])) []:=by
 refine cf_of_calls (by kernel_rfl) fun w g vs hr m=>?_
 simp only [RepAs,RepA,RepD] at hr
 obtain ⟨u,us,rfl,⟨a,cap,rfl,hc,hr⟩,rfl⟩:=hr
 refine (Tryz.slices_Compact_int_empty a cap w).mono ?_
 rintro e w' ⟨rfl,rfl⟩
 exact ⟨_,rfl,by simp only [RepA,RepD]; exact ⟨a,cap,rfl,hc,hr⟩,Go.RowKit.Below.refl _ _⟩
mutual
def Ex.nodes:Ex→Nat
 | .mk _ _ _ _ _ ks=>nodesAll ks+1
def nodesAll:List Ex→Nat
 | []=>0
 | e::es=>e.nodes+nodesAll es
end
mutual
theorem cols_len:∀ e:Ex,e.cols.length≤e.nodes
 | .mk o c n t g ks=>by
   rw [Ex.cols,Ex.nodes]
   have h1:=cmp_le (srt ((if o=5 then [g] else [])++colsAll ks))
   have h2:=colsAll_len ks
   rw [srt_len,List.length_append] at h1
   by_cases h:o=5 <;> simp [h] at h1 ⊢ <;> omega
theorem colsAll_len:∀ l:List Ex,(colsAll l).length≤nodesAll l
 | []=>by simp [colsAll]
 | e::es=>by
   have h1:=cols_len e
   have h2:=colsAll_len es
   rw [colsAll,nodesAll,List.length_append]; omega
end
theorem colsAll_take {l:List Ex} {i:Nat} {x:Ex} (h:l[i]?=some x):colsAll (l.take (i+1))=colsAll (l.take i)++x.cols:=by
 induction l generalizing i with
 | nil=>cases h
 | cons e es ih =>
   cases i with
   | zero=>simp at h; subst h; simp [colsAll]
   | succ i =>
     rw [List.take_succ_cons,List.take_succ_cons,colsAll,colsAll,ih (by simpa using h),List.append_assoc]
theorem colsAll_take_le (l:List Ex) (i:Nat):(colsAll (l.take i)).length≤(colsAll l).length:=by
 induction l generalizing i with
 | nil=>simp
 | cons e es ih =>
   cases i with
   | zero=>simp [colsAll]
   | succ i=>rw [List.take_succ_cons,colsAll,colsAll,List.length_append,List.length_append]; have:=ih i; omega
def clS (o c n g:Int) (t:List UInt8) (ks:List Ex) (L:List Int) (i:Nat):St :=
 { s:=mkS [(1,.ptr 1 0 0),(3,.ref 900 0 L.length 1),(15,.d (.sl (ks.map Ex.c))),(16,.d (.int .i64 ks.length)),(17,.d (.int .i64 i))],b:=mkB [(1,1,.var [.d (.int .i64 o),.d (.int .i64 c),.d (.int .i64 n),.d (.str t),.d (.int .i64 g),.d (.sl (ks.map Ex.c))]),(900,900,.arr 3 1 (L.map fun z=>[.int .i64 z]) false)] }
def clN (o c n g:Int) (t:List UInt8) (ks:List Ex):St :=
 { s:=mkS [(1,.ptr 1 0 0),(3,.nils),(15,.d (.sl (ks.map Ex.c))),(16,.d (.int .i64 ks.length)),(17,.d (.int .i64 0))],b:=mkB [(1,1,.var [.d (.int .i64 o),.d (.int .i64 c),.d (.int .i64 n),.d (.str t),.d (.int .i64 g),.d (.sl (ks.map Ex.c))])] }
theorem c_cols_step (o c n g:Int) (t:List UInt8) (ks:List Ex) (hk:ks.length≤12) (hn:(colsAll ks).length≤1099511627776)
  (hrec:∀ e∈ks,Cf En 136 [e.a] [] (.d (nums e.cols)) []) :
  Cf En 136 [(Ex.mk o c n t g ks).a] [] (.d (nums (Ex.cols (.mk o c n t g ks)))) []:=by
 refine cf_intro mix (fn:=Tryz.f136) (by kernel_rfl) rfl (by kernel_rfl) (by decide) (by simp) ?_
 simp only [nums] at hrec ⊢
 by_cases h5:o=5
 ·subst h5
  rw [show Ex.cols (.mk 5 c n t g ks)=Go.Lib.compact (srt (g::colsAll ks)) from by rw [Ex.cols]; simp]
  simp [Ex.a,Ex.c,kidsC_map]
  (repeat' (first|contradiction|exact .ok|apply And.intro|intro _|(refine gc (fun h=>?_) (fun h=>?_)<;>(have h':=h;(try simp at h');first|done|simp[h,h']|simp))))
  refine aloopT mix (by decide) (fun i=>clS 5 c n g t ks (g::colsAll (ks.take i)) i) (fun i:Nat=>i≤ks.length) (fun i=>ks.length - i) 0 (by simp) (sub_mk [(1,_),(3,_),(15,_),(16,_),(17,_)] [(1,1,_),(900,13,_)] ⟨by simp,by simp,by simp [renOf,Blk.live,colsAll],by simp⟩ (by simp [renOf,colsAll])) ?_
  intro i hi
  have hle:=colsAll_take_le ks i
  by_cases hlt:i<ks.length
  ·have hgi:ks[i]?=some ks[i]:=List.getElem?_eq_getElem hlt
   have c1:=Ex.clen ks[i]
   have k1:=Ex.ctake ks[i]
   have hr:=hrec ks[i] (List.getElem_mem hlt)
   have hlt2:(i:Int)<ks.length:=by omega
   have hle2:=colsAll_take_le ks (i+1)
   have htk:=colsAll_take hgi
   rw [htk,List.length_append] at hle2
   simp only [clS]
   generalize colsAll (ks.take i)=L at *
   have s1:(L.length+1+ks[i].cols.length)*8≤140737488355328:=by omega
   have s2:L.length+1+ks[i].cols.length≤9223372036854775807:=by omega
   simp [hlt,hlt2,hgi,c1,k1]
   (repeat' (first|contradiction|exact .ok|apply And.intro|intro _|(refine gc (fun h=>?_) (fun h=>?_)<;>(have h':=h;(try simp at h');first|done|simp[h,h']|simp))))
   refine acallT_plain hr (by simp [Ex.a]) ?_
   simp [s1,s2]
   (repeat' (first|contradiction|exact .ok|apply And.intro|intro _|(refine gc (fun h=>?_) (fun h=>?_)<;>(have h':=h;(try simp at h');first|done|simp[h,h']|simp))))
   refine ⟨i+1,hlt,?_,?_⟩
   ·refine sub_mk [(1,_),(3,_),(15,_),(16,_),(17,_)] [(1,1,_),(900,24,_)] ⟨by simp,by simp,by simp [renOf,Blk.live,htk],by simp⟩ ?_
    simp [renOf,htk]
    exact ⟨by omega,wrap_in (by omega) (by omega)⟩
   ·simp; omega
  ·have hie:i=ks.length:=by omega
   subst hie
   rw [List.take_length]
   have hz:(srt (g::colsAll ks)).length=(colsAll ks).length+1:=by rw [srt_len]; rfl
   have cs:=c_sort (g::colsAll ks) (by simp; omega)
   have cc:=c_compact (srt (g::colsAll ks)) (by rw [hz]; omega)
   rw [hz] at cc
   have htk:List.take (Go.Lib.compact (srt (g::colsAll ks))).length (List.map (fun z=>[D.int .i64 z]) (cmp0 (srt (g::colsAll ks))))=List.map (fun z=>[D.int .i64 z]) (Go.Lib.compact (srt (g::colsAll ks))):=by
    rw [cmp0,List.map_append,List.take_left' (by simp)]
   have hlen:(Go.Lib.compact (srt (g::colsAll ks))).length≤(cmp0 (srt (g::colsAll ks))).length:=by rw [cmp0,List.length_append]; omega
   simp only [clS]
   simp
   (repeat' (first|contradiction|exact .ok|apply And.intro|intro _|(refine gc (fun h=>?_) (fun h=>?_)<;>(have h':=h;(try simp at h');first|done|simp[h,h']|simp))))
   refine acallT_hand [900] cs (by simp) (by simp) (by simp) (by simp) (by simp) ?_
   generalize srt (g::colsAll ks)=S at *
   simp
   (repeat' (first|contradiction|exact .ok|apply And.intro|intro _|(refine gc (fun h=>?_) (fun h=>?_)<;>(have h':=h;(try simp at h');first|done|simp[h,h']|simp))))
   refine acallT_hand [900] cc (by simp) (by simp) (by simp) (by simp) (by simp) ?_
   generalize Go.Lib.compact S=K at *
   simp [htk,hlen]
   all_goals exact gz
 ·rw [show Ex.cols (.mk o c n t g ks)=Go.Lib.compact (srt (colsAll ks)) from by rw [Ex.cols,if_neg h5]; rfl]
  simp [Ex.a,Ex.c,kidsC_map,h5]
  (repeat' (first|contradiction|exact .ok|apply And.intro|intro _|(refine gc (fun h=>?_) (fun h=>?_)<;>(have h':=h;(try simp at h');first|done|simp[h,h',h5]|simp[h5]))))
  refine aloopT mix (by decide) (fun i:Nat=>match i with | 0=>clN o c n g t ks | i+1=>clS o c n g t ks (colsAll (ks.take (i+1))) (i+1)) (fun i:Nat=>i≤ks.length) (fun i=>ks.length - i) 0 (by simp) (sub_mk [(1,_),(3,_),(15,_),(16,_),(17,_)] [(1,1,_)] ⟨by simp,by simp,by simp [renOf,Blk.live],by simp⟩ (by simp [renOf])) ?_
  intro i hi
  have hle:=colsAll_take_le ks i
  by_cases hlt:i<ks.length
  ·have hgi:ks[i]?=some ks[i]:=List.getElem?_eq_getElem hlt
   have c1:=Ex.clen ks[i]
   have k1:=Ex.ctake ks[i]
   have hr:=hrec ks[i] (List.getElem_mem hlt)
   have hle2:=colsAll_take_le ks (i+1)
   have htk:=colsAll_take hgi
   rw [htk,List.length_append] at hle2
   cases i with
   | zero =>
     have hlt2:(0:Int)<ks.length:=by omega
     have s1:(ks[0].cols.length)*8≤140737488355328:=by omega
     have s2:ks[0].cols.length≤9223372036854775807:=by omega
     have ht0:colsAll (ks.take 1)=ks[0].cols:=by rw [htk]; simp [colsAll]
     simp [clN,hlt,hlt2,hgi,c1,k1]
     (repeat' (first|contradiction|exact .ok|apply And.intro|intro _|(refine gc (fun h=>?_) (fun h=>?_)<;>(have h':=h;(try simp at h');first|done|simp[h,h']|simp))))
     refine acallT_plain hr (by simp [Ex.a]) ?_
     simp [s1,s2]
     (repeat' (first|contradiction|exact .ok|apply And.intro|intro _|(refine gc (fun h=>?_) (fun h=>?_)<;>(have h':=h;(try simp at h');first|done|simp[h,h']|simp))))
     refine ⟨1,hlt,?_,?_⟩
     ·refine sub_mk [(1,_),(3,_),(15,_),(16,_),(17,_)] [(1,1,_),(900,24,_)] ⟨by simp,by simp,by simp [renOf,Blk.live,ht0],by simp⟩ ?_
      simp [renOf,ht0]
      exact wrap_in (by omega) (by omega)
     ·simp; omega
   | succ i =>
     have hlt2:((i+1:Nat):Int)<ks.length:=by omega
     have hlt3:(i:Int)+1<ks.length:=by omega
     have hp:(0:Int)≤(i:Int)+1:=by omega
     simp only [clS]
     generalize colsAll (ks.take (i+1))=L at *
     have s1:(L.length+ks[i+1].cols.length)*8≤140737488355328:=by omega
     have s2:L.length+ks[i+1].cols.length≤9223372036854775807:=by omega
     simp [hlt,hlt2,hlt3,hp,hgi,c1,k1]
     (repeat' (first|contradiction|exact .ok|apply And.intro|intro _|(refine gc (fun h=>?_) (fun h=>?_)<;>(have h':=h;(try simp at h');first|done|simp[h,h']|simp))))
     refine acallT_plain hr (by simp [Ex.a]) ?_
     simp [s1,s2]
     (repeat' (first|contradiction|exact .ok|apply And.intro|intro _|(refine gc (fun h=>?_) (fun h=>?_)<;>(have h':=h;(try simp at h');first|done|simp[h,h']|simp))))
     refine ⟨i+2,by omega,?_,?_⟩
     ·refine sub_mk [(1,_),(3,_),(15,_),(16,_),(17,_)] [(1,1,_),(900,24,_)] ⟨by simp,by simp,by simp [renOf,Blk.live,htk],by simp⟩ ?_
      simp [renOf,htk]
      rw [wrap_in (by omega) (by omega)]
     ·simp; omega
  ·have hie:i=ks.length:=by omega
   subst hie
   cases hkl:ks.length with
   | zero =>
     have:ks=[]:=List.eq_nil_of_length_eq_zero hkl
     subst this
     have he:Go.Lib.compact (srt (colsAll []))=[]:=by simp [colsAll,srt,Go.Lib.compact,Go.Lib.compactUpTo]
     rw [he]
     simp [clN]
     (repeat' (first|contradiction|exact .ok|apply And.intro|intro _|(refine gc (fun h=>?_) (fun h=>?_)<;>(have h':=h;(try simp at h');first|done|simp[h,h']|simp))))
     refine acallT_plain c_sort_nil (by simp) ?_
     simp
     (repeat' (first|contradiction|exact .ok|apply And.intro|intro _|(refine gc (fun h=>?_) (fun h=>?_)<;>(have h':=h;(try simp at h');first|done|simp[h,h']|simp))))
     refine acallT_plain c_compact_nil (by simp) ?_
     simp
     all_goals exact gz
   | succ i =>
     simp only []
     have hlt:¬ ((i+1:Nat):Int)<ks.length:=by omega
     have hlt2:¬ (i:Int)+1<ks.length:=by omega
     have hki:ks.take (i+1)=ks:=List.take_of_length_le (by omega)
     rw [hki]
     have cs:=c_sort (colsAll ks) (by omega)
     have cc:=c_compact (srt (colsAll ks)) (by rw [srt_len]; omega)
     rw [srt_len] at cc
     have htk:List.take (Go.Lib.compact (srt (colsAll ks))).length (List.map (fun z=>[D.int .i64 z]) (cmp0 (srt (colsAll ks))))=List.map (fun z=>[D.int .i64 z]) (Go.Lib.compact (srt (colsAll ks))):=by
      rw [cmp0,List.map_append,List.take_left' (by simp)]
     have hlen:(Go.Lib.compact (srt (colsAll ks))).length≤(cmp0 (srt (colsAll ks))).length:=by rw [cmp0,List.length_append]; omega
     simp only [clS]
     simp [hkl]
     (repeat' (first|contradiction|exact .ok|apply And.intro|intro _|(refine gc (fun h=>?_) (fun h=>?_)<;>(have h':=h;(try simp at h');first|done|simp[h,h']|simp))))
     refine acallT_hand [900] cs (by simp) (by simp) (by simp) (by simp) (by simp) ?_
     generalize srt (colsAll ks)=S at *
     simp
     (repeat' (first|contradiction|exact .ok|apply And.intro|intro _|(refine gc (fun h=>?_) (fun h=>?_)<;>(have h':=h;(try simp at h');first|done|simp[h,h']|simp))))
     refine acallT_hand [900] cc (by simp) (by simp) (by simp) (by simp) (by simp) ?_
     generalize Go.Lib.compact S=K at *
     simp [htk,hlen]
     all_goals exact gz
end Go.Proofs.Tryz
