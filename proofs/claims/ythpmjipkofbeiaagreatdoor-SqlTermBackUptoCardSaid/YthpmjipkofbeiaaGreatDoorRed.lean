import Derived.Test.YthpmjipkofbeiaaGreatDoorTFwl
set_option linter.all false
namespace Go.Proofs.Tryz
open Go.Ab Go.RowKit
set_option maxRecDepth 100000
set_option maxHeartbeats 4000000
def Own (c:List AV):Prop:=∀ r bl,cvAs r bl true c=(c,[])
theorem tmp_eq {h:Gh} {v u:Value} (hr:RepA h v (.d (.val u))):v=u:=by
 simp only [RepA,RepD] at hr
 exact hr.1
def rdS (s:List UInt8) (w:World) (f:FuncId):List (Nat×AV):=[(0,.d (.str s)),(1,.clo f [.ptr 1000000 0 0]),(4,.d (.val (.pointer (some (P4 w))))),(5,.d (.val (.pointer (some (P5 w)))))]
theorem tokF_len (s:List UInt8):∀ (k a:Nat),(tokF s k a).length≤k
 | 0,a=>Nat.le_refl _
 | k+1,a=>by
   rw [tokF]
   split
   ·simp
   ·have:=tokF_len s k (scanT s a).to
    simp only [List.length_cons]
    omega
theorem toks_len (s:List UInt8):(toks s).length≤s.length+1:=tokF_len s _ 0
theorem mkB_one (X:Blk):mkB [(1000000,1000000,X)]=blkOf [X]:=by
 funext n
 simp only [mkB,List.map_cons,List.map_nil,upds,upd,blkOf]
 by_cases h:n=1000000
 ·subst h; simp [firstName]
 ·rw [if_neg h]
  split
  ·rename_i hn
   rw [List.getElem?_eq_none (by simp only [List.length_singleton,firstName] at *; omega)]
   rfl
  ·rfl
theorem rep_two {h:Gh} {x y:Int}:RepA h (.tuple #[.int .i64 x,.int .i64 y]) (.tup [.d (.int .i64 x),.d (.int .i64 y)]):=by
 simp only [RepA,RepAs,RepD]
 exact ⟨[_,_],rfl,_,[_],rfl,rfl,_,[],rfl,rfl,rfl⟩
theorem p_read_ok {α:Type} {s:List UInt8} (hs:s.length≤4000) {c d:List AV} (hcc:Own c) (hdd:Own d) {f:FuncId} {m:List Tk} (hm:At (toks s) m) (hk:(hdT m).kd=5) (hfr:(hdT m).fr=s.length)
  (hrule:Cf Es f [.ptr 1000000 0 0,.ptr 1000001 0 0] [rdB (toks s) (toks s),.var c] (.tup []) [rdB (toks s) m,.var d]) :
  Cf Es 29 [.d (.str s),.clo f [.ptr 1000000 0 0]] [.var c] (.tup [.d (.int .i64 0),.d (.int .i64 0)]) [.var d]:=by
 refine ⟨by kernel_rfl,fun w h vs hr mm=>?_⟩
 obtain ⟨v0,_,rfl,r0,v1,_,rfl,r1,r2⟩:=hr
 simp only [RepAs] at r2
 subst r2
 have r0':=r0
 simp only [RepA,RepD] at r0
 subst r0
 have hmf:∀ (fn:Fn) (first cap:Array Value) (w:World),(Instr.makeFunc fn first cap).run Tryz.prog w=.ok (.func fn first cap) w:=fun _ _ _ _=>rfl
 have hX:(Blk.var c).live=true:=rfl
 have hin:=read_in hX mm
 have hcc':=hcc
 have hdd':=hdd
 unfold Own at hcc' hdd'
 show Calls Tryz.prog 29 #[.string ⟨s.toArray⟩,v1] w _
 go_enter_defers Tryz.func29,Tryz.ntmps29
 apply wp_seq
 apply wp_region
 simp [wpOps,go_sem,Exit.then]
 repeat (refine Or.inl ?_)
 apply wp_seq
 apply wp_seq
 apply wp_region
 simp [wpOps,go_sem,Exit.then]
 repeat (refine Or.inl ?_)
 refine wp_cond (t:=false) (by simp [Act.eval]; omega) ?_
 simp only [Bool.false_eq_true,if_false]
 refine wp_skip ?_
 apply wp_seq
 apply wp_region
 simp [wpOps,go_sem,Exit.then]
 repeat (refine Or.inl ?_)
 apply wp_seq
 refine frag (E:=Es) mixs (by decide) (N:=32) (nb:=1) (po:=none) (st:={ s:=mkS (rdS s w f),b:=blkOf [.var c] }) (st':={ s:=mkS ((6,.ptr 14 0 0)::rdS s w f),b:=mkB [(1000000,1000000,.var c),(14,14,rdB (toks s) (toks s))] }) ?_ (C:=C1 w h (.var c)) rfl rfl hin
  (read_inv hX mm r1 rfl rfl rfl rfl rfl) (fun a1 w2 inv1=>?_) (fun pv e=>by cases e)
 ·have hsc:=p_scan s (by omega)
  simp [rdS]
  refine acallP_of (acallT_plain hsc (by simp) ?_)
  simp
  (repeat refine ⟨.of (by kernel_rfl),?_⟩)
  exact sub_mk _ [(1000000,1000000,_),(14,14,_)] ⟨by simp,by simp,by simp [renOf,Blk.live,rdD,hcc'],base1⟩ (by simp [renOf])
 simp only [Exit.then]
 apply wp_seq
 refine frag (E:=Es) mixs (by decide) (N:=32) (nb:=1) (po:=none) (st':={ s:=mkS ((6,.ptr 14 0 0)::rdS s w f),b:=mkB [(1000000,1000000,.var d),(14,14,rdB (toks s) m)] }) ?_ (C:=C1 w h (.var c)) rfl rfl hin inv1 (fun a2 w3 inv2=>?_) (fun pv e=>by cases e)
 ·simp [rdS]
  refine acallP_of (acallT_hand [14,1000000] hrule (by simp) (by simp) (by simp) (by simp [hcc']) (by simp) ?_)
  simp [hcc',hdd']
  (repeat refine ⟨.of (by kernel_rfl),?_⟩)
  exact sub_mk _ [(1000000,1000000,_),(14,14,_)] ⟨by simp,by simp,by simp [renOf,Blk.live,hcc',hdd'],base1⟩ (by simp [renOf])
 simp only [Exit.then]
 apply wp_seq
 refine frag (E:=Es) mixs (by decide) (N:=32) (nb:=1) (po:=none) (st':={ s:=mkS (rdS s w f),b:=mkB [(1000000,1000000,.var d)] }) ?_ (C:=C1 w h (.var c)) rfl rfl hin inv2 (fun a3 w4 inv3=>?_) (fun pv e=>by cases e)
 ·have hTl:(toks s).length≤10000:=by have:=toks_len s; omega
  have hp:=ups (p_peek hm.sfx hm.ne hTl)
  simp only [tkA,tokC,hk,if_true,hfr] at hp
  simp [rdS]
  refine acallP_of (acallT_hand [14] hp (by simp) (by simp) (by simp) (by simp) (by simp) ?_)
  simp
  refine acallP_of (acallT_hand [14] hp (by simp) (by simp) (by simp) (by simp) (by simp) ?_)
  simp
  (repeat refine ⟨.of (by kernel_rfl),?_⟩)
  exact sub_mk _ [(1000000,1000000,_)] ⟨by simp,by simp,by simp [renOf,Blk.live,hdd'],base1⟩ (by simp [renOf])
 simp only [Exit.then]
 obtain ⟨_,hdf,hsz,h3,hsl,m3⟩:=inv3
 have e4:a3.tmps[4]?.getD undef=.pointer (some (P4 w)):=by rw [← Array.getD_eq_getD_getElem?]; exact tmp_eq (hsl 4)
 have e5:a3.tmps[5]?.getD undef=.pointer (some (P5 w)):=by rw [← Array.getD_eq_getD_getElem?]; exact tmp_eq (hsl 5)
 obtain ⟨rd,mf⟩:=read_end hX mm m3 0 0
 apply wp_seq
 apply wp_region
 simp [wpOps,go_sem,Exit.then,e4,e5,rd.c4,rd.c5,rd.f4,rd.f5,rd.c5',rd.f5']
 repeat (refine Or.inl ?_)
 refine wp_ret ?_
 simp only [bodyPostD]
 rw [show a3.defers=[dcl w] from hdf]
 unfold dcl
 refine leaves_cons (f:=59) (args:=#[.pointer (some (P4 w)),.pointer (some (P5 w))]) (by simp) (by simp [go_sem]) ?_
 refine (catch_idle _ _ _).mono ?_
 rintro e u' w'' ⟨rfl,rfl,rfl⟩
 simp [Leaves,settle,results,Tryz.results29,go_sem,e4,e5,rd.e4,rd.e5]
 exact ⟨h3,rep_two,mkB_one (.var d) ▸ mf⟩
theorem p_read_err {s:List UInt8} (hs:s.length≤4000) {c:List AV} (hcc:Own c) {f:FuncId} {e:Nat}
  (hrule:CfX panE Es f [.ptr 1000000 0 0,.ptr 1000001 0 0] [rdB (toks s) (toks s),.var c] (.d (flD e)) (deadB 2)) :
  Cf Es 29 [.d (.str s),.clo f [.ptr 1000000 0 0]] [.var c] (.tup [.d (.int .i64 e),.d (.int .i64 2)]) [.dead]:=by
 refine ⟨by kernel_rfl,fun w h vs hr mm=>?_⟩
 obtain ⟨v0,_,rfl,r0,v1,_,rfl,r1,r2⟩:=hr
 simp only [RepAs] at r2
 subst r2
 have r0':=r0
 simp only [RepA,RepD] at r0
 subst r0
 have hmf:∀ (fn:Fn) (first cap:Array Value) (w:World),(Instr.makeFunc fn first cap).run Tryz.prog w=.ok (.func fn first cap) w:=fun _ _ _ _=>rfl
 have hX:(Blk.var c).live=true:=rfl
 have hin:=read_in hX mm
 have hcc':=hcc
 unfold Own at hcc'
 show Calls Tryz.prog 29 #[.string ⟨s.toArray⟩,v1] w _
 go_enter_defers Tryz.func29,Tryz.ntmps29
 apply wp_seq
 apply wp_region
 simp [wpOps,go_sem,Exit.then]
 repeat (refine Or.inl ?_)
 apply wp_seq
 apply wp_seq
 apply wp_region
 simp [wpOps,go_sem,Exit.then]
 repeat (refine Or.inl ?_)
 refine wp_cond (t:=false) (by simp [Act.eval]; omega) ?_
 simp only [Bool.false_eq_true,if_false]
 refine wp_skip ?_
 apply wp_seq
 apply wp_region
 simp [wpOps,go_sem,Exit.then]
 repeat (refine Or.inl ?_)
 apply wp_seq
 refine frag (E:=Es) mixs (by decide) (N:=32) (nb:=1) (po:=none) (st:={ s:=mkS (rdS s w f),b:=blkOf [.var c] }) (st':={ s:=mkS ((6,.ptr 14 0 0)::rdS s w f),b:=mkB [(1000000,1000000,.var c),(14,14,rdB (toks s) (toks s))] }) ?_ (C:=C1 w h (.var c)) rfl rfl hin
  (read_inv hX mm r1 rfl rfl rfl rfl rfl) (fun a1 w2 inv1=>?_) (fun pv e=>by cases e)
 ·have hsc:=p_scan s (by omega)
  simp [rdS]
  refine acallP_of (acallT_plain hsc (by simp) ?_)
  simp
  (repeat refine ⟨.of (by kernel_rfl),?_⟩)
  exact sub_mk _ [(1000000,1000000,_),(14,14,_)] ⟨by simp,by simp,by simp [renOf,Blk.live,rdD,hcc'],base1⟩ (by simp [renOf])
 simp only [Exit.then]
 apply wp_seq
 refine region_pan (E:=Es) (by decide) (N:=32) (nb:=1) (pv:=flD e) (K:=fun st=>st.s 4=.d (.val (.pointer (some (P4 w))))∧st.s 5=.d (.val (.pointer (some (P5 w))))) ?_ (by decide) (C:=C1 w h (.var c)) rfl rfl hin inv1 (fun a v w3 h3 h0 sp hK hs4 hdf hv m3=>?_)
 ·refine apanK_cons rfl ?_
  simp
  refine apanK_cons rfl ?_
  simp
  refine apanK_call ⟨by simp [rdS],by simp [rdS]⟩ (by simp [rdS,callOf]; rfl) [14,1000000] hrule (by simp) (by simp) (by simp [hcc']) (by simp)
 obtain ⟨hK4,hK5⟩:=hK
 have e4:a.tmps[4]?.getD undef=.pointer (some (P4 w)):=by rw [← Array.getD_eq_getD_getElem?]; exact tmp_eq (hK4 ▸ hs4 4)
 have e5:a.tmps[5]?.getD undef=.pointer (some (P5 w)):=by rw [← Array.getD_eq_getD_getElem?]; exact tmp_eq (hK5 ▸ hs4 5)
 obtain rfl:v=.iface 97 (.agg #[.int .i64 e]):=by simp only [flD,RepD] at hv; exact hv.1
 obtain ⟨rd,mf⟩:=read_end hX mm m3 e 2
 simp only [Exit.then,bodyPostD]
 rw [show a.defers=[dcl w] from hdf]
 unfold dcl
 refine leaves_cons (f:=59) (args:=#[.pointer (some (P4 w)),.pointer (some (P5 w))]) (by simp) (by simp [go_sem]) ?_
 refine (catch_pan _ _ _ 0 0 _ _ rd.c4 rd.c5 rd.f4 rd.f5 rd.c5' rd.f5').mono ?_
 rintro e' u' w'' ⟨rfl,rfl,rfl⟩
 simp [Leaves,settle,results,Tryz.results29,go_sem,e4,e5,rd.e4,rd.e5]
 exact ⟨_,rep_two,mf⟩
theorem p_read_rest {s:List UInt8} (hs:s.length≤4000) {c d:List AV} (hcc:Own c) (hdd:Own d) {f:FuncId} {m:List Tk} (hm:At (toks s) m) (hk:¬ (hdT m).kd=5) (hfr:(hdT m).kd=0→(hdT m).fr<s.length)
  (hrule:Cf Es f [.ptr 1000000 0 0,.ptr 1000001 0 0] [rdB (toks s) (toks s),.var c] (.tup []) [rdB (toks s) m,.var d]) :
  Cf Es 29 [.d (.str s),.clo f [.ptr 1000000 0 0]] [.var c] (.tup [.d (.int .i64 (posT m)),.d (.int .i64 2)]) [.dead]:=by
 refine ⟨by kernel_rfl,fun w h vs hr mm=>?_⟩
 obtain ⟨v0,_,rfl,r0,v1,_,rfl,r1,r2⟩:=hr
 simp only [RepAs] at r2
 subst r2
 have r0':=r0
 simp only [RepA,RepD] at r0
 subst r0
 have hmf:∀ (fn:Fn) (first cap:Array Value) (w:World),(Instr.makeFunc fn first cap).run Tryz.prog w=.ok (.func fn first cap) w:=fun _ _ _ _=>rfl
 have hX:(Blk.var c).live=true:=rfl
 have hin:=read_in hX mm
 have hcc':=hcc
 have hdd':=hdd
 unfold Own at hcc' hdd'
 show Calls Tryz.prog 29 #[.string ⟨s.toArray⟩,v1] w _
 go_enter_defers Tryz.func29,Tryz.ntmps29
 apply wp_seq
 apply wp_region
 simp [wpOps,go_sem,Exit.then]
 repeat (refine Or.inl ?_)
 apply wp_seq
 apply wp_seq
 apply wp_region
 simp [wpOps,go_sem,Exit.then]
 repeat (refine Or.inl ?_)
 refine wp_cond (t:=false) (by simp [Act.eval]; omega) ?_
 simp only [Bool.false_eq_true,if_false]
 refine wp_skip ?_
 apply wp_seq
 apply wp_region
 simp [wpOps,go_sem,Exit.then]
 repeat (refine Or.inl ?_)
 apply wp_seq
 refine frag (E:=Es) mixs (by decide) (N:=32) (nb:=1) (po:=none) (st:={ s:=mkS (rdS s w f),b:=blkOf [.var c] }) (st':={ s:=mkS ((6,.ptr 14 0 0)::rdS s w f),b:=mkB [(1000000,1000000,.var c),(14,14,rdB (toks s) (toks s))] }) ?_ (C:=C1 w h (.var c)) rfl rfl hin
  (read_inv hX mm r1 rfl rfl rfl rfl rfl) (fun a1 w2 inv1=>?_) (fun pv e=>by cases e)
 ·have hsc:=p_scan s (by omega)
  simp [rdS]
  refine acallP_of (acallT_plain hsc (by simp) ?_)
  simp
  (repeat refine ⟨.of (by kernel_rfl),?_⟩)
  exact sub_mk _ [(1000000,1000000,_),(14,14,_)] ⟨by simp,by simp,by simp [renOf,Blk.live,rdD,hcc'],base1⟩ (by simp [renOf])
 simp only [Exit.then]
 apply wp_seq
 refine frag (E:=Es) mixs (by decide) (N:=32) (nb:=1) (po:=none) (st':={ s:=mkS ((6,.ptr 14 0 0)::rdS s w f),b:=mkB [(1000000,1000000,.var d),(14,14,rdB (toks s) m)] }) ?_ (C:=C1 w h (.var c)) rfl rfl hin inv1 (fun a2 w3 inv2=>?_) (fun pv e=>by cases e)
 ·simp [rdS]
  refine acallP_of (acallT_hand [14,1000000] hrule (by simp) (by simp) (by simp) (by simp [hcc']) (by simp) ?_)
  simp [hcc',hdd']
  (repeat refine ⟨.of (by kernel_rfl),?_⟩)
  exact sub_mk _ [(1000000,1000000,_),(14,14,_)] ⟨by simp,by simp,by simp [renOf,Blk.live,hcc',hdd'],base1⟩ (by simp [renOf])
 simp only [Exit.then]
 apply wp_seq
 apply wp_seq
 have hTl:(toks s).length≤10000:=by have:=toks_len s; omega
 refine frag (E:=Es) mixs (by decide) (N:=32) (nb:=1) (po:=none) (st':={ s:=mkS ((29,.d (.bool true))::(6,.ptr 14 0 0)::rdS s w f),b:=mkB [(1000000,1000000,.var d),(14,14,rdB (toks s) m)] }) ?_ (C:=C1 w h (.var c)) rfl rfl hin inv2 (fun a3 w4 inv3=>?_) (fun pv e=>by cases e)
 ·have hp:=ups (p_peek hm.sfx hm.ne hTl)
  simp only [tkA,tokC,hk,if_false] at hp
  by_cases k0:(hdT m).kd=0
  ·have hlt:((hdT m).fr:Int)<(s.length:Int):=by have:=hfr k0; omega
   simp [rdS]
   refine acallP_of (acallT_hand [14] hp (by simp) (by simp) (by simp) (by simp) (by simp) ?_)
   simp [k0]
   refine acallP_of (acallT_hand [14] hp (by simp) (by simp) (by simp) (by simp) (by simp) ?_)
   simp [hlt]
   (repeat refine ⟨.of (by kernel_rfl),?_⟩)
   exact sub_mk _ [(1000000,1000000,_),(14,14,_)] ⟨by simp,by simp,by simp [renOf,Blk.live,hdd'],base1⟩ (by simp [renOf])
  ·simp [rdS]
   refine acallP_of (acallT_hand [14] hp (by simp) (by simp) (by simp) (by simp) (by simp) ?_)
   have hkb:((hdT m).kd != 0)=true:=by simp [k0]
   simp [hkb]
   (repeat refine ⟨.of (by kernel_rfl),?_⟩)
   exact sub_mk _ [(1000000,1000000,_),(14,14,_)] ⟨by simp,by simp,by simp [renOf,Blk.live,hdd'],base1⟩ (by simp [renOf])
 simp only [Exit.then]
 refine wp_cond_true (by
  obtain ⟨_,_,_,h3,hsl,_⟩:=inv3
  have:=hsl 29
  simp only [mkS,upds,upd,rdS] at this
  simpa [RepA,RepD,Act.eval] using this) ?_
 have hfl:=fail_at p_fail hm hTl
 generalize posT m=e at *
 refine region_pan (E:=Es) (by decide) (N:=32) (nb:=1) (pv:=flD e) (K:=fun st=>st.s 4=.d (.val (.pointer (some (P4 w))))∧st.s 5=.d (.val (.pointer (some (P5 w))))) ?_ (by decide) (C:=C1 w h (.var c)) rfl rfl hin inv3 (fun a v w3 h3 h0 sp hK hs4 hdf hv m3=>?_)
 ·refine apanK_cons rfl ?_
  simp
  refine apanK_call ⟨by simp [rdS],by simp [rdS]⟩ (by simp [rdS,callOf]; rfl) [14] hfl (by simp) (by simp) (by simp) (by simp)
 obtain ⟨hK4,hK5⟩:=hK
 have e4:a.tmps[4]?.getD undef=.pointer (some (P4 w)):=by rw [← Array.getD_eq_getD_getElem?]; exact tmp_eq (hK4 ▸ hs4 4)
 have e5:a.tmps[5]?.getD undef=.pointer (some (P5 w)):=by rw [← Array.getD_eq_getD_getElem?]; exact tmp_eq (hK5 ▸ hs4 5)
 obtain rfl:v=.iface 97 (.agg #[.int .i64 e]):=by simp only [flD,RepD] at hv; exact hv.1
 obtain ⟨rd,mf⟩:=read_end hX mm m3 e 2
 simp only [Exit.then,bodyPostD]
 rw [show a.defers=[dcl w] from hdf]
 unfold dcl
 refine leaves_cons (f:=59) (args:=#[.pointer (some (P4 w)),.pointer (some (P5 w))]) (by simp) (by simp [go_sem]) ?_
 refine (catch_pan _ _ _ 0 0 _ _ rd.c4 rd.c5 rd.f4 rd.f5 rd.c5' rd.f5').mono ?_
 rintro e' u' w'' ⟨rfl,rfl,rfl⟩
 simp [Leaves,settle,results,Tryz.results29,go_sem,e4,e5,rd.e4,rd.e5]
 exact ⟨_,rep_two,mf⟩
theorem p_read_long {s:List UInt8} (hs:¬ s.length≤4000) (hs2:s.length≤1000000) {c:List AV} {f:FuncId} :
  Cf Es 29 [.d (.str s),.clo f [.ptr 1000000 0 0]] [.var c] (.tup [.d (.int .i64 0),.d (.int .i64 8)]) [.var c]:=by
 refine ⟨by kernel_rfl,fun w h vs hr mm=>?_⟩
 obtain ⟨v0,_,rfl,r0,v1,_,rfl,r1,r2⟩:=hr
 simp only [RepAs] at r2
 subst r2
 simp only [RepA,RepD] at r0
 subst r0
 have hX:(Blk.var c).live=true:=rfl
 have hin:=read_in hX mm
 show Calls Tryz.prog 29 #[.string ⟨s.toArray⟩,v1] w _
 go_enter_defers Tryz.func29,Tryz.ntmps29
 apply wp_seq
 apply wp_region
 simp [wpOps,go_sem,Exit.then]
 repeat (refine Or.inl ?_)
 apply wp_seq
 apply wp_seq
 apply wp_region
 simp [wpOps,go_sem,Exit.then]
 repeat (refine Or.inl ?_)
 refine wp_cond (t:=true) (by simp [Act.eval]; omega) ?_
 simp only [if_true]
 obtain ⟨rd,mf⟩:=read_end hX mm (mm.shift (w1:=W1 w) (by rw [W1_size]; omega) (W1_old w) [dcl w]) 0 8
 have c4:=rd.c4
 have f4:=rd.f4
 have c5:=rd.c5'
 have f5:=rd.f5'
 have z4:=rd.e4
 have z5:=rd.e5
 change Code.wp _ _ _ _ (W1 w)
 unfold P4 P5 at *
 generalize W1 w=W at *
 apply wp_seq
 apply wp_region
 simp [wpOps,go_sem,Exit.then,c4,f4,c5,f5]
 repeat (refine Or.inl ?_)
 refine wp_ret ?_
 simp only [Exit.then,bodyPostD,Leaves,results,Tryz.results29]
 simp [go_sem,z4,z5]
 exact ⟨h,rep_two,mf⟩
end Go.Proofs.Tryz
