import Derived.Test.YtgdkfmglkjfciaaGreatDoorRpm
import Derived.Test.YtgdkfmglkjfciaaGreatDoorPShy
import Derived.Test.YtgdkfmglkjfciaaGreatDoorPPta
import Derived.Test.YtgdkfmglkjfciaaGreatDoorPRqs
import Derived.Test.YtgdkfmglkjfciaaGreatDoorPTpn
import Derived.Test.YtgdkfmglkjfciaaGreatDoorAbB
set_option linter.all false
namespace Go.Proofs.Tryz
open Go.Ab
set_option maxRecDepth 100000
set_option maxHeartbeats 4000000
def fnR:Nat→FuncId
 | 0=>53
 | 1=>69
 | 2=>84
 | 3=>99
 | 4=>115
 | 5=>129
 | 6=>137
 | _=>140
theorem r_par {s:List UInt8} (hs:s.length≤5000):∀ (n lvl:Nat) (st:RS),lvl≤7→At (toks s) st.1→need lvl st.1≤n→Cf Es (fnR lvl) [.ptr 1000000 0 0] [rrB s st] (parR n lvl st).1.a [rrB s (parR n lvl st).2]
 | 0,lvl,st,hv,ha,hn=>by
   have:=List.length_pos_iff.2 ha.ne
   unfold need at hn
   omega
 | n+1,lvl,st,hv,ha,hn=>by
   have hpos:=List.length_pos_iff.2 ha.ne
   have hT:=ha.sfx.length_le
   have hT2:=toks_len s
   have rl:∀ (k L:Nat),k≤7→9*L+8 - k≤n→RuR s L (fnR k) (parR n k):=fun k L hk hL =>
    ⟨fun st' ha' hl'=>r_par hs n k st' hk ha' (by unfold need; omega),kp_par n k⟩
   unfold need at hn
   match lvl,hv,hn with
   | 0,_,hn=>rw [parR]; exact r_term hs (rl 1 st.1.length (by omega) (by omega)) ha (Nat.le_refl _)
   | 1,_,hn=>rw [parR]; exact r_and hs (rl 2 st.1.length (by omega) (by omega)) ha (Nat.le_refl _)
   | 2,_,hn=>rw [parR]; exact r_not hs (L:=st.1.length - 1) (rl 2 _ (by omega) (by omega)) (rl 3 _ (by omega) (by omega)) ha (by omega)
   | 3,_,hn =>
     have e:parR (n+1) 3 st=cprR (parR n 4) (parR n 0) st:=by rw [parR]; rfl
     rw [e]
     exact r_comparison hs (L:=st.1.length - 1) (rl 4 _ (by omega) (by omega)) (rl 0 _ (by omega) (by omega)) (by omega) ha (by omega)
   | 4,_,hn=>rw [parR]; exact r_sum hs (rl 5 st.1.length (by omega) (by omega)) ha (Nat.le_refl _)
   | 5,_,hn=>rw [parR]; exact r_product hs (rl 6 st.1.length (by omega) (by omega)) ha (Nat.le_refl _)
   | 6,_,hn=>exact r_unary hs (L:=st.1.length - 1) (rl 6 _ (by omega) (by omega)) (rl 7 _ (by omega) (by omega)) ha (by omega) (by rw [parR])
   | 7,_,hn =>
     have e:parR (n+1) 7 st=priR (parR n 0) st:=by rw [parR]; rfl
     exact r_primary hs (L:=st.1.length - 1) (rl 0 _ (by omega) (by omega)) ha (by omega) e.symm
   | k+8,hv,_=>omega
theorem toks_head (s:List UInt8):hdT (toks s)=scanT s 0:=by
 have h:=(tokF_chain (s:=s) (s.length+1) 0 (Nat.zero_le _) (by omega)).2
 unfold toks
 cases ht:tokF s (s.length+1) 0 with
 | nil=>rw [ht] at h; cases h
 | cons t r=>rw [ht] at h; exact Option.some.inj h
theorem r_read {s:List UInt8} (hs:s.length≤5000):Cf Es 15 [.d (.str s)] [] (.ptr 1000000 0 0) [rrB s (toks s,-1)]:=by
 have hsc:=r_scan s hs 0 (Nat.zero_le _)
 refine cf_introS mixs (fn:=Tryz.f15) (by kernel_rfl) rfl (by kernel_rfl) (by decide) (by simp) ?_
 simp only [rrB,toks_head]
 generalize scanT s 0=t at *
 simp<;>(repeat' first|contradiction|exact .ok|apply And.intro|intro _|(refine gc (fun h=>?_) (fun h=>?_)<;>(have h':=h;(try simp at h');first|done|simp[h,h']|simp)))
 refine acallT_plain hsc (by simp) ?_
 simp [rtA,rtC]
 (repeat refine ⟨.of (by kernel_rfl),?_⟩)
 exact EndsS.of [7] _ rfl (by simp; rfl) (by decide) rfl (by refine all_cons ?_ all_nil <;> simp [renOf,Blk.live]) (by simp [renOf])
theorem r_deepest (l:List Tm) (hl:l.length≤9223372036854775807) (hf:tmsFits l):Cf En 36 [.d (.sl (l.map Tm.c))] [] (.d (.int .i64 (tmsDep l))) []:=by
 refine cf_intro mix (fn:=Tryz.f36) (by kernel_rfl) rfl (by kernel_rfl) (by decide) (by simp) ?_
 rw [tmsDep_most]
 simp
 refine ⟨.of (by kernel_rfl),.of (by kernel_rfl),.of (by kernel_rfl),?_⟩
 refine aloopT mix (by decide) (fun i:Nat=>{ s:=mkS [(0,.d (.sl (l.map Tm.c))),(3,.d (.int .i64 (most ((l.map Tm.dep).take i)))),(4,.d (.int .i64 i))],b:=mkB [] }) (fun i:Nat=>i≤l.length) (fun i=>l.length - i) 0 (by simp) (sub_mk _ [] .nil (by simp [most])) ?_
 rintro i hi
 by_cases hlt:i<l.length
 ·have hlt':(i:Int)<l.length:=by omega
  have hg:l[i]?=some l[i]:=List.getElem?_eq_getElem hlt
  have hk:=most_step (l:=l.map Tm.dep) (i:=i) (x:=l[i].dep) (by rw [List.getElem?_map,hg]; rfl)
  have c1:=Tm.clen l[i]
  have k1:=Tm.ctake l[i]
  simp [hlt,hlt',hg,c1,k1]
  refine ⟨.of (by kernel_rfl),?_⟩
  refine acallT_plain (r_termDepth _ l[i] (Nat.lt_succ_self _) (tmsFits_get l hf _ (List.getElem_mem hlt))) (by simp [Tm.a]) ?_
  simp
  refine ⟨.of (by kernel_rfl),.of (by kernel_rfl),i+1,hlt,?_,?_⟩
  ·refine sub_mk _ [] .nil ?_
   simp
   exact ⟨hk,wrap_in (by omega) (by omega)⟩
  ·simp; omega
 ·have hlt':¬ (i:Int)<l.length:=by omega
  have hall:=most_all (l:=l.map Tm.dep) (i:=i) (by simp; omega)
  simp [hlt,hlt',hall]
  exact ⟨.of (by kernel_rfl),.of (by kernel_rfl)⟩
theorem r_depths (l:List Sm) (hl:l.length≤9223372036854775807) (h:∀ x∈l,Cf En 18 [x.a] [] (.d (.int .i64 x.dep)) []):Cf En 35 [.d (.sl (l.map Sm.c))] [] (.d (.int .i64 (smsDep l))) []:=by
 refine cf_intro mix (fn:=Tryz.f35) (by kernel_rfl) rfl (by kernel_rfl) (by decide) (by simp) ?_
 rw [smsDep_most]
 simp
 refine ⟨.of (by kernel_rfl),.of (by kernel_rfl),.of (by kernel_rfl),?_⟩
 refine aloopT mix (by decide) (fun i:Nat=>{ s:=mkS [(0,.d (.sl (l.map Sm.c))),(3,.d (.int .i64 (most ((l.map Sm.dep).take i)))),(4,.d (.int .i64 i))],b:=mkB [] }) (fun i:Nat=>i≤l.length) (fun i=>l.length - i) 0 (by simp) (sub_mk _ [] .nil (by simp [most])) ?_
 rintro i hi
 by_cases hlt:i<l.length
 ·have hlt':(i:Int)<l.length:=by omega
  have hg:l[i]?=some l[i]:=List.getElem?_eq_getElem hlt
  have hk:=most_step (l:=l.map Sm.dep) (i:=i) (x:=l[i].dep) (by rw [List.getElem?_map,hg]; rfl)
  have c1:=Sm.clen l[i]
  have k1:=Sm.ctake l[i]
  simp [hlt,hlt',hg,c1,k1]
  refine ⟨.of (by kernel_rfl),?_⟩
  refine acallT_plain (h l[i] (List.getElem_mem hlt)) (by simp [Sm.a]) ?_
  simp
  refine ⟨.of (by kernel_rfl),.of (by kernel_rfl),i+1,hlt,?_,?_⟩
  ·refine sub_mk _ [] .nil ?_
   simp
   exact ⟨hk,wrap_in (by omega) (by omega)⟩
  ·simp; omega
 ·have hlt':¬ (i:Int)<l.length:=by omega
  have hall:=most_all (l:=l.map Sm.dep) (i:=i) (by simp; omega)
  simp [hlt,hlt',hall]
  exact ⟨.of (by kernel_rfl),.of (by kernel_rfl)⟩
def noTm:List D:=[.int .i64 0,.int .i64 0,.int .i64 0,.str [],.str [],.sl []]
theorem s_grow (n:Nat) (h0:0<n) (hn:n≤30000):Cf En 45 [.nils,.d (.int .i64 n)] [] (.ref firstName 0 0 6) [.arr 57 6 (List.replicate n noTm) false]:=by
 refine cf_intro mix (fn:=Tryz.f45) (by kernel_rfl) rfl (by kernel_rfl) (by decide) (by simp) ?_
 have h1:¬ (n:Int)<0:=by omega
 have hw0:IntKind.i64.wrap 0=0:=by decide
 have hw:IntKind.i64.wrap n=n:=wrap_in (by omega) (by omega)
 have h3:(n:Int)≤9223372036854775807:=by omega
 have h4:(80:Int)*n≤281474976710656:=by omega
 simp [h1,h0,hw0,hw,h3,h4]
 refine ⟨.of (by kernel_rfl),.of (by kernel_rfl),.of (by kernel_rfl),.of (by kernel_rfl),?_⟩
 refine ⟨.of (by kernel_rfl),.of (by kernel_rfl),?_⟩
 refine ⟨_,[(firstName,22,.arr 57 6 (List.replicate n noTm) false)],by simp; rfl,⟨by simp,by simp,?_,by simp⟩,by simp,?_⟩
 ·intro p hp
  simp only [List.mem_cons,List.not_mem_nil,or_false] at hp
  rcases hp with rfl
  simp [Blk.live,noTm]
 ·simp [renOf]
theorem s_grow0:Cf En 45 [.nils,.d (.int .i64 0)] [] .nils []:=by
 refine cf_introN mix (fn:=Tryz.f45) (by kernel_rfl) rfl (by kernel_rfl) (by decide) (by simp) ?_
 have hw0:IntKind.i64.wrap 0=0:=by decide
 simp [hw0]
 (repeat' (first|contradiction|exact .ok|apply And.intro|intro _|(refine gc (fun h=>?_) (fun h=>?_)<;>(have h':=h;(try simp at h');first|done|simp[h,h',hw0]|simp[hw0]))))
theorem s_concat (W G H:List Tm) (hw:W.length≤10000) (hg:G.length≤10000) (hh:H.length≤10000) :
  Cf En 30 [.d (.sl [[.sl (W.map Tm.c)],[.sl (G.map Tm.c)],[.sl (H.map Tm.c)]])] [] (.ref firstName 0 (W.length+G.length+H.length) 6) [.arr 57 6 ((W++G++H).map Tm.c) false]:=by
 refine cf_intro mix (fn:=Tryz.f30) (by kernel_rfl) rfl (by kernel_rfl) (by decide) (by simp) ?_
 simp
 refine ⟨.of (by kernel_rfl),.of (by kernel_rfl),.of (by kernel_rfl),?_⟩
 have w1:IntKind.i64.wrap (W.length:Int)=W.length:=wrap_in (by omega) (by omega)
 have w2:IntKind.i64.wrap ((W.length:Int)+G.length)=W.length+G.length:=wrap_in (by omega) (by omega)
 have w3:IntKind.i64.wrap ((W.length:Int)+G.length+H.length)=W.length+G.length+H.length:=wrap_in (by omega) (by omega)
 have w3':IntKind.i64.wrap ((W.length:Int)+(G.length+H.length))=W.length+(G.length+H.length):=wrap_in (by omega) (by omega)
 have p1:¬ (W.length:Int)<0:=by omega
 have p2:¬ (W.length:Int)+G.length<0:=by omega
 have p3:¬ (W.length:Int)+G.length+H.length<0:=by omega
 have p3':¬ (W.length:Int)+(G.length+H.length)<0:=by omega
 have d1:IntKind.i64.wrap 1=1:=by decide
 have d2:IntKind.i64.wrap 2=2:=by decide
 have d3:IntKind.i64.wrap 3=3:=by decide
 refine aloopT mix (by decide) (fun i:Nat=>{ s:=mkS [(0,.d (.sl [[.sl (W.map Tm.c)],[.sl (G.map Tm.c)],[.sl (H.map Tm.c)]])),(3,.d (.int .i64 ((([W,G,H].take i).map List.length).sum:Nat))),(9,.d (.sl [[.sl (W.map Tm.c)],[.sl (G.map Tm.c)],[.sl (H.map Tm.c)]])),(10,.d (.int .i64 3)),(11,.d (.int .i64 i))],b:=mkB [] }) (fun i:Nat=>i≤3) (fun i=>3 - i) 0 (by simp) (sub_mk _ [] .nil (by simp)) ?_
 rintro i hi
 by_cases hlt:i<3
 ·have hi3:i=0∨i=1∨i=2:=by omega
  rcases hi3 with rfl | rfl | rfl
  ·simp [w1,p1]
   refine ⟨.of (by kernel_rfl),.of (by kernel_rfl),.of (by kernel_rfl),.of (by kernel_rfl),.of (by kernel_rfl),1,by omega,sub_mk _ [] .nil (by simp; decide),by decide⟩
  ·simp [w2,p2]
   refine ⟨.of (by kernel_rfl),.of (by kernel_rfl),.of (by kernel_rfl),.of (by kernel_rfl),.of (by kernel_rfl),2,by omega,sub_mk _ [] .nil (by simp; decide),by decide⟩
  ·simp [w3,p3,w3',p3',Int.add_assoc]
   refine ⟨.of (by kernel_rfl),.of (by kernel_rfl),.of (by kernel_rfl),.of (by kernel_rfl),.of (by kernel_rfl),3,by omega,sub_mk _ [] .nil (by simp; decide),by decide⟩
 ·obtain rfl:i=3:=by omega
  simp
  obtain ⟨n,hn⟩:∃ n:Nat,n=W.length+G.length+H.length:=⟨_,rfl⟩
  have hn':(W.length:Int)+(G.length+H.length)=(n:Int):=by omega
  rw [hn']
  have L6:∀ l:List Tm,((l.map Tm.c).all fun x=>x.length==6)=true:=fun l=>by
   rw [List.all_eq_true]
   intro x hx
   obtain ⟨t,_,rfl⟩:=List.mem_map.1 hx
   simp [Tm.clen]
  have L6':∀ (l:List Tm) (a:Tm),a∈l→a.c.length=6:=fun _ a _=>a.clen
  have b1:W.length*80≤140737488355328:=by omega
  have b2:(W.length+G.length)*80≤140737488355328:=by omega
  have b3:(W.length+(G.length+H.length))*80≤140737488355328:=by omega
  have m1:W.length≤9223372036854775807:=by omega
  have m2:W.length+G.length≤9223372036854775807:=by omega
  have m3:W.length+(G.length+H.length)≤9223372036854775807:=by omega
  refine ⟨.of (by kernel_rfl),?_⟩
  have q1:(W.map Tm.c).length=W.length:=by simp
  by_cases h0:n=0
  ·have e1:W=[]:=List.eq_nil_of_length_eq_zero (by omega)
   have e2:G=[]:=List.eq_nil_of_length_eq_zero (by omega)
   have e3:H=[]:=List.eq_nil_of_length_eq_zero (by omega)
   subst e1 e2 e3
   subst h0
   refine acallT_plainN s_grow0 (by simp) ?_
   simp
   refine ⟨.of (by kernel_rfl),.of (by kernel_rfl),?_⟩
   refine aloopT mix (by decide) (fun i:Nat=>{ s:=mkS [(0,.d (.sl [[.sl []],[.sl []],[.sl []]])),(6,if i=0 then .nils else .ref 6 0 0 6),(25,.d (.sl [[.sl []],[.sl []],[.sl []]])),(26,.d (.int .i64 3)),(27,.d (.int .i64 i))],b:=mkB (if i=0 then [] else [(6,6,.arr 57 6 [] false)]) }) (fun i:Nat=>i≤3) (fun i=>3 - i) 0 (by simp) (sub_mk _ [] .nil (by simp)) ?_
   clear hlt hi
   rintro i hi
   by_cases hlt:i<3
   ·have hi3:i=0∨i=1∨i=2:=by omega
    rcases hi3 with rfl | rfl | rfl
    ·simp
     refine ⟨.of (by kernel_rfl),.of (by kernel_rfl),.of (by kernel_rfl),.of (by kernel_rfl),1,by omega,sub_mk _ [(6,33,_)] ⟨by simp,by simp,by simp [renOf,Blk.live],by simp⟩ (by simp [renOf]; decide),by decide⟩
    ·simp
     refine ⟨.of (by kernel_rfl),.of (by kernel_rfl),.of (by kernel_rfl),.of (by kernel_rfl),2,by omega,sub_mk _ [(6,33,_)] ⟨by simp,by simp,by simp [renOf,Blk.live],by simp⟩ (by simp [renOf]; decide),by decide⟩
    ·simp
     refine ⟨.of (by kernel_rfl),.of (by kernel_rfl),.of (by kernel_rfl),.of (by kernel_rfl),3,by omega,sub_mk _ [(6,33,_)] ⟨by simp,by simp,by simp [renOf,Blk.live],by simp⟩ (by simp [renOf]; decide),by decide⟩
   ·obtain rfl:i=3:=by omega
    simp
    refine ⟨.of (by kernel_rfl),.of (by kernel_rfl),?_⟩
    refine ⟨_,[(firstName,6,.arr 57 6 [] false)],by simp; rfl,⟨by simp,by simp,?_,by simp⟩,by simp,?_⟩
    ·intro p hp
     simp only [List.mem_cons,List.not_mem_nil,or_false] at hp
     rcases hp with rfl
     simp [Blk.live]
    ·simp [renOf]
  ·refine acallT_newN [] (s_grow n (by omega) (by omega)) (by simp) (by simp) (by simp) (by decide) (by simp) (by simp) (by simp) ?_
   have h0':¬ 0=n:=fun e=>h0 e.symm
   simp
   refine ⟨.of (by kernel_rfl),.of (by kernel_rfl),?_⟩
   refine aloopT mix (by decide) (fun i:Nat=>{ s:=mkS [(0,.d (.sl [[.sl (W.map Tm.c)],[.sl (G.map Tm.c)],[.sl (H.map Tm.c)]])),(6,.ref 6 0 ((([W,G,H].take i).map List.length).sum) 6),(25,.d (.sl [[.sl (W.map Tm.c)],[.sl (G.map Tm.c)],[.sl (H.map Tm.c)]])),(26,.d (.int .i64 3)),(27,.d (.int .i64 i))],b:=mkB [(6,6,.arr 57 6 (if i=0 then List.replicate n noTm else ([W,G,H].take i).flatten.map Tm.c) false)] }) (fun i:Nat=>i≤3) (fun i=>3 - i) 0 (by simp) (sub_mk _ [(6,25000,_)] ⟨by simp,by simp,by simp [renOf,Blk.live],by simp⟩ (by simp [renOf])) ?_
   clear hlt hi
   rintro i hi
   by_cases hlt:i<3
   ·have hi3:i=0∨i=1∨i=2:=by omega
    rcases hi3 with rfl | rfl | rfl
    ·simp [L6,L6',b1,m1,h0,h0']
     refine ⟨.of (by kernel_rfl),.of (by kernel_rfl),.of (by kernel_rfl),.of (by kernel_rfl),1,by omega,sub_mk _ [(6,33,_)] ⟨by simp,by simp,by simp [renOf,Blk.live],by simp⟩ (by simp [renOf]; decide),by decide⟩
    ·simp [L6,L6',b2,m2,h0,h0']
     refine ⟨.of (by kernel_rfl),.of (by kernel_rfl),.of (by kernel_rfl),.of (by kernel_rfl),2,by omega,sub_mk _ [(6,33,_)] ⟨by simp,by simp,by simp [renOf,Blk.live],by simp⟩ (by simp [renOf]; decide),by decide⟩
    ·simp [L6,L6',b3,m3,h0,h0',Nat.add_assoc]
     refine ⟨.of (by kernel_rfl),.of (by kernel_rfl),.of (by kernel_rfl),.of (by kernel_rfl),3,by omega,sub_mk _ [(6,33,_)] ⟨by simp,by simp,by simp [renOf,Blk.live,Nat.add_assoc],by simp⟩ (by simp [renOf,Nat.add_assoc]; decide),by decide⟩
   ·obtain rfl:i=3:=by omega
    simp
    refine ⟨.of (by kernel_rfl),.of (by kernel_rfl),?_⟩
    refine ⟨_,[(firstName,6,.arr 57 6 ((W++G++H).map Tm.c) false)],by simp; rfl,⟨by simp,by simp,?_,by simp⟩,by simp,?_⟩
    ·intro p hp
     simp only [List.mem_cons,List.not_mem_nil,or_false] at hp
     rcases hp with rfl
     simp [Blk.live]
    ·simp [renOf,Nat.add_assoc]
theorem itsDep_most (l:List It):itsDep l=most (l.map fun i=>i.t.dep):=by
 rw [itsDep,tmsDep_most,List.map_map]; rfl
theorem mxi (a b:Int):(if a<b then b else a)=max a b:=by split <;> omega
theorem r_depth:∀ (m:Nat) (x:Sm),SizeOf.sizeOf x<m→x.fits→Cf En 18 [x.a] [] (.d (.int .i64 x.dep)) []
 | 0,_,h,_=>absurd h (by omega)
 | m+1,x,hm,hfit=>by
   refine cf_intro mix (fn:=Tryz.f18) (by kernel_rfl) rfl (by kernel_rfl) (by decide) (by simp) ?_
   have hq:=fun (a:Sm) (ha:SizeOf.sizeOf a<m) (fa:a.fits)=>r_depth m a ha fa
   obtain ⟨f,al,d,s,is,ft,fq,fn,js,w,g,h,ks⟩:=x
   have hfq:∀ a∈fq,SizeOf.sizeOf a<m:=fun a ha=>by
    have:=Sm.q_lt (e:=.mk f al d s is ft fq fn js w g h ks) ha
    omega
   have hks:∀ a∈ks,SizeOf.sizeOf a<m:=fun a ha=>by
    have:=Sm.kid_lt (e:=.mk f al d s is ft fq fn js w g h ks) ha
    omega
   have hjs:∀ j∈js,∀ a∈j.qs,SizeOf.sizeOf a<m:=fun j hj a ha=>by
    have:=Sm.j_lt (e:=.mk f al d s is ft fq fn js w g h ks) hj
    have:=Jo.q_lt ha
    omega
   rw [Sm.fits] at hfit
   obtain ⟨⟨fi1,fi2⟩,⟨fq1,fq2⟩,⟨fj1,fj2⟩,⟨fw1,fw2⟩,⟨fg1,fg2⟩,⟨fh1,fh2⟩,fk1,fk2⟩:=hfit
   have e1:=r_depths ks fk1 fun a ha=>hq a (hks a ha) (smsFits_get _ fk2 a ha)
   have e2:=r_depths fq fq1 fun a ha=>hq a (hfq a ha) (smsFits_get _ fq2 a ha)
   have e3:=r_deepest w fw1 fw2
   have e4:=r_deepest g fg1 fg2
   have e5:=r_deepest h fh1 fh2
   rw [Sm.dep,itsDep_most,josDep_most]
   generalize hK:smsDep ks=K at *
   generalize hQ:smsDep fq=Q at *
   generalize hW:tmsDep w=W at *
   generalize hG:tmsDep g=G at *
   generalize hH:tmsDep h=H at *
   simp [Sm.a,Sm.c,smsC_map,josC_map]
   refine ⟨.of (by kernel_rfl),acallT_plain e1 (by simp) ?_⟩
   simp [smsC_map,josC_map]
   refine acallT_plain e2 (by simp) ?_
   simp [smsC_map,josC_map]
   refine acallT_plain e3 (by simp) ?_
   simp [smsC_map,josC_map]
   refine acallT_plain e4 (by simp) ?_
   simp [smsC_map,josC_map]
   refine acallT_plain e5 (by simp) ?_
   have hN0:0≤max (max (max (max K Q) W) G) H:=by
    have:=most_nonneg (ks.map Sm.dep)
    rw [smsDep_most] at hK
    omega
   have hfin:∀ M J:Int,max K (max Q (max W (max G (max H (max M J)))))=max (max (max (max (max (max K Q) W) G) H) M) J:=fun M J=>by simp only [Int.max_assoc]
   simp [smsC_map,josC_map,mxi]
   rw [hfin]
   generalize hN:max (max (max (max K Q) W) G) H=N at *
   clear hfin
   refine ⟨.of (by kernel_rfl),.of (by kernel_rfl),?_⟩
   refine aloopT mix (by decide) (fun i:Nat=>{ s:=mkS [(1,.ptr 1 0 0),(3,.d (.int .i64 (max N (most ((is.map fun i=>i.t.dep).take i))))),(4,.d (.int .i64 i))],b:=mkB [(1,1,.var (Sm.a (.mk f al d s is ft fq fn js w g h ks)).cells)] }) (fun i:Nat=>i≤is.length) (fun i=>is.length - i) 0 (by simp) (sub_mk _ _ ⟨by simp,by simp,by simp [renOf,Blk.live,Sm.a,Sm.c,smsC_map,josC_map],by simp⟩ (by
    simp [renOf,most]
    omega)) ?_
   rintro i hi
   by_cases hlt:i<is.length
   ·have hlt':(i:Int)<is.length:=by omega
    have hg:is[i]?=some is[i]:=List.getElem?_eq_getElem hlt
    have hk:=most_take (l:=is.map fun i=>i.t.dep) (i:=i) (x:=is[i].t.dep) (by rw [List.getElem?_map,hg]; rfl)
    have hq:=s_termDepth
    have c1:=It.clen is[i]
    have c2:=Tm.clen is[i].t
    have k1:=Tm.ctake' is[i].t
    simp [Sm.a,Sm.c,smsC_map,josC_map,hlt,hlt',hg,It.c,c2]
    refine ⟨.of (by kernel_rfl),?_⟩
    refine acallT_plain (r_termDepth _ is[i].t (Nat.lt_succ_self _) (itFits_get fi2 (List.getElem_mem hlt))) (by simp [Tm.a,c2]) ?_
    simp
    refine ⟨.of (by kernel_rfl),.of (by kernel_rfl),i+1,hlt,?_,?_⟩
    ·refine sub_mk _ [(1,1,_)] ⟨by simp,by simp,by simp [renOf,Blk.live,Sm.a,Sm.c,smsC_map,josC_map],by simp⟩ ?_
     simp [renOf]
     refine ⟨?_,wrap_in (by omega) (by omega)⟩
     try simp at hk
     rw [hk,mxi]
     omega
    ·simp; omega
   ·have hlt':¬ (i:Int)<is.length:=by omega
    have hall:=most_all (l:=is.map fun i=>i.t.dep) (i:=i) (by simp; omega)
    generalize hM:most (is.map fun i=>i.t.dep)=M at *
    simp [Sm.a,Sm.c,smsC_map,josC_map,hlt,hlt',hall]
    refine ⟨.of (by kernel_rfl),.of (by kernel_rfl),?_⟩
    refine aloopT mix (by decide) (fun i:Nat=>{ s:=mkS [(1,.ptr 1 0 0),(3,.d (.int .i64 (max (max N M) (most ((js.map Jo.dep).take i))))),(5,.d (.int .i64 i))],b:=mkB [(1,1,.var (Sm.a (.mk f al d s is ft fq fn js w g h ks)).cells)] }) (fun i:Nat=>i≤js.length) (fun i=>js.length - i) 0 (by simp) (sub_mk _ [(1,1,_)] ⟨by simp,by simp,by simp [renOf,Blk.live,Sm.a,Sm.c,smsC_map,josC_map],by simp⟩ (by
     simp [renOf,most]
     have:=most_nonneg (is.map fun i=>i.t.dep)
     try simp at hall
     omega)) ?_
    clear hi hlt hlt' hall i
    rintro i hi
    by_cases hlt:i<js.length
    ·have hlt':(i:Int)<js.length:=by omega
     obtain ⟨x,hg⟩:∃ x,js[i]?=some x:=⟨_,List.getElem?_eq_getElem hlt⟩
     have hk:=most_take (l:=js.map Jo.dep) (i:=i) (x:=x.dep) (by rw [List.getElem?_map,hg]; rfl)
     have hx:=josFits_get _ fj2 x (List.mem_of_getElem? hg)
     have hxq:=hjs x (List.mem_of_getElem? hg)
     obtain ⟨k0,t0,q0,n0,o0⟩:=x
     rw [Jo.fits] at hx
     rw [Jo.dep] at hk
     have e1:=r_depths q0 hx.1.1 fun a ha=>hq a (hxq a ha) (smsFits_get _ hx.1.2 a ha)
     have e2:=r_deepest o0 hx.2.1 hx.2.2
     have hgi:∀ h,js[i]'h=_:=fun h=>(List.getElem?_eq_some_iff.1 hg).2
     simp [Sm.a,Sm.c,smsC_map,josC_map,hlt,hlt',hg,hgi,Jo.c]
     refine ⟨.of (by kernel_rfl),?_⟩
     refine acallT_plain e1 (by simp) ?_
     simp [smsC_map,josC_map,hlt,hlt',hg,hgi,Jo.c]
     refine acallT_plain e2 (by simp) ?_
     simp
     refine ⟨.of (by kernel_rfl),.of (by kernel_rfl),i+1,hlt,?_,?_⟩
     ·refine sub_mk _ [(1,1,_)] ⟨by simp,by simp,by simp [renOf,Blk.live,Sm.a,Sm.c,smsC_map,josC_map],by simp⟩ ?_
      simp [renOf]
      refine ⟨?_,wrap_in (by omega) (by omega)⟩
      try simp at hk
      rw [hk]
      simp only [mxi]
      omega
     ·simp; omega
    ·have hlt':¬ (i:Int)<js.length:=by omega
     have hall:=most_all (l:=js.map Jo.dep) (i:=i) (by simp; omega)
     simp [Sm.a,Sm.c,smsC_map,josC_map,hlt,hlt',hall,up1]
     exact ⟨.of (by kernel_rfl),.of (by kernel_rfl)⟩
end Go.Proofs.Tryz
