import Derived.Test.YtklnfckiabhceaaGreatDoorRpg
import Derived.Test.YtklnfckiabhceaaGreatDoorKOdr
import Derived.Test.YtklnfckiabhceaaGreatDoorWor
import Derived.Test.YtklnfckiabhceaaGreatDoorKGoo
set_option linter.all false
namespace Go.Proofs.Tryz
open Go.Ab
set_option maxRecDepth 100000
set_option maxHeartbeats 8000000
theorem crossG_le:∀ {P:List (List Rg)} {O:List Rg},O.length≤2000→limG O.length P=true→(crossG O P).length≤2000
 | [],O,h,_=>h
 | p::P,O,h,hl=>by
   obtain ⟨h1,h2⟩:=limG_step hl
   have:=mulP_len p.length O
   rw [crossG]
   exact crossG_le (by rw [this]; exact h2 h) (by rw [this]; exact h1)
theorem regS_len (S:List Tb) (t:Int) (l:List At) (P:List (List Rg)):(regS S t l P).2.length≤2000:=by
 unfold regS
 split
 ·unfold regG
  split
  ·simp
  ·rename_i R hR
   unfold endR
   split
   ·simp
   ·split
    ·rename_i hl
     have h1:=rowsR_len (by simp) hR
     have h2:=ownG_len (ch:=(tabO S t.toNat).ch) (l:=l) (R:=R) (O:=[])
     simp at h2
     exact crossG_le (by omega) hl
    ·simp
 ·simp
theorem r13_sameR (l:List Rg) (hl:l.length≤3000) (hb:∀ x∈l,x.t.length≤1000∧x.p.length≤1000∧x.s.length≤1000) :
  Cf En 19 [.d (.sl (l.map Rg.c)),.d (.sl (l.map Rg.c))] [] (.d (.bool true)) []:=by
 refine cf_intro mix (fn:=Tryz.f19) (by kernel_rfl) rfl (by kernel_rfl) (by decide) (by simp) ?_
 simp
 (repeat' (first|contradiction|exact .ok|apply And.intro|intro _|(refine gc (fun h=>?_) (fun h=>?_)<;>(have h':=h;(try simp at h');first|done|simp[h,h']|simp))))
 refine aloopT mix (by decide) (fun i:Nat=>{ s:=mkS [(0,.d (.sl (l.map Rg.c))),(1,.d (.sl (l.map Rg.c))),(5,.d (.int .i64 i))],b:=mkB [] }) (fun i=>i≤l.length) (fun i=>l.length - i) 0 (by simp) (sub_mk _ [] .nil (by simp)) ?_
 intro i hi
 by_cases hlt:i<l.length
 ·obtain ⟨x,hx⟩:∃ x,x=l[i]:=⟨_,rfl⟩
  have hgx:∀ h,l[i]'h=x:=fun _=>hx.symm
  obtain ⟨h1,h2,h3⟩:=hb x (by rw [hx]; exact List.getElem_mem hlt)
  have hw:=wrap_in (n:=(i:Int)+1) (by omega) (by omega)
  have c1:=r13_same x.t x.t h1
  have c2:=r13_same x.p x.p h2
  have c3:=r_rows_same x.s (by omega)
  rw [beq_self_eq_true] at c1 c2
  rcases x with ⟨xt,xp,xs⟩
  simp only at c1 c2 c3
  simp [hlt,hgx,Rg.c]
  (repeat' (first|contradiction|exact .ok|apply And.intro|intro _|(refine gc (fun h=>?_) (fun h=>?_)<;>(have h':=h;(try simp at h');first|done|simp[h,h']|simp))))
  refine acallT_plain c1 (by simp) ?_
  simp [hlt,hgx,Rg.c]
  (repeat' (first|contradiction|exact .ok|apply And.intro|intro _|(refine gc (fun h=>?_) (fun h=>?_)<;>(have h':=h;(try simp at h');first|done|simp[h,h']|simp))))
  refine acallT_plain c2 (by simp) ?_
  simp [hlt,hgx,Rg.c]
  (repeat' (first|contradiction|exact .ok|apply And.intro|intro _|(refine gc (fun h=>?_) (fun h=>?_)<;>(have h':=h;(try simp at h');first|done|simp[h,h']|simp))))
  refine acallT_plain c3 (by simp) ?_
  simp
  (repeat' (first|contradiction|exact .ok|apply And.intro|intro _|(refine gc (fun h=>?_) (fun h=>?_)<;>(have h':=h;(try simp at h');first|done|simp[h,h']|simp))))
  refine ⟨i+1,by omega,?_,by simp; omega⟩
  exact sub_mk _ [] .nil (by simp [hw])
 obtain rfl:i=l.length:=by omega
 simp
 all_goals exact gz
theorem outL_at {α:Type} {f:Nat→Option (List α)} {N i:Nat} {l:List α} (h:i<N) (hf:f i=some l):∀ hh,(outL f N)[i]'hh=l:=fun hh=>by
 have:(outL f N)[i]?=some l:=by unfold outL; rw [seqF_get,if_pos h,hf]; rfl
 rw [List.getElem?_eq_getElem hh,Option.some.injEq] at this
 exact this
theorem region_regions (L:List Int) (t:Int) (rw:List At) (hrw:rw.length≤9223372036854775807) :
  Cf Es 5 [.d (.sl (ints L)),.d (.int .i64 t),.d (.sl (rw.map At.c))] [] (.d (.bool true)) []:=by
 refine cf_intro mixs (fn:=Tryz.f5) (by kernel_rfl) rfl (by kernel_rfl) (by decide) (by simp) ?_
 by_cases c10:10<rw.length
 ·have c10i:(10:Int)<rw.length:=by omega
  simp [c10i]
  (repeat' (first|contradiction|exact .ok|apply And.intro|intro _|(refine gc (fun h=>?_) (fun h=>?_)<;>(have h':=h;(try simp at h');first|done|simp[h,h',c10i]|simp[c10i]))))
 have c10i:¬ (10:Int)<rw.length:=by omega
 obtain ⟨N,hN⟩:∃ N,N=(1+nextV L 0 3).toNat:=⟨_,rfl⟩
 have hn3:=nextV_in L 0 (n:=3) (by omega)
 obtain ⟨S,hS⟩:∃ S,S=(tabsP L (0+1) N).1:=⟨_,rfl⟩
 obtain ⟨b,hb⟩:∃ b,b=(tabsP L (0+1) N).2:=⟨_,rfl⟩
 have hM:MadeS S:=by rw [hS]; exact made_made L _ N (by omega)
 have hD:Dec S:=dec_of hM.dec
 have hF:=hM.fill
 have hw:=t_world L 0 (by omega) S b (by rw [hS,hN]) (by rw [hb,hN]) hM
 have hOr:=ordS_ok S
 have hfew:=hF.few
 have hwk:=worldG_ok L hM (ordS S).1 (fun _=>none) (fun _=>none) b hOr.rng ⟨(fun _ _ h=>by cases h),(fun _ _ h=>by cases h)⟩
 have hfix:=fun ok=>world_fix L hD S.length 0 (fun _=>none) (fun _=>none) b (by omega) (fun k hk=>absurd hk (by omega)) ok
 rw [ordS_dec hD] at hw hwk
 generalize worldG L S (upN 0 S.length) (fun _=>none) (fun _=>none) b=w at *
 clear hS hb hN hOr
 simp [tapB,c10i] at hw ⊢
 (repeat' (first|contradiction|exact .ok|apply And.intro|intro _|(refine gc (fun h=>?_) (fun h=>?_)<;>(have h':=h;(try simp at h');first|done|simp[h,h',c10i]|simp[c10i]))))
 refine acallT_hand [31] hw (by simp) (by simp) (by simp) (by simp [tapB,ints]) (by simp) ?_
 cases hok:w.ok with
 | false =>
   simp [worldA,hok,schA]
   all_goals exact gz
 | true =>
 have hWk:=hwk hok
 have hfx:=hfix hok
 unfold worldA
 rw [hok]
 clear hw hwk hfix
 obtain ⟨wa,wr,wi,wo⟩:=w
 simp only at hWk hfx hok ⊢
 have hAl:=outL_len wa S.length
 have hRl:=outL_len wr S.length
 have hAg:=fun i l h e hh=>outL_at (f:=wa) (N:=S.length) (i:=i) (l:=l) h e hh
 have hRg:=fun i l h e hh=>outL_at (f:=wr) (N:=S.length) (i:=i) (l:=l) h e hh
 generalize outL wa S.length=AL at *
 generalize outL wr S.length=RL at *
 simp [schA]
 (repeat' (first|contradiction|exact .ok|apply And.intro|intro _|(refine gc (fun h=>?_) (fun h=>?_)<;>(have h':=h;(try simp at h');first|done|simp[h,h']|simp))))
 refine aloopT mixs (by decide) (fun i:Nat=>{ s:=mkS [(1,.d (.int .i64 t)),(2,.d (.sl (rw.map At.c))),(8,.ptr 8 0 0),(9,.d (.sl (AL.map atD))),(10,.d (.sl (RL.map rgD))),(12,.d (.int .i64 i))],b:=mkB [(8,8,.var [.d (.sl (S.map Tb.c))])] })
  (fun i=>i≤S.length) (fun i=>S.length - i) 0 (by simp) (sub_mk _ [(8,8,_)] ⟨by simp,by simp,by simp [renOf,Blk.live],by simp⟩ (by simp [renOf])) ?_
 intro i hi
 by_cases hil:i<S.length
 ·obtain ⟨x,hx⟩:∃ x,x=S[i]:=⟨_,rfl⟩
  have hgx:∀ h,S[i]'h=x:=fun _=>hx.symm
  have hxm:x∈S:=by rw [hx]; exact List.getElem_mem hil
  have htab:tabO S i=x:=by unfold tabO; rw [List.getElem?_eq_getElem hil,← hx]; rfl
  have hwi:=wrap_in (n:=(i:Int)+1) (by omega) (by omega)
  have hxf:=(hF.fk x hxm).1
  have hxc:=hF.cols x hxm
  obtain ⟨l,r,hA,hR,hreg⟩:=hfx i hil
  have hll:=(hWk.a i l hA).len
  have hAgi:=hAg i l hil hA
  have hRgi:=hRg i r hil hR
  have hiA:i<AL.length:=by omega
  have hiR:i<RL.length:=by omega
  have hwP:wP S wr i=x.fk.map fun g=>(wr (tgN S g)).getD []:=by unfold wP; rw [htab]
  have hpb:∀ p∈wP S wr i,p.length≤2000:=fun p hp=>by
   rw [hwP] at hp
   obtain ⟨g,hg,rfl⟩:=List.mem_map.1 hp
   have h1:=(hD i hil g (by rw [htab]; exact hg)).2
   obtain ⟨l2,r2,_,hR2,_⟩:=hfx (tgN S g) (by omega)
   have:=(hWk.r _ r2 hR2).1
   rw [hR2,Option.getD_some]
   omega
  have hg1:=p13_regions S hF i l (by omega) (wP S wr i) hpb
  have hg2:=p13_regions S hF i rw (by omega) (wP S wr i) hpb
  have hg3:=r13_regions S hF i rw (by omega) (wP S wr i)
  have hPl:(wP S wr i).length≤8:=by rw [hwP,List.length_map]; omega
  have hs1:=ups (r13_sameR (regS S i l (wP S wr i)).2 (by have:=regS_len S i l (wP S wr i); omega) (fun o ho=>by
   have:=regS_ok o ho
   rw [Int.toNat_natCast,htab] at this
   omega))
  have hs2:=ups (r13_sameR (regS S i rw (wP S wr i)).2 (by have:=regS_len S i rw (wP S wr i); omega) (fun o ho=>by
   have:=regS_ok o ho
   rw [Int.toNat_natCast,htab] at this
   omega))
  rw [hreg] at hg1 hs1
  generalize regS S i rw (wP S wr i)=Q at *
  rw [hwP] at hg1 hg2 hg3
  clear hwP hpb hreg hPl
  simp [hil,hgx,Tb.c]
  (repeat' (first|contradiction|exact .ok|apply And.intro|intro _|(refine gc (fun h=>?_) (fun h=>?_)<;>(have h':=h;(try simp at h');first|done|simp[h,h']|simp))))
  refine aloopT mixs (by decide) (fun f:Nat=>{ s:=mkS [(1,.d (.int .i64 t)),(2,.d (.sl (rw.map At.c))),(8,.ptr 8 0 0),(9,.d (.sl (AL.map atD))),(10,.d (.sl (RL.map rgD))),(12,.d (.int .i64 i)),(13,.ref 903 0 f 1),(14,.d (.int .i64 f))],b:=mkB [(8,8,.var [.d (.sl (S.map Tb.c))]),(903,903,.arr 61 1 (((x.fk.take f).map fun g=>(wr (tgN S g)).getD []).map rgD) false)] })
   (fun f=>f≤x.fk.length) (fun f=>x.fk.length - f) 0 (by simp)
   (sub_mkn 13 903 61 1 (by simp) (by simp) (by decide) (by decide) _ [(8,8,_),(903,903,_)] ⟨by simp,by simp,by simp [renOf,Blk.live],by simp⟩ (by simp [renOf])) ?_
  intro f hf
  by_cases hfl:f<x.fk.length
  ·obtain ⟨g,hg⟩:∃ g,g=x.fk[f]:=⟨_,rfl⟩
   have hgg:∀ h,x.fk[f]'h=g:=fun _=>hg.symm
   have hgm:g∈x.fk:=by rw [hg]; exact List.getElem_mem hfl
   have hwf:=wrap_in (n:=(f:Int)+1) (by omega) (by omega)
   obtain ⟨ht0,ht1⟩:=hD i hil g (by rw [htab]; exact hgm)
   obtain ⟨to,hte⟩:∃ t:Nat,tgt S g=t:=⟨(tgt S g).toNat,by omega⟩
   have htg:tgN S g=to:=by unfold tgN; rw [hte]; rfl
   rw [htg] at ht1
   have htl:to<S.length:=by omega
   obtain ⟨_,rr,_,hrr,_⟩:=hfx to htl
   have hgr:=hRg to rr htl hrr
   have htR:to<RL.length:=by omega
   have hmf:=map_take (f:=fun g=>(wr (tgN S g)).getD []) hfl
   rw [← hg,htg,hrr,Option.getD_some] at hmf
   have hml:((x.fk.take f).map fun g=>(wr (tgN S g)).getD []).length=f:=by rw [List.length_map,List.length_take]; omega
   have hta:=ups (r3_target S (by omega) hF.ok.ok hil hx.symm hfl hg.symm)
   rw [place_at (show fidx (fun y:Tb=>y.n==g.t) S 0=to from hte)] at hta
   generalize ((x.fk.take f).map fun g=>(wr (tgN S g)).getD [])=U at *
   have htkU:(U.map rgD).take f=U.map rgD:=List.take_of_length_le (by simp [hml])
   simp [hil,hgx,Tb.c,hfl]
   (repeat' (first|contradiction|exact .ok|apply And.intro|intro _|(refine gc (fun h=>?_) (fun h=>?_)<;>(have h':=h;(try simp at h');first|done|simp[h,h']|simp))))
   refine acallT_plain hta (by simp [schA]) ?_
   simp [htR,hgr,rgD,hml,htkU,szs f (by omega) 24 (by decide),szs (f+1) (by omega) 24 (by decide)]
   (repeat' (first|contradiction|exact .ok|apply And.intro|intro _|(refine gc (fun h=>?_) (fun h=>?_)<;>(have h':=h;(try simp at h');first|done|simp[h,h']|simp))))
   refine ⟨f+1,by omega,?_,by simp; omega⟩
   exact sub_mk _ [(8,8,_),(903,72,_)] ⟨by simp,by simp,by simp [renOf,Blk.live,hmf,rgD],by simp⟩ (by simp [renOf,hwf])
  obtain rfl:f=x.fk.length:=by omega
  rw [List.take_length]
  have hPPl:(x.fk.map fun g=>(wr (tgN S g)).getD []).length=x.fk.length:=by simp
  generalize (x.fk.map fun g=>(wr (tgN S g)).getD [])=PP at *
  have htkP:(PP.map rgD).take x.fk.length=PP.map rgD:=List.take_of_length_le (by simp [hPPl])
  rcases Q with ⟨q1,q2⟩
  simp [hil,hgx,Tb.c,hiA,hAgi,atD,htkP]
  (repeat' (first|contradiction|exact .ok|apply And.intro|intro _|(refine gc (fun h=>?_) (fun h=>?_)<;>(have h':=h;(try simp at h');first|done|simp[h,h']|simp))))
  refine acallT_plain hg1 (by simp [schA,hPPl,htkP]) ?_
  simp [regA,hPPl,htkP,hiR,hRgi,rgD]
  (repeat' (first|contradiction|exact .ok|apply And.intro|intro _|(refine gc (fun h=>?_) (fun h=>?_)<;>(have h':=h;(try simp at h');first|done|simp[h,h']|simp))))
  refine acallT_plain hs1 (by simp) ?_
  simp [hPPl,htkP]
  (repeat' (first|contradiction|exact .ok|apply And.intro|intro _|(refine gc (fun h=>?_) (fun h=>?_)<;>(have h':=h;(try simp at h');first|done|simp[h,h']|simp))))
  refine acallT_plain hg2 (by simp [schA,hPPl,htkP]) ?_
  simp [regA,hPPl,htkP]
  (repeat' (first|contradiction|exact .ok|apply And.intro|intro _|(refine gc (fun h=>?_) (fun h=>?_)<;>(have h':=h;(try simp at h');first|done|simp[h,h']|simp))))
  refine acallT_plain hg3 (by simp [schA,hPPl,htkP]) ?_
  simp [regA,hPPl,htkP]
  (repeat' (first|contradiction|exact .ok|apply And.intro|intro _|(refine gc (fun h=>?_) (fun h=>?_)<;>(have h':=h;(try simp at h');first|done|simp[h,h']|simp))))
  refine acallT_plain hs2 (by simp) ?_
  simp [hPPl,htkP]
  (repeat' (first|contradiction|exact .ok|apply And.intro|intro _|(refine gc (fun h=>?_) (fun h=>?_)<;>(have h':=h;(try simp at h');first|done|simp[h,h']|simp))))
  refine ⟨i+1,by omega,?_,by simp; omega⟩
  exact sub_mk _ [(8,8,_)] ⟨by simp,by simp,by simp [renOf,Blk.live],by simp⟩ (by simp [renOf,hwi])
 obtain rfl:i=S.length:=by omega
 have hg1:=p13_regions S hF t [] (by simp) [] (by simp)
 have hg2:=r13_regions S hF t [] (by simp) []
 have hs1:=ups (r13_sameR (regS S t [] []).2 (by have:=regS_len S t [] []; omega) (fun o ho=>by
  obtain ⟨h1,h2,h3⟩:=regS_ok o ho
  have h4:=tabO_cols hF t.toNat
  simp only [List.length_nil] at h1 h2
  omega))
 generalize regS S t [] []=Q at *
 rcases Q with ⟨q1,q2⟩
 simp
 (repeat' (first|contradiction|exact .ok|apply And.intro|intro _|(refine gc (fun h=>?_) (fun h=>?_)<;>(have h':=h;(try simp at h');first|done|simp[h,h']|simp))))
 refine acallT_plain hg1 (by simp [schA]) ?_
 simp [regA]
 (repeat' (first|contradiction|exact .ok|apply And.intro|intro _|(refine gc (fun h=>?_) (fun h=>?_)<;>(have h':=h;(try simp at h');first|done|simp[h,h']|simp))))
 refine acallT_plain hg2 (by simp [schA]) ?_
 simp [regA]
 (repeat' (first|contradiction|exact .ok|apply And.intro|intro _|(refine gc (fun h=>?_) (fun h=>?_)<;>(have h':=h;(try simp at h');first|done|simp[h,h']|simp))))
 refine acallT_plain hs1 (by simp) ?_
 simp
 all_goals exact gz
end Go.Proofs.Tryz
