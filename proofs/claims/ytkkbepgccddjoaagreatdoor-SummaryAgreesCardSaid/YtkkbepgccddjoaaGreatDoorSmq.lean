import Derived.Test.YtkkbepgccddjoaaGreatDoorASmo
set_option linter.all false
namespace Go.Proofs.Tryz
open Go.Ab
set_option maxRecDepth 100000
set_option maxHeartbeats 8000000
theorem fkB2_snoc {S:List Tb} {T:Nat→List Bk} {b:Bk} {j:Nat} {g:Fk}:∀ (gs:List Fk) (f:Nat) (r:List V),fkB2 S T b j (gs++[g]) f r=(fkB2 S T b j gs f r).set (hdI g.cols).toNat (numV (tgtN (cntB (T (tgN S g))) ((b.p[f+gs.length]?).getD 0).toNat j+1:Nat))
 | [],f,r=>by simp [fkB2]
 | q::gs,f,r=>by
   rw [List.cons_append,fkB2,fkB2,fkB2_snoc gs]
   rw [show f+1+gs.length=f+(q::gs).length from by simp; omega]
theorem parX_get {S:List Tb} {X:List (List Bk)} {l:List Fk} {f:Nat} (hf:f<l.length):∀ h,(parX S X l)[f]'h=cntB (fnX X (tgN S l[f])):=fun h=>by
 simp [parX]
theorem q_row {S:List Tb} {X:List (List Bk)} (h:SumOk S X) {k:Nat} {x:Tb} {l:List Bk} (hk:S[k]?=some x) (hl:X[k]?=some l) (hK:KeyOk x) {n:Nat} (hn:n<sumN (cntB l)) :
  Cf En 49 [rdrA S X x l,.d (.int .i64 n)] [] (.d (.sl ((rowN S (fnX X) x l n).map V.c))) []:=by
 refine cf_intro mix (fn:=Tryz.f49) (by kernel_rfl) rfl (by kernel_rfl) (by decide) (by simp) ?_
 obtain ⟨hkl,hgx0⟩:=List.getElem?_eq_some_iff.1 hk
 obtain ⟨hkX,hgl0⟩:=List.getElem?_eq_some_iff.1 hl
 have hxm:x∈S:=by rw [← hgx0]; exact List.getElem_mem hkl
 have hlm:l∈X:=by rw [← hgl0]; exact List.getElem_mem hkX
 have hxo:=h.ok x hxm
 have hfl:=hxo.fk
 have hcols:=hxo.cols
 obtain ⟨hl1,hl2⟩:=h.bl l hlm
 have hfi:=k_find (cntB l) (by rw [cntB_len]; exact hl1) hl2 n hn
 obtain ⟨f1,f2,f3⟩:=fndN_spec hn
 have hqn:rowN S (fnX X) x l n=match l[(fndN (cntB l) n).1]? with | some b=>rowB S (fnX X) x b (fndN (cntB l) n).2 n | none=>[]:=rfl
 rw [hqn]
 generalize (fndN (cntB l) n).1=q at *
 generalize (fndN (cntB l) n).2=j at *
 have hq:q<l.length:=by rw [cntB_len] at f1; exact f1
 have hjn:j≤n:=by omega
 obtain ⟨b,hb⟩:∃ b,b=l[q]:=⟨_,rfl⟩
 have hgb:∀ h,l[q]'h=b:=fun _=>hb.symm
 have hbm:b∈l:=by rw [hb]; exact List.getElem_mem hq
 have hB:=h.blk k x l hk hl b hbm
 have hbv:=hB.v
 have hbp:=hB.p
 have hbpar:=hB.par
 have hcl:=s_cloneV b.v (by omega)
 obtain ⟨p,hpe,hpl⟩:=hK.pr
 have hip:ints x.pr=[[.int .i64 p]]:=by rw [hpe]; rfl
 have hpc:(hdI x.pr).toNat=p:=by rw [hpe]; simp [hdI]
 have hpv:p<b.v.length:=by omega
 have hwn:=wrap_in (n:=(n:Int)+1) (by omega) (by omega)
 have hnu:=m_number ((n:Int)+1)
 rw [List.getElem?_eq_getElem hq,← hb]
 simp only
 unfold rowB
 rw [hpc]
 have hr0:(b.v.set p (numV (n+1:Nat))).length=x.cols.length:=by rw [List.length_set,hbv]
 have hset:((b.v.map V.c).set p [.int .i64 1,.int .i64 ((n:Int)+1),.str []])=(b.v.set p (numV (n+1:Nat))).map V.c:=by rw [List.map_set]; rfl
 generalize b.v.set p (numV (n+1:Nat))=r0 at *
 simp [rdrA,Tb.c]
 (repeat' (first|contradiction|exact .ok|apply And.intro|intro _|(refine gc (fun h=>?_) (fun h=>?_)<;>(have h':=h;(try simp at h');first|done|simp[h,h']|simp))))
 refine acallT_plain hfi (by simp) ?_
 simp [hq,hgb,Bk.c]
 (repeat' (first|contradiction|exact .ok|apply And.intro|intro _|(refine gc (fun h=>?_) (fun h=>?_)<;>(have h':=h;(try simp at h');first|done|simp[h,h',hq,hgb,Bk.c]|simp[hq,hgb,Bk.c]))))
 refine acallT_new [] hcl (by simp) (by simp) (by simp) (by simp) (by simp) (by simp) (by simp) ?_
 simp [hip,hpv,hwn,Tb.c]
 (repeat' (first|contradiction|exact .ok|apply And.intro|intro _|(refine gc (fun h=>?_) (fun h=>?_)<;>(have h':=h;(try simp at h');first|done|simp[h,h',hip,hpv,hwn]|simp[hip,hpv,hwn]))))
 refine acallT_plain hnu (by simp) ?_
 simp [hip,hpv,hwn,V.a,hset]
 (repeat' (first|contradiction|exact .ok|apply And.intro|intro _|(refine gc (fun h=>?_) (fun h=>?_)<;>(have h':=h;(try simp at h');first|done|simp[h,h',hip,hpv,hwn]|simp[hip,hpv,hwn]))))
 refine aloopT mix (by decide) (fun f:Nat=>{ s:=mkS [(1,.d (.int .i64 n)),(2,.ptr 2 0 0),(6,.d (.int .i64 j)),(8,.ptr 8 0 0),(9,.ref 905 0 b.v.length 3),(42,.d (.sl (x.fk.map Fk.c))),(43,.d (.int .i64 x.fk.length)),(44,.d (.int .i64 f))],b:=mkB [(2,2,.var (x.c.map AV.d++[.d (.sl (l.map Bk.c)),.d (.sl (ints (natI (cntB l)))),.d (.sl ((parX S X x.fk).map natD))])),(8,8,.var (b.c.map AV.d)),(905,905,.arr 92 3 ((fkB2 S (fnX X) b j (x.fk.take f) 0 r0).map V.c) false)] }) (fun f=>f≤x.fk.length) (fun f=>x.fk.length - f) 0 (by simp)
  (sub_mk _ [(2,2,_),(8,8,_),(905,30000,_)] ⟨by simp,by simp,by simp [renOf,Blk.live,Tb.c,Bk.c,fkB2,hip,V.c,hset],by simp⟩ (by simp [renOf])) ?_
 intro f hf
 have hRl:(fkB2 S (fnX X) b j (x.fk.take f) 0 r0).length=x.cols.length:=by rw [fkB2_len]; exact hr0
 by_cases hlf:f<x.fk.length
 ·obtain ⟨g,hg⟩:∃ g,g=x.fk[f]:=⟨_,rfl⟩
  have hgm:g∈x.fk:=by rw [hg]; exact List.getElem_mem hlf
  have hgg:∀ h,x.fk[f]'h=g:=fun _=>hg.symm
  have hpf:f<b.p.length:=by omega
  obtain ⟨to,l',i,u,e1,e2,e3,e4,e5⟩:=hbpar f g b.p[f] (by rw [List.getElem?_eq_getElem hlf,hg]) (List.getElem?_eq_getElem hpf)
  have hgp:∀ h,b.p[f]'h=(i:Int):=fun _=>e3
  have htN:tgN S g=to:=by unfold tgN; rw [e1]; rfl
  have hfn:fnX X (tgN S g)=l':=by rw [htN]; unfold fnX; rw [e2]; rfl
  obtain ⟨hil,hu⟩:=List.getElem?_eq_some_iff.1 e4
  obtain ⟨htX,hl'⟩:=List.getElem?_eq_some_iff.1 e2
  obtain ⟨b1,b2⟩:=h.bl l' (by rw [← hl']; exact List.getElem_mem htX)
  have hic:i<(cntB l').length:=by rw [cntB_len]; exact hil
  have hi0:0<(cntB l')[i]:=by
   have:(cntB l')[i]=u.n:=by simp [cntB,hu]
   omega
  have htg:=k_target (cntB l') (by rw [cntB_len]; exact b1) b2 i j hic hi0 (by omega)
  have htl:=tgtN_lt (j:=j) hic hi0
  obtain ⟨c,hce,hcl,_⟩:=hK.fk g hgm
  have hig:ints g.cols=[[.int .i64 c]]:=by rw [hce]; rfl
  have hgc:(hdI g.cols).toNat=c:=by rw [hce]; simp [hdI]
  have hsn:fkB2 S (fnX X) b j (x.fk.take (f+1)) 0 r0=(fkB2 S (fnX X) b j (x.fk.take f) 0 r0).set c (numV (tgtN (cntB l') i j+1:Nat)):=by
   rw [take_snoc hlf,fkB2_snoc,← hg,hgc,hfn,Nat.zero_add,List.length_take,Nat.min_eq_left (by omega),List.getElem?_eq_getElem hpf,e3]
   rfl
  have hPg:∀ h,(parX S X x.fk)[f]'h=cntB l':=fun h=>by rw [parX_get hlf,← hg,hfn]
  have hPl:(parX S X x.fk).length=x.fk.length:=by unfold parX; rw [List.length_map]
  have hPlt:f<(parX S X x.fk).length:=by omega
  generalize tgtN (cntB l') i j=t at *
  have hwf:=wrap_in (n:=(f:Int)+1) (by omega) (by omega)
  have hwt:=wrap_in (n:=(t:Int)+1) (by omega) (by omega)
  have hnt:=m_number ((t:Int)+1)
  have hset2:(((fkB2 S (fnX X) b j (x.fk.take f) 0 r0).map V.c).set c [.int .i64 1,.int .i64 ((t:Int)+1),.str []])=(fkB2 S (fnX X) b j (x.fk.take (f+1)) 0 r0).map V.c:=by rw [hsn,List.map_set]; rfl
  generalize fkB2 S (fnX X) b j (x.fk.take f) 0 r0=R at *
  simp [hlf,Tb.c,hPlt,hPg,natD,Bk.c,hpf,hgp,hgg,Fk.c]
  (repeat' (first|contradiction|exact .ok|apply And.intro|intro _|(refine gc (fun h=>?_) (fun h=>?_)<;>(have h':=h;(try simp at h');first|done|simp[h,h']|simp))))
  refine acallT_plain htg (by simp) ?_
  simp [Fk.c,hig,hwt,hRl,hcl,hbv]
  (repeat' (first|contradiction|exact .ok|apply And.intro|intro _|(refine gc (fun h=>?_) (fun h=>?_)<;>(have h':=h;(try simp at h');first|done|simp[h,h',Fk.c,hig,hwt,hRl,hcl,hbv]|simp[Fk.c,hig,hwt,hRl,hcl,hbv]))))
  refine acallT_plain hnt (by simp) ?_
  simp [V.a,hRl,hcl,hbv,hset2]
  (repeat' (first|contradiction|exact .ok|apply And.intro|intro _|(refine gc (fun h=>?_) (fun h=>?_)<;>(have h':=h;(try simp at h');first|done|simp[h,h',V.a,hRl,hcl,hbv,hset2]|simp[V.a,hRl,hcl,hbv,hset2]))))
  refine ⟨f+1,by omega,?_,by simp; omega⟩
  exact sub_mk _ [(2,2,_),(8,8,_),(905,905,_)] ⟨by simp,by simp,by simp [renOf,Blk.live,Tb.c,Bk.c,V.c,hset2,hig],by simp⟩ (by simp [renOf,hwf,hbv])
 obtain rfl:f=x.fk.length:=by omega
 rw [List.take_length] at *
 have htk:((fkB2 S (fnX X) b j x.fk 0 r0).map V.c).take x.cols.length=(fkB2 S (fnX X) b j x.fk 0 r0).map V.c:=List.take_of_length_le (by simp [hRl])
 simp [hbv,hRl]
 (repeat' (first|contradiction|exact .ok|apply And.intro|intro _|(refine gc (fun h=>?_) (fun h=>?_)<;>(have h':=h;(try simp at h');first|done|simp[h,h']|simp))))
 try simp [htk,hbv,hRl]
theorem rowsN_succ {S:List Tb} {X:Nat→List Bk} {x:Tb} {l:List Bk} {a i:Nat}:rowsN S X x l a (a+(i+1))=rowsN S X x l a (a+i)++[rowN S X x l (a+i)]:=by
 unfold rowsN
 rw [Nat.add_sub_cancel_left,Nat.add_sub_cancel_left,seqF]
theorem rowsN_len {S:List Tb} {X:Nat→List Bk} {x:Tb} {l:List Bk} {a b:Nat}:(rowsN S X x l a b).length=b - a:=by unfold rowsN; rw [seqF_len]
theorem q_rows {S:List Tb} {X:List (List Bk)} (h:SumOk S X) (ht:∀ x∈S,∀ g∈x.fk,0≤tgt S g∧tgN S g<S.length) {k:Nat} {x:Tb} {l:List Bk} (hk:S[k]?=some x) (hl:X[k]?=some l) (hK:KeyOk x) {a b:Nat} (hab:a≤b) (hb:b≤sumN (cntB l)) (h5:b - a≤100000 - 1) :
  Cf En 44 [schA S,smyA X,.d (.int .i64 k),.d (.int .i64 a),.d (.int .i64 b)] [] (.ref 1000000 0 (b - a) 1) [.arr 48 1 ((rowsN S (fnX X) x l a b).map rowD) false]:=by
 refine cf_introS mix (fn:=Tryz.f44) (by kernel_rfl) rfl (by kernel_rfl) (by decide) (by simp) ?_
 have hop:=q_open h ht hk hl
 have hlm:l∈X:=List.mem_of_getElem? hl
 obtain ⟨_,hl2⟩:=h.bl l hlm
 obtain ⟨m,hm⟩:∃ m,b=a+m:=⟨b - a,by omega⟩
 subst hm
 rw [Nat.add_sub_cancel_left]
 simp [schA,smyA]
 (repeat' (first|contradiction|exact .ok|apply And.intro|intro _|(refine gc (fun h=>?_) (fun h=>?_)<;>(have h':=h;(try simp at h');first|done|simp[h,h']|simp))))
 refine acallT_plain hop (by simp [schA,smyA]) ?_
 simp [rdrA,Tb.c]
 (repeat' (first|contradiction|exact .ok|apply And.intro|intro _|(refine gc (fun h=>?_) (fun h=>?_)<;>(have h':=h;(try simp at h');first|done|simp[h,h']|simp))))
 refine aloopT mix (by decide) (fun i:Nat=>{ s:=mkS [(4,.d (.int .i64 ((a+m:Nat):Int))),(11,.ptr 11 0 0),(12,.ref 903 0 i 1),(13,.d (.int .i64 ((a+i:Nat):Int)))],b:=mkB [(11,11,.var (x.c.map AV.d++[.d (.sl (l.map Bk.c)),.d (.sl (ints (natI (cntB l)))),.d (.sl ((parX S X x.fk).map natD))])),(903,903,.arr 48 1 ((rowsN S (fnX X) x l a (a+i)).map rowD) false)] }) (fun i=>i≤m) (fun i=>m - i) 0 (by simp)
  (sub_mkn 12 903 48 1 (by simp) (by simp) (by decide) (by decide) _ [(11,11,_),(903,903,_)] ⟨by simp,by simp,by simp [renOf,Blk.live,Tb.c,rowsN,seqF],by simp⟩ (by simp [renOf])) ?_
 intro i hi
 have hRl:(rowsN S (fnX X) x l a (a+i)).length=i:=by rw [rowsN_len]; omega
 by_cases hlt:i<m
 ·have hi1:((a+i:Nat):Int)<((a+m:Nat):Int):=by omega
  have hi2:(i:Int)<m:=by omega
  have hrow:=q_row h hk hl hK (n:=a+i) (by omega)
  have hsu:=rowsN_succ (S:=S) (X:=fnX X) (x:=x) (l:=l) (a:=a) (i:=i)
  have hw:=wrap_in (n:=(a:Int)+i+1) (by omega) (by omega)
  have htk:((rowsN S (fnX X) x l a (a+i)).map rowD).take i=(rowsN S (fnX X) x l a (a+i)).map rowD:=List.take_of_length_le (by simp [hRl])
  generalize rowN S (fnX X) x l (a+i)=r at *
  generalize rowsN S (fnX X) x l a (a+i)=R at *
  simp [hlt,hi2,Tb.c]
  (repeat' (first|contradiction|exact .ok|apply And.intro|intro _|(refine gc (fun h=>?_) (fun h=>?_)<;>(have h':=h;(try simp at h');first|done|simp[h,h',hlt,hi2]|simp[hlt,hi2]))))
  refine acallT_plain hrow (by simp [rdrA,Tb.c]) ?_
  simp [hRl,htk,szs i (by omega) 24 (by decide),szs (i+1) (by omega) 24 (by decide),hw]
  (repeat' (first|contradiction|exact .ok|apply And.intro|intro _|(refine gc (fun h=>?_) (fun h=>?_)<;>(have h':=h;(try simp at h');first|done|simp[h,h']|simp))))
  refine ⟨i+1,by omega,?_,by simp; omega⟩
  simp only [hsu]
  exact sub_mk _ [(11,11,_),(903,29,_)] ⟨by simp,by simp,by simp [renOf,Blk.live,Tb.c,rowD],by simp⟩ (by simp [renOf,hw]; omega)
 obtain rfl:i=m:=by omega
 generalize rowsN S (fnX X) x l a (a+i)=R at *
 simp
 (repeat' (first|contradiction|exact .ok|apply And.intro|intro _|(refine gc (fun h=>?_) (fun h=>?_)<;>(have h':=h;(try simp at h');first|done|simp[h,h']|simp))))
 refine EndsS.mk _ (.refl _ _ _ _) ?_
 exact ⟨_,[(1000000,903,.arr 48 1 (R.map rowD) false)],by simp; rfl,⟨by simp,by simp,by simp [renOf,Blk.live],by simp⟩,by simp [List.zipIdx,firstName_eq],by simp [renOf]⟩
end Go.Proofs.Tryz
