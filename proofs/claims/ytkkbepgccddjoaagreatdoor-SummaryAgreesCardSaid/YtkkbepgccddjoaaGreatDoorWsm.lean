import Derived.Test.YtkkbepgccddjoaaGreatDoorSms
import Derived.Test.YtkkbepgccddjoaaGreatDoorRnw
import Derived.Test.YtkkbepgccddjoaaGreatDoorSmv
set_option linter.all false
namespace Go.Proofs.Tryz
open Go.Ab
set_option maxRecDepth 100000
set_option maxHeartbeats 2000000
theorem smyT_out {L:List Int} {S:List Tb} {blocks most a:Nat}:∀ {o j:Nat},o≤j→(smyT L S blocks most a o).1 j=[]
 | 0,j,_=>rfl
 | o+1,j,h=>by
   rw [smyT_succ]
   unfold smyS
   simp only [upd]
   rw [if_neg (by omega)]
   exact smyT_out (by omega)
theorem fnX_seq {T:Nat→List Bk} {n:Nat} (h:∀ j,n≤j→T j=[]):fnX (seqF T n)=T:=by
 funext j
 unfold fnX
 rw [seqF_get]
 split
 ·rfl
 ·rw [h j (by omega)]; rfl
theorem sum_le {most:Nat}:∀ {l:List Bk},(∀ b∈l,b.n≤most)→sumN (cntB l)≤l.length*most
 | [],_=>by simp [cntB,sumN]
 | b::l,h=>by
   have h1:=h b (List.mem_cons_self ..)
   have h2:=sum_le (l:=l) fun c hc=>h c (List.mem_cons_of_mem _ hc)
   have e:sumN (cntB (b::l))=b.n+sumN (cntB l):=rfl
   rw [e,List.length_cons,Nat.add_mul,Nat.one_mul]
   omega
structure SmyW (S:List Tb) (T:Nat→List Bk) (blocks most:Nat):Prop where
 fill:FillOk S
 dec:Dec S
 pln:plainS S=true
 ch:∀ x∈S,x.ch=[]
 out:∀ j,S.length≤j→T j=[]
 ok:SmyOk S T blocks most S.length
 few:blocks*most≤100000
 bl:blocks≤100
theorem SmyW.key {S:List Tb} {T:Nat→List Bk} {blocks most:Nat} (h:SmyW S T blocks most):∀ x∈S,KeyOk x:=fun _ hx=>key_ok h.fill h.pln hx
theorem SmyW.plnT {S:List Tb} {T:Nat→List Bk} {blocks most:Nat} (h:SmyW S T blocks most):validS S=0∧∀ x∈S,plnT x=true:=by
 have hp:=h.pln
 unfold plainS plnS at hp
 rw [Bool.and_eq_true] at hp
 exact ⟨by simpa using hp.1,fun x hx=>List.all_eq_true.1 hp.2 x hx⟩
theorem SmyW.tab {S:List Tb} {T:Nat→List Bk} {blocks most:Nat} (_:SmyW S T blocks most) {k:Nat} (hk:k<S.length):tabO S k∈S:=by
 unfold tabO; rw [List.getElem?_eq_getElem hk]; exact List.getElem_mem hk
theorem SmyW.tg {S:List Tb} {T:Nat→List Bk} {blocks most:Nat} (h:SmyW S T blocks most):∀ x∈S,∀ g∈x.fk,0≤tgt S g∧tgN S g<S.length:=fun x hx g hg=>by
 obtain ⟨k,hk,rfl⟩:=List.getElem_of_mem hx
 have ht:tabO S k=S[k]:=by unfold tabO; rw [List.getElem?_eq_getElem hk]; rfl
 have:=h.dec k hk g (by rw [ht]; exact hg)
 omega
theorem SmyW.sum {S:List Tb} {T:Nat→List Bk} {blocks most:Nat} (h:SmyW S T blocks most) (k:Nat):(T k).length≤blocks∧sumN (cntB (T k))≤blocks*most:=by
 by_cases hk:k<S.length
 ·obtain ⟨h1,h2⟩:=h.ok k hk
  have h3:=sum_le fun b hb=>(h2 b hb).n.2
  have h4:=Nat.mul_le_mul_right most h1
  omega
 ·rw [h.out k (by omega)]
  simp [cntB,sumN]
theorem SmyW.sumok {S:List Tb} {T:Nat→List Bk} {blocks most:Nat} (h:SmyW S T blocks most):SumOk S (seqF T S.length):=by
 have hfew:=h.fill.few
 have hb100:=h.few
 have hbb:=h.bl
 refine ⟨seqF_len ..,by omega,h.fill.ok.ok,h.ch,h.fill.ty,fun l hl=>?_,fun k x l hk hl b hb=>?_⟩
 ·obtain ⟨j,hj,rfl⟩:=seqF_mem.1 hl
  have:=h.sum j
  omega
 ·rw [seqF_get] at hl
  split at hl
  ·rename_i hkl
   rw [Option.some.injEq] at hl
   subst hl
   have htab:tabO S k=x:=by unfold tabO; rw [hk]; rfl
   have hB:=(h.ok k hkl).2 b hb
   rw [htab] at hB
   have hdk:=h.dec k hkl
   rw [htab] at hdk
   refine ⟨hB.n.1,hB.len,hB.par,fun c v u hv hu=>?_,fun f g z hg hz=>?_⟩
   ·obtain ⟨v1,v2⟩:=hB.val c v hv
    have huO:colO x c=u:=by unfold colO; rw [hu]; rfl
    rw [huO] at v2
    exact ⟨v1,v2.imp id fun e=>⟨e.1,by rw [e.2]; rfl⟩⟩
   ·obtain ⟨z0,z1⟩:=hB.tgt f g z hg hz
    obtain ⟨d0,d1⟩:=hdk g (List.mem_of_getElem? hg)
    have hto:tgN S g<S.length:=by omega
    have hlt:z.toNat<(T (tgN S g)).length:=by omega
    refine ⟨tgN S g,T (tgN S g),z.toNat,(T (tgN S g))[z.toNat],by unfold tgN; omega,by rw [seqF_get,if_pos hto],by omega,List.getElem?_eq_getElem hlt,?_⟩
    exact ((h.ok _ hto).2 _ (List.getElem_mem hlt)).n.1
  ·cases hl
theorem SmyW.ins {S:List Tb} {T:Nat→List Bk} {blocks most:Nat} (h:SmyW S T blocks most):InsF S (insY S T):=by
 have hfew:=h.fill.few
 have hb100:=h.few
 have hlen:∀ k,(insY S T k).length≤100000:=fun k=>by
  rw [insY_len]
  have:=(h.sum k).2
  omega
 have hro:=ins_ok h.dec h.key h.ok
 obtain ⟨_,hpl⟩:=h.plnT
 refine ⟨by omega,h.fill.ok.ok,h.fill.ty,h.key,fun x hx=>(pln_types (hpl x hx)).2.1,h.ch,h.tg,hlen,hro,fun k hk row hm=>?_⟩
 have hx:=h.tab hk
 obtain ⟨r,hr⟩:=List.mem_iff_getElem?.1 hm
 have hrl:=(List.getElem?_eq_some_iff.1 hr).1
 have:=hlen k
 exact row_vals (h.key _ hx) (hpl _ hx) (hro k hk r row hr) (by omega) fun f hf=>by have:=hlen (tgN S f); omega
theorem smy_world (L:List Int) (N:Nat) (hN:N≤6) (blocks most a:Nat) (hb:blocks≤100) (hm:1≤most) (hbm:blocks*most≤100000) :
  SmyW (freS (tabsP L (0+1) N).1) (smyT L (freS (tabsP L (0+1) N).1) blocks most a (freS (tabsP L (0+1) N).1).length).1 blocks most:=by
 have hF:=fill_free L (0+1) N (by omega)
 have hD:Dec (freS (tabsP L (0+1) N).1):=dec_of (dec_free (dec_made L (0+1) N))
 refine ⟨hF,hD,plain_free L (0+1) N hN,fun x hx=>?_,fun j hj=>smyT_out hj,?_,hbm,hb⟩
 ·obtain ⟨y,_,rfl⟩:=List.mem_map.1 hx
  rfl
 ·unfold smyT
  refine smyG_ok L hD (fun k hk c hc=>?_) hm _ 0 _ (by omega) fun k hk=>absurd hk (by omega)
  have hx:tabO (freS (tabsP L (0+1) N).1) k∈freS (tabsP L (0+1) N).1:=by unfold tabO; rw [List.getElem?_eq_getElem hk]; exact List.getElem_mem hk
  unfold colO
  rw [List.getElem?_eq_getElem hc]
  exact hF.ty _ hx _ (List.getElem_mem hc)
end Go.Proofs.Tryz
