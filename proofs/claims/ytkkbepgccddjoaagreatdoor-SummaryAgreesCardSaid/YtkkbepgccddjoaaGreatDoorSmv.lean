import Derived.Test.YtkkbepgccddjoaaGreatDoorSmq
set_option linter.all false
namespace Go.Proofs.Tryz
open Go.Ab
set_option maxRecDepth 100000
set_option maxHeartbeats 8000000
def rowT (c:D):AV:=.tup [.d c,.d (.int .i64 0)]
theorem q_Row {S:List Tb} {X:List (List Bk)} (h:SumOk S X) (hpl:Cf Es 59 [schA S] [] (.d (.bool true)) []) (ht:∀ x∈S,∀ g∈x.fk,0≤tgt S g∧tgN S g<S.length) {k:Nat} {x:Tb} {l:List Bk} (hk:S[k]?=some x) (hl:X[k]?=some l) (hK:KeyOk x) {n:Nat} (hn:n<sumN (cntB l)) :
  Cf Es 17 [schA S,smyA X,.d (.int .i64 k),.d (.int .i64 n)] [] (rowT (.sl ((rowN S (fnX X) x l n).map V.c))) []:=by
 refine cf_intro mixs (fn:=Tryz.f17) (by kernel_rfl) rfl (by kernel_rfl) (by decide) (by simp) ?_
 have hva:=q_valid h hpl
 have hlm:l∈X:=List.mem_of_getElem? hl
 obtain ⟨hl1,hl2⟩:=h.bl l hlm
 have hsz:=ups (m_size X k l hl hl1 hl2 (by have:=h.few; have:=h.len; omega))
 have hop:=ups (q_open h ht hk hl)
 have hrow:=ups (q_row h hk hl hK hn)
 have h0:¬ (n:Int)<0:=by omega
 have h1:¬ (sumN (cntB l):Int)≤n:=by omega
 have h2:¬ sumN (cntB l)≤n:=by omega
 generalize rowN S (fnX X) x l n=r at *
 generalize sumN (cntB l)=M at *
 simp [schA,smyA]
 (repeat' (first|contradiction|exact .ok|apply And.intro|intro _|(refine gc (fun h=>?_) (fun h=>?_)<;>(have h':=h;(try simp at h');first|done|simp[h,h']|simp))))
 refine acallT_plain hva (by simp [schA,smyA]) ?_
 simp [h0]
 (repeat' (first|contradiction|exact .ok|apply And.intro|intro _|(refine gc (fun h=>?_) (fun h=>?_)<;>(have h':=h;(try simp at h');first|done|simp[h,h',h0]|simp[h0]))))
 refine acallT_plain hsz (by simp [smyA]) ?_
 simp [h0,h1,h2]
 (repeat' (first|contradiction|exact .ok|apply And.intro|intro _|(refine gc (fun h=>?_) (fun h=>?_)<;>(have h':=h;(try simp at h');first|done|simp[h,h',h0,h1,h2]|simp[h0,h1,h2]))))
 refine acallT_plain hop (by simp [schA,smyA]) ?_
 simp
 refine acallT_plain hrow (by simp [rdrA,Tb.c]) ?_
 simp [rowT]
 all_goals exact gz
theorem q_Slice {S:List Tb} {X:List (List Bk)} (h:SumOk S X) (hpl:Cf Es 59 [schA S] [] (.d (.bool true)) []) (ht:∀ x∈S,∀ g∈x.fk,0≤tgt S g∧tgN S g<S.length) {k:Nat} {x:Tb} {l:List Bk} (hk:S[k]?=some x) (hl:X[k]?=some l) (hK:KeyOk x) {a b:Nat} (hab:a≤b) (hb:b≤sumN (cntB l)) (h5:b - a≤1000) :
  Cf Es 15 [schA S,smyA X,.d (.int .i64 k),.d (.int .i64 a),.d (.int .i64 b)] [] (.tup [.ref 1000000 0 (b - a) 1,.d (.int .i64 0)]) [.arr 48 1 ((rowsN S (fnX X) x l a b).map rowD) false]:=by
 refine cf_introS mixs (fn:=Tryz.f15) (by kernel_rfl) rfl (by kernel_rfl) (by decide) (by simp) ?_
 have hva:=q_valid h hpl
 have hlm:l∈X:=List.mem_of_getElem? hl
 obtain ⟨hl1,hl2⟩:=h.bl l hlm
 have hkX:k<X.length:=(List.getElem?_eq_some_iff.1 hl).1
 have hsz:=ups (m_size X k l hl hl1 hl2 (by have:=h.few; have:=h.len; omega))
 have hrows:=ups (q_rows h ht hk hl hK hab hb (by omega))
 have h0:¬ (k:Int)<0:=by omega
 have h1:¬ (X.length:Int)≤k:=by omega
 have h1n:¬ X.length≤k:=by omega
 have h2:¬ (a:Int)<0:=by omega
 have h3:¬ (b:Int)<a:=by omega
 have h3n:¬ b<a:=by omega
 have h4:¬ (sumN (cntB l):Int)<b:=by omega
 have h4n:¬ sumN (cntB l)<b:=by omega
 have hw:=wrap_in (n:=(b:Int) - a) (by omega) (by omega)
 have h6:¬ (1000:Int)<(b:Int) - a:=by omega
 generalize rowsN S (fnX X) x l a b=R at *
 generalize sumN (cntB l)=M at *
 simp [schA,smyA]
 (repeat' (first|contradiction|exact .ok|apply And.intro|intro _|(refine gc (fun h=>?_) (fun h=>?_)<;>(have h':=h;(try simp at h');first|done|simp[h,h']|simp))))
 refine acallT_plain hva (by simp [schA,smyA]) ?_
 simp [h0,h1,h1n,h2,h3,h3n]
 (repeat' (first|contradiction|exact .ok|apply And.intro|intro _|(refine gc (fun h=>?_) (fun h=>?_)<;>(have h':=h;(try simp at h');first|done|simp[h,h',h0,h1,h1n,h2,h3,h3n]|simp[h0,h1,h1n,h2,h3,h3n]))))
 refine acallT_plain hsz (by simp [smyA]) ?_
 simp [h4,h4n,hw,h6]
 (repeat' (first|contradiction|exact .ok|apply And.intro|intro _|(refine gc (fun h=>?_) (fun h=>?_)<;>(have h':=h;(try simp at h');first|done|simp[h,h',h4,h4n,hw,h6]|simp[h4,h4n,hw,h6]))))
 refine acallT_new [] hrows (by simp) (by simp) (by simp) (by simp) (by simp) (by simp) (by simp [schA,smyA]) ?_
 simp
 (repeat' (first|contradiction|exact .ok|apply And.intro|intro _|(refine gc (fun h=>?_) (fun h=>?_)<;>(have h':=h;(try simp at h');first|done|simp[h,h']|simp))))
 refine EndsS.mk _ (.refl _ _ _ _) ?_
 exact ⟨_,[(1000000,54000,.arr 48 1 (R.map rowD) false)],by simp; rfl,⟨by simp,by simp,by simp [renOf,Blk.live],by simp⟩,by simp [List.zipIdx,firstName_eq],by simp [renOf]⟩
theorem q_Instance {S:List Tb} {X:List (List Bk)} (h:SumOk S X) (hpl:Cf Es 59 [schA S] [] (.d (.bool true)) []) (ht:∀ x∈S,∀ g∈x.fk,0≤tgt S g∧tgN S g<S.length) (hK:∀ x∈S,KeyOk x) (h2:∀ l∈X,sumN (cntB l)≤200) :
  Cf Es 11 [schA S,smyA X] [] (.tup [instA (seqF (insY S (fnX X)) S.length),.d (.int .i64 0)]) []:=by
 refine cf_intro mixs (fn:=Tryz.f11) (by kernel_rfl) rfl (by kernel_rfl) (by decide) (by simp) ?_
 have hva:=q_valid h hpl
 have hfew:=h.few
 have hXl:=h.len
 simp [schA,smyA]
 (repeat' (first|contradiction|exact .ok|apply And.intro|intro _|(refine gc (fun h=>?_) (fun h=>?_)<;>(have h':=h;(try simp at h');first|done|simp[h,h']|simp))))
 refine acallT_plain hva (by simp [schA,smyA]) ?_
 simp
 (repeat' (first|contradiction|exact .ok|apply And.intro|intro _|(refine gc (fun h=>?_) (fun h=>?_)<;>(have h':=h;(try simp at h');first|done|simp[h,h']|simp))))
 refine aloopT mixs (by decide) (fun k:Nat=>{ s:=mkS [(2,.ptr 2 0 0),(3,.ptr 3 0 0),(4,.ptr 4 0 0),(19,.d (.int .i64 X.length)),(20,.d (.int .i64 k))],b:=mkB [(2,2,.var [.d (.sl (S.map Tb.c))]),(3,3,.var [.d (.sl (X.map bkD))]),(4,4,.var [.nils])] }) (fun k=>k≤X.length) (fun k=>X.length - k) 0 (by simp)
  (sub_mk _ [(2,2,_),(3,3,_),(4,4,_)] ⟨by simp,by simp,by simp [renOf,Blk.live],by simp⟩ (by simp [renOf])) ?_
 intro k hk
 by_cases hkl:k<X.length
 ·have hl:=List.getElem?_eq_getElem hkl
  obtain ⟨hl1,hl2⟩:=h.bl X[k] (List.getElem_mem hkl)
  have hl3:=h2 X[k] (List.getElem_mem hkl)
  have hsz:=ups (m_size X k X[k] hl hl1 hl2 (by omega))
  have hw:=wrap_in (n:=(k:Int)+1) (by omega) (by omega)
  have h200:¬ (200:Int)<sumN (cntB X[k]):=by omega
  have h200n:¬ 200<sumN (cntB X[k]):=by omega
  generalize sumN (cntB X[k])=M at *
  simp [hkl]
  (repeat' (first|contradiction|exact .ok|apply And.intro|intro _|(refine gc (fun h=>?_) (fun h=>?_)<;>(have h':=h;(try simp at h');first|done|simp[h,h']|simp))))
  refine acallT_plain hsz (by simp [smyA]) ?_
  simp [h200,h200n]
  (repeat' (first|contradiction|exact .ok|apply And.intro|intro _|(refine gc (fun h=>?_) (fun h=>?_)<;>(have h':=h;(try simp at h');first|done|simp[h,h',h200,h200n]|simp[h200,h200n]))))
  refine ⟨k+1,by omega,?_,by simp; omega⟩
  exact sub_mk _ [(2,2,_),(3,3,_),(4,4,_)] ⟨by simp,by simp,by simp [renOf,Blk.live],by simp⟩ (by simp [renOf,hw])
 obtain rfl:k=X.length:=by omega
 simp
 (repeat' (first|contradiction|exact .ok|apply And.intro|intro _|(refine gc (fun h=>?_) (fun h=>?_)<;>(have h':=h;(try simp at h');first|done|simp[h,h']|simp))))
 refine aloopT mixs (by decide) (fun k:Nat=>{ s:=mkS [(2,.ptr 2 0 0),(3,.ptr 3 0 0),(4,.ptr 4 0 0),(8,.ptr 8 0 0),(31,.d (.int .i64 X.length)),(32,.d (.int .i64 k))],b:=mkB [(2,2,.var [.d (.sl (S.map Tb.c))]),(3,3,.var [.d (.sl (X.map bkD))]),(4,4,.var [.nils]),(8,8,.var [.ref 905 0 k 1]),(905,905,.arr 43 1 ((seqF (insY S (fnX X)) k).map tabD) false)] }) (fun k=>k≤X.length) (fun k=>X.length - k) 0 (by simp)
  ((sub_nilc 8 905 43 1 0 (cells:=[.nils]) (by simp) rfl (by simp) (by decide) (by decide)).trans (sub_mk _ [(2,2,_),(3,3,_),(4,4,_),(8,8,_),(905,905,_)] ⟨by simp,by simp,by simp [renOf,Blk.live,seqF,upd],by simp⟩ (by simp [renOf]))) ?_
 intro k hk
 by_cases hkl:k<X.length
 ·have hkS:k<S.length:=by omega
  obtain ⟨l,hle⟩:∃ l,l=X[k]:=⟨_,rfl⟩
  obtain ⟨x,hxe⟩:∃ x,x=S[k]:=⟨_,rfl⟩
  have hl:X[k]?=some l:=by rw [List.getElem?_eq_getElem hkl,hle]
  have hx:S[k]?=some x:=by rw [List.getElem?_eq_getElem hkS,hxe]
  have hlm:l∈X:=List.mem_of_getElem? hl
  have hxm:x∈S:=List.mem_of_getElem? hx
  obtain ⟨hl1,hl2⟩:=h.bl l hlm
  have hl3:=h2 l hlm
  have hsz:=ups (m_size X k l hl hl1 hl2 (by omega))
  have hrows:=ups (q_rows h ht hx hl (hK x hxm) (a:=0) (b:=sumN (cntB l)) (by omega) (Nat.le_refl _) (by omega))
  have hw:=wrap_in (n:=(k:Int)+1) (by omega) (by omega)
  have hsucc:seqF (insY S (fnX X)) (k+1)=seqF (insY S (fnX X)) k++[rowsN S (fnX X) x l 0 (sumN (cntB l))]:=by
   rw [seqF]
   congr 2
   unfold insY tabO
   rw [hx]
   have:fnX X k=l:=by unfold fnX; rw [hl]; rfl
   rw [this]
   rfl
  have htl:((seqF (insY S (fnX X)) k).map tabD).take k=(seqF (insY S (fnX X)) k).map tabD:=List.take_of_length_le (by simp)
  have hIl:(seqF (insY S (fnX X)) k).length=k:=seqF_len ..
  have hRl:=rowsN_len (S:=S) (X:=fnX X) (x:=x) (l:=l) (a:=0) (b:=sumN (cntB l))
  generalize rowsN S (fnX X) x l 0 (sumN (cntB l))=R at *
  generalize seqF (insY S (fnX X)) k=I at *
  generalize sumN (cntB l)=M at *
  have hRt:(R.map rowD).take M=R.map rowD:=List.take_of_length_le (by simp [hRl])
  simp [hkl]
  (repeat' (first|contradiction|exact .ok|apply And.intro|intro _|(refine gc (fun h=>?_) (fun h=>?_)<;>(have h':=h;(try simp at h');first|done|simp[h,h']|simp))))
  refine acallT_plain hsz (by simp [smyA]) ?_
  simp
  refine acallT_new [] hrows (by simp) (by simp) (by simp) (by simp) (by simp) (by simp) (by simp [schA,smyA]) ?_
  simp [hIl,htl,hRl,hRt,szs k (by omega) 24 (by decide),szs (k+1) (by omega) 24 (by decide)]
  (repeat' (first|contradiction|exact .ok|apply And.intro|intro _|(refine gc (fun h=>?_) (fun h=>?_)<;>(have h':=h;(try simp at h');first|done|simp[h,h']|simp))))
  refine ⟨k+1,by omega,?_,by simp; omega⟩
  simp only [hsucc]
  exact sub_mk _ [(2,2,_),(3,3,_),(4,4,_),(8,8,_),(905,45,_)] ⟨by simp,by simp,by simp [renOf,Blk.live,tabD],by simp⟩ (by simp [renOf,hw])
 obtain rfl:k=X.length:=by omega
 have htl:((seqF (insY S (fnX X)) X.length).map tabD).take X.length=(seqF (insY S (fnX X)) X.length).map tabD:=List.take_of_length_le (by simp)
 rw [← hXl]
 simp [instA,htl]
 (repeat' (first|contradiction|exact .ok|apply And.intro|intro _|(refine gc (fun h=>?_) (fun h=>?_)<;>(have h':=h;(try simp at h');first|done|simp[h,h']|simp))))
 all_goals (try simp [htl])
end Go.Proofs.Tryz
