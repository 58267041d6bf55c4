import Derived.Test.YthpmjipkofbeiaaGreatDoorBcr
import Derived.Test.YthpmjipkofbeiaaGreatDoorTFdx
import Derived.Test.YthpmjipkofbeiaaGreatDoorTFus
import Derived.Test.YthpmjipkofbeiaaGreatDoorTPru
import Derived.Test.YthpmjipkofbeiaaGreatDoorAbD
import Derived.Test.YthpmjipkofbeiaaGreatDoorNamS
import Derived.Test.YthpmjipkofbeiaaGreatDoorVpp
import Derived.Test.YthpmjipkofbeiaaGreatDoorTFtt
set_option linter.all false
namespace Go.Proofs.Tryz
open Go.Ab
set_option maxRecDepth 100000
set_option maxHeartbeats 8000000
def lexZ (r:List UInt8):Tz:=((lexR r).1,r.take (lexR r).2.1,(lexR r).2.2.1,(lexR r).2.2.2)
def zlex:Nat→List UInt8→List Tz
 | 0,_=>[]
 | k+1,s =>
   let r:=s.dropWhile blankB
   if (lexR r).1=0∨(lexR r).1=5 then [lexZ r] else lexZ r::zlex k (r.drop (lexR r).2.1)
theorem drop_tw (p:UInt8→Bool):∀ l:List UInt8,l.drop (l.takeWhile p).length=l.dropWhile p
 | []=>rfl
 | c::l=>by
   rw [List.takeWhile_cons,List.dropWhile_cons]
   split
   ·rw [List.length_cons,List.drop_succ_cons,drop_tw p l]
   ·rfl
theorem scan_er (s:List UInt8) (a:Nat):(scanT s a).er=lexZ ((s.drop a).dropWhile blankB)∧s.drop (scanT s a).to=((s.drop a).dropWhile blankB).drop (lexR ((s.drop a).dropWhile blankB)).2.1:=by
 have e:s.drop (skipB s a)=(s.drop a).dropWhile blankB:=by
  unfold skipB
  rw [← List.drop_drop,drop_tw]
 unfold scanT Tk.er lexZ
 simp only
 refine ⟨by rw [e],?_⟩
 rw [← e,List.drop_drop]
theorem tokF_er (s:List UInt8):∀ (k a:Nat),er (tokF s k a)=zlex k (s.drop a)
 | 0,a=>rfl
 | k+1,a=>by
   obtain ⟨h1,h2⟩:=scan_er s a
   rw [tokF,zlex]
   have he:(scanT s a).ends=true↔((lexR ((s.drop a).dropWhile blankB)).1=0∨(lexR ((s.drop a).dropWhile blankB)).1=5):=by
    have:(scanT s a).kd=(lexR ((s.drop a).dropWhile blankB)).1:=congrArg (·.1) h1
    unfold Tk.ends
    rw [this]
    simp
   by_cases h:(scanT s a).ends=true
   ·rw [if_pos h,if_pos (he.1 h)]
    show [(scanT s a).er]=_
    rw [h1]
   ·rw [if_neg h,if_neg (fun c=>h (he.2 c))]
    show (scanT s a).er::er (tokF s k (scanT s a).to)=_
    rw [h1,tokF_er s k,h2]
def Sep (r:List UInt8):Prop:=r=[]∨∃ c q,r=c::q∧(c=32∨c=41∨c=44∨c=46∨c=40)
def Lexes (s:List UInt8) (w:List Tz):Prop:=∀ (rest:List UInt8) (k:Nat),Sep rest→zlex (k+w.length) (s++rest)=w++zlex k rest
theorem sep_nil:Sep []:=.inl rfl
theorem sep_cons {c:UInt8} (h:c=32∨c=41∨c=44∨c=46∨c=40) (q:List UInt8):Sep (c::q):=.inr ⟨c,q,rfl,h⟩
theorem lexes_app {s1 s2:List UInt8} {w1 w2:List Tz} (h1:Lexes s1 w1) (h2:Lexes s2 w2) (hs:∀ rest,Sep rest→Sep (s2++rest)):Lexes (s1++s2) (w1++w2):=fun rest k hr=>by
 rw [List.append_assoc,List.length_append,show k+(w1.length+w2.length)=(k+w2.length)+w1.length from by omega,h1 _ _ (hs rest hr),h2 rest k hr,List.append_assoc]
theorem zlex_blank (k:Nat) (s:List UInt8):zlex (k+1) (32::s)=zlex (k+1) s:=by
 rw [zlex,zlex]
 have:(32::s).dropWhile blankB=s.dropWhile blankB:=by rw [List.dropWhile_cons]; rfl
 rw [this]
theorem lexes_blank {s:List UInt8} {w:List Tz} (h:Lexes s w) (hw:w ≠ []):Lexes (32::s) w:=fun rest k hr=>by
 obtain ⟨n,hn⟩:∃ n,k+w.length=n+1:=⟨k+w.length - 1,by have:=List.length_pos_iff.2 hw; omega⟩
 rw [List.cons_append,hn,zlex_blank,← hn]
 exact h rest k hr
theorem zlex_one {s rest:List UInt8} {z:Tz} (hb:∀ c q,s=c::q→blankB c=false) (hne:s ≠ []) (h:lexR (s++rest)=(z.1,s.length,z.2.2.1,z.2.2.2)) (hz:z.2.1=s) (h0:z.1 ≠ 0) (h5:z.1 ≠ 5) (k:Nat):zlex (k+1) (s++rest)=z::zlex k rest:=by
 obtain ⟨c,q,rfl⟩:=List.exists_cons_of_ne_nil hne
 have hd:(c::q++rest).dropWhile blankB=c::q++rest:=by
  rw [List.cons_append,List.dropWhile_cons,hb c q rfl]; rfl
 rw [zlex,hd]
 simp only [h]
 rw [if_neg (by simp [h0,h5])]
 unfold lexZ
 rw [h]
 simp only [List.take_left',List.drop_left']
 rw [← hz]
theorem lexes_one {s:List UInt8} {z:Tz} (hb:∀ c q,s=c::q→blankB c=false) (hne:s ≠ []) (h:∀ rest,Sep rest→lexR (s++rest)=(z.1,s.length,z.2.2.1,z.2.2.2)) (hz:z.2.1=s) (h0:z.1 ≠ 0) (h5:z.1 ≠ 5):Lexes s [z]:=fun rest k hr=>zlex_one hb hne (h rest hr) hz h0 h5 k
theorem sep_tw {p:UInt8→Bool} (hp:p 32=false∧p 41=false∧p 44=false∧p 46=false∧p 40=false) {q rest:List UInt8} (hq:∀ c∈q,p c=true) (hs:Sep rest):(q++rest).takeWhile p=q:=by
 rw [List.takeWhile_append_of_pos hq]
 rcases hs with rfl | ⟨c,r,rfl,h⟩
 ·simp
 ·have:p c=false:=by rcases h with rfl | rfl | rfl | rfl | rfl <;> simp [hp]
  rw [List.takeWhile_cons,this]
  simp
theorem lexes_word {c:UInt8} {q:List UInt8} (hc:lowr c=true) (hq:∀ x∈q,nameB x=true) (hl:q.length≤15):Lexes (c::q) [wd (c::q)]:=by
 refine lexes_one (fun a b e=>?_) (by simp) (fun rest hr=>?_) rfl (show (1:Int) ≠ 0 by decide) (show (1:Int) ≠ 5 by decide)
 ·cases e
  unfold blankB
  unfold lowr at hc
  simp only [Bool.and_eq_true,decide_eq_true_eq] at hc
  have:¬ c=32∧¬ c=10:=⟨fun e=>by subst e; revert hc; decide,fun e=>by subst e; revert hc; decide⟩
  simp [this]
 ·have ht:=sep_tw (p:=nameB) (by decide) hq hr
  rw [List.cons_append]
  unfold lexR
  simp only
  rw [if_pos hc,ht,if_pos (by omega)]
  simp only [wd,Prod.mk.injEq,List.length_cons,true_and]
  refine ⟨by omega,?_,trivial⟩
  rw [show 1+q.length=(c::q).length from by simp; omega,← List.cons_append,List.take_left']
  rfl
theorem lexes_name {t:List UInt8} (ht:nameOk rsv t=true):Lexes t [wd t]:=by
 unfold nameOk at ht
 simp only [Bool.and_eq_true,decide_eq_true_eq] at ht
 obtain ⟨h1,h2,h3,_⟩:=ht
 cases t with
 | nil=>cases h2
 | cons c q =>
   simp only [headLow] at h2
   simp only [List.all_cons,Bool.and_eq_true,List.all_eq_true] at h3
   exact lexes_word h2 h3.2 (by simp at h1; omega)
theorem lexes_sign1 {c:UInt8} (hc:lowr c=false∧isDig c=false∧¬ c=39∧blankB c=false∧oneB.contains c=true) (h2:∀ d,twoW.contains [c,d]=false):∀ (rest:List UInt8) (k:Nat),zlex (k+1) (c::rest)=sg [c]::zlex k rest:=by
 intro rest k
 obtain ⟨c1,c2,c3,c4,c5⟩:=hc
 have h:lexR ([c]++rest)=(4,1,[c],0):=by
  show lexR (c::rest)=_
  unfold lexR
  simp only
  rw [if_neg (by rw [c1]; decide),if_neg (by rw [c2]; decide),if_neg c3]
  cases rest with
  | nil=>rw [if_neg (by simp),if_pos c5]
  | cons d r=>rw [if_neg (by rw [show (c::d::r).take 2=[c,d] from rfl,h2 d]; simp),if_pos c5]
 exact zlex_one (s:=[c]) (z:=sg [c]) (fun a q e=>by cases e; exact c4) (by simp) h rfl (show (4:Int) ≠ 0 by decide) (show (4:Int) ≠ 5 by decide) k
theorem not_two {c:UInt8} (h:∀ w∈twoW,w.head? ≠ some c) (d:UInt8):twoW.contains [c,d]=false:=by
 cases hc:twoW.contains [c,d] with
 | false=>rfl
 | true =>
   rw [List.contains_iff_mem] at hc
   exact absurd rfl (h _ hc)
theorem sign_one (c:UInt8) (h:c=40∨c=41∨c=44∨c=46∨c=42∨c=45∨c=43∨c=47∨c=61) (rest:List UInt8) (k:Nat):zlex (k+1) (c::rest)=sg [c]::zlex k rest:=by
 refine lexes_sign1 ?_ (not_two ?_) rest k <;> rcases h with rfl | rfl | rfl | rfl | rfl | rfl | rfl | rfl | rfl <;> decide
theorem lexes_par {s:List UInt8} {w:List Tz} (h:Lexes s w):Lexes (40::(s++[41])) (sg wOpen::(w++[sg wShut])):=fun rest k hr=>by
 have e:40::(s++[41])++rest=40::(s++41::rest):=by simp
 rw [e,show k+(sg wOpen::(w++[sg wShut])).length=(k+1+w.length)+1 from by simp; omega,sign_one 40 (by decide),h _ _ (sep_cons (by decide) rest),sign_one 41 (by decide)]
 simp [wOpen,wShut]
theorem lexes_minus {s:List UInt8} {w:List Tz} (h:Lexes s w):Lexes (45::s) (sg wMinus::w):=fun rest k hr=>by
 rw [List.cons_append,List.length_cons,show k+(w.length+1)=(k+w.length)+1 from by omega,sign_one 45 (by decide),h _ _ hr]
 rfl
theorem lexes_sp {s1 s2:List UInt8} {w1 w2:List Tz} (h1:Lexes s1 w1) (h2:Lexes s2 w2) (hw:w2 ≠ []):Lexes (s1++32::s2) (w1++w2):=lexes_app h1 (lexes_blank h2 hw) fun rest _=>sep_cons (by decide) _
theorem lexes_comma {s1 s2:List UInt8} {w1 w2:List Tz} (h1:Lexes s1 w1) (h2:Lexes s2 w2) (hw:w2 ≠ []):Lexes (s1++44::32::s2) (w1++(sg wComma::w2)):=by
 refine lexes_app h1 (fun rest k hr=>?_) fun rest _=>sep_cons (by decide) _
 rw [List.cons_append,List.length_cons,show k+(w2.length+1)=(k+w2.length)+1 from by omega,sign_one 44 (by decide),lexes_blank h2 hw _ _ hr]
 rfl
def opsL:List (List UInt8):=[wOr,wAnd]++(cmpW++(addW++mulW))
theorem lexes_two {a b:UInt8} (h:[a,b]∈twoW):Lexes [a,b] [sg [a,b]]:=by
 have hc:lowr a=false∧isDig a=false∧¬ a=39∧blankB a=false∧twoW.contains [a,b]=true:=by
  simp only [twoW,List.mem_cons,List.cons.injEq,and_true,List.not_mem_nil,or_false] at h
  rcases h with ⟨rfl,rfl⟩ | ⟨rfl,rfl⟩ | ⟨rfl,rfl⟩ | ⟨rfl,rfl⟩ <;> decide
 obtain ⟨c1,c2,c3,c4,c5⟩:=hc
 refine lexes_one (fun c q e=>by cases e; exact c4) (by simp) (fun rest hr=>?_) rfl (show (4:Int) ≠ 0 by decide) (show (4:Int) ≠ 5 by decide)
 show lexR (a::b::rest)=_
 unfold lexR
 simp only
 rw [if_neg (by rw [c1]; decide),if_neg (by rw [c2]; decide),if_neg c3,if_pos ⟨by simp,by rw [show (a::b::rest).take 2=[a,b] from rfl]; exact c5⟩]
 rfl
def nameB2 (y:List UInt8):Bool:=match y with
 | c::q=>lowr c&&(q.all nameB&&decide (q.length≤15))
 | []=>false
theorem lexes_opb {x:List UInt8} (hx:x∈opsL) {s:List UInt8} {w:List Tz} (h:Lexes s w) (hw:w ≠ []):Lexes (x++32::s) (tz x::w):=by
 have word:∀ y,(nameB2 y=true)→Lexes (y++32::s) (wd y::w):=fun y hy=>by
  unfold nameB2 at hy
  cases y with
  | nil=>cases hy
  | cons c q =>
    simp only [Bool.and_eq_true,List.all_eq_true,decide_eq_true_eq] at hy
    exact lexes_sp (lexes_word hy.1 hy.2.1 hy.2.2) h hw
 have one:∀ c:UInt8,(lowr c=false∧isDig c=false∧¬ c=39∧blankB c=false∧oneB.contains c=true)→twoW.contains [c,32]=false→Lexes ([c]++32::s) (sg [c]::w):=fun c ⟨c1,c2,c3,c4,c5⟩ ht rest k hr=>by
  have hl:lexR ([c]++(32::s++rest))=(4,1,[c],0):=by
   show lexR (c::32::(s++rest))=_
   unfold lexR
   simp only
   rw [if_neg (by rw [c1]; decide),if_neg (by rw [c2]; decide),if_neg c3,if_neg (by rw [show (c::32::(s++rest)).take 2=[c,32] from rfl,ht]; simp),if_pos c5]
  rw [List.append_assoc,List.length_cons,show k+(w.length+1)=(k+w.length)+1 from by omega,zlex_one (s:=[c]) (z:=sg [c]) (fun a q e=>by cases e; exact c4) (by simp) hl rfl (show (4:Int) ≠ 0 by decide) (show (4:Int) ≠ 5 by decide),lexes_blank h hw _ _ hr]
  rfl
 simp only [opsL,cmpW,addW,mulW,wOr,wAnd,List.cons_append,List.nil_append,List.mem_cons,List.not_mem_nil,or_false] at hx
 rcases hx with rfl | rfl | rfl | rfl | rfl | rfl | rfl | rfl | rfl | rfl | rfl | rfl | rfl | rfl | rfl
 ·exact word _ (by decide)
 ·exact word _ (by decide)
 ·exact one 61 (by decide) (by decide)
 ·exact lexes_sp (lexes_two (by decide)) h hw
 ·exact one 60 (by decide) (by decide)
 ·exact lexes_sp (lexes_two (by decide)) h hw
 ·exact one 62 (by decide) (by decide)
 ·exact lexes_sp (lexes_two (by decide)) h hw
 ·exact word _ (by decide)
 ·exact one 43 (by decide) (by decide)
 ·exact one 45 (by decide) (by decide)
 ·exact lexes_sp (lexes_two (by decide)) h hw
 ·exact one 42 (by decide) (by decide)
 ·exact one 47 (by decide) (by decide)
 ·exact word _ (by decide)
theorem lexes_num {n:Nat} (h:n≤1000000000000):Lexes (Lib.decDigits n) [(2,Lib.decDigits n,Lib.decDigits n,(n:Int))]:=by
 have hd:=decDigits_dig n
 obtain ⟨c,q,e⟩:=List.exists_cons_of_ne_nil (decDigits_ne n)
 have hv:(V.mk 1 n []).valid=true:=by unfold V.valid; simp; omega
 have hp:=resP_text hv
 have ht:vText (V.mk 1 n [])=Lib.decDigits n:=by
  unfold vText
  rw [if_pos hv,if_pos rfl]
  exact Lib.itoa_nonneg n
 rw [ht] at hp
 rw [e] at hd hp ⊢
 have hc:=hd c List.mem_cons_self
 have hlow:lowr c=false:=by
  unfold isDig at hc
  unfold lowr
  simp only [Bool.and_eq_true,decide_eq_true_eq] at hc
  have:¬ 97≤c.toNat:=by omega
  simp [this]
 refine lexes_one (fun a b e2=>?_) (by simp) (fun rest hr=>?_) rfl (show (2:Int) ≠ 0 by decide) (show (2:Int) ≠ 5 by decide)
 ·cases e2
  unfold blankB
  have:¬ c=32∧¬ c=10:=⟨fun e=>by subst e; revert hc; decide,fun e=>by subst e; revert hc; decide⟩
  simp [this]
 ·have htw:=sep_tw (p:=isDig) (by decide) (fun x hx=>hd x (List.mem_cons_of_mem _ hx)) hr
  have hlen:1+q.length=(c::q).length:=by simp; omega
  rw [List.cons_append]
  unfold lexR
  simp only
  rw [if_neg (by rw [hlow]; decide),if_pos hc,htw,hlen,← List.cons_append,List.take_left' rfl,hp,if_pos ⟨rfl,rfl⟩]
theorem lexes_text {t:List UInt8} (h:textOk t=true):Lexes (39::(t++[39])) [(3,39::(t++[39]),t,0)]:=by
 have hv:(V.mk 3 0 t).valid=true:=by unfold V.valid; simpa using h
 have hp:=resP_text hv
 have ht:vText (V.mk 3 0 t)=39::(t++[39]):=by
  unfold vText
  rw [if_pos hv]
  rfl
 rw [ht] at hp
 have hq:∀ c∈t,(c==39)=false:=fun c hc=>by
  unfold textOk at h
  simp only [Bool.and_eq_true,Bool.not_eq_true',List.any_eq_false] at h
  have:=h.2 c hc
  unfold badB badN at this
  simp at this
  rw [beq_eq_false_iff_ne]
  rintro rfl
  simp at this
 refine lexes_one (fun a b e=>by cases e; decide) (by simp) (fun rest hr=>?_) rfl (show (3:Int) ≠ 0 by decide) (show (3:Int) ≠ 5 by decide)
 have hf:(t++[39]++rest).findIdx? (·==39)=some t.length:=by
  rw [List.append_assoc,List.findIdx?_append,List.findIdx?_eq_none_iff.2 hq]
  simp [List.findIdx?_cons]
 have hlen:t.length+2=(39::(t++[39])).length:=by simp
 rw [List.cons_append]
 unfold lexR
 simp only
 rw [if_neg (by decide),if_neg (by decide),if_pos trivial,hf]
 have ht2:(39::(t++[39]++rest)).take (39::(t++[39])).length=39::(t++[39]):=by
  rw [show 39::(t++[39]++rest)=(39::(t++[39]))++rest from rfl]
  exact List.take_left' rfl
 simp only
 rw [hlen,ht2,hp,if_pos rfl]
section
variable (b s:List UInt8)
variable {b s}
theorem lex_kd {c:UInt8} {q:List UInt8}:(lexR (c::q)).1 ≠ 5:=by
 unfold lexR
 simp only
 repeat' split
 all_goals simp
end
theorem chain_okE {s:List UInt8}:∀ {l:List Tk},Chain s l→okE l
 | [],h=>h.elim
 | [t],h=>⟨[],t,rfl,h⟩
 | t::u::r,h=>by
   obtain ⟨l,e,h1,h2⟩:=chain_okE h.2.2
   exact ⟨t::l,e,by rw [h1]; rfl,h2⟩
theorem toks_okE (s:List UInt8):okE (toks s):=chain_okE (toks_chain s)
def full {α:Type} (rule:List Tk→Res α) (s:List UInt8):Except Nat α:=match rule (toks s) with
 | .error p=>.error p
 | .ok (x,m)=>if (hdT m).kd=5 then .ok x else .error (posT m)
theorem resP_inv {s:List UInt8} (h:(resP s).2=0):(resP s).1.valid=true∧vText (resP s).1=s:=by
 unfold resP at *
 cases hc:candP s with
 | none=>simp [hc] at h
 | some v =>
   rw [hc] at h
   simp only at h ⊢
   by_cases hg:goodB s v=true
   ·rw [if_pos hg]
    unfold goodB at hg
    simp only [Bool.and_eq_true,beq_iff_eq] at hg
    exact hg
   ·rw [if_neg hg] at h
    exact absurd (h:(2:Int)=0) (by decide)
theorem zero_text:vText (V.mk 1 0 [])=[48]:=by
 unfold vText
 rw [if_pos (by decide),if_pos rfl]
 show Lib.itoa ((0:Nat):Int)=[48]
 rw [Lib.itoa_nonneg]
 unfold Lib.decDigits
 decide
theorem num_zero {s:List UInt8} (h:(resP s).2=0) (hk:(resP s).1.k=1):(resP s).1.n=0↔s=[48]:=by
 obtain ⟨h1,h2⟩:=resP_inv h
 constructor
 ·intro h0
  generalize (resP s).1=v at *
  obtain ⟨k,n,t⟩:=v
  simp only at hk h0
  subst hk h0
  have ht:t=[]:=by
   unfold V.valid at h1
   simpa using h1
  subst ht
  rw [← h2,zero_text]
 ·rintro rfl
  have:=resP_text (v:=V.mk 1 0 []) (by decide)
  rw [zero_text] at this
  rw [this]
theorem scan_tk (s:List UInt8) (a:Nat):TkOk (scanT s a):=by
 unfold scanT
 generalize s.drop (skipB s a)=r
 generalize skipB s a=z
 suffices h:((lexR r).1=1∨(lexR r).1=4→(lexR r).2.2.1=r.take (lexR r).2.1)∧((lexR r).1=2→((lexR r).2.2.2=0↔r.take (lexR r).2.1=[48])) from { tx:=h.1,num:=h.2 }
 cases r with
 | nil=>exact ⟨fun h=>by simp [lexR] at h,fun h=>by simp [lexR] at h⟩
 | cons c q =>
   unfold lexR
   simp only
   by_cases h1:lowr c=true
   ·rw [if_pos h1]
    split
    ·exact ⟨fun _=>rfl,fun h=>by simp at h⟩
    ·exact ⟨fun h=>by simp at h,fun h=>by simp at h⟩
   rw [if_neg h1]
   by_cases h2:isDig c=true
   ·rw [if_pos h2]
    split
    ·rename_i hr
     exact ⟨fun h=>by simp at h,fun _=>num_zero hr.1 hr.2⟩
    ·exact ⟨fun h=>by simp at h,fun h=>by simp at h⟩
   rw [if_neg h2]
   by_cases h3:c=39
   ·rw [if_pos h3]
    cases q.findIdx? (·==39) with
    | none=>exact ⟨fun h=>by simp at h,fun h=>by simp at h⟩
    | some i =>
      simp only
      split
      ·exact ⟨fun h=>by simp at h,fun h=>by simp at h⟩
      ·exact ⟨fun h=>by simp at h,fun h=>by simp at h⟩
   rw [if_neg h3]
   split
   ·exact ⟨fun _=>rfl,fun h=>by simp at h⟩
   ·split
    ·exact ⟨fun _=>rfl,fun h=>by simp at h⟩
    ·exact ⟨fun h=>by simp at h,fun h=>by simp at h⟩
theorem tokF_mem (s:List UInt8):∀ (k a:Nat) (t:Tk),t∈tokF s k a→∃ b,t=scanT s b
 | 0,a,t,h=>by cases h
 | k+1,a,t,h=>by
   rw [tokF] at h
   split at h
   ·exact ⟨a,List.mem_singleton.1 h⟩
   ·rcases List.mem_cons.1 h with e | h
    ·exact ⟨a,e⟩
    ·exact tokF_mem s k _ t h
theorem toks_ok (s:List UInt8):okL (toks s):=fun t ht=>by
 obtain ⟨b,rfl⟩:=tokF_mem s _ _ t ht
 exact scan_tk s b
def fullR {α:Type} (rule:RS→α×RS) (s:List UInt8):Except Nat α :=
 let x:=rule (toks s,-1)
 let y:=if (hdT x.2.1).kd=5 then x.2 else rFail x.2
 if 0≤y.2 then .error y.2.toNat else .ok x.1
theorem full_eq {α:Type} {rp:List Tk→Res α} {rr:RS→α×RS} {s:List UInt8} (h:EqG (rp (toks s)) (rr (toks s,-1))):fullR rr s=full rp s:=by
 unfold fullR full
 cases hp:rp (toks s) with
 | error p =>
   rw [hp] at h
   have h':(rr (toks s,-1)).2.2=(p:Int):=h
   simp only
   have e:(if (hdT (rr (toks s,-1)).2.1).kd=5 then (rr (toks s,-1)).2 else rFail (rr (toks s,-1)).2).2=(p:Int):=by
    split
    ·exact h'
    ·rw [rFail_bad (by omega)]; exact h'
   rw [e,if_pos (by omega)]
   rfl
 | ok y =>
   obtain ⟨x,m⟩:=y
   rw [hp] at h
   have h':rr (toks s,-1)=(x,(m,-1)):=h
   rw [h']
   simp only
   by_cases h5:(hdT m).kd=5
   ·rw [if_pos h5,if_pos h5]
    rfl
   ·rw [if_neg h5,if_neg h5,rFail_good]
    simp
theorem full_tm (N:Nat) (s:List UInt8):fullR (parR N 0) s=full (parP N 0) s:=full_eq (parG N _ (toks_ok s))
def tokC (t:Tk):List D:=[.int .i64 (if t.kd=5 then 0 else t.kd),.str t.rw,.int .i64 t.fr]
def tkA (t:Tk):AV:=.agg ((tokC t).map AV.d)
def rdB (T l:List Tk):Blk:=.var [.d (.sl (T.map tokC)),.d (.int .i64 ((T.length - l.length:Nat):Int))]
theorem sfx_at {T l:List Tk} (hs:l <:+ T) (hn:l ≠ []):T.length - l.length<T.length∧∀ h,T[T.length - l.length]'h=hdT l:=by
 obtain ⟨p,rfl⟩:=hs
 have hl:=List.length_pos_iff.2 hn
 refine ⟨by simp; omega,fun h=>?_⟩
 cases l with
 | nil=>exact absurd rfl hn
 | cons t r =>
   rw [List.getElem_append_right (by simp)]
   simp [hdT]
theorem p_peek {T l:List Tk} (hs:l <:+ T) (hn:l ≠ []) (hT:T.length≤10000):Cf En 61 [.ptr 1000000 0 0] [rdB T l] (tkA (hdT l)) [rdB T l]:=by
 obtain ⟨h1,h2⟩:=sfx_at hs hn
 refine cf_intro mix (fn:=Tryz.f61) (by kernel_rfl) rfl (by kernel_rfl) (by decide) (by simp [rdB]) ?_
 unfold rdB tkA
 generalize T.length - l.length=i at *
 have hw:=wrap_in (n:=(T.length:Int) - 1) (by omega) (by omega)
 have hm:¬ ((T.length:Int) - 1<(i:Int)):=by omega
 generalize hdT l=e at *
 simp [hw,hm,h1,h2,tokC]
 all_goals exact gz
theorem p_is {T l:List Tk} (hs:l <:+ T) (hn:l ≠ []) (hT:T.length≤10000) (w:List UInt8):Cf En 118 [.ptr 1000000 0 0,.d (.str w)] [rdB T l] (.d (.bool (isW w l))) [rdB T l]:=by
 have hp:=p_peek hs hn hT
 have hw:isW w l=(((hdT l).kd==1||(hdT l).kd==4)&&(hdT l).rw==w):=by
  cases l with
  | nil=>exact absurd rfl hn
  | cons t r=>rfl
 rw [hw]
 refine cf_intro mix (fn:=Tryz.f118) (by kernel_rfl) rfl (by kernel_rfl) (by decide) (by simp [rdB]) ?_
 unfold rdB tkA at *
 generalize T.length - l.length=i at *
 generalize hdT l=e at *
 simp [tokC] at hp ⊢
 (repeat' (first|contradiction|exact .ok|apply And.intro|intro _|(refine gc (fun h=>?_) (fun h=>?_)<;>(have h':=h;(try simp at h');first|done|simp[h,h',tokC]|simp[tokC]))))
 refine acallT_hand [1000000] hp (by simp) (by simp) (by simp) (by simp) (by simp) ?_
 simp [tokC]
 (repeat' (first|contradiction|exact .ok|apply And.intro|intro _|(refine gc (fun h=>?_) (fun h=>?_)<;>(have h':=h;(try simp at h');first|done|simp[h,h',tokC]|simp[tokC]))))
 all_goals (by_cases k5:e.kd=5 <;> simp_all)
theorem p_take {T l:List Tk} (hs:l <:+ T) (hn:l ≠ []) (hT:T.length≤10000) (w:List UInt8):Cf En 78 [.ptr 1000000 0 0,.d (.str w)] [rdB T l] (.d (.bool (isW w l))) [rdB T (if isW w l=true then l.tail else l)]:=by
 have hp:=p_is hs hn hT w
 have hlen:=hs.length_le
 have hpos:=List.length_pos_iff.2 hn
 refine cf_intro mix (fn:=Tryz.f78) (by kernel_rfl) rfl (by kernel_rfl) (by decide) (by simp [rdB]) ?_
 cases hw:isW w l with
 | false =>
   rw [hw] at hp
   simp only [Bool.false_eq_true,if_false]
   unfold rdB at *
   generalize T.length - l.length=i at *
   simp at hp ⊢
   (repeat' (first|contradiction|exact .ok|apply And.intro|intro _|(refine gc (fun h=>?_) (fun h=>?_)<;>(have h':=h;(try simp at h');first|done|simp[h,h']|simp))))
   refine acallT_hand [1000000] hp (by simp) (by simp) (by simp) (by simp) (by simp) ?_
   simp
   all_goals exact gz
 | true =>
   rw [hw] at hp
   have hi:T.length - l.tail.length=T.length - l.length+1:=by rw [List.length_tail]; omega
   have hb:T.length - l.length≤10000:=by omega
   simp only [if_true]
   unfold rdB at *
   rw [hi]
   generalize T.length - l.length=i at *
   have hwr:=wrap_in (n:=(i:Int)+1) (by omega) (by omega)
   simp at hp ⊢
   (repeat' (first|contradiction|exact .ok|apply And.intro|intro _|(refine gc (fun h=>?_) (fun h=>?_)<;>(have h':=h;(try simp at h');first|done|simp[h,h']|simp))))
   refine acallT_hand [1000000] hp (by simp) (by simp) (by simp) (by simp) (by simp) ?_
   simp [hwr]
   (repeat' (first|contradiction|exact .ok|apply And.intro|intro _|(refine gc (fun h=>?_) (fun h=>?_)<;>(have h':=h;(try simp at h');first|done|simp[h,h',hwr]|simp[hwr]))))
theorem p_letter (c:UInt8):Cf En 137 [.d (.int .u8 c.toNat)] [] (.d (.bool (lowr c))) []:=by
 refine cf_intro mix (fn:=Tryz.f137) (by kernel_rfl) rfl (by kernel_rfl) (by decide) (by simp) ?_
 unfold lowr
 simp
 (repeat' (first|contradiction|exact .ok|apply And.intro|intro _|(refine gc (fun h=>?_) (fun h=>?_)<;>(have h':=h;(try simp at h');first|done|simp[h,h']|simp))))
 all_goals first | done | omega | (rw [Bool.eq_iff_iff]; simp; omega) | (simp_all; done) | (simp_all; omega)
theorem p_digit (c:UInt8):Cf En 139 [.d (.int .u8 c.toNat)] [] (.d (.bool (isDig c))) []:=by
 refine cf_intro mix (fn:=Tryz.f139) (by kernel_rfl) rfl (by kernel_rfl) (by decide) (by simp) ?_
 unfold isDig
 simp
 (repeat' (first|contradiction|exact .ok|apply And.intro|intro _|(refine gc (fun h=>?_) (fun h=>?_)<;>(have h':=h;(try simp at h');first|done|simp[h,h']|simp))))
 all_goals first | done | omega | (rw [Bool.eq_iff_iff]; simp; omega) | (simp_all; done) | (simp_all; omega)
theorem blank_iff (c:UInt8):blankB c=((c.toNat:Int)==32||(c.toNat:Int)==10):=by
 unfold blankB
 rw [Bool.eq_iff_iff]
 simp
 constructor
 ·rintro (rfl | rfl) <;> simp
 ·rintro (h | h)
  ·exact .inl (UInt8.toNat_inj.1 (by simpa using (by omega:c.toNat=32)))
  ·exact .inr (UInt8.toNat_inj.1 (by simpa using (by omega:c.toNat=10)))
theorem p_space (c:UInt8):Cf En 98 [.d (.int .u8 c.toNat)] [] (.d (.bool (blankB c))) []:=by
 refine cf_intro mix (fn:=Tryz.f98) (by kernel_rfl) rfl (by kernel_rfl) (by decide) (by simp) ?_
 rw [blank_iff]
 simp
 (repeat' (first|contradiction|exact .ok|apply And.intro|intro _|(refine gc (fun h=>?_) (fun h=>?_)<;>(have h':=h;(try simp at h');first|done|simp[h,h']|simp))))
 all_goals first | done | omega | (rw [Bool.eq_iff_iff]; simp; omega) | (simp_all; done) | (simp_all; omega)
theorem p_next1 (c:UInt8):Cf En 138 [.d (.int .u8 c.toNat)] [] (.d (.bool (nameB c))) []:=by
 have h1:=p_letter c
 have h2:=p_digit c
 have hn:nameB c=(lowr c||(isDig c||c.toNat==95)):=rfl
 rw [hn]
 generalize lowr c=L at *
 generalize isDig c=D at *
 refine cf_intro mix (fn:=Tryz.f138) (by kernel_rfl) rfl (by kernel_rfl) (by decide) (by simp) ?_
 simp
 (repeat' (first|contradiction|exact .ok|apply And.intro|intro _|(refine gc (fun h=>?_) (fun h=>?_)<;>(have h':=h;(try simp at h');first|done|simp[h,h']|simp))))
 refine acallT_plain h1 (by simp) ?_
 simp
 (repeat' (first|contradiction|exact .ok|apply And.intro|intro _|(refine gc (fun h=>?_) (fun h=>?_)<;>(have h':=h;(try simp at h');first|done|simp[h,h']|simp))))
 all_goals first | (refine acallT_plain h2 (by simp) ?_; simp; (repeat' (first | contradiction | exact .of (by kernel_rfl) | refine And.intro ?_ ?_ | intro _ | (refine agrd_cases (fun h=>?_) (fun h=>?_) <;> (have h':=h; (try simp at h'); first | done | simp [h,h'] | simp))))) | skip
 all_goals first | (simp_all; done) | (simp only [*,Bool.false_or]; rw [Bool.eq_iff_iff]; simp; omega)
theorem p_run (fc:Nat) (p:UInt8→Bool) (hc:∀ c:UInt8,Cf En fc [.d (.int .u8 c.toNat)] [] (.d (.bool (p c))) []) (s:List UInt8) (hs:s.length≤10000) :
  Cf En 97 [.d (.str s),.clo fc []] [] (.d (.int .i64 (s.takeWhile p).length)) []:=by
 refine cf_intro mix (fn:=Tryz.f97) (by kernel_rfl) rfl (by kernel_rfl) (by decide) (by simp) ?_
 simp
 (repeat' (first|contradiction|exact .ok|apply And.intro|intro _|(refine gc (fun h=>?_) (fun h=>?_)<;>(have h':=h;(try simp at h');first|done|simp[h,h']|simp))))
 refine aloopT mix (by decide) (fun i:Nat=>{ s:=mkS [(0,.d (.str s)),(1,.clo fc []),(5,.d (.int .i64 i))],b:=mkB [] }) (fun i=>i≤s.length∧(s.takeWhile p).length=i+((s.drop i).takeWhile p).length) (fun i=>s.length - i) 0 ⟨by simp,by simp⟩ (sub_mk _ [] .nil (by simp)) ?_
 rintro i ⟨hi,hl⟩
 by_cases hlt:i<s.length
 ·have h1:=hc s[i]
  have hw:=wrap_in (n:=(i:Int)+1) (by omega) (by omega)
  rw [List.drop_eq_getElem_cons hlt,List.takeWhile_cons] at hl
  obtain ⟨e,he⟩:∃ e,e=s[i]:=⟨_,rfl⟩
  have hge:∀ h,s[i]'h=e:=fun _=>he.symm
  rw [hge] at h1 hl
  cases hp:p e with
  | true =>
    rw [hp,if_pos rfl,List.length_cons] at hl
    rw [hp] at h1
    simp [hlt,hge]
    (repeat' (first|contradiction|exact .ok|apply And.intro|intro _|(refine gc (fun h=>?_) (fun h=>?_)<;>(have h':=h;(try simp at h');first|done|simp[h,h',hlt,hge]|simp[hlt,hge]))))
    refine acallT_plain h1 (by simp) ?_
    simp [hw]
    (repeat' (first|contradiction|exact .ok|apply And.intro|intro _|(refine gc (fun h=>?_) (fun h=>?_)<;>(have h':=h;(try simp at h');first|done|simp[h,h',hw]|simp[hw]))))
    refine ⟨i+1,⟨by omega,by omega⟩,?_,by simp; omega⟩
    exact sub_mk _ [] .nil (by simp [hw])
  | false =>
    rw [hp,if_neg (by simp)] at hl
    rw [hp] at h1
    simp at hl
    rw [hl]
    simp [hlt,hge]
    (repeat' (first|contradiction|exact .ok|apply And.intro|intro _|(refine gc (fun h=>?_) (fun h=>?_)<;>(have h':=h;(try simp at h');first|done|simp[h,h',hlt,hge]|simp[hlt,hge]))))
    refine acallT_plain h1 (by simp) ?_
    simp
    all_goals exact gz
 ·obtain rfl:i=s.length:=by omega
  simp at hl
  rw [hl]
  simp
  all_goals exact gz
def ixB (s:List UInt8) (c:UInt8):Int:=match s.findIdx? (·==c) with
 | some i=>(i:Int)
 | none=>-1
theorem lib_ix:∀ (s:List UInt8) (c:UInt8),Lib.indexByte s c=ixB s c
 | [],c=>rfl
 | b::l,c=>by
   have ih:=lib_ix l c
   unfold ixB at *
   rw [Lib.indexByte,List.findIdx?_cons]
   cases hb:b==c with
   | true=>simp
   | false =>
     simp only [Bool.false_eq_true,if_false]
     cases hl:l.findIdx? (·==c) with
     | none=>rw [hl] at ih; simp only at ih; rw [ih]; simp
     | some i =>
       rw [hl] at ih
       simp only at ih
       rw [ih,if_neg (by simp; try omega)]
       simp
theorem f_indexByte (s:List UInt8) (c:UInt8):Cf En 141 [.d (.str s),.d (.int .u8 c.toNat)] [] (.d (.int .i64 (ixB s c))) []:=by
 refine cf_of_calls (by kernel_rfl) fun w g vs hr m=>?_
 obtain ⟨_,_,rfl,r1,_,_,rfl,r2,r3⟩:=hr
 simp only [RepAs] at r3
 subst r3
 simp only [RepA,RepD] at r1 r2
 subst r1 r2
 refine (Tryz.strings_IndexByte _ _ w).mono ?_
 rintro e w' ⟨rfl,rfl⟩
 refine ⟨_,rfl,?_,.refl _ _⟩
 simp only [RepA,RepD,lib_ix]
 congr 2
 try simp
theorem f_index (ws:List (List UInt8)) (w:List UInt8) (hw:ws.length≤1000) :
  Cf En 177 [.d (.sl (ws.map fun w=>[.str w])),.d (.str w)] [] (.d (.int .i64 (fidx (fun x=>x==w) ws 0))) []:=by
 refine cf_intro mix (fn:=Tryz.f177) (by kernel_rfl) rfl (by kernel_rfl) (by decide) (by simp) ?_
 simp<;>(repeat' first|contradiction|exact .ok|apply And.intro|intro _|(refine gc (fun h=>?_) (fun h=>?_)<;>(have h':=h;(try simp at h');first|done|simp[h,h']|simp)))
 refine aloopT mix (by decide) (fun i:Nat=>{ s:=mkS [(0,.d (.sl (ws.map fun w=>[.str w]))),(1,.d (.str w)),(7,.d (.int .i64 ws.length)),(8,.d (.int .i64 i))],b:=mkB [] }) (fun i=>i≤ws.length∧fidx (fun x=>x==w) ws 0=fidx (fun x=>x==w) (ws.drop i) i) (fun i=>ws.length - i) 0 ⟨by simp,by simp⟩ (sub_mk _ [] .nil (by simp)) ?_
 rintro i ⟨hi,hfx⟩
 by_cases hlt:i<ws.length
 ·have hd:=fidx_drop (p:=fun x=>x==w) (k:=i) hlt
  have hwr:=wrap_in (n:=(i:Int)+1) (by omega) (by omega)
  obtain ⟨e,he⟩:∃ e,e=ws[i]:=⟨_,rfl⟩
  have hge:∀ h,ws[i]'h=e:=fun _=>he.symm
  rw [hge] at hd
  rw [hd] at hfx
  have hcm:(w==e)=(e==w):=by rw [Bool.eq_iff_iff,beq_iff_eq,beq_iff_eq]; exact eq_comm
  cases hb:e==w with
  | true =>
    rw [hb] at hfx hcm
    simp only [if_true] at hfx
    rw [hfx]
    have hcm':w=e:=by simpa using hcm
    simp [hlt,hge,hcm']<;>(repeat' first|contradiction|exact .ok|apply And.intro|intro _|(refine gc (fun h=>?_) (fun h=>?_)<;>(have h':=h;(try simp at h');first|done|simp[h,h',hlt,hge,hcm']|simp[hlt,hge,hcm'])))
  | false =>
    rw [hb] at hfx hcm
    simp only [Bool.false_eq_true,if_false] at hfx
    have hcm':¬ w=e:=by simpa using hcm
    simp [hlt,hge,hcm']<;>(repeat' first|contradiction|exact .ok|apply And.intro|intro _|(refine gc (fun h=>?_) (fun h=>?_)<;>(have h':=h;(try simp at h');first|done|simp[h,h',hlt,hge,hcm']|simp[hlt,hge,hcm'])))
    refine ⟨i+1,⟨by omega,hfx⟩,?_,by simp; omega⟩
    exact sub_mk _ [] .nil (by simp [hwr])
 ·obtain rfl:i=ws.length:=by omega
  rw [List.drop_length,fidx] at hfx
  rw [hfx]
  simp<;>(repeat' first|contradiction|exact .ok|apply And.intro|intro _|(refine gc (fun h=>?_) (fun h=>?_)<;>(have h':=h;(try simp at h');first|done|simp[h,h']|simp)))
theorem fidx_con (w:List UInt8):∀ (ws:List (List UInt8)) (k:Nat),decide (0≤fidx (fun x=>x==w) ws k)=ws.contains w
 | [],k=>by simp [fidx]
 | x::ws,k=>by
   rw [fidx,List.contains_cons]
   cases hb:x==w with
   | true =>
     have:(w==x)=true:=by simp at hb; simp [hb]
     rw [this]
     simp
   | false =>
     have:(w==x)=false:=by simp at hb; simp; exact fun e=>hb e.symm
     rw [this,Bool.false_or,← fidx_con w ws (k+1)]
     simp
theorem f_contains (ws:List (List UInt8)) (w:List UInt8) (hw:ws.length≤1000) :
  Cf En 142 [.d (.sl (ws.map fun w=>[.str w])),.d (.str w)] [] (.d (.bool (ws.contains w))) []:=by
 have h:=f_index ws w hw
 rw [← fidx_con w ws 0]
 generalize fidx (fun x=>x==w) ws 0=z at *
 refine cf_intro mix (fn:=Tryz.f142) (by kernel_rfl) rfl (by kernel_rfl) (by decide) (by simp) ?_
 simp<;>(repeat' first|contradiction|exact .ok|apply And.intro|intro _|(refine gc (fun h=>?_) (fun h=>?_)<;>(have h':=h;(try simp at h');first|done|simp[h,h']|simp)))
 refine acallT_plain h (by simp) ?_
 simp<;>(repeat' first|contradiction|exact .ok|apply And.intro|intro _|(refine gc (fun h=>?_) (fun h=>?_)<;>(have h':=h;(try simp at h');first|done|simp[h,h']|simp)))
end Go.Proofs.Tryz
