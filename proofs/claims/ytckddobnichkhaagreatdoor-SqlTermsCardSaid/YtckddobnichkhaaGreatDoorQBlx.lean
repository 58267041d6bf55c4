import Derived.Test.YtckddobnichkhaaGreatDoorBcr
import Derived.Test.YtckddobnichkhaaGreatDoorQRkp
set_option linter.all false
/- The text of a term, and that its tokens come back from it. No program in sight. -/
namespace Go.Proofs.Tryz
open Go.Ab
set_option maxRecDepth 100000
set_option maxHeartbeats 8000000
/-! Tokens without their places. -/
def lexZ (r:List UInt8):Tz:=((lexR r).1,r.take (lexR r).2.1,(lexR r).2.2.1,(lexR r).2.2.2)
def zlex:Nat→List UInt8→List Tz
 | 0,_=>[]
 | k+1,s =>
   let r:=s.dropWhile blankB
   if (lexR r).1=0∨(lexR r).1=5 then [lexZ r] else lexZ r::zlex k (r.drop (lexR r).2.1)
theorem drop_tw (p:UInt8→Bool):∀ l:List UInt8,l.drop (l.takeWhile p).length=l.dropWhile p
 | []=>rfl
 | c::l=>by
   rw [List.takeWhile_cons,List.dropWhile_cons]
   split
   ·rw [List.length_cons,List.drop_succ_cons,drop_tw p l]
   ·rfl
theorem scan_er (s:List UInt8) (a:Nat):(scanT s a).er=lexZ ((s.drop a).dropWhile blankB)∧s.drop (scanT s a).to=((s.drop a).dropWhile blankB).drop (lexR ((s.drop a).dropWhile blankB)).2.1:=by
 have e:s.drop (skipB s a)=(s.drop a).dropWhile blankB:=by
  unfold skipB
  rw [← List.drop_drop,drop_tw]
 unfold scanT Tk.er lexZ
 simp only
 refine ⟨by rw [e],?_⟩
 rw [← e,List.drop_drop]
theorem tokF_er (s:List UInt8):∀ (k a:Nat),er (tokF s k a)=zlex k (s.drop a)
 | 0,a=>rfl
 | k+1,a=>by
   obtain ⟨h1,h2⟩:=scan_er s a
   rw [tokF,zlex]
   have he:(scanT s a).ends=true↔((lexR ((s.drop a).dropWhile blankB)).1=0∨(lexR ((s.drop a).dropWhile blankB)).1=5):=by
    have:(scanT s a).kd=(lexR ((s.drop a).dropWhile blankB)).1:=congrArg (·.1) h1
    unfold Tk.ends
    rw [this]
    simp
   by_cases h:(scanT s a).ends=true
   ·rw [if_pos h,if_pos (he.1 h)]
    show [(scanT s a).er]=_
    rw [h1]
   ·rw [if_neg h,if_neg (fun c=>h (he.2 c))]
    show (scanT s a).er::er (tokF s k (scanT s a).to)=_
    rw [h1,tokF_er s k,h2]
/-- What may stand behind a term's text. -/
def Sep (r:List UInt8):Prop:=r=[]∨∃ c q,r=c::q∧(c=32∨c=41∨c=44∨c=46∨c=40)
def Lexes (s:List UInt8) (w:List Tz):Prop:=∀ (rest:List UInt8) (k:Nat),Sep rest→zlex (k+w.length) (s++rest)=w++zlex k rest
theorem sep_nil:Sep []:=.inl rfl
theorem sep_cons {c:UInt8} (h:c=32∨c=41∨c=44∨c=46∨c=40) (q:List UInt8):Sep (c::q):=.inr ⟨c,q,rfl,h⟩
theorem lexes_nil:Lexes [] []:=fun rest k _=>rfl
theorem lexes_app {s1 s2:List UInt8} {w1 w2:List Tz} (h1:Lexes s1 w1) (h2:Lexes s2 w2) (hs:∀ rest,Sep rest→Sep (s2++rest)):Lexes (s1++s2) (w1++w2):=fun rest k hr=>by
 rw [List.append_assoc,List.length_append,show k+(w1.length+w2.length)=(k+w2.length)+w1.length from by omega,h1 _ _ (hs rest hr),h2 rest k hr,List.append_assoc]
/-- Blanks do not matter. -/
theorem zlex_blank (k:Nat) (s:List UInt8):zlex (k+1) (32::s)=zlex (k+1) s:=by
 rw [zlex,zlex]
 have:(32::s).dropWhile blankB=s.dropWhile blankB:=by rw [List.dropWhile_cons]; rfl
 rw [this]
theorem lexes_blank {s:List UInt8} {w:List Tz} (h:Lexes s w) (hw:w ≠ []):Lexes (32::s) w:=fun rest k hr=>by
 obtain ⟨n,hn⟩:∃ n,k+w.length=n+1:=⟨k+w.length - 1,by have:=List.length_pos_iff.2 hw; omega⟩
 rw [List.cons_append,hn,zlex_blank,← hn]
 exact h rest k hr
/-- One token. -/
theorem zlex_one {s rest:List UInt8} {z:Tz} (hb:∀ c q,s=c::q→blankB c=false) (hne:s ≠ []) (h:lexR (s++rest)=(z.1,s.length,z.2.2.1,z.2.2.2)) (hz:z.2.1=s) (h0:z.1 ≠ 0) (h5:z.1 ≠ 5) (k:Nat):zlex (k+1) (s++rest)=z::zlex k rest:=by
 obtain ⟨c,q,rfl⟩:=List.exists_cons_of_ne_nil hne
 have hd:(c::q++rest).dropWhile blankB=c::q++rest:=by
  rw [List.cons_append,List.dropWhile_cons,hb c q rfl]; rfl
 rw [zlex,hd]
 simp only [h]
 rw [if_neg (by simp [h0,h5])]
 unfold lexZ
 rw [h]
 simp only [List.take_left',List.drop_left']
 rw [← hz]
theorem lexes_one {s:List UInt8} {z:Tz} (hb:∀ c q,s=c::q→blankB c=false) (hne:s ≠ []) (h:∀ rest,Sep rest→lexR (s++rest)=(z.1,s.length,z.2.2.1,z.2.2.2)) (hz:z.2.1=s) (h0:z.1 ≠ 0) (h5:z.1 ≠ 5):Lexes s [z]:=fun rest k hr=>zlex_one hb hne (h rest hr) hz h0 h5 k
theorem sep_tw {p:UInt8→Bool} (hp:p 32=false∧p 41=false∧p 44=false∧p 46=false∧p 40=false) {q rest:List UInt8} (hq:∀ c∈q,p c=true) (hs:Sep rest):(q++rest).takeWhile p=q:=by
 rw [List.takeWhile_append_of_pos hq]
 rcases hs with rfl | ⟨c,r,rfl,h⟩
 ·simp
 ·have:p c=false:=by rcases h with rfl | rfl | rfl | rfl | rfl <;> simp [hp]
  rw [List.takeWhile_cons,this]
  simp
/-- A word. -/
theorem lexes_word {c:UInt8} {q:List UInt8} (hc:lowr c=true) (hq:∀ x∈q,nameB x=true) (hl:q.length≤15):Lexes (c::q) [wd (c::q)]:=by
 refine lexes_one (fun a b e=>?_) (by simp) (fun rest hr=>?_) rfl (show (1:Int) ≠ 0 by decide) (show (1:Int) ≠ 5 by decide)
 ·cases e
  unfold blankB
  unfold lowr at hc
  simp only [Bool.and_eq_true,decide_eq_true_eq] at hc
  have:¬ c=32∧¬ c=10:=⟨fun e=>by subst e; revert hc; decide,fun e=>by subst e; revert hc; decide⟩
  simp [this]
 ·have ht:=sep_tw (p:=nameB) (by decide) hq hr
  rw [List.cons_append]
  unfold lexR
  simp only
  rw [if_pos hc,ht,if_pos (by omega)]
  simp only [wd,Prod.mk.injEq,List.length_cons,true_and]
  refine ⟨by omega,?_,trivial⟩
  rw [show 1+q.length=(c::q).length from by simp; omega,← List.cons_append,List.take_left']
  rfl
theorem lexes_name {t:List UInt8} (ht:nameOk rsv t=true):Lexes t [wd t]:=by
 unfold nameOk at ht
 simp only [Bool.and_eq_true,decide_eq_true_eq] at ht
 obtain ⟨h1,h2,h3,_⟩:=ht
 cases t with
 | nil=>cases h2
 | cons c q =>
   simp only [headLow] at h2
   simp only [List.all_cons,Bool.and_eq_true,List.all_eq_true] at h3
   exact lexes_word h2 h3.2 (by simp at h1; omega)
end Go.Proofs.Tryz
/- Blanks around a text: the same tokens, moved; the same is read, the place of an error moves. No program in sight. -/
namespace Go.Proofs.Tryz
open Go.Ab
set_option maxRecDepth 100000
set_option maxHeartbeats 4000000
def Blk0 (b:List UInt8):Prop:=∀ x∈b,x=32∨x=10
theorem tw_app {p:UInt8→Bool} {b:List UInt8} (hb:∀ x∈b,p x=false):∀ q:List UInt8,(q++b).takeWhile p=q.takeWhile p
 | []=>by
   cases b with
   | nil=>rfl
   | cons x b=>rw [List.nil_append,List.takeWhile_cons,hb x List.mem_cons_self]; rfl
 | c::q=>by
   rw [List.cons_append,List.takeWhile_cons,List.takeWhile_cons,tw_app hb q]
theorem tw_le (p:UInt8→Bool) (q:List UInt8):(q.takeWhile p).length≤q.length:=(List.takeWhile_sublist (l:=q) p).length_le
theorem lex_blank {c:UInt8} {q b:List UInt8} (hb:Blk0 b):lexR (c::q++b)=lexR (c::q):=by
 have n1:∀ x∈b,nameB x=false:=fun x hx=>by rcases hb x hx with rfl | rfl <;> decide
 have n2:∀ x∈b,isDig x=false:=fun x hx=>by rcases hb x hx with rfl | rfl <;> decide
 have n3:b.findIdx? (·==39)=none:=by
  rw [List.findIdx?_eq_none_iff]
  intro x hx
  rcases hb x hx with rfl | rfl <;> decide
 have tk:∀ k,k≤q.length+1→(c::(q++b)).take k=(c::q).take k:=fun k hk=>by
  rw [← List.cons_append,List.take_append_of_le_length (by simpa using hk)]
 rw [List.cons_append]
 unfold lexR
 simp only
 by_cases h1:lowr c=true
 ·rw [if_pos h1,if_pos h1,tw_app n1,tk _ (by have:=tw_le nameB q; omega)]
 rw [if_neg h1,if_neg h1]
 by_cases h2:isDig c=true
 ·rw [if_pos h2,if_pos h2,tw_app n2,tk _ (by have:=tw_le isDig q; omega)]
 rw [if_neg h2,if_neg h2]
 by_cases h3:c=39
 ·rw [if_pos h3,if_pos h3,List.findIdx?_append,n3]
  cases hi:q.findIdx? (·==39) with
  | none=>rfl
  | some i =>
    have hl:=(List.findIdx?_eq_some_iff_getElem.1 hi).1
    simp only [Option.map_none,Option.or_none]
    rw [tk _ (by omega)]
 rw [if_neg h3,if_neg h3]
 have h4:(q++b ≠ []∧twoW.contains ((c::(q++b)).take 2)=true)↔(q ≠ []∧twoW.contains ((c::q).take 2)=true):=by
  cases q with
  | cons d q=>simp
  | nil =>
    constructor
    ·rintro ⟨_,h⟩
     cases b with
     | nil=>exact absurd rfl (by assumption)
     | cons d b =>
       exfalso
       rw [show ([]++d::b)=d::b from rfl,show (c::d::b).take 2=[c,d] from rfl,List.contains_iff_mem] at h
       simp only [twoW,List.mem_cons,List.cons.injEq,and_true,List.not_mem_nil,or_false] at h
       rcases hb d List.mem_cons_self with rfl | rfl <;> (revert h; simp)
    ·rintro ⟨h,_⟩
     exact absurd rfl h
 by_cases h5:q ≠ []∧twoW.contains ((c::q).take 2)=true
 ·rw [if_pos h5,if_pos (h4.2 h5),tk 2 (by
   have:=List.length_pos_iff.2 h5.1
   omega)]
 ·rw [if_neg h5,if_neg (fun h=>h5 (h4.1 h))]
section
variable (b s:List UInt8)
/-- Where a place moves to. -/
def gB (p:Nat):Nat:=if p=s.length then 2*b.length+s.length else p+b.length
def fB (t:Tk):Tk:={ t with fr:=gB b s t.fr,to:=if t.kd=5 then 2*b.length+s.length else t.to+b.length }
theorem fB_ok (t:Tk):(fB b s t).kd=t.kd∧(fB b s t).rw=t.rw∧(fB b s t).tx=t.tx∧(fB b s t).n=t.n∧(fB b s t).fr=gB b s t.fr:=⟨rfl,rfl,rfl,rfl,rfl⟩
variable {b s}
theorem tw_all {p:UInt8→Bool}:∀ {q:List UInt8} (r:List UInt8),(∀ x∈q,p x=true)→(q++r).takeWhile p=q++r.takeWhile p
 | [],r,_=>rfl
 | c::q,r,h=>by
   rw [List.cons_append,List.takeWhile_cons,h c List.mem_cons_self,if_pos rfl,tw_all r fun x hx=>h x (List.mem_cons_of_mem _ hx)]
   rfl
theorem dw_nil {p:UInt8→Bool}:∀ {l:List UInt8},l.dropWhile p=[]→∀ x∈l,p x=true
 | [],_,x,hx=>by cases hx
 | c::l,h,x,hx=>by
   rw [List.dropWhile_cons] at h
   split at h
   ·rename_i hc
    rcases List.mem_cons.1 hx with rfl | hx
    ·exact hc
    ·exact dw_nil h x hx
   ·cases h
theorem tw_mem {p:UInt8→Bool}:∀ {l:List UInt8},∀ x∈l.takeWhile p,p x=true
 | [],x,hx=>by cases hx
 | c::l,x,hx=>by
   rw [List.takeWhile_cons] at hx
   split at hx
   ·rename_i hc
    rcases List.mem_cons.1 hx with rfl | hx
    ·exact hc
    ·exact tw_mem x hx
   ·cases hx
theorem blk_b (hb:Blk0 b):∀ x∈b,blankB x=true:=fun x hx=>by rcases hb x hx with rfl | rfl <;> decide
theorem lex_kd {c:UInt8} {q:List UInt8}:(lexR (c::q)).1 ≠ 5:=by
 unfold lexR
 simp only
 repeat' split
 all_goals simp
theorem scan_move (hb:Blk0 b) {a:Nat} (ha:a≤s.length):scanT (b++(s++b)) (b.length+a)=fB b s (scanT s a):=by
 have e1:(b++(s++b)).drop (b.length+a)=s.drop a++b:=by
  rw [← List.drop_drop,List.drop_left,List.drop_append_of_le_length ha]
 have hk:=skip_le ha
 by_cases hs:(s.drop a).dropWhile blankB=[]
 ·have hall:∀ x∈s.drop a,blankB x=true:=dw_nil hs
  have h1:skipB s a=s.length:=by
   unfold skipB
   have:=tw_all (p:=blankB) (q:=s.drop a) [] hall
   simp only [List.append_nil,List.takeWhile_nil] at this
   rw [this,List.length_drop]
   omega
  have h2:skipB (b++(s++b)) (b.length+a)=2*b.length+s.length:=by
   unfold skipB
   have h3:=tw_all (p:=blankB) (q:=b) [] (blk_b hb)
   simp only [List.append_nil,List.takeWhile_nil] at h3
   rw [e1,tw_all b hall,h3,List.length_append,List.length_drop]
   omega
  have h3:(b++(s++b)).drop (2*b.length+s.length)=[]:=List.drop_eq_nil_of_le (by simp; omega)
  unfold scanT fB
  rw [h1,h2,h3,List.drop_length]
  simp [lexR,gB]
 ·obtain ⟨c,q,hcq⟩:=List.exists_cons_of_ne_nil hs
  have hsp:s.drop a=(s.drop a).takeWhile blankB++(c::q):=by rw [← hcq,List.takeWhile_append_dropWhile]
  have hc:blankB c=false:=by
   have:=List.head?_dropWhile_not (p:=blankB) (l:=s.drop a)
   rw [hcq] at this
   simpa using this
  have hd:s.drop (skipB s a)=c::q:=by
   unfold skipB
   rw [← List.drop_drop,drop_tw,hcq]
  have h2:skipB (b++(s++b)) (b.length+a)=skipB s a+b.length:=by
   unfold skipB
   rw [e1]
   have:(s.drop a++b).takeWhile blankB=(s.drop a).takeWhile blankB:=by
    have hq:∀ x∈(s.drop a).takeWhile blankB,blankB x=true:=fun x hx=>tw_mem x hx
    generalize hT:(s.drop a).takeWhile blankB=T at hsp hq ⊢
    rw [hsp,List.append_assoc,tw_all _ hq,List.cons_append,List.takeWhile_cons,hc]
    simp
   rw [this]
   omega
  have h3:(b++(s++b)).drop (skipB s a+b.length)=c::q++b:=by
   rw [show skipB s a+b.length=b.length+skipB s a from by omega,← List.drop_drop,List.drop_left,List.drop_append_of_le_length hk.2,hd]
  have hlt:skipB s a<s.length:=by
   have:=congrArg List.length hd
   rw [List.length_drop,List.length_cons] at this
   omega
  unfold scanT fB
  rw [h2,h3,hd,lex_blank hb]
  have hl:=(lex_len (c::q)).1
  simp only [Tk.mk.injEq,true_and]
  refine ⟨?_,?_,?_⟩
  ·rw [List.take_append_of_le_length hl]
  ·unfold gB
   rw [if_neg (by omega)]
  ·rw [if_neg lex_kd]
   omega
theorem scan_to' {a:Nat} (ha:a≤s.length) (he:(scanT s a).ends=false):a<(scanT s a).to∧(scanT s a).to≤s.length∧(fB b s (scanT s a)).to=b.length+(scanT s a).to:=by
 obtain ⟨h1,h2,h3,h4⟩:=scan_to ha
 refine ⟨h4 he,h2,?_⟩
 unfold Tk.ends at he
 simp only [Bool.or_eq_false_iff,beq_eq_false_iff_ne] at he
 unfold fB
 simp only
 rw [if_neg he.2]
 omega
theorem tokF_move (hb:Blk0 b):∀ (k a:Nat),a≤s.length→tokF (b++(s++b)) k (b.length+a)=(tokF s k a).map (fB b s)
 | 0,a,ha=>rfl
 | k+1,a,ha=>by
   rw [tokF,tokF,scan_move hb ha,show (fB b s (scanT s a)).ends=(scanT s a).ends from rfl]
   split
   ·rfl
   ·rename_i he
    obtain ⟨h1,h2,h3⟩:=scan_to' (b:=b) ha (by simpa using he)
    rw [h3,tokF_move hb k _ h2]
    rfl
theorem tokF_fuel:∀ (k m a:Nat),a≤s.length→s.length+1≤k+a→s.length+1≤m+a→tokF s k a=tokF s m a
 | 0,m,a,ha,h,_=>by omega
 | k+1,0,a,ha,_,h=>by omega
 | k+1,m+1,a,ha,h1,h2=>by
   rw [tokF,tokF]
   split
   ·rfl
   ·rename_i he
    obtain ⟨g1,g2,_⟩:=scan_to' (b:=[]) ha (by simpa using he)
    rw [tokF_fuel k m _ g2 (by omega) (by omega)]
theorem toks_move (hb:Blk0 b):toks (b++(s++b))=(toks s).map (fB b s):=by
 unfold toks
 have h0:scanT (b++(s++b)) 0=scanT (b++(s++b)) (b.length+0):=by
  have:skipB (b++(s++b)) 0=skipB (b++(s++b)) (b.length+0):=by
   unfold skipB
   rw [List.drop_zero,Nat.add_zero,List.drop_left,tw_all _ (blk_b hb),List.length_append]
   omega
  unfold scanT
  rw [this]
 have h1:tokF (b++(s++b)) ((b++(s++b)).length+1) 0=tokF (b++(s++b)) ((b++(s++b)).length+1) (b.length+0):=by
  rw [tokF,tokF,h0]
 rw [h1,tokF_move hb _ 0 (Nat.zero_le _),tokF_fuel _ (s.length+1) 0 (Nat.zero_le _) (by simp; omega) (by omega)]
end
theorem chain_okE {s:List UInt8}:∀ {l:List Tk},Chain s l→okE l
 | [],h=>h.elim
 | [t],h=>⟨[],t,rfl,h⟩
 | t::u::r,h=>by
   obtain ⟨l,e,h1,h2⟩:=chain_okE h.2.2
   exact ⟨t::l,e,by rw [h1]; rfl,h2⟩
theorem toks_okE (s:List UInt8):okE (toks s):=chain_okE (toks_chain s)
/-- A whole text read by a rule: the place of the first error, or what was read. -/
def full {α:Type} (rule:List Tk→Res α) (s:List UInt8):Except Nat α:=match rule (toks s) with
 | .error p=>.error p
 | .ok (x,m)=>if (hdT m).kd=5 then .ok x else .error (posT m)
def movE {α:Type} (g:Nat→Nat):Except Nat α→Except Nat α
 | .error p=>.error (g p)
 | .ok x=>.ok x
theorem full_move {α:Type} {rule:List Tk→Res α} {b s:List UInt8} (hb:Blk0 b) (hr:∀ l,okE l→Sim (fB b s) (gB b s) (rule l) (rule (l.map (fB b s)))) :
  full rule (b++(s++b))=movE (gB b s) (full rule s):=by
 unfold full
 rw [toks_move hb]
 have e:=hr _ (toks_okE s)
 cases hq:rule (toks s) with
 | error p =>
   rw [hq] at e
   have e':rule ((toks s).map (fB b s))=.error (gB b s p):=e
   rw [e']
   rfl
 | ok y =>
   obtain ⟨x,m⟩:=y
   rw [hq] at e
   obtain ⟨e1,e2⟩:okE m∧rule ((toks s).map (fB b s))=.ok (x,m.map (fB b s)):=e
   rw [e2]
   have hk:(hdT (m.map (fB b s))).kd=(hdT m).kd:=by cases m <;> rfl
   simp only [hk]
   by_cases h5:(hdT m).kd=5
   ·rw [if_pos h5,if_pos h5]
    rfl
   ·rw [if_neg h5,if_neg h5,pos_map (fB_ok b s) e1]
    rfl
theorem full_stmt {b s:List UInt8} (hb:Blk0 b) (N n:Nat):full (stmtP N n) (b++(s++b))=movE (gB b s) (full (stmtP N n) s):=full_move hb (stmtP_sim (fB_ok b s) N n)
end Go.Proofs.Tryz
