import Derived.Test.YtgdkfmglkjfciaaGreatDoorLif
import Derived.Test.YtgdkfmglkjfciaaGreatDoorPShy
import Derived.Test.YtgdkfmglkjfciaaGreatDoorPExc0
import Derived.Test.YtgdkfmglkjfciaaGreatDoorTy
set_option linter.all false
namespace Go.Proofs.Tryz
open Go.Ab
set_option maxRecDepth 100000
set_option maxHeartbeats 8000000
section
variable {f:Tk→Tk} {g:Nat→Nat} (hf:∀ t,(f t).kd=t.kd∧(f t).rw=t.rw∧(f t).tx=t.tx∧(f t).n=t.n∧(f t).fr=g t.fr)
variable {tm tm':List Tk→Res Tm} {st st':List Tk→Res Sm}
variable (hT:∀ l,okE l→Sim f g (tm l) (tm' (l.map f))) (hS:∀ l,okE l→Sim f g (st l) (st' (l.map f)))
include hf
theorem opt_map (w:List UInt8) (l:List Tk):optW w (l.map f)=((optW w l).1,(optW w l).2.map f):=by
 unfold optW
 rw [isW_map hf]
 split
 ·rw [List.map_tail]
 ·rfl
omit hf in
theorem opt_ok {w:List UInt8} {l:List Tk} (h:okE l):okE (optW w l).2:=by
 unfold optW
 split
 ·rename_i hw; exact h.tl hw
 ·exact h
theorem sim_as {l:List Tk} (h:okE l):Sim f g (asS l) (asS (l.map f)):=by
 unfold asS
 rw [isW_map hf]
 split
 ·rename_i hw
  rw [← List.map_tail]
  exact sim_name hf (h.tl hw)
 ·exact .ok h
include hT in
theorem sim_item {l:List Tk} (h:okE l):Sim f g (itemS tm l) (itemS tm' (l.map f)) :=
 sim2 (hT l h) fun t m hm=>sim2 (sim_as hf hm) fun n m2 h2=>.ok h2
include hT in
theorem sim_items:∀ (k:Nat) (is:List It) (l:List Tk),okE l→Sim f g (itemsS tm k is l) (itemsS tm' k is (l.map f))
 | 0,is,l,h=>.ok h
 | k+1,is,l,h=>by
   rw [itemsS,itemsS,isW_map hf]
   split
   ·rename_i hw
    rw [← List.map_tail]
    exact sim2 (sim_item hf hT (h.tl hw)) fun i m hm=>sim_items k _ m hm
   ·exact .ok h
include hS in
theorem sim_source {l:List Tk} (h:okE l):Sim f g (sourceS st l) (sourceS st' (l.map f)):=by
 unfold sourceS
 rw [isW_map hf]
 split
 ·rename_i hw
  rw [← List.map_tail]
  exact sim2 (hS _ (h.tl hw)) fun x m hm=>sim1 hf _ hm fun m2 h2=>sim2 (sim_name hf h2) fun n m3 h3=>.ok h3
 ·exact sim2 (sim_name hf h) fun t m hm=>sim2 (sim_as hf hm) fun n m2 h2=>.ok h2
include hT hS in
theorem sim_join (k:Nat) {l:List Tk} (h:okE l):Sim f g (joinS tm st k l) (joinS tm' st' k (l.map f)):=by
 unfold joinS
 refine sim1 hf _ h fun m hm=>sim2 (sim_source hf hS hm) fun s m2 h2=>?_
 split
 ·exact .ok h2
 ·exact sim1 hf _ h2 fun m3 h3=>sim2 (hT m3 h3) fun t m4 h4=>.ok h4
include hT hS in
theorem sim_joins:∀ (k:Nat) (js:List Jo) (l:List Tk),okE l→Sim f g (joinsS tm st k js l) (joinsS tm' st' k js (l.map f))
 | 0,js,l,h=>.ok h
 | k+1,js,l,h=>by
   rw [joinsS,joinsS,one_map hf]
   cases ho:oneOf joiW l with
   | some i =>
     simp only
     rw [← List.map_tail]
     exact sim2 (sim_join hf hT hS _ (h.tl1 ho)) fun j m hm=>sim_joins k _ m hm
   | none =>
     simp only
     rw [isW_map hf]
     split
     ·exact sim2 (sim_join hf hT hS _ h) fun j m hm=>sim_joins k _ m hm
     ·exact .ok h
include hT in
theorem sim_one (w:List UInt8) {l:List Tk} (h:okE l):Sim f g (oneS tm w l) (oneS tm' w (l.map f)):=by
 unfold oneS
 rw [isW_map hf]
 split
 ·rename_i hw
  rw [← List.map_tail]
  exact sim2 (hT _ (h.tl hw)) fun t m hm=>.ok hm
 ·exact .ok h
include hT in
theorem sim_group {l:List Tk} (h:okE l):Sim f g (groupS tm l) (groupS tm' (l.map f)):=by
 unfold groupS
 rw [isW_map hf]
 split
 ·rename_i hw
  rw [← List.map_tail]
  exact sim1 hf _ (h.tl hw) fun m hm=>sim2 (hT m hm) fun t m2 h2=>by
   rw [List.length_map]
   exact sim_more hf hT _ _ m2 h2
 ·exact .ok h
include hT in
theorem sim_star {l:List Tk} (h:okE l):Sim f g (starS tm l) (starS tm' (l.map f)):=by
 unfold starS
 rw [isW_map hf]
 split
 ·rename_i hw
  rw [← List.map_tail]
  exact .ok (h.tl hw)
 ·exact sim2 (sim_item hf hT h) fun i m hm=>by
   rw [List.length_map]
   exact sim_items hf hT _ _ m hm
include hT hS in
theorem sim_sel {l:List Tk} (h:okE l):Sim f g (selS tm st l) (selS tm' st' (l.map f)):=by
 unfold selS
 refine sim1 hf _ h fun m hm=>?_
 rw [opt_map hf]
 simp only
 rw [isW_map hf]
 exact sim2 (sim_star hf hT (opt_ok hm)) fun is m2 h2=>sim1 hf _ h2 fun m3 h3=>sim2 (sim_source hf hS h3) fun s m4 h4=>by
  rw [List.length_map]
  exact sim2 (sim_joins hf hT hS _ _ m4 h4) fun js m5 h5=>sim2 (sim_one hf hT _ h5) fun w m6 h6=>sim2 (sim_group hf hT h6) fun gr m7 h7=>sim2 (sim_one hf hT _ h7) fun hv m8 h8=>.ok h8
include hT hS in
theorem sim_core {l:List Tk} (h:okE l):Sim f g (coreS tm st l) (coreS tm' st' (l.map f)):=by
 unfold coreS
 rw [isW_map hf]
 split
 ·rename_i hw
  rw [← List.map_tail]
  exact sim2 (hS _ (h.tl hw)) fun x m hm=>sim1 hf _ hm fun m2 h2=>.ok h2
 ·exact sim_sel hf hT hS h
include hT hS in
theorem sim_stmt:∀ (k:Nat) (x:Sm) (l:List Tk),okE l→Sim f g (stmtS tm st k x l) (stmtS tm' st' k x (l.map f))
 | 0,x,l,h=>.ok h
 | k+1,x,l,h=>by
   rw [stmtS,stmtS,one_map hf]
   cases ho:oneOf setW l with
   | none=>exact .ok h
   | some i =>
     simp only
     rw [← List.map_tail,opt_map hf]
     exact sim2 (sim_core hf hT hS (opt_ok (h.tl1 ho))) fun y m hm=>sim_stmt k _ m hm
end
section
variable {f:Tk→Tk} {g:Nat→Nat} (hf:∀ t,(f t).kd=t.kd∧(f t).rw=t.rw∧(f t).tx=t.tx∧(f t).n=t.n∧(f t).fr=g t.fr)
include hf
theorem stmtP_sim (N:Nat):∀ (n:Nat) (l:List Tk),okE l→Sim f g (stmtP N n l) (stmtP N n (l.map f))
 | 0,l,h=>by
   rw [stmtP,stmtP,pos_map hf h]
   exact rfl
 | n+1,l,h=>by
   rw [stmtP,stmtP]
   exact sim2 (sim_core hf (par_sim hf N 0) (stmtP_sim N n) h) fun x m hm=>by
    rw [List.length_map]
    exact sim_stmt hf (par_sim hf N 0) (stmtP_sim N n) _ _ m hm
end
def numZ (z:Tz):Bool:=z.1==2&&z.2.1 != [48]
theorem isNum_er {l:List Tk} {z:Tz} {w:List Tz} (h:er l=z::w) (rest:List Tk):isNum (l++rest)=numZ z:=by
 obtain ⟨t,l2,rfl,ht,_⟩:=er_cons h
 unfold Tk.er at ht
 subst ht
 rfl
theorem num_first {a:Tm} {ra:Nat} {wa:List Tz} (h:WT a ra wa) (hr:6≤ra) (hp:posN a=false):∀ z w',wa=z::w'→numZ z=false:=by
 intro z w' e
 cases h with
 | chn h _ _ _=>omega
 | cmp=>omega
 | no=>omega
 | isNull=>omega
 | isTrue=>omega
 | isIn=>omega
 | int h0 hw =>
   rename_i n w
   simp only [posN,beq_self_eq_true,Bool.true_and,decide_eq_false_iff_not] at hp
   have:n=0:=by omega
   simp only [List.cons.injEq] at e
   obtain ⟨rfl,_⟩:=e
   rw [hw this]
   rfl
 | agg hn ha =>
   unfold aggN at e
   split at e
   ·simp only [List.cons_append,List.cons.injEq] at e; obtain ⟨rfl,_⟩:=e; rfl
   ·split at e
    ·simp only [List.cons_append,List.cons.injEq] at e; obtain ⟨rfl,_⟩:=e; rfl
    ·split at e
     ·simp only [List.cons_append,List.cons.injEq] at e; obtain ⟨rfl,_⟩:=e; rfl
     ·split at e
      ·simp only [List.cons_append,List.cons.injEq] at e; obtain ⟨rfl,_⟩:=e; rfl
      ·simp only [List.cons_append,List.cons.injEq] at e; obtain ⟨rfl,_⟩:=e; rfl
 | negP=>simp only [List.cons.injEq] at e; obtain ⟨rfl,_⟩:=e; rfl
 | neg=>simp only [List.cons.injEq] at e; obtain ⟨rfl,_⟩:=e; rfl
 | len=>simp only [List.cons.injEq] at e; obtain ⟨rfl,_⟩:=e; rfl
 | coal=>simp only [List.cons.injEq] at e; obtain ⟨rfl,_⟩:=e; rfl
 | case=>simp only [List.cons.injEq] at e; obtain ⟨rfl,_⟩:=e; rfl
 | rows=>simp only [List.cons.injEq] at e; obtain ⟨rfl,_⟩:=e; rfl
 | null=>simp only [List.cons.injEq] at e; obtain ⟨rfl,_⟩:=e; rfl
 | intN=>simp only [List.cons.injEq] at e; obtain ⟨rfl,_⟩:=e; rfl
 | tru=>simp only [List.cons.injEq] at e; obtain ⟨rfl,_⟩:=e; rfl
 | fls=>simp only [List.cons.injEq] at e; obtain ⟨rfl,_⟩:=e; rfl
 | text=>simp only [List.cons.injEq] at e; obtain ⟨rfl,_⟩:=e; rfl
 | name=>simp only [List.cons.injEq] at e; obtain ⟨rfl,_⟩:=e; rfl
 | qual=>simp only [List.cons.injEq] at e; obtain ⟨rfl,_⟩:=e; rfl
theorem hd_minus {w:List Tz}:HdOk 6 (sg wMinus::w):=⟨_,_,rfl,by decide⟩
section
variable {a:Tm} {ra:Nat} {wa:List Tz}
theorem neg_of {w:List Tz} (hr:∀ l rest,er l=w→Stp 6 rest→Reads 6 (l++rest) a rest) (hn:∀ z w',w=z::w'→numZ z=false) (hne:w ≠ []):Back (mkT 11 [a]) 6 (sg wMinus::w):=by
 refine ⟨by omega,hd_minus,back_of (by omega) hd_minus fun l rest hl hs=>?_,fun h=>by omega⟩
 obtain ⟨tk,l1,rfl,h1,h2⟩:=er_cons hl
 obtain ⟨n0,h⟩:=hr l1 rest h2 hs
 obtain ⟨z,w',e⟩:=List.exists_cons_of_ne_nil hne
 have hnum:=isNum_er (h2.trans e) rest
 rw [hn z w' e] at hnum
 refine reads_succ n0 fun m hm=>?_
 rw [List.cons_append,parP,if_pos (posW wMinus (.inr h1) _ (by decide)),List.tail_cons,hnum,if_neg (by decide),h m hm]
 rfl
theorem back_negP (ha:Back a ra wa):Back (mkT 11 [a]) 6 (sg wMinus::sg wOpen::(wa++[sg wShut])):=by
 refine neg_of (fun l rest hl hs=>?_) (fun z w' e=>by simp only [List.cons.injEq] at e; obtain ⟨rfl,_⟩:=e; rfl) (by simp)
 obtain ⟨_,_,_,h4⟩:=(hd_par (r:=7) (wa:=wa++[sg wShut])).isW hl rest
 exact reads_down 1 7 6 (by omega) (by omega) (reads_par ha hl rest) hs (fun h=>by omega) (fun _ _=>h4 (by omega))
theorem back_neg (ha:Back a ra wa) (hn:6≤ra→∀ z w',wa=z::w'→numZ z=false):Back (mkT 11 [a]) 6 (sg wMinus::plc 6 ra wa):=by
 obtain ⟨hd,hr⟩:=plc_back ha (want:=6) (by omega)
 refine neg_of hr (fun z w' e=>?_) (fun e=>by obtain ⟨z,w',e',_⟩:=hd; rw [e] at e'; cases e')
 unfold plc at e
 split at e
 ·simp only [List.cons.injEq] at e; obtain ⟨rfl,_⟩:=e; rfl
 ·exact hn (by omega) z w' e
theorem back7 {t:Tm} {w:List Tz} (hd:HdOk 7 w) (h:∀ l rest,er l=w→Stp 7 rest→Reads 7 (l++rest) t rest):Back t 7 w:=⟨by omega,hd,back_of (by omega) hd h,fun h=>by omega⟩
theorem list0 {p:List Tk→Res Tm} {t2 t3:Tk} {L rest:List Tk} (h2:t2.er=sg wOpen) (h3:t3.er=sg wShut) (hp:p L=.ok (a,t3::rest)):listS p 0 (t2::L)=.ok ([a],rest):=by
 unfold listS
 rw [exp_one (posW wOpen (.inr h2) _ (by decide))]
 show bind2 (p L) _=_
 rw [hp]
 show bind1 (expS [wShut] (t3::rest)) _=_
 rw [exp_one (posW wShut (.inr h3) _ (by decide))]
 rfl
theorem list1 {b:Tm} {p:List Tk→Res Tm} {t2 t3 t4:Tk} {L L2 rest:List Tk} (h2:t2.er=sg wOpen) (h3:t3.er=sg wComma) (h4:t4.er=sg wShut) (hp:p L=.ok (a,t3::L2)) (hq:p L2=.ok (b,t4::rest)):listS p 1 (t2::L)=.ok ([a,b],rest):=by
 unfold listS
 rw [exp_one (posW wOpen (.inr h2) _ (by decide))]
 show bind2 (p L) _=_
 rw [hp]
 show bind2 (restS p 1 [a] (t3::L2)) _=_
 have e:restS p 1 [a] (t3::L2)=.ok ([a,b],t4::rest):=by
  rw [restS,exp_one (posW wComma (.inr h3) _ (by decide))]
  show bind2 (p L2) _=_
  rw [hq]
  rfl
 rw [e]
 show bind1 (expS [wShut] (t4::rest)) _=_
 rw [exp_one (posW wShut (.inr h4) _ (by decide))]
 rfl
theorem back_len (ha:Back a ra wa):Back (mkT 13 [a]) 7 (wd wLength::sg wOpen::(wa++[sg wShut])):=by
 refine back7 (hd_wd _ (by decide) (by decide) (by decide) (by decide)) fun l rest hl hs=>?_
 obtain ⟨t1,l1,rfl,h1,hl⟩:=er_cons hl
 obtain ⟨t2,l2,rfl,h2,hl⟩:=er_cons hl
 obtain ⟨l3,l4,rfl,h3,hl⟩:=er_app hl
 obtain ⟨t4,l5,rfl,h4,hl⟩:=er_cons hl
 obtain rfl:=er_nil hl
 obtain ⟨n0,hr⟩:=ha.rd l3 (t4::rest) h3 0 (Nat.zero_le _) (stp_shut 0 h4 rest)
 obtain ⟨k2,k3⟩:=kd_wd (.inl h1)
 refine reads_succ n0 fun m hm=>?_
 rw [show t1::t2::(l3++[t4])++rest=t1::t2::(l3++t4::rest) from by simp,parP,if_neg k2,if_neg k3]
 simp only [isW_er (.inl h1),list0 h2 h4 (hr m hm)]
 rfl
theorem back_coal {b:Tm} {rb:Nat} {wb:List Tz} (ha:Back a ra wa) (hb:Back b rb wb):Back (mkT 27 [a,b]) 7 (wd wCoalesce::sg wOpen::(wa++(sg wComma::(wb++[sg wShut])))):=by
 refine back7 (hd_wd _ (by decide) (by decide) (by decide) (by decide)) fun l rest hl hs=>?_
 obtain ⟨t1,l1,rfl,h1,hl⟩:=er_cons hl
 obtain ⟨t2,l2,rfl,h2,hl⟩:=er_cons hl
 obtain ⟨l3,l4,rfl,h3,hl⟩:=er_app hl
 obtain ⟨t4,l5,rfl,h4,hl⟩:=er_cons hl
 obtain ⟨l6,l7,rfl,h6,hl⟩:=er_app hl
 obtain ⟨t7,l8,rfl,h7,hl⟩:=er_cons hl
 obtain rfl:=er_nil hl
 obtain ⟨n0,hr⟩:=ha.rd l3 (t4::(l6++t7::rest)) h3 0 (Nat.zero_le _) (stp_sg 0 ban_punct.1 (.inr h4) _ (by omega))
 obtain ⟨n1,hr2⟩:=hb.rd l6 (t7::rest) h6 0 (Nat.zero_le _) (stp_shut 0 h7 rest)
 obtain ⟨k2,k3⟩:=kd_wd (.inl h1)
 refine reads_succ (max n0 n1) fun m hm=>?_
 rw [show t1::t2::(l3++t4::(l6++[t7]))++rest=t1::t2::(l3++t4::(l6++t7::rest)) from by simp,parP,if_neg k2,if_neg k3]
 simp only [isW_er (.inl h1),list1 h2 h4 h7 (hr m (by omega)) (hr2 m (by omega))]
 rfl
theorem back_case {b c:Tm} {rb rc:Nat} {wb wc:List Tz} (ha:Back a ra wa) (hb:Back b rb wb) (hc:Back c rc wc) :
  Back (mkT 26 [a,b,c]) 7 (wd wCase::wd wWhen::(wa++(wd wThen::(wb++(wd wElse::(wc++[wd wEnd])))))):=by
 refine back7 (hd_wd _ (by decide) (by decide) (by decide) (by decide)) fun l rest hl hs=>?_
 obtain ⟨t1,l1,rfl,h1,hl⟩:=er_cons hl
 obtain ⟨t2,l2,rfl,h2,hl⟩:=er_cons hl
 obtain ⟨l3,l4,rfl,h3,hl⟩:=er_app hl
 obtain ⟨t4,l5,rfl,h4,hl⟩:=er_cons hl
 obtain ⟨l6,l7,rfl,h6,hl⟩:=er_app hl
 obtain ⟨t7,l8,rfl,h7,hl⟩:=er_cons hl
 obtain ⟨l9,l10,rfl,h9,hl⟩:=er_app hl
 obtain ⟨t10,l11,rfl,h10,hl⟩:=er_cons hl
 obtain rfl:=er_nil hl
 obtain ⟨n0,hr⟩:=ha.rd l3 (t4::(l6++t7::(l9++t10::rest))) h3 0 (Nat.zero_le _) (stp_sg 0 ban_punct.2.2.1 (.inl h4) _ (by omega))
 obtain ⟨n1,hr2⟩:=hb.rd l6 (t7::(l9++t10::rest)) h6 0 (Nat.zero_le _) (stp_sg 0 ban_punct.2.2.2.1 (.inl h7) _ (by omega))
 obtain ⟨n2,hr3⟩:=hc.rd l9 (t10::rest) h9 0 (Nat.zero_le _) (stp_sg 0 ban_punct.2.2.2.2 (.inl h10) _ (by omega))
 obtain ⟨k2,k3⟩:=kd_wd (.inl h1)
 refine reads_succ (max n0 (max n1 n2)) fun m hm=>?_
 have e:caseS (parP m 0) [wWhen,wThen,wElse] [] (t2::(l3++t4::(l6++t7::(l9++t10::rest))))=.ok ([a,b,c],t10::rest):=by
  rw [caseS,exp_one (posW wWhen (.inl h2) _ (by decide))]
  show bind2 (parP m 0 (l3++t4::(l6++t7::(l9++t10::rest)))) _=_
  rw [hr m (by omega)]
  show caseS (parP m 0) [wThen,wElse] ([]++[a]) (t4::(l6++t7::(l9++t10::rest)))=_
  rw [caseS,exp_one (posW wThen (.inl h4) _ (by decide))]
  show bind2 (parP m 0 (l6++t7::(l9++t10::rest))) _=_
  rw [hr2 m (by omega)]
  show caseS (parP m 0) [wElse] ([]++[a]++[b]) (t7::(l9++t10::rest))=_
  rw [caseS,exp_one (posW wElse (.inl h7) _ (by decide))]
  show bind2 (parP m 0 (l9++t10::rest)) _=_
  rw [hr3 m (by omega)]
  rfl
 rw [show t1::t2::(l3++t4::(l6++t7::(l9++[t10])))++rest=t1::t2::(l3++t4::(l6++t7::(l9++t10::rest))) from by simp,parP,if_neg k2,if_neg k3]
 simp only [isW_er (.inl h1),e]
 show bind1 (expS [wEnd] (t10::rest)) _=_
 rw [exp_one (posW wEnd (.inl h10) _ (by decide))]
 rfl
theorem back_rows:Back (.mk 41 0 1 [] [] []) 7 [wd wCount,sg wOpen,sg wStar,sg wShut]:=by
 refine back7 (hd_wd _ (by decide) (by decide) (by decide) (by decide)) fun l rest hl hs=>?_
 obtain ⟨t1,l1,rfl,h1,hl⟩:=er_cons hl
 obtain ⟨t2,l2,rfl,h2,hl⟩:=er_cons hl
 obtain ⟨t3,l3,rfl,h3,hl⟩:=er_cons hl
 obtain ⟨t4,l4,rfl,h4,hl⟩:=er_cons hl
 obtain rfl:=er_nil hl
 obtain ⟨k2,k3⟩:=kd_wd (.inl h1)
 refine reads_succ 0 fun m _=>?_
 have ho:oneOf aggW (t1::t2::t3::t4::rest)=some 0:=(one_er (.inl h1) _).trans (by decide)
 have e:aggS (parP m 0) 0 (t2::t3::t4::rest)=.ok (.mk 41 0 1 [] [] [],rest):=by
  unfold aggS
  rw [exp_one (posW wOpen (.inr h2) _ (by decide))]
  show (if (0=0∧isW wStar (t3::t4::rest)=true) then bind1 (expS [wShut] (t4::rest)) _ else _)=_
  rw [if_pos ⟨rfl,posW wStar (.inr h3) _ (by decide)⟩,exp_one (posW wShut (.inr h4) _ (by decide))]
  rfl
 rw [show [t1,t2,t3,t4]++rest=t1::t2::t3::t4::rest from rfl,parP,if_neg k2,if_neg k3]
 simp only [isW_er (.inl h1),ho,e]
 rfl
theorem back_agg {n:Int} (hn:2≤n∧n≤6) (ha:Back a ra wa):Back (.mk 41 0 n [] [] [a]) 7 (aggN n++(wa++[sg wShut])):=by
 have plain:∀ (i:Nat) (x:List UInt8),(x=wCount∧i=0∨x=wSum∧i=1∨x=wMin∧i=2∨x=wMax∧i=3)→Back (.mk 41 0 (aggF i) [] [] [a]) 7 (wd x::sg wOpen::(wa++[sg wShut])):=by
  intro i x hx
  have hx2:(x != wStar)=true∧(x != wDistinct)=true∧(x != wNot)=true∧(x != wMinus)=true∧aggW.findIdx? (fun w=>x==w)=some i∧∀ w∈[wTrue,wFalse,wNull,wOpen,wLength,wCoalesce,wCase],(x==w)=false:=by
   rcases hx with ⟨rfl,rfl⟩ | ⟨rfl,rfl⟩ | ⟨rfl,rfl⟩ | ⟨rfl,rfl⟩ <;> decide
  obtain ⟨x1,x2,x3,x4,x5,x6⟩:=hx2
  refine back7 (hd_wd _ x1 x2 x3 x4) fun l rest hl hs=>?_
  obtain ⟨t1,l1,rfl,h1,hl⟩:=er_cons hl
  obtain ⟨t2,l2,rfl,h2,hl⟩:=er_cons hl
  obtain ⟨l3,l4,rfl,h3,hl⟩:=er_app hl
  obtain ⟨t4,l5,rfl,h4,hl⟩:=er_cons hl
  obtain rfl:=er_nil hl
  obtain ⟨n0,hr⟩:=ha.rd l3 (t4::rest) h3 0 (Nat.zero_le _) (stp_shut 0 h4 rest)
  obtain ⟨q1,q2,_,_⟩:=ha.hd.isW h3 (t4::rest)
  obtain ⟨k2,k3⟩:=kd_wd (.inl h1)
  refine reads_succ n0 fun m hm=>?_
  have ho:oneOf aggW (t1::t2::(l3++t4::rest))=some i:=(one_er (.inl h1) _).trans x5
  have e:aggS (parP m 0) i (t2::(l3++t4::rest))=.ok (.mk 41 0 (aggF i) [] [] [a],rest):=by
   unfold aggS
   rw [exp_one (posW wOpen (.inr h2) _ (by decide))]
   show (if (i=0∧isW wStar (l3++t4::rest)=true) then _ else if (i=0∧isW wDistinct (l3++t4::rest)=true) then _ else bind2 (parP m 0 (l3++t4::rest)) _)=_
   rw [if_neg (fun h=>by rw [q1] at h; cases h.2),if_neg (fun h=>by rw [q2] at h; cases h.2),hr m hm]
   show bind1 (expS [wShut] (t4::rest)) _=_
   rw [exp_one (posW wShut (.inr h4) _ (by decide))]
   rfl
  have z:=fun w hw=>x6 w hw
  rw [show t1::t2::(l3++[t4])++rest=t1::t2::(l3++t4::rest) from by simp,parP,if_neg k2,if_neg k3]
  simp only [isW_er (.inl h1),z wTrue (by simp),z wFalse (by simp),z wNull (by simp),z wOpen (by simp),z wLength (by simp),z wCoalesce (by simp),z wCase (by simp),ho,e]
  rfl
 have:n=2∨n=3∨n=4∨n=5∨n=6:=by omega
 rcases this with rfl | rfl | rfl | rfl | rfl
 ·exact plain 0 wCount (.inl ⟨rfl,rfl⟩)
 ·-- count(distinct ..)
  rw [show aggN 3++(wa++[sg wShut])=wd wCount::sg wOpen::wd wDistinct::(wa++[sg wShut]) from rfl]
  refine back7 (hd_wd _ (by decide) (by decide) (by decide) (by decide)) fun l rest hl hs=>?_
  obtain ⟨t1,l1,rfl,h1,hl⟩:=er_cons hl
  obtain ⟨t2,l2,rfl,h2,hl⟩:=er_cons hl
  obtain ⟨t3,l2,rfl,h0,hl⟩:=er_cons hl
  obtain ⟨l3,l4,rfl,h3,hl⟩:=er_app hl
  obtain ⟨t4,l5,rfl,h4,hl⟩:=er_cons hl
  obtain rfl:=er_nil hl
  obtain ⟨n0,hr⟩:=ha.rd l3 (t4::rest) h3 0 (Nat.zero_le _) (stp_shut 0 h4 rest)
  obtain ⟨k2,k3⟩:=kd_wd (.inl h1)
  refine reads_succ n0 fun m hm=>?_
  have ho:oneOf aggW (t1::t2::t3::(l3++t4::rest))=some 0:=(one_er (.inl h1) _).trans (by decide)
  have e:aggS (parP m 0) 0 (t2::t3::(l3++t4::rest))=.ok (.mk 41 0 3 [] [] [a],rest):=by
   unfold aggS
   rw [exp_one (posW wOpen (.inr h2) _ (by decide))]
   show (if (0=0∧isW wStar (t3::(l3++t4::rest))=true) then _ else if (0=0∧isW wDistinct (t3::(l3++t4::rest))=true) then bind2 (parP m 0 (l3++t4::rest)) _ else _)=_
   rw [if_neg (fun h=>absurd h.2 (negW wStar (.inl h0) _ (by decide))),if_pos ⟨rfl,posW wDistinct (.inl h0) _ (by decide)⟩,hr m hm]
   show bind1 (expS [wShut] (t4::rest)) _=_
   rw [exp_one (posW wShut (.inr h4) _ (by decide))]
   rfl
  rw [show t1::t2::t3::(l3++[t4])++rest=t1::t2::t3::(l3++t4::rest) from by simp,parP,if_neg k2,if_neg k3]
  simp only [isW_er (.inl h1),ho,e]
  rfl
 ·exact plain 1 wSum (.inr (.inl ⟨rfl,rfl⟩))
 ·exact plain 2 wMin (.inr (.inr (.inl ⟨rfl,rfl⟩)))
 ·exact plain 3 wMax (.inr (.inr (.inr ⟨rfl,rfl⟩)))
theorem back_null {y:Int} (hy:1≤y∧y≤3):Back (.mk 1 y 0 [] [] []) 7 [wd wNull,wd (typW y)]:=by
 refine back7 (hd_wd _ (by decide) (by decide) (by decide) (by decide)) fun l rest hl hs=>?_
 obtain ⟨t1,l1,rfl,h1,hl⟩:=er_cons hl
 obtain ⟨t2,l2,rfl,h2,hl⟩:=er_cons hl
 obtain rfl:=er_nil hl
 obtain ⟨k2,k3⟩:=kd_wd (.inl h1)
 refine reads_succ 0 fun m _=>?_
 obtain ⟨i,hi,ho⟩:∃ i:Nat,(1+i:Int)=y∧[wInt,wBool,wText].findIdx? (fun w=>typW y==w)=some i:=by
  have:y=1∨y=2∨y=3:=by omega
  rcases this with rfl | rfl | rfl
  ·exact ⟨0,by decide,by decide⟩
  ·exact ⟨1,by decide,by decide⟩
  ·exact ⟨2,by decide,by decide⟩
 have e:oneOf [wInt,wBool,wText] (t2::rest)=some i:=(one_er (.inl h2) _).trans ho
 rw [show [t1,t2]++rest=t1::t2::rest from rfl,parP,if_neg k2,if_neg k3]
 simp only [isW_er (.inl h1),e,List.tail_cons]
 rw [← hi]
 rfl
theorem back_tru:Back (.mk 3 0 1 [] [] []) 7 [wd wTrue]:=by
 refine back7 (hd_wd _ (by decide) (by decide) (by decide) (by decide)) fun l rest hl hs=>?_
 obtain ⟨t1,l1,rfl,h1,hl⟩:=er_cons hl
 obtain rfl:=er_nil hl
 obtain ⟨k2,k3⟩:=kd_wd (.inl h1)
 refine reads_succ 0 fun m _=>?_
 rw [show [t1]++rest=t1::rest from rfl,parP,if_neg k2,if_neg k3]
 simp only [isW_er (.inl h1)]
 rfl
theorem back_fls:Back (mkT 3 []) 7 [wd wFalse]:=by
 refine back7 (hd_wd _ (by decide) (by decide) (by decide) (by decide)) fun l rest hl hs=>?_
 obtain ⟨t1,l1,rfl,h1,hl⟩:=er_cons hl
 obtain rfl:=er_nil hl
 obtain ⟨k2,k3⟩:=kd_wd (.inl h1)
 refine reads_succ 0 fun m _=>?_
 rw [show [t1]++rest=t1::rest from rfl,parP,if_neg k2,if_neg k3]
 simp only [isW_er (.inl h1)]
 rfl
theorem back_int {n:Int} {w:List UInt8}:Back (.mk 2 0 n [] [] []) 7 [(2,w,w,n)]:=by
 refine back7 ⟨_,_,rfl,rfl⟩ fun l rest hl hs=>?_
 obtain ⟨t1,l1,rfl,h1,hl⟩:=er_cons hl
 obtain rfl:=er_nil hl
 unfold Tk.er at h1
 simp only [Prod.mk.injEq] at h1
 obtain ⟨e1,e2,e3,e4⟩:=h1
 refine reads_succ 0 fun m _=>?_
 rw [show [t1]++rest=t1::rest from rfl,parP,if_pos e1,e4]
theorem back_text {t w:List UInt8}:Back (.mk 4 0 0 t [] []) 7 [(3,w,t,0)]:=by
 refine back7 ⟨_,_,rfl,rfl⟩ fun l rest hl hs=>?_
 obtain ⟨t1,l1,rfl,h1,hl⟩:=er_cons hl
 obtain rfl:=er_nil hl
 unfold Tk.er at h1
 simp only [Prod.mk.injEq] at h1
 obtain ⟨e1,e2,e3,e4⟩:=h1
 refine reads_succ 0 fun m _=>?_
 rw [show [t1]++rest=t1::rest from rfl,parP,if_neg (by omega),if_pos e1,e3]
theorem back_intN {n:Int} {w:List UInt8} (h0:n<0) (h1:-1000000000000≤n) (hw:w ≠ [48]):Back (.mk 2 0 n [] [] []) 6 [sg wMinus,(2,w,w,-n)]:=by
 refine ⟨by omega,hd_minus,back_of (by omega) hd_minus fun l rest hl hs=>?_,fun h=>by omega⟩
 obtain ⟨tk,l1,rfl,h2,hl⟩:=er_cons hl
 have hnum:=isNum_er hl rest
 obtain ⟨t1,l2,rfl,h3,hl⟩:=er_cons hl
 obtain rfl:=er_nil hl
 unfold Tk.er at h3
 simp only [Prod.mk.injEq] at h3
 obtain ⟨e1,e2,e3,e4⟩:=h3
 have hn:numZ ((2:Int),w,w,-n)=true:=by unfold numZ; simpa using hw
 rw [hn] at hnum
 refine reads_succ 0 fun m _=>?_
 rw [show [tk,t1]++rest=tk::([t1]++rest) from rfl,parP,if_pos (posW wMinus (.inr h2) _ (by decide)),List.tail_cons,if_pos hnum]
 show Except.ok (Tm.mk 2 0 (IntKind.i64.wrap (-t1.n)) [] [] [],rest)=_
 rw [e4,Int.neg_neg,wrap_in (by omega) (by omega)]
theorem name_ne {t:List UInt8} (ht:nameOk rsv t=true):(t != wStar)=true∧(t != wDistinct)=true∧(t != wNot)=true∧(t != wMinus)=true:=by
 have h:∀ w,nameOk rsv w=false→(t != w)=true:=fun w hw=>by
  rw [bne_iff_ne]
  rintro rfl
  rw [ht] at hw; cases hw
 exact ⟨h _ (by decide),h _ (by decide),h _ (by decide),h _ (by decide)⟩
theorem name_read {t:List UInt8} (ht:nameOk rsv t=true) {tk:Tk} (h:tk.er=wd t) (L:List Tk) (m:Nat):parP (m+1) 7 (tk::L) =
  if isW wDot L=true then bind2 (nameS L.tail) fun b l2=>.ok (.mk 40 0 0 b t [],l2) else .ok (.mk 40 0 0 t [] [],L):=by
 obtain ⟨k2,k3⟩:=kd_wd (.inl h)
 have h':=h
 unfold Tk.er wd at h'
 simp only [Prod.mk.injEq] at h'
 obtain ⟨e1,e2,_⟩:=h'
 have q:∀ w,nameOk rsv w=false→isW w (tk::L)=false:=fun w hw=>not_name hw (by simp only [hdT]; rw [e2]; exact ht)
 have ha:oneOf aggW (tk::L)=none:=by
  unfold oneOf aggW
  simp [List.findIdx?_cons,q wCount (by decide),q wSum (by decide),q wMin (by decide),q wMax (by decide)]
 have hn:nameS (tk::L)=.ok (t,L):=by
  unfold nameS
  simp only
  rw [e2,if_pos ⟨e1,ht⟩]
 rw [parP,if_neg k2,if_neg k3]
 simp only [q wTrue (by decide),q wFalse (by decide),q wNull (by decide),q wOpen (by decide),q wLength (by decide),q wCoalesce (by decide),q wCase (by decide),ha,hn]
 rfl
theorem back_name {t:List UInt8} (ht:nameOk rsv t=true):Back (.mk 40 0 0 t [] []) 7 [wd t]:=by
 obtain ⟨n1,n2,n3,n4⟩:=name_ne ht
 refine back7 (hd_wd _ n1 n2 n3 n4) fun l rest hl hs=>?_
 obtain ⟨t1,l1,rfl,h1,hl⟩:=er_cons hl
 obtain rfl:=er_nil hl
 refine reads_succ 0 fun m _=>?_
 rw [show [t1]++rest=t1::rest from rfl,name_read ht h1,hs wDot (by decide)]
 rfl
theorem back_qual {t q:List UInt8} (ht:nameOk rsv t=true) (hq:nameOk rsv q=true):Back (.mk 40 0 0 t q []) 7 [wd q,sg wDot,wd t]:=by
 obtain ⟨n1,n2,n3,n4⟩:=name_ne hq
 refine back7 (hd_wd _ n1 n2 n3 n4) fun l rest hl hs=>?_
 obtain ⟨t1,l1,rfl,h1,hl⟩:=er_cons hl
 obtain ⟨t2,l2,rfl,h2,hl⟩:=er_cons hl
 obtain ⟨t3,l3,rfl,h3,hl⟩:=er_cons hl
 obtain rfl:=er_nil hl
 refine reads_succ 0 fun m _=>?_
 rw [show [t1,t2,t3]++rest=t1::t2::t3::rest from rfl,name_read hq h1,if_pos (posW wDot (.inr h2) _ (by decide)),List.tail_cons]
 unfold Tk.er wd at h3
 simp only [Prod.mk.injEq] at h3
 obtain ⟨e1,e2,_⟩:=h3
 have hn:nameS (t3::rest)=.ok (t,rest):=by
  unfold nameS
  simp only
  rw [e2,if_pos ⟨e1,ht⟩]
 rw [hn]
 rfl
end
mutual
theorem back:∀ {t:Tm} {r:Nat} {w:List Tz},WT t r w→Back t r w
 | _,_,_,.chn hr hi ha hb=>back_chn hr hi (back ha) (back hb)
 | _,_,_,.cmp hi ha hb=>back_cmp hi (back ha) (back hb)
 | _,_,_,.no ha=>back_no (back ha)
 | _,_,_,.isNull ha=>back_isNull (back ha)
 | _,_,_,.isTrue ha=>back_isTrue (back ha)
 | _,_,_,.isIn ha hk hn=>back_isIn (back ha) (backs hk) hn
 | _,_,_,.negP ha=>back_negP (back ha)
 | _,_,_,.neg ha hp=>back_neg (back ha) fun h=>num_first ha h hp
 | _,_,_,.len ha=>back_len (back ha)
 | _,_,_,.coal ha hb=>back_coal (back ha) (back hb)
 | _,_,_,.case ha hb hc=>back_case (back ha) (back hb) (back hc)
 | _,_,_,.rows=>back_rows
 | _,_,_,.agg hn ha=>back_agg hn (back ha)
 | _,_,_,.null hy=>back_null hy
 | _,_,_,.int _ _=>back_int
 | _,_,_,.intN h0 h1 hw=>back_intN h0 h1 hw
 | _,_,_,.tru=>back_tru
 | _,_,_,.fls=>back_fls
 | _,_,_,.text=>back_text
 | _,_,_,.name ht=>back_name ht
 | _,_,_,.qual ht hq=>back_qual ht hq
theorem backs:∀ {ks:List Tm} {ws:List (List Tz)},WTs ks ws→BackL ks ws
 | _,_,.nil=>trivial
 | _,_,.cons ha hk=>⟨⟨_,back ha⟩,backs hk⟩
end
theorem drop_tw (p:UInt8→Bool):∀ l:List UInt8,l.drop (l.takeWhile p).length=l.dropWhile p
 | []=>rfl
 | c::l=>by
   rw [List.takeWhile_cons,List.dropWhile_cons]
   split
   ·rw [List.length_cons,List.drop_succ_cons,drop_tw p l]
   ·rfl
def Blk0 (b:List UInt8):Prop:=∀ x∈b,x=32∨x=10
theorem tw_app {p:UInt8→Bool} {b:List UInt8} (hb:∀ x∈b,p x=false):∀ q:List UInt8,(q++b).takeWhile p=q.takeWhile p
 | []=>by
   cases b with
   | nil=>rfl
   | cons x b=>rw [List.nil_append,List.takeWhile_cons,hb x List.mem_cons_self]; rfl
 | c::q=>by
   rw [List.cons_append,List.takeWhile_cons,List.takeWhile_cons,tw_app hb q]
theorem tw_le (p:UInt8→Bool) (q:List UInt8):(q.takeWhile p).length≤q.length:=(List.takeWhile_sublist (l:=q) p).length_le
theorem lex_blank {c:UInt8} {q b:List UInt8} (hb:Blk0 b):lexR (c::q++b)=lexR (c::q):=by
 have n1:∀ x∈b,nameB x=false:=fun x hx=>by rcases hb x hx with rfl | rfl <;> decide
 have n2:∀ x∈b,isDig x=false:=fun x hx=>by rcases hb x hx with rfl | rfl <;> decide
 have n3:b.findIdx? (·==39)=none:=by
  rw [List.findIdx?_eq_none_iff]
  intro x hx
  rcases hb x hx with rfl | rfl <;> decide
 have tk:∀ k,k≤q.length+1→(c::(q++b)).take k=(c::q).take k:=fun k hk=>by
  rw [← List.cons_append,List.take_append_of_le_length (by simpa using hk)]
 rw [List.cons_append]
 unfold lexR
 simp only
 by_cases h1:lowr c=true
 ·rw [if_pos h1,if_pos h1,tw_app n1,tk _ (by have:=tw_le nameB q; omega)]
 rw [if_neg h1,if_neg h1]
 by_cases h2:isDig c=true
 ·rw [if_pos h2,if_pos h2,tw_app n2,tk _ (by have:=tw_le isDig q; omega)]
 rw [if_neg h2,if_neg h2]
 by_cases h3:c=39
 ·rw [if_pos h3,if_pos h3,List.findIdx?_append,n3]
  cases hi:q.findIdx? (·==39) with
  | none=>rfl
  | some i =>
    have hl:=(List.findIdx?_eq_some_iff_getElem.1 hi).1
    simp only [Option.map_none,Option.or_none]
    rw [tk _ (by omega)]
 rw [if_neg h3,if_neg h3]
 have h4:(q++b ≠ []∧twoW.contains ((c::(q++b)).take 2)=true)↔(q ≠ []∧twoW.contains ((c::q).take 2)=true):=by
  cases q with
  | cons d q=>simp
  | nil =>
    constructor
    ·rintro ⟨_,h⟩
     cases b with
     | nil=>exact absurd rfl (by assumption)
     | cons d b =>
       exfalso
       rw [show ([]++d::b)=d::b from rfl,show (c::d::b).take 2=[c,d] from rfl,List.contains_iff_mem] at h
       simp only [twoW,List.mem_cons,List.cons.injEq,and_true,List.not_mem_nil,or_false] at h
       rcases hb d List.mem_cons_self with rfl | rfl <;> (revert h; simp)
    ·rintro ⟨h,_⟩
     exact absurd rfl h
 by_cases h5:q ≠ []∧twoW.contains ((c::q).take 2)=true
 ·rw [if_pos h5,if_pos (h4.2 h5),tk 2 (by
   have:=List.length_pos_iff.2 h5.1
   omega)]
 ·rw [if_neg h5,if_neg (fun h=>h5 (h4.1 h))]
section
variable (b s:List UInt8)
def gB (p:Nat):Nat:=if p=s.length then 2*b.length+s.length else p+b.length
def fB (t:Tk):Tk:={ t with fr:=gB b s t.fr,to:=if t.kd=5 then 2*b.length+s.length else t.to+b.length }
theorem fB_ok (t:Tk):(fB b s t).kd=t.kd∧(fB b s t).rw=t.rw∧(fB b s t).tx=t.tx∧(fB b s t).n=t.n∧(fB b s t).fr=gB b s t.fr:=⟨rfl,rfl,rfl,rfl,rfl⟩
variable {b s}
theorem tw_all {p:UInt8→Bool}:∀ {q:List UInt8} (r:List UInt8),(∀ x∈q,p x=true)→(q++r).takeWhile p=q++r.takeWhile p
 | [],r,_=>rfl
 | c::q,r,h=>by
   rw [List.cons_append,List.takeWhile_cons,h c List.mem_cons_self,if_pos rfl,tw_all r fun x hx=>h x (List.mem_cons_of_mem _ hx)]
   rfl
theorem dw_nil {p:UInt8→Bool}:∀ {l:List UInt8},l.dropWhile p=[]→∀ x∈l,p x=true
 | [],_,x,hx=>by cases hx
 | c::l,h,x,hx=>by
   rw [List.dropWhile_cons] at h
   split at h
   ·rename_i hc
    rcases List.mem_cons.1 hx with rfl | hx
    ·exact hc
    ·exact dw_nil h x hx
   ·cases h
theorem tw_mem {p:UInt8→Bool}:∀ {l:List UInt8},∀ x∈l.takeWhile p,p x=true
 | [],x,hx=>by cases hx
 | c::l,x,hx=>by
   rw [List.takeWhile_cons] at hx
   split at hx
   ·rename_i hc
    rcases List.mem_cons.1 hx with rfl | hx
    ·exact hc
    ·exact tw_mem x hx
   ·cases hx
theorem blk_b (hb:Blk0 b):∀ x∈b,blankB x=true:=fun x hx=>by rcases hb x hx with rfl | rfl <;> decide
theorem lex_kd {c:UInt8} {q:List UInt8}:(lexR (c::q)).1 ≠ 5:=by
 unfold lexR
 simp only
 repeat' split
 all_goals simp
theorem scan_move (hb:Blk0 b) {a:Nat} (ha:a≤s.length):scanT (b++(s++b)) (b.length+a)=fB b s (scanT s a):=by
 have e1:(b++(s++b)).drop (b.length+a)=s.drop a++b:=by
  rw [← List.drop_drop,List.drop_left,List.drop_append_of_le_length ha]
 have hk:=skip_le ha
 by_cases hs:(s.drop a).dropWhile blankB=[]
 ·have hall:∀ x∈s.drop a,blankB x=true:=dw_nil hs
  have h1:skipB s a=s.length:=by
   unfold skipB
   have:=tw_all (p:=blankB) (q:=s.drop a) [] hall
   simp only [List.append_nil,List.takeWhile_nil] at this
   rw [this,List.length_drop]
   omega
  have h2:skipB (b++(s++b)) (b.length+a)=2*b.length+s.length:=by
   unfold skipB
   have h3:=tw_all (p:=blankB) (q:=b) [] (blk_b hb)
   simp only [List.append_nil,List.takeWhile_nil] at h3
   rw [e1,tw_all b hall,h3,List.length_append,List.length_drop]
   omega
  have h3:(b++(s++b)).drop (2*b.length+s.length)=[]:=List.drop_eq_nil_of_le (by simp; omega)
  unfold scanT fB
  rw [h1,h2,h3,List.drop_length]
  simp [lexR,gB]
 ·obtain ⟨c,q,hcq⟩:=List.exists_cons_of_ne_nil hs
  have hsp:s.drop a=(s.drop a).takeWhile blankB++(c::q):=by rw [← hcq,List.takeWhile_append_dropWhile]
  have hc:blankB c=false:=by
   have:=List.head?_dropWhile_not (p:=blankB) (l:=s.drop a)
   rw [hcq] at this
   simpa using this
  have hd:s.drop (skipB s a)=c::q:=by
   unfold skipB
   rw [← List.drop_drop,drop_tw,hcq]
  have h2:skipB (b++(s++b)) (b.length+a)=skipB s a+b.length:=by
   unfold skipB
   rw [e1]
   have:(s.drop a++b).takeWhile blankB=(s.drop a).takeWhile blankB:=by
    have hq:∀ x∈(s.drop a).takeWhile blankB,blankB x=true:=fun x hx=>tw_mem x hx
    generalize hT:(s.drop a).takeWhile blankB=T at hsp hq ⊢
    rw [hsp,List.append_assoc,tw_all _ hq,List.cons_append,List.takeWhile_cons,hc]
    simp
   rw [this]
   omega
  have h3:(b++(s++b)).drop (skipB s a+b.length)=c::q++b:=by
   rw [show skipB s a+b.length=b.length+skipB s a from by omega,← List.drop_drop,List.drop_left,List.drop_append_of_le_length hk.2,hd]
  have hlt:skipB s a<s.length:=by
   have:=congrArg List.length hd
   rw [List.length_drop,List.length_cons] at this
   omega
  unfold scanT fB
  rw [h2,h3,hd,lex_blank hb]
  have hl:=(lex_len (c::q)).1
  simp only [Tk.mk.injEq,true_and]
  refine ⟨?_,?_,?_⟩
  ·rw [List.take_append_of_le_length hl]
  ·unfold gB
   rw [if_neg (by omega)]
  ·rw [if_neg lex_kd]
   omega
theorem scan_to' {a:Nat} (ha:a≤s.length) (he:(scanT s a).ends=false):a<(scanT s a).to∧(scanT s a).to≤s.length∧(fB b s (scanT s a)).to=b.length+(scanT s a).to:=by
 obtain ⟨h1,h2,h3,h4⟩:=scan_to ha
 refine ⟨h4 he,h2,?_⟩
 unfold Tk.ends at he
 simp only [Bool.or_eq_false_iff,beq_eq_false_iff_ne] at he
 unfold fB
 simp only
 rw [if_neg he.2]
 omega
theorem tokF_move (hb:Blk0 b):∀ (k a:Nat),a≤s.length→tokF (b++(s++b)) k (b.length+a)=(tokF s k a).map (fB b s)
 | 0,a,ha=>rfl
 | k+1,a,ha=>by
   rw [tokF,tokF,scan_move hb ha,show (fB b s (scanT s a)).ends=(scanT s a).ends from rfl]
   split
   ·rfl
   ·rename_i he
    obtain ⟨h1,h2,h3⟩:=scan_to' (b:=b) ha (by simpa using he)
    rw [h3,tokF_move hb k _ h2]
    rfl
theorem tokF_fuel:∀ (k m a:Nat),a≤s.length→s.length+1≤k+a→s.length+1≤m+a→tokF s k a=tokF s m a
 | 0,m,a,ha,h,_=>by omega
 | k+1,0,a,ha,_,h=>by omega
 | k+1,m+1,a,ha,h1,h2=>by
   rw [tokF,tokF]
   split
   ·rfl
   ·rename_i he
    obtain ⟨g1,g2,_⟩:=scan_to' (b:=[]) ha (by simpa using he)
    rw [tokF_fuel k m _ g2 (by omega) (by omega)]
theorem toks_move (hb:Blk0 b):toks (b++(s++b))=(toks s).map (fB b s):=by
 unfold toks
 have h0:scanT (b++(s++b)) 0=scanT (b++(s++b)) (b.length+0):=by
  have:skipB (b++(s++b)) 0=skipB (b++(s++b)) (b.length+0):=by
   unfold skipB
   rw [List.drop_zero,Nat.add_zero,List.drop_left,tw_all _ (blk_b hb),List.length_append]
   omega
  unfold scanT
  rw [this]
 have h1:tokF (b++(s++b)) ((b++(s++b)).length+1) 0=tokF (b++(s++b)) ((b++(s++b)).length+1) (b.length+0):=by
  rw [tokF,tokF,h0]
 rw [h1,tokF_move hb _ 0 (Nat.zero_le _),tokF_fuel _ (s.length+1) 0 (Nat.zero_le _) (by simp; omega) (by omega)]
end
theorem chain_okE {s:List UInt8}:∀ {l:List Tk},Chain s l→okE l
 | [],h=>h.elim
 | [t],h=>⟨[],t,rfl,h⟩
 | t::u::r,h=>by
   obtain ⟨l,e,h1,h2⟩:=chain_okE h.2.2
   exact ⟨t::l,e,by rw [h1]; rfl,h2⟩
theorem toks_okE (s:List UInt8):okE (toks s):=chain_okE (toks_chain s)
def full {α:Type} (rule:List Tk→Res α) (s:List UInt8):Except Nat α:=match rule (toks s) with
 | .error p=>.error p
 | .ok (x,m)=>if (hdT m).kd=5 then .ok x else .error (posT m)
def movE {α:Type} (g:Nat→Nat):Except Nat α→Except Nat α
 | .error p=>.error (g p)
 | .ok x=>.ok x
theorem full_move {α:Type} {rule:List Tk→Res α} {b s:List UInt8} (hb:Blk0 b) (hr:∀ l,okE l→Sim (fB b s) (gB b s) (rule l) (rule (l.map (fB b s)))) :
  full rule (b++(s++b))=movE (gB b s) (full rule s):=by
 unfold full
 rw [toks_move hb]
 have e:=hr _ (toks_okE s)
 cases hq:rule (toks s) with
 | error p =>
   rw [hq] at e
   have e':rule ((toks s).map (fB b s))=.error (gB b s p):=e
   rw [e']
   rfl
 | ok y =>
   obtain ⟨x,m⟩:=y
   rw [hq] at e
   obtain ⟨e1,e2⟩:okE m∧rule ((toks s).map (fB b s))=.ok (x,m.map (fB b s)):=e
   rw [e2]
   have hk:(hdT (m.map (fB b s))).kd=(hdT m).kd:=by cases m <;> rfl
   simp only [hk]
   by_cases h5:(hdT m).kd=5
   ·rw [if_pos h5,if_pos h5]
    rfl
   ·rw [if_neg h5,if_neg h5,pos_map (fB_ok b s) e1]
    rfl
theorem full_stmt {b s:List UInt8} (hb:Blk0 b) (N n:Nat):full (stmtP N n) (b++(s++b))=movE (gB b s) (full (stmtP N n) s):=full_move hb (stmtP_sim (fB_ok b s) N n)
end Go.Proofs.Tryz
namespace Go.Proofs.Tryz
def fidx {α:Type} (p:α→Bool):List α→Nat→Int
 | [],_=>-1
 | x::l,i=>if p x=true then i else fidx p l (i+1)
theorem fidx_drop {α:Type} {p:α→Bool} {l:List α} {i k:Nat} (h:i<l.length):fidx p (l.drop i) k=if p l[i]=true then (k:Int) else fidx p (l.drop (i+1)) (k+1):=by
 rw [List.drop_eq_getElem_cons h,fidx]
end Go.Proofs.Tryz
