import Derived.Test.YtgdkfmglkjfciaaGreatDoorPRkp
import Derived.Test.YtgdkfmglkjfciaaGreatDoorPFdx
import Derived.Test.YtgdkfmglkjfciaaGreatDoorAbB
import Derived.Test.YtgdkfmglkjfciaaGreatDoorPExc0
import Derived.Test.YtgdkfmglkjfciaaGreatDoorPShb
set_option linter.all false
namespace Go.Proofs.Tryz
open Go.Ab
set_option maxRecDepth 100000
set_option maxHeartbeats 4000000
def oneI (ws:List (List UInt8)) (l:List Tk):Int:=fidx (fun w=>isW w l) ws 0
theorem fidx_find {α:Type} (p:α→Bool):∀ (l:List α) (k:Nat),fidx p l k=match l.findIdx? p with
  | some i=>((k+i:Nat):Int)
  | none=>-1
 | [],k=>rfl
 | x::l,k=>by
   rw [fidx,List.findIdx?_cons]
   split
   ·simp
   ·rw [fidx_find p l (k+1)]
    cases l.findIdx? p with
    | none=>rfl
    | some i=>simp only [Option.map_some]; congr 1; omega
theorem oneI_of (ws:List (List UInt8)) (l:List Tk):oneI ws l=match oneOf ws l with
  | some i=>(i:Int)
  | none=>-1:=by
 unfold oneI oneOf
 rw [fidx_find]
 cases List.findIdx? (fun w=>isW w l) ws with
 | none=>rfl
 | some i=>simp
theorem p_idx {T l:List Tk} (hs:l <:+ T) (hn:l ≠ []) (hT:T.length≤10000) (ws:List (List UInt8)) (hw:ws.length≤1000) :
  Cf En 43 [.d (.sl (ws.map fun w=>[.str w])),.bnd 29 [.ptr 1000000 0 0]] [rdB T l] (.d (.int .i64 (oneI ws l))) [rdB T (if 0≤oneI ws l then l.tail else l)]:=by
 unfold oneI
 refine cf_intro mix (fn:=Tryz.f43) (by kernel_rfl) rfl (by kernel_rfl) (by decide) (by simp [rdB]) ?_
 simp
 (repeat' (first|contradiction|exact .ok|apply And.intro|intro _|(refine gc (fun h=>?_) (fun h=>?_)<;>(have h':=h;(try simp at h');first|done|simp[h,h']|simp))))
 refine aloopT mix (by decide) (fun i:Nat=>{ s:=mkS [(0,.d (.sl (ws.map fun w=>[.str w]))),(1,.bnd 29 [.ptr 1000000 0 0]),(7,.d (.int .i64 ws.length)),(8,.d (.int .i64 i))],b:=mkB [(1000000,1000000,rdB T l)] }) (fun i=>i≤ws.length∧fidx (fun w=>isW w l) ws 0=fidx (fun w=>isW w l) (ws.drop i) i) (fun i=>ws.length - i) 0 ⟨by simp,by simp⟩
  (sub_mk _ [(1000000,1000000,_)] ⟨by simp,by simp,by simp [renOf,Blk.live,rdB],base1⟩ (by simp [renOf])) ?_
 rintro i ⟨hi,hfx⟩
 by_cases hlt:i<ws.length
 ·have hd:=fidx_drop (p:=fun w=>isW w l) (k:=i) hlt
  have h1:=p_take hs hn hT ws[i]
  have hwr:=wrap_in (n:=(i:Int)+1) (by omega) (by omega)
  obtain ⟨e,he⟩:∃ e,e=ws[i]:=⟨_,rfl⟩
  have hge:∀ h,ws[i]'h=e:=fun _=>he.symm
  rw [hge] at h1 hd
  rw [hd] at hfx
  cases hb:isW e l with
  | true =>
    rw [hb] at h1 hfx
    simp only [if_true] at h1 hfx
    rw [hfx,if_pos (by omega)]
    simp [hlt,hge]
    (repeat' (first|contradiction|exact .ok|apply And.intro|intro _|(refine gc (fun h=>?_) (fun h=>?_)<;>(have h':=h;(try simp at h');first|done|simp[h,h',hlt,hge]|simp[hlt,hge]))))
    refine acallT_hand [1000000] h1 (by simp [rdB]) (by simp) (by simp [rdB]) (by simp [rdB]) (by simp) ?_
    simp
    (repeat' (first|contradiction|exact .ok|apply And.intro|intro _|(refine gc (fun h=>?_) (fun h=>?_)<;>(have h':=h;(try simp at h');first|done|simp[h,h']|simp))))
    all_goals first | (rw [kept_b1]; simp [rdB]; done) | (simp [rdB]; done) | skip
  | false =>
    rw [hb] at h1 hfx
    simp only [Bool.false_eq_true,if_false] at h1 hfx
    simp [hlt,hge]
    (repeat' (first|contradiction|exact .ok|apply And.intro|intro _|(refine gc (fun h=>?_) (fun h=>?_)<;>(have h':=h;(try simp at h');first|done|simp[h,h',hlt,hge]|simp[hlt,hge]))))
    refine acallT_hand [1000000] h1 (by simp [rdB]) (by simp) (by simp [rdB]) (by simp [rdB]) (by simp) ?_
    simp
    (repeat' (first|contradiction|exact .ok|apply And.intro|intro _|(refine gc (fun h=>?_) (fun h=>?_)<;>(have h':=h;(try simp at h');first|done|simp[h,h']|simp))))
    refine ⟨i+1,⟨by omega,hfx⟩,?_,by simp; omega⟩
    exact sub_mk _ [(1000000,1000000,_)] ⟨by simp,by simp,by simp [renOf,Blk.live,rdB],base1⟩ (by simp [renOf,hwr])
 ·obtain rfl:i=ws.length:=by omega
  rw [List.drop_length,fidx] at hfx
  rw [hfx,if_neg (by omega)]
  simp
  (repeat' (first|contradiction|exact .ok|apply And.intro|intro _|(refine gc (fun h=>?_) (fun h=>?_)<;>(have h':=h;(try simp at h');first|done|simp[h,h']|simp))))
  all_goals first | (rw [kept_b1]; simp [rdB]; done) | (simp [rdB]; done) | skip
theorem p_one {T l:List Tk} (hs:l <:+ T) (hn:l ≠ []) (hT:T.length≤10000) (ws:List (List UInt8)) (hw:ws.length≤1000) :
  Cf En 28 [.ptr 1000000 0 0,.d (.sl (ws.map fun w=>[.str w]))] [rdB T l] (.d (.int .i64 (oneI ws l))) [rdB T (if 0≤oneI ws l then l.tail else l)]:=by
 have h:=p_idx hs hn hT ws hw
 generalize (if 0≤oneI ws l then l.tail else l)=m at *
 generalize oneI ws l=z at *
 unfold rdB at *
 generalize T.length - l.length=i at *
 generalize T.length - m.length=j at *
 refine cf_intro mix (fn:=Tryz.f28) (by kernel_rfl) rfl (by kernel_rfl) (by decide) (by simp) ?_
 simp
 (repeat' (first|contradiction|exact .ok|apply And.intro|intro _|(refine gc (fun h=>?_) (fun h=>?_)<;>(have h':=h;(try simp at h');first|done|simp[h,h']|simp))))
 refine acallT_hand [1000000] h (by simp) (by simp) (by simp) (by simp) (by simp) ?_
 simp
 all_goals exact gz
def rdD (T l:List Tk):D:=.int .i64 ((T.length - l.length:Nat):Int)
theorem rdB_eq (T l:List Tk):rdB T l=.var [.d (.sl (T.map tokC)),.d (rdD T l)]:=rfl
def outS (fD:Nat→D) (T:List Tk) (r:Res Tm):Out:=match r with
 | .error p=>.pan (fD p)
 | .ok (t,m)=>.ret t.a [rdB T m]
def outL (fD:Nat→D) (T:List Tk) (r:Res (List Tm)):Out:=match r with
 | .error p=>.pan (fD p)
 | .ok (ks,m)=>.ret (.d (.sl (ks.map Tm.c))) [rdB T m]
def outN (fD:Nat→D) (T:List Tk) (r:Res (List UInt8)):Out:=match r with
 | .error p=>.pan (fD p)
 | .ok (s,m)=>.ret (.d (.str s)) [rdB T m]
structure At (T l:List Tk):Prop where
 sfx:l <:+ T
 ok:okE l
theorem At.to {T l m:List Tk} (h:At T l) (hs:m <:+ l) (ho:okE m):At T m:=⟨hs.trans h.sfx,ho⟩
theorem At.tl {T l:List Tk} (h:At T l) {w:List UInt8} (hw:isW w l=true):At T l.tail:=h.to (tail_sfx l) (h.ok.tl hw)
theorem At.tl1 {T l:List Tk} (h:At T l) {ws:List (List UInt8)} {i:Nat} (ho:oneOf ws l=some i):At T l.tail:=h.to (tail_sfx l) (h.ok.tl1 ho)
theorem At.ne {T l:List Tk} (h:At T l):l ≠ []:=h.ok.ne
structure Rule (E:Env) (fD:Nat→D) (T:List Tk) (L:Nat) (f:FuncId) (p:List Tk→Res Tm):Prop where
 run:∀ l,At T l→l.length≤L→CfO E f [.ptr 1000000 0 0] [rdB T l] (outS fD T (p l))
 sfx:∀ l,SfxOk (p l) l
 ok:∀ l t m,okE l→p l=.ok (t,m)→okE m
section
variable {E:Env} {fD:Nat→D} {T:List Tk} {L:Nat} {f:FuncId} {p:List Tk→Res Tm}
theorem Rule.step (h:Rule E fD T L f p) {l:List Tk} (ha:At T l) (hl:l.length≤L) :
  (∃ e,p l=.error e∧CfX panE E f [.ptr 1000000 0 0] [rdB T l] (.d (fD e)) (deadB 1)) ∨
  (∃ t m,p l=.ok (t,m)∧At T m∧m.length≤l.length∧Cf E f [.ptr 1000000 0 0] [rdB T l] t.a [rdB T m]):=by
 have h1:=h.run l ha hl
 cases hp:p l with
 | error e=>rw [hp] at h1; exact .inl ⟨e,rfl,h1⟩
 | ok x =>
   obtain ⟨t,m⟩:=x
   rw [hp] at h1
   exact .inr ⟨t,m,rfl,ha.to (h.sfx l t m hp) (h.ok l t m ha.ok hp),(h.sfx l t m hp).length_le,h1⟩
end
theorem sim_id {α:Type} {r:Res α} {f:Tk→Tk} {g:Nat→Nat} {r':Res α} (h:Sim f g r r') {t:α} {m:List Tk} (hr:r=.ok (t,m)):okE m:=by
 subst hr
 exact h.1
theorem par_okE (n lvl:Nat) {l m:List Tk} {t:Tm} (h:okE l) (hp:parP n lvl l=.ok (t,m)):okE m :=
 sim_id (f:=id) (g:=id) (par_sim (f:=id) (g:=id) (fun _=>⟨rfl,rfl,rfl,rfl,rfl⟩) n lvl l h) hp
theorem exp_okE:∀ (ws:List (List UInt8)) {l m:List Tk},okE l→expS ws l=.ok m→okE m
 | [],l,m,h,he=>by cases he; exact h
 | w::ws,l,m,h,he=>by
   rw [expS] at he
   split at he
   ·rename_i hw; exact exp_okE ws (h.tl hw) he
   ·cases he
theorem CfX.more {en:Value→Ending} {E E':Env} (hP:E'.P=E.P) (hG:∀ g cs,E.G g=some cs→E'.G g=some cs) {f:FuncId} {xs:List AV} {B:List Blk} {y:AV} {B':List Blk} (h:CfX en E f xs B y B'):CfX en E' f xs B y B':=by
 refine ⟨by rw [hP]; exact h.1,fun w g vs hr m=>?_⟩
 rw [hP]
 have m0:Mem (ctxOf E w g B) (blkOf B) w g :=
  ⟨m.blks,m.con,fun k cs e=>m.glob k cs (hG k cs e),m.apart,m.own,m.size,m.frame,m.mext,m.mold,m.lkeep,m.os,m.tape,m.output,fun k cs e=>m.know k cs (hG k cs e)⟩
 refine (h.2 w g vs hr m0).mono ?_
 rintro e w' ⟨v,h',rfl,ry,m'⟩
 exact ⟨v,h',rfl,ry,⟨m'.blks,m'.con,fun k cs e=>RepCells_mono m'.mext cs k 0 (m.glob k cs e),m'.apart,m'.own,m'.size,m'.frame,m'.mext,m'.mold,m'.lkeep,m'.os,m'.tape,m'.output,m.know⟩⟩
theorem CfO.more {E E':Env} (hP:E'.P=E.P) (hG:∀ g cs,E.G g=some cs→E'.G g=some cs) {f:FuncId} {xs:List AV} {B:List Blk} {o:Out} (h:CfO E f xs B o):CfO E' f xs B o:=by
 cases o with
 | ret y B'=>exact Cf.more hP hG h
 | pan v=>exact CfX.more hP hG h
@[simp] theorem toDs_two (bl:Nat→Blk) (a b:List D):toDs bl (a.map AV.d++b.map AV.d)=some (a++b,[]):=by rw [← List.map_append,toDs_d]
@[simp] theorem take6 (t:Tm) (l:List D):List.take 6 (t.c++l)=t.c:=by rw [List.take_append_of_le_length (by rw [Tm.clen]; omega)]; exact List.take_of_length_le (by rw [Tm.clen]; omega)
@[simp] theorem drop6 (t:Tm) (l:List D):List.drop 6 (t.c++l)=l:=by rw [List.drop_append_of_le_length (by rw [Tm.clen]; omega),List.drop_of_length_le (by rw [Tm.clen]; omega)]; rfl
@[simp] theorem drop6m (t:Tm):List.drop 6 (t.c.map AV.d)=[]:=List.drop_of_length_le (by simp [Tm.clen])
attribute [simp] Tm.clen Tm.ctake Tm.ctake' rdB_eq Tm.a
theorem p_made (o:Int) (ks:List Tm):Cf En 92 [.d (.int .i64 o),.d (.sl (ks.map Tm.c))] [] (mkT o ks).a []:=by
 refine cf_intro mix (fn:=Tryz.f92) (by kernel_rfl) rfl (by kernel_rfl) (by decide) (by simp) ?_
 simp
 (repeat' (first|contradiction|exact .ok|apply And.intro|intro _|(refine gc (fun h=>?_) (fun h=>?_)<;>(have h':=h;(try simp at h');first|done|simp[h,h']|simp))))
 all_goals simp [mkT,Tm.a,Tm.c,tmsC_map]
section
variable {tm:List Tk→Res Tm} {st:List Tk→Res Sm}
def itC (tm:List Tk→Res Tm) (is:List It) (l:List Tk):Res (List It):=itemsS tm l.length is l
def moC (tm:List Tk→Res Tm) (ks:List Tm) (l:List Tk):Res (List Tm):=moreS tm l.length ks l
def joC (tm:List Tk→Res Tm) (st:List Tk→Res Sm) (js:List Jo) (l:List Tk):Res (List Jo):=joinsS tm st l.length js l
def stC (tm:List Tk→Res Tm) (st:List Tk→Res Sm) (x:Sm) (l:List Tk):Res Sm:=stmtS tm st l.length x l
variable (hT:∀ l,SfxOk (tm l) l) (hS:∀ l,SfxOk (st l) l)
include hT in
theorem items_fu:∀ (k m:Nat) (is:List It) (l:List Tk),l.length≤k→l.length≤m→itemsS tm k is l=itemsS tm m is l
 | 0,m,is,l,h,_=>by
   obtain rfl:l=[]:=List.length_eq_zero_iff.1 (by omega)
   cases m <;> rfl
 | k+1,0,is,l,_,h=>by
   obtain rfl:l=[]:=List.length_eq_zero_iff.1 (by omega)
   rfl
 | k+1,m+1,is,l,h,h'=>by
   rw [itemsS,itemsS]
   split
   ·rename_i hw
    have hlen:=isW_len hw
    exact bindE rfl (item_sfx hT l.tail) fun i l' hl=>items_fu k m _ l' (by omega) (by omega)
   ·rfl
include hT in
theorem itC_eq (is:List It) (l:List Tk):itC tm is l=if isW wComma l=true then bind2 (itemS tm l.tail) fun i l'=>itC tm (is++[i]) l' else .ok (is,l):=by
 unfold itC
 rw [items_fu hT l.length (l.length+1) is l (Nat.le_refl _) (by omega),itemsS]
 split
 ·rename_i hw
  have hlen:=isW_len hw
  exact bindE rfl (item_sfx hT l.tail) fun i l' hl=>items_fu hT _ _ _ l' (by omega) (Nat.le_refl _)
 ·rfl
include hT in
theorem more_fu:∀ (k m:Nat) (is:List Tm) (l:List Tk),l.length≤k→l.length≤m→moreS tm k is l=moreS tm m is l
 | 0,m,is,l,h,_=>by
   obtain rfl:l=[]:=List.length_eq_zero_iff.1 (by omega)
   cases m <;> rfl
 | k+1,0,is,l,_,h=>by
   obtain rfl:l=[]:=List.length_eq_zero_iff.1 (by omega)
   rfl
 | k+1,m+1,is,l,h,h'=>by
   rw [moreS,moreS]
   split
   ·rename_i hw
    have hlen:=isW_len hw
    exact bindE rfl (hT l.tail) fun i l' hl=>more_fu k m _ l' (by omega) (by omega)
   ·rfl
include hT in
theorem moC_eq (is:List Tm) (l:List Tk):moC tm is l=if isW wComma l=true then bind2 (tm l.tail) fun i l'=>moC tm (is++[i]) l' else .ok (is,l):=by
 unfold moC
 rw [more_fu hT l.length (l.length+1) is l (Nat.le_refl _) (by omega),moreS]
 split
 ·rename_i hw
  have hlen:=isW_len hw
  exact bindE rfl (hT l.tail) fun i l' hl=>more_fu hT _ _ _ l' (by omega) (Nat.le_refl _)
 ·rfl
theorem join_lt (hT:∀ l,SfxOk (tm l) l) (hS:∀ l,SfxOk (st l) l) {k:Nat} {l m:List Tk} {j:Jo} (h:joinS tm st k l=.ok (j,m)):m.length<l.length:=by
 unfold joinS at h
 cases hw:isW wJoin l with
 | false =>
   have e:expS [wJoin] l=.error (posT l):=by rw [expS,hw,if_neg (by simp)]
   rw [e] at h; cases h
 | true =>
   have hlen:=isW_len hw
   have e:expS [wJoin] l=.ok l.tail:=by rw [expS,hw,if_pos rfl]; rfl
   rw [e] at h
   have hs:SfxOk (bind1 (.ok l.tail) fun l1=>bind2 (sourceS st l1) fun s l2 =>
    if 6<k then .ok (Jo.mk 0 s.1 s.2.1 s.2.2 [],l2) else bind1 (expS [wOn] l2) fun l3=>bind2 (tm l3) fun t l4=>.ok (.mk (max k 1:Nat) s.1 s.2.1 s.2.2 [t],l4)) l.tail:=by
    refine sfx2 (source_sfx hS l.tail) fun s l2 _=>?_
    split
    ·exact .ok (List.suffix_refl _)
    ·exact sfx1 fun l3=>sfx2 (hT l3) fun t l4 _=>.ok (List.suffix_refl _)
   have:=(hs _ _ h).length_le
   omega
include hT hS in
theorem joins_fu:∀ (k m:Nat) (js:List Jo) (l:List Tk),l.length≤k→l.length≤m→joinsS tm st k js l=joinsS tm st m js l
 | 0,m,js,l,h,_=>by
   obtain rfl:l=[]:=List.length_eq_zero_iff.1 (by omega)
   cases m with
   | zero=>rfl
   | succ m=>rw [joinsS,joinsS,one_nil]; rfl
 | k+1,0,js,l,_,h=>by
   obtain rfl:l=[]:=List.length_eq_zero_iff.1 (by omega)
   rw [joinsS,joinsS,one_nil]; rfl
 | k+1,m+1,js,l,h,h'=>by
   rw [joinsS,joinsS]
   split
   ·rename_i i ho
    have hlen:=one_len ho
    exact bindE rfl (join_sfx hT hS _ l.tail) fun i l' hl=>joins_fu k m _ l' (by omega) (by omega)
   ·split
    ·cases hj:joinS tm st 0 l with
     | error e=>rfl
     | ok x =>
       obtain ⟨j,l'⟩:=x
       have:=join_lt hT hS hj
       exact joins_fu k m _ l' (by omega) (by omega)
    ·rfl
include hT hS in
theorem joC_eq (js:List Jo) (l:List Tk):joC tm st js l=match oneOf joiW l with
  | some i=>bind2 (joinS tm st (i+1) l.tail) fun j l'=>joC tm st (js++[j]) l'
  | none=>if isW wJoin l=true then bind2 (joinS tm st 0 l) fun j l'=>joC tm st (js++[j]) l' else .ok (js,l):=by
 unfold joC
 rw [joins_fu hT hS l.length (l.length+1) js l (Nat.le_refl _) (by omega),joinsS]
 cases ho:oneOf joiW l with
 | some i =>
   have hlen:=one_len ho
   exact bindE rfl (join_sfx hT hS _ l.tail) fun i l' hl=>joins_fu hT hS _ _ _ l' (by omega) (Nat.le_refl _)
 | none =>
   simp only
   split
   ·cases hj:joinS tm st 0 l with
    | error e=>rfl
    | ok x =>
      obtain ⟨j,l'⟩:=x
      have:=join_lt hT hS hj
      exact joins_fu hT hS _ _ _ l' (by omega) (Nat.le_refl _)
   ·rfl
include hT hS in
theorem stmt_fu:∀ (k m:Nat) (x:Sm) (l:List Tk),l.length≤k→l.length≤m→stmtS tm st k x l=stmtS tm st m x l
 | 0,m,x,l,h,_=>by
   obtain rfl:l=[]:=List.length_eq_zero_iff.1 (by omega)
   cases m with
   | zero=>rfl
   | succ m=>rw [stmtS,stmtS,one_nil]
 | k+1,0,x,l,_,h=>by
   obtain rfl:l=[]:=List.length_eq_zero_iff.1 (by omega)
   rw [stmtS,stmtS,one_nil]
 | k+1,m+1,x,l,h,h'=>by
   rw [stmtS,stmtS]
   split
   ·rfl
   ·rename_i i ho
    have hlen:=one_len ho
    have h2:=opt_len wAll l.tail
    exact bindE rfl (core_sfx hT hS _) fun i l' hl=>stmt_fu k m _ l' (by omega) (by omega)
include hT hS in
theorem stC_eq (x:Sm) (l:List Tk):stC tm st x l=match oneOf setW l with
  | none=>.ok (x,l)
  | some i=>bind2 (coreS tm st (optW wAll l.tail).2) fun y l'=>stC tm st (setS i (optW wAll l.tail).1 x y) l':=by
 unfold stC
 rw [stmt_fu hT hS l.length (l.length+1) x l (Nat.le_refl _) (by omega),stmtS]
 cases ho:oneOf setW l with
 | none=>rfl
 | some i =>
   have hlen:=one_len ho
   have h2:=opt_len wAll l.tail
   exact bindE rfl (core_sfx hT hS _) fun i l' hl=>stmt_fu hT hS _ _ _ l' (by omega) (Nat.le_refl _)
end
def flD (p:Nat):D:=.val (.iface 67 (.agg #[.int .i64 p]))
theorem p_fail:FailOk flD:=by
 intro T l hs hn hT
 have hp:=p_peek hs hn hT
 refine ⟨by kernel_rfl,fun w h vs hr m=>?_⟩
 obtain ⟨v0,_,rfl,r0,r1⟩:=hr
 simp only [RepAs] at r1
 subst r1
 have hc:=hp.2 w h [v0] ⟨v0,[],rfl,r0,rfl⟩ m
 refine calls_of_wp (fn:=Tryz.f26) (by kernel_rfl) rfl (wp_region ?_)
 have he:=run_enter hp.1 (⟨[v0]⟩:Array Value) w
 refine .inl ?_
 refine .inl ?_
 unfold Oper.wp
 have hrun:∀ (a:Act) (o:Oper),o.op=.call { callee:=.value (.func 25),args:=#[.tmp 2],argTypes:=#[46] }→a.eval (.tmp 2)=v0→(execOp a.eval o).run En.P w=.ok (.enter 25 ⟨[v0]⟩) w:=by
  intro a o ho hv
  rw [← he]
  obtain ⟨dst,op,type,pos,after,guard⟩:=o
  simp only at ho
  subst ho
  have hf:a.eval (.func 25)=.func (.func 25) #[] #[]:=rfl
  simp only [execOp,resolve,hf,Deferred.ofValue,Sem.run_bind,Sem.run_pure,Result.andThen_ok,invoke]
  congr 2
  apply Array.ext'
  simp [hv]
 rw [hrun _ _ rfl rfl]
 simp only [Oper.upon]
 refine hc.mono ?_
 rintro e w' ⟨v,h',rfl,hv,m'⟩
 simp [tkA,tokC,RepA,RepAs,RepD] at hv
 subst hv
 simp only
 have hb:∀ (a:Act) (o:Oper) (z:Int),o.op=.build 67 #[(0,.tmp 4)]→a.eval (.tmp 4)=.int .i64 z→(execOp a.eval o).run En.P w'=.ok (.value (.agg #[.int .i64 z])) w':=by
  intro a o z ho hv
  obtain ⟨dst,op,type,pos,after,guard⟩:=o
  simp only at ho
  subst ho
  simp only [execOp]
  have e:Array.map (fun x:Nat×Operand=>(x.fst,a.eval x.snd)) #[(0,Operand.tmp 4)]=#[(0,.int .i64 z)]:=by simp [hv]
  rw [e]
  first | done | rfl | (show _=_; kernel_rfl)
 have hm:∀ (a:Act) (o:Oper) (z:Int),o.op=.makeInterface 67 (.tmp 5)→a.eval (.tmp 5)=.agg #[.int .i64 z]→(execOp a.eval o).run En.P w'=.ok (.value (.iface 67 (.agg #[.int .i64 z]))) w':=by
  intro a o z ho hv
  obtain ⟨dst,op,type,pos,after,guard⟩:=o
  simp only at ho
  subst ho
  simp only [execOp,hv]
  first | done | rfl | (show _=_; kernel_rfl)
 have hq:∀ (a:Act) (o:Oper) (z:Int),o.op=.panic (.tmp 6)→a.eval (.tmp 6)=.iface 67 (.agg #[.int .i64 z])→(execOp a.eval o).run En.P w'=.halt (.panic (.iface 67 (.agg #[.int .i64 z]))) w':=by
  intro a o z ho hv
  obtain ⟨dst,op,type,pos,after,guard⟩:=o
  simp only at ho
  subst ho
  simp only [execOp,hv]
  first | done | rfl | (show _=_; kernel_rfl)
 have hpos:posT l=(hdT l).fr:=by
  cases l with
  | nil=>exact absurd rfl hn
  | cons t r=>rfl
 have hhi:∀ n q,firstName≤n→(ctxOf En w h [rdB T l]).h0.L n=some q→n<firstName+1:=fun n q hn hq=>by
  rcases Nat.lt_or_ge n (firstName+1) with h1 | h1
  ·exact h1
  ·have hb:=m.blks n
   have e:blkOf [rdB T l] n=.free:=by
    unfold blkOf
    rw [if_pos hn,List.getElem?_eq_none (by rw [List.length_singleton]; omega)]
    rfl
   rw [e] at hb
   simp only [RepB] at hb
   have hq':h.L n=some q:=hq
   rw [hb] at hq'
   cases hq'
 have hin:∀ j,j<1→∃ q,(ctxOf En w h [rdB T l]).h0.L (firstName+j)=some q:=fun j hj=>by
  obtain rfl:j=0:=by omega
  have hb:=m.blks (firstName+0)
  have e:blkOf [rdB T l] (firstName+0)=rdB T l:=by simp [blkOf]
  rw [e] at hb
  unfold rdB at hb
  simp only [RepB] at hb
  obtain ⟨q,_,_,h1,_⟩:=hb
  exact ⟨q,h1⟩
 refine .inl ?_
 refine .inl ?_
 unfold Oper.wp
 rw [hb _ _ _ rfl rfl]
 simp only [Oper.upon]
 refine .inl ?_
 unfold Oper.wp
 rw [hm _ _ _ rfl rfl]
 simp only [Oper.upon]
 refine .inl ?_
 unfold Oper.wp
 rw [hq _ _ _ rfl rfl]
 simp only [Oper.upon]
 refine ⟨rfl,_,_,rfl,?_,mem_dead hhi hin m'⟩
 rw [hpos]
 exact ⟨rfl,rfl⟩
mutual
/-- Lists that a program can hold. -/
def Tm.fits:Tm→Prop
 | .mk _ _ _ _ _ ks=>ks.length≤9223372036854775807∧tmsFits ks
def tmsFits:List Tm→Prop
 | []=>True
 | e::es=>e.fits∧tmsFits es
end
theorem tmsFits_get:∀ l:List Tm,tmsFits l→∀ e∈l,e.fits
 | x::xs,h,e,he=>by
   rw [tmsFits] at h
   rcases List.mem_cons.1 he with rfl | he
   ·exact h.1
   ·exact tmsFits_get xs h.2 e he
mutual
def Sm.fits:Sm→Prop
 | .mk _ _ _ _ is _ fq _ js w g h ks=>(is.length≤9223372036854775807∧tmsFits (is.map It.t))∧(fq.length≤9223372036854775807∧smsFits fq)∧(js.length≤9223372036854775807∧josFits js)∧(w.length≤9223372036854775807∧tmsFits w)∧(g.length≤9223372036854775807∧tmsFits g)∧(h.length≤9223372036854775807∧tmsFits h)∧(ks.length≤9223372036854775807∧smsFits ks)
def Jo.fits:Jo→Prop
 | .mk _ _ q _ o=>(q.length≤9223372036854775807∧smsFits q)∧(o.length≤9223372036854775807∧tmsFits o)
def smsFits:List Sm→Prop
 | []=>True
 | e::es=>e.fits∧smsFits es
def josFits:List Jo→Prop
 | []=>True
 | e::es=>e.fits∧josFits es
end
theorem smsFits_get:∀ l:List Sm,smsFits l→∀ e∈l,e.fits
 | x::xs,h,e,he=>by
   rw [smsFits] at h
   rcases List.mem_cons.1 he with rfl | he
   ·exact h.1
   ·exact smsFits_get xs h.2 e he
theorem josFits_get:∀ l:List Jo,josFits l→∀ e∈l,e.fits
 | x::xs,h,e,he=>by
   rw [josFits] at h
   rcases List.mem_cons.1 he with rfl | he
   ·exact h.1
   ·exact josFits_get xs h.2 e he
theorem itFits_get {l:List It} (h:tmsFits (l.map It.t)) {i:It} (hi:i∈l):i.t.fits:=tmsFits_get _ h _ (List.mem_map_of_mem hi)
mutual
/-- Lists of at most 10000 elements. -/
def Sm.small:Sm→Prop
 | .mk _ _ _ _ is _ fq _ js w g h ks=>is.length≤10000∧js.length≤10000∧w.length≤10000∧g.length≤10000∧h.length≤10000∧smsSmall fq∧josSmall js∧smsSmall ks
def Jo.small:Jo→Prop
 | .mk _ _ q _ o=>o.length≤10000∧smsSmall q
def smsSmall:List Sm→Prop
 | []=>True
 | e::es=>e.small∧smsSmall es
def josSmall:List Jo→Prop
 | []=>True
 | e::es=>e.small∧josSmall es
end
theorem smsSmall_get:∀ l:List Sm,smsSmall l→∀ e∈l,e.small
 | x::xs,h,e,he=>by
   rw [smsSmall] at h
   rcases List.mem_cons.1 he with rfl | he
   ·exact h.1
   ·exact smsSmall_get xs h.2 e he
theorem josSmall_get:∀ l:List Jo,josSmall l→∀ e∈l,e.small
 | x::xs,h,e,he=>by
   rw [josSmall] at h
   rcases List.mem_cons.1 he with rfl | he
   ·exact h.1
   ·exact josSmall_get xs h.2 e he
theorem tmsFits_app:∀ a b:List Tm,tmsFits a→tmsFits b→tmsFits (a++b)
 | [],b,_,h=>h
 | x::xs,b,h,h'=>by
   rw [tmsFits] at h
   rw [List.cons_append,tmsFits]
   exact ⟨h.1,tmsFits_app xs b h.2 h'⟩
theorem r_sameTerms (a b:List Tm) (hn:a.length≤9223372036854775807) (h:∀ x∈a,∀ y∈b,Cf En 19 [x.a,y.a] [] (.d (.bool (x.eq y))) []) :
  Cf En 21 [.d (.sl (a.map Tm.c)),.d (.sl (b.map Tm.c))] [] (.d (.bool (agree Tm.eq a b))) []:=by
 refine cf_intro mix (fn:=Tryz.f21) (by kernel_rfl) rfl (by kernel_rfl) (by decide) (by simp) ?_
 by_cases hl:a.length=b.length
 ·have hl':(a.length:Int)=b.length:=by omega
  generalize hres:agree Tm.eq a b=res
  simp [hl,hl']
  refine ⟨.of (by kernel_rfl),.of (by kernel_rfl),.of (by kernel_rfl),?_⟩
  refine aloopT mix (by decide) (fun i:Nat=>{ s:=mkS [(0,.d (.sl (a.map Tm.c))),(1,.d (.sl (b.map Tm.c))),(5,.d (.int .i64 i))],b:=mkB [] }) (fun i:Nat=>i≤b.length∧agree Tm.eq (a.drop i) (b.drop i)=res) (fun i=>b.length - i) 0 (by simp [hres]) (sub_mk _ [] .nil (by simp)) ?_
  rintro i ⟨hi,ho⟩
  by_cases hlt:i<b.length
  ·have hlt':(i:Int)<b.length:=by omega
   have hla:i<a.length:=by omega
   have hg:a[i]?=some a[i]:=List.getElem?_eq_getElem hla
   have hg2:b[i]?=some b[i]:=List.getElem?_eq_getElem hlt
   have hd:=agree_drop (f:=Tm.eq) hg hg2
   have c1:=Tm.clen a[i]
   have c2:=Tm.clen b[i]
   have k1:=Tm.ctake a[i]
   have k2:=Tm.ctake b[i]
   simp [hl,hlt,hlt',hla,hg,hg2,c1,c2,k1,k2]
   refine ⟨.of (by kernel_rfl),?_⟩
   refine acallT_plain (h a[i] (List.getElem_mem hla) b[i] (List.getElem_mem hlt)) (by simp [Tm.a]) ?_
   simp
   refine ⟨.of (by kernel_rfl),fun h=>⟨.of (by kernel_rfl),?_⟩,fun h=>⟨.of (by kernel_rfl),i+1,⟨hlt,?_⟩,?_,?_⟩⟩
   ·rw [← ho,hd,h]; rfl
   ·rw [← ho,hd,h]; rfl
   ·refine sub_mk _ [] .nil ?_
    simp
    exact wrap_in (by omega) (by omega)
   ·simp; omega
  ·have hlt':¬ (i:Int)<b.length:=by omega
   simp [hl,hlt,hlt']
   refine ⟨.of (by kernel_rfl),.of (by kernel_rfl),?_⟩
   rw [← ho,agree_end (by omega) (by omega)]
 ·have hl':¬ (a.length:Int)=b.length:=by omega
  rw [agree_len a b hl]
  simp [hl,hl']
  exact ⟨.of (by kernel_rfl),.of (by kernel_rfl),.of (by kernel_rfl)⟩
theorem r_sameTerm:∀ (m:Nat) (x y:Tm),SizeOf.sizeOf x<m→x.fits→Cf En 19 [x.a,y.a] [] (.d (.bool (x.eq y))) []
 | 0,_,_,h,_=>absurd h (by omega)
 | m+1,.mk o y n t q ks,.mk o' y' n' t' q' ks',hm,hfit=>by
   refine cf_intro mix (fn:=Tryz.f19) (by kernel_rfl) rfl (by kernel_rfl) (by decide) (by simp) ?_
   rw [Tm.fits] at hfit
   have hq:=r_sameTerms ks ks' hfit.1 fun x hx z _=>r_sameTerm m x z (by
    have:=Tm.kid_lt (e:=.mk o y n t q ks) (k:=x) hx
    omega) (tmsFits_get ks hfit.2 x hx)
   rw [Tm.eq,tmsEq_agree]
   simp [Tm.a,Tm.c,tmsC_map]
   (repeat' (first|contradiction|exact .ok|apply And.intro|intro _|(refine gc (fun h=>?_) (fun h=>?_)<;>(have h':=h;(try simp at h');first|done|simp[h,h']|simp))))
   all_goals first | (refine acallT_plain hq (by simp) ?_; simp; (repeat' (first | contradiction | exact .of (by kernel_rfl) | refine And.intro ?_ ?_ | intro _ | (refine agrd_cases (fun h=>?_) (fun h=>?_) <;> (have h':=h; (try simp at h'); first | done | simp [h,h'] | simp))))) | skip
   all_goals simp_all
theorem r_sameTs (a b:List Tm) (hn:a.length≤9223372036854775807) (h:tmsFits a):Cf En 21 [.d (.sl (a.map Tm.c)),.d (.sl (b.map Tm.c))] [] (.d (.bool (agree Tm.eq a b))) [] :=
 r_sameTerms a b hn fun x hx y _=>r_sameTerm _ x y (Nat.lt_succ_self _) (tmsFits_get a h x hx)
theorem r_sameStatements (a b:List Sm) (hn:a.length≤9223372036854775807) (h:∀ x∈a,∀ y∈b,Cf En 8 [x.a,y.a] [] (.d (.bool (x.eq y))) []) :
  Cf En 22 [.d (.sl (a.map Sm.c)),.d (.sl (b.map Sm.c))] [] (.d (.bool (agree Sm.eq a b))) []:=by
 refine cf_intro mix (fn:=Tryz.f22) (by kernel_rfl) rfl (by kernel_rfl) (by decide) (by simp) ?_
 by_cases hl:a.length=b.length
 ·have hl':(a.length:Int)=b.length:=by omega
  generalize hres:agree Sm.eq a b=res
  simp [hl,hl']
  refine ⟨.of (by kernel_rfl),.of (by kernel_rfl),.of (by kernel_rfl),?_⟩
  refine aloopT mix (by decide) (fun i:Nat=>{ s:=mkS [(0,.d (.sl (a.map Sm.c))),(1,.d (.sl (b.map Sm.c))),(5,.d (.int .i64 i))],b:=mkB [] }) (fun i:Nat=>i≤b.length∧agree Sm.eq (a.drop i) (b.drop i)=res) (fun i=>b.length - i) 0 (by simp [hres]) (sub_mk _ [] .nil (by simp)) ?_
  rintro i ⟨hi,ho⟩
  by_cases hlt:i<b.length
  ·have hlt':(i:Int)<b.length:=by omega
   have hla:i<a.length:=by omega
   have hg:a[i]?=some a[i]:=List.getElem?_eq_getElem hla
   have hg2:b[i]?=some b[i]:=List.getElem?_eq_getElem hlt
   have hd:=agree_drop (f:=Sm.eq) hg hg2
   have c1:=Sm.clen a[i]
   have c2:=Sm.clen b[i]
   have k1:=Sm.ctake a[i]
   have k2:=Sm.ctake b[i]
   simp [hl,hlt,hlt',hla,hg,hg2,c1,c2,k1,k2]
   refine ⟨.of (by kernel_rfl),?_⟩
   refine acallT_plain (h a[i] (List.getElem_mem hla) b[i] (List.getElem_mem hlt)) (by simp [Sm.a]) ?_
   simp
   refine ⟨.of (by kernel_rfl),fun h=>⟨.of (by kernel_rfl),?_⟩,fun h=>⟨.of (by kernel_rfl),i+1,⟨hlt,?_⟩,?_,?_⟩⟩
   ·rw [← ho,hd,h]; rfl
   ·rw [← ho,hd,h]; rfl
   ·refine sub_mk _ [] .nil ?_
    simp
    exact wrap_in (by omega) (by omega)
   ·simp; omega
  ·have hlt':¬ (i:Int)<b.length:=by omega
   simp [hl,hlt,hlt']
   refine ⟨.of (by kernel_rfl),.of (by kernel_rfl),?_⟩
   rw [← ho,agree_end (by omega) (by omega)]
 ·have hl':¬ (a.length:Int)=b.length:=by omega
  rw [agree_len a b hl]
  simp [hl,hl']
  exact ⟨.of (by kernel_rfl),.of (by kernel_rfl),.of (by kernel_rfl)⟩
theorem r_sameSource (t:List UInt8) (q:List Sm) (n:List UInt8) (t':List UInt8) (q':List Sm) (n':List UInt8) (hn:q.length≤9223372036854775807) (h:∀ x∈q,∀ y∈q',Cf En 8 [x.a,y.a] [] (.d (.bool (x.eq y))) []) :
  Cf En 20 [soA t q n,soA t' q' n'] [] (.d (.bool (soEq t q n t' q' n'))) []:=by
 refine cf_intro mix (fn:=Tryz.f20) (by kernel_rfl) rfl (by kernel_rfl) (by decide) (by simp) ?_
 have hq:=r_sameStatements q q' hn h
 unfold soEq
 rw [smsEq_agree]
 simp [soA,soC,smsC_map]
 (repeat' (first|contradiction|exact .ok|apply And.intro|intro _|(refine gc (fun h=>?_) (fun h=>?_)<;>(have h':=h;(try simp at h');first|done|simp[h,h']|simp))))
 all_goals first | (refine acallT_plain hq (by simp) ?_; simp; (repeat' (first | contradiction | exact .of (by kernel_rfl) | refine And.intro ?_ ?_ | intro _ | (refine agrd_cases (fun h=>?_) (fun h=>?_) <;> (have h':=h; (try simp at h'); first | done | simp [h,h'] | simp))))) | skip
 all_goals simp_all
end Go.Proofs.Tryz
