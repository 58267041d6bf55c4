import Derived.Test.YtckddobnichkhaaGreatDoorQNxt
import Derived.Test.YtckddobnichkhaaGreatDoorQExc0
import Derived.Test.YtckddobnichkhaaGreatDoorAbB
set_option linter.all false
/- The reader takes words that have to be there: a call that may panic. -/
namespace Go.Proofs.Tryz
open Go.Ab
set_option maxRecDepth 100000
set_option maxHeartbeats 4000000
/-- What Fail does, as far as it is needed. -/
def FailOk (fD:Nat→D):Prop:=∀ (T l:List Tk),l <:+ T→l ≠ []→T.length≤10000→CfX panE En 22 [.ptr 1000000 0 0] [rdB T l] (.d (fD (posT l))) (deadB 1)
def outE (fD:Nat→D) (T:List Tk) (r:Except Nat (List Tk)):Out:=match r with
 | .error p=>.pan (fD p)
 | .ok m=>.ret (.tup []) [rdB T m]
theorem p_expect {fD:Nat→D} (hF:FailOk fD) {T l:List Tk} (hs:l <:+ T) (ho:okE l) (hT:T.length≤10000) (ws:List (List UInt8)) (hw:ws.length≤1000) :
  CfO En 65 [.ptr 1000000 0 0,.d (.sl (ws.map fun w=>[.str w]))] [rdB T l] (outE fD T (expS ws l)):=by
 cases hr:expS ws l with
 | ok m =>
   unfold outE
   refine cfO_intro mix (fn:=Tryz.f65) (by kernel_rfl) rfl (by kernel_rfl) (by decide) _ (by simp) (by simp [rdB]) ?_
   simp
   (repeat' (first | contradiction | exact .of (by kernel_rfl) | refine And.intro ?_ ?_ | intro _ | (refine agrd_cases (fun h=>?_) (fun h=>?_) <;> (have h':=h; (try simp at h'); first | done | simp [h,h'] | simp))))
   refine aloopPT mix (by decide) (fun i:Nat×List Tk=>{ s:=mkS [(0,.ptr 1000000 0 0),(1,.d (.sl (ws.map fun w=>[.str w]))),(6,.d (.sl (ws.map fun w=>[.str w]))),(7,.d (.int .i64 ws.length)),(8,.d (.int .i64 i.1))],b:=mkB [(1000000,1000000,rdB T i.2)] }) (fun i=>i.1≤ws.length∧i.2 <:+ T∧okE i.2∧expS (ws.drop i.1) i.2=.ok m) (fun i=>ws.length - i.1) (0,l) ⟨by simp,hs,ho,by simpa using hr⟩
    (sub_mk _ [(1000000,1000000,_)] ⟨by simp,by simp,by simp [renOf,Blk.live,rdB],base1⟩ (by simp [renOf])) ?_
   rintro ⟨i,l1⟩ ⟨hi,hs1,ho1,he⟩
   simp only at hi hs1 ho1 he
   by_cases hlt:i<ws.length
   ·have h1:=p_take hs1 ho1.ne hT ws[i]
    have h2:=hF T l1 hs1 ho1.ne hT
    have hwr:=wrap_in (n:=(i:Int)+1) (by omega) (by omega)
    rw [List.drop_eq_getElem_cons hlt,expS] at he
    obtain ⟨e,hee⟩:∃ e,e=ws[i]:=⟨_,rfl⟩
    have hge:∀ h,ws[i]'h=e:=fun _=>hee.symm
    rw [hge] at h1 he
    cases hb:isW e l1 with
    | true =>
      rw [hb] at h1 he
      simp only [if_true] at h1 he
      simp [hlt,hge]
      (repeat' (first | contradiction | exact .of (by kernel_rfl) | refine And.intro ?_ ?_ | intro _ | (refine agrd_cases (fun h=>?_) (fun h=>?_) <;> (have h':=h; (try simp at h'); first | done | simp [h,h',hlt,hge] | simp [hlt,hge]))))
      refine acallP_of (acallT_hand [1000000] h1 (by simp [rdB]) (by simp) (by simp [rdB]) (by simp [rdB]) (by simp) ?_)
      simp
      (repeat' (first | contradiction | exact .of (by kernel_rfl) | refine And.intro ?_ ?_ | intro _ | (refine agrd_cases (fun h=>?_) (fun h=>?_) <;> (have h':=h; (try simp at h'); first | done | simp [h,h'] | simp))))
      refine ⟨(i+1,l1.tail),⟨by simp only; omega,(tail_sfx l1).trans hs1,ho1.tl hb,he⟩,?_,by simp only; omega⟩
      exact sub_mk _ [(1000000,1000000,_)] ⟨by simp,by simp,by simp [renOf,Blk.live,rdB],base1⟩ (by simp [renOf,hwr])
    | false =>
      rw [hb] at h1 he
      simp only [Bool.false_eq_true,if_false] at h1 he
      cases he
   ·obtain rfl:i=ws.length:=by omega
    rw [List.drop_length,expS] at he
    cases he
    simp
    (repeat' (first | contradiction | exact .of (by kernel_rfl) | refine And.intro ?_ ?_ | intro _ | (refine agrd_cases (fun h=>?_) (fun h=>?_) <;> (have h':=h; (try simp at h'); first | done | simp [h,h'] | simp))))
    all_goals first | (rw [kept_b1]; simp [rdB]; done) | (simp [rdB]; done) | skip
 | error p =>
   unfold outE
   refine cfO_intro mix (fn:=Tryz.f65) (by kernel_rfl) rfl (by kernel_rfl) (by decide) _ (by simp) (by simp [rdB]) ?_
   simp
   (repeat' (first | contradiction | exact .of (by kernel_rfl) | refine And.intro ?_ ?_ | intro _ | (refine agrd_cases (fun h=>?_) (fun h=>?_) <;> (have h':=h; (try simp at h'); first | done | simp [h,h'] | simp))))
   refine aloopPT mix (by decide) (fun i:Nat×List Tk=>{ s:=mkS [(0,.ptr 1000000 0 0),(1,.d (.sl (ws.map fun w=>[.str w]))),(6,.d (.sl (ws.map fun w=>[.str w]))),(7,.d (.int .i64 ws.length)),(8,.d (.int .i64 i.1))],b:=mkB [(1000000,1000000,rdB T i.2)] }) (fun i=>i.1≤ws.length∧i.2 <:+ T∧okE i.2∧expS (ws.drop i.1) i.2=.error p) (fun i=>ws.length - i.1) (0,l) ⟨by simp,hs,ho,by simpa using hr⟩
    (sub_mk _ [(1000000,1000000,_)] ⟨by simp,by simp,by simp [renOf,Blk.live,rdB],base1⟩ (by simp [renOf])) ?_
   rintro ⟨i,l1⟩ ⟨hi,hs1,ho1,he⟩
   simp only at hi hs1 ho1 he
   by_cases hlt:i<ws.length
   ·have h1:=p_take hs1 ho1.ne hT ws[i]
    have h2:=hF T l1 hs1 ho1.ne hT
    have hwr:=wrap_in (n:=(i:Int)+1) (by omega) (by omega)
    rw [List.drop_eq_getElem_cons hlt,expS] at he
    obtain ⟨e,hee⟩:∃ e,e=ws[i]:=⟨_,rfl⟩
    have hge:∀ h,ws[i]'h=e:=fun _=>hee.symm
    rw [hge] at h1 he
    cases hb:isW e l1 with
    | true =>
      rw [hb] at h1 he
      simp only [if_true] at h1 he
      simp [hlt,hge]
      (repeat' (first | contradiction | exact .of (by kernel_rfl) | refine And.intro ?_ ?_ | intro _ | (refine agrd_cases (fun h=>?_) (fun h=>?_) <;> (have h':=h; (try simp at h'); first | done | simp [h,h',hlt,hge] | simp [hlt,hge]))))
      refine acallP_of (acallT_hand [1000000] h1 (by simp [rdB]) (by simp) (by simp [rdB]) (by simp [rdB]) (by simp) ?_)
      simp
      (repeat' (first | contradiction | exact .of (by kernel_rfl) | refine And.intro ?_ ?_ | intro _ | (refine agrd_cases (fun h=>?_) (fun h=>?_) <;> (have h':=h; (try simp at h'); first | done | simp [h,h'] | simp))))
      refine ⟨(i+1,l1.tail),⟨by simp only; omega,(tail_sfx l1).trans hs1,ho1.tl hb,he⟩,?_,by simp only; omega⟩
      exact sub_mk _ [(1000000,1000000,_)] ⟨by simp,by simp,by simp [renOf,Blk.live,rdB],base1⟩ (by simp [renOf,hwr])
    | false =>
      rw [hb] at h1 he
      simp only [Bool.false_eq_true,if_false] at h1 he
      cases he
      simp [hlt,hge]
      (repeat' (first | contradiction | exact .of (by kernel_rfl) | refine And.intro ?_ ?_ | intro _ | (refine agrd_cases (fun h=>?_) (fun h=>?_) <;> (have h':=h; (try simp at h'); first | done | simp [h,h',hlt,hge] | simp [hlt,hge]))))
      refine acallP_of (acallT_hand [1000000] h1 (by simp [rdB]) (by simp) (by simp [rdB]) (by simp [rdB]) (by simp) ?_)
      simp
      (repeat' (first | contradiction | exact .of (by kernel_rfl) | refine And.intro ?_ ?_ | intro _ | (refine agrd_cases (fun h=>?_) (fun h=>?_) <;> (have h':=h; (try simp at h'); first | done | simp [h,h'] | simp))))
      refine acallP_pan [1000000] h2 (by simp) (by simp [rdB]) (by simp [rdB]) (by simp) (by kernel_rfl)
   ·obtain rfl:i=ws.length:=by omega
    rw [List.drop_length,expS] at he
    cases he
end Go.Proofs.Tryz
/- The reader takes one of some words. -/
namespace Go.Proofs.Tryz
open Go.Ab
set_option maxRecDepth 100000
set_option maxHeartbeats 4000000
def oneI (ws:List (List UInt8)) (l:List Tk):Int:=fidx (fun w=>isW w l) ws 0
theorem fidx_find {α:Type} (p:α→Bool):∀ (l:List α) (k:Nat),fidx p l k=match l.findIdx? p with
  | some i=>((k+i:Nat):Int)
  | none=>-1
 | [],k=>rfl
 | x::l,k=>by
   rw [fidx,List.findIdx?_cons]
   split
   ·simp
   ·rw [fidx_find p l (k+1)]
    cases l.findIdx? p with
    | none=>rfl
    | some i=>simp only [Option.map_some]; congr 1; omega
theorem oneI_of (ws:List (List UInt8)) (l:List Tk):oneI ws l=match oneOf ws l with
  | some i=>(i:Int)
  | none=>-1:=by
 unfold oneI oneOf
 rw [fidx_find]
 cases List.findIdx? (fun w=>isW w l) ws with
 | none=>rfl
 | some i=>simp
theorem p_idx {T l:List Tk} (hs:l <:+ T) (hn:l ≠ []) (hT:T.length≤10000) (ws:List (List UInt8)) (hw:ws.length≤1000) :
  Cf En 47 [.d (.sl (ws.map fun w=>[.str w])),.bnd 48 [.ptr 1000000 0 0]] [rdB T l] (.d (.int .i64 (oneI ws l))) [rdB T (if 0≤oneI ws l then l.tail else l)]:=by
 unfold oneI
 refine cf_intro mix (fn:=Tryz.f47) (by kernel_rfl) rfl (by kernel_rfl) (by decide) (by simp [rdB]) ?_
 simp
 (repeat' (first | contradiction | exact .of (by kernel_rfl) | refine And.intro ?_ ?_ | intro _ | (refine agrd_cases (fun h=>?_) (fun h=>?_) <;> (have h':=h; (try simp at h'); first | done | simp [h,h'] | simp))))
 refine aloopT mix (by decide) (fun i:Nat=>{ s:=mkS [(0,.d (.sl (ws.map fun w=>[.str w]))),(1,.bnd 48 [.ptr 1000000 0 0]),(7,.d (.int .i64 ws.length)),(8,.d (.int .i64 i))],b:=mkB [(1000000,1000000,rdB T l)] }) (fun i=>i≤ws.length∧fidx (fun w=>isW w l) ws 0=fidx (fun w=>isW w l) (ws.drop i) i) (fun i=>ws.length - i) 0 ⟨by simp,by simp⟩
  (sub_mk _ [(1000000,1000000,_)] ⟨by simp,by simp,by simp [renOf,Blk.live,rdB],base1⟩ (by simp [renOf])) ?_
 rintro i ⟨hi,hfx⟩
 by_cases hlt:i<ws.length
 ·have hd:=fidx_drop (p:=fun w=>isW w l) (k:=i) hlt
  have h1:=p_take hs hn hT ws[i]
  have hwr:=wrap_in (n:=(i:Int)+1) (by omega) (by omega)
  obtain ⟨e,he⟩:∃ e,e=ws[i]:=⟨_,rfl⟩
  have hge:∀ h,ws[i]'h=e:=fun _=>he.symm
  rw [hge] at h1 hd
  rw [hd] at hfx
  cases hb:isW e l with
  | true =>
    rw [hb] at h1 hfx
    simp only [if_true] at h1 hfx
    rw [hfx,if_pos (by omega)]
    simp [hlt,hge]
    (repeat' (first | contradiction | exact .of (by kernel_rfl) | refine And.intro ?_ ?_ | intro _ | (refine agrd_cases (fun h=>?_) (fun h=>?_) <;> (have h':=h; (try simp at h'); first | done | simp [h,h',hlt,hge] | simp [hlt,hge]))))
    refine acallT_hand [1000000] h1 (by simp [rdB]) (by simp) (by simp [rdB]) (by simp [rdB]) (by simp) ?_
    simp
    (repeat' (first | contradiction | exact .of (by kernel_rfl) | refine And.intro ?_ ?_ | intro _ | (refine agrd_cases (fun h=>?_) (fun h=>?_) <;> (have h':=h; (try simp at h'); first | done | simp [h,h'] | simp))))
    all_goals first | (rw [kept_b1]; simp [rdB]; done) | (simp [rdB]; done) | skip
  | false =>
    rw [hb] at h1 hfx
    simp only [Bool.false_eq_true,if_false] at h1 hfx
    simp [hlt,hge]
    (repeat' (first | contradiction | exact .of (by kernel_rfl) | refine And.intro ?_ ?_ | intro _ | (refine agrd_cases (fun h=>?_) (fun h=>?_) <;> (have h':=h; (try simp at h'); first | done | simp [h,h',hlt,hge] | simp [hlt,hge]))))
    refine acallT_hand [1000000] h1 (by simp [rdB]) (by simp) (by simp [rdB]) (by simp [rdB]) (by simp) ?_
    simp
    (repeat' (first | contradiction | exact .of (by kernel_rfl) | refine And.intro ?_ ?_ | intro _ | (refine agrd_cases (fun h=>?_) (fun h=>?_) <;> (have h':=h; (try simp at h'); first | done | simp [h,h'] | simp))))
    refine ⟨i+1,⟨by omega,hfx⟩,?_,by simp; omega⟩
    exact sub_mk _ [(1000000,1000000,_)] ⟨by simp,by simp,by simp [renOf,Blk.live,rdB],base1⟩ (by simp [renOf,hwr])
 ·obtain rfl:i=ws.length:=by omega
  rw [List.drop_length,fidx] at hfx
  rw [hfx,if_neg (by omega)]
  simp
  (repeat' (first | contradiction | exact .of (by kernel_rfl) | refine And.intro ?_ ?_ | intro _ | (refine agrd_cases (fun h=>?_) (fun h=>?_) <;> (have h':=h; (try simp at h'); first | done | simp [h,h'] | simp))))
  all_goals first | (rw [kept_b1]; simp [rdB]; done) | (simp [rdB]; done) | skip
theorem p_one {T l:List Tk} (hs:l <:+ T) (hn:l ≠ []) (hT:T.length≤10000) (ws:List (List UInt8)) (hw:ws.length≤1000) :
  Cf En 32 [.ptr 1000000 0 0,.d (.sl (ws.map fun w=>[.str w]))] [rdB T l] (.d (.int .i64 (oneI ws l))) [rdB T (if 0≤oneI ws l then l.tail else l)]:=by
 have h:=p_idx hs hn hT ws hw
 generalize (if 0≤oneI ws l then l.tail else l)=m at *
 generalize oneI ws l=z at *
 unfold rdB at *
 generalize T.length - l.length=i at *
 generalize T.length - m.length=j at *
 refine cf_intro mix (fn:=Tryz.f32) (by kernel_rfl) rfl (by kernel_rfl) (by decide) (by simp) ?_
 simp
 (repeat' (first | contradiction | exact .of (by kernel_rfl) | refine And.intro ?_ ?_ | intro _ | (refine agrd_cases (fun h=>?_) (fun h=>?_) <;> (have h':=h; (try simp at h'); first | done | simp [h,h'] | simp))))
 refine acallT_hand [1000000] h (by simp) (by simp) (by simp) (by simp) (by simp) ?_
 simp
 (repeat' (first | contradiction | exact .of (by kernel_rfl) | refine And.intro ?_ ?_ | intro _ | (refine agrd_cases (fun h=>?_) (fun h=>?_) <;> (have h':=h; (try simp at h'); first | done | simp [h,h'] | simp))))
end Go.Proofs.Tryz
/- A rule of the program's reader: it reads a term, or it fails at a token. -/
namespace Go.Proofs.Tryz
open Go.Ab
set_option maxRecDepth 100000
set_option maxHeartbeats 2000000
/-- Where the reader stands, as data that no walk looks into. -/
def rdD (T l:List Tk):D:=.int .i64 ((T.length - l.length:Nat):Int)
theorem rdB_eq (T l:List Tk):rdB T l=.var [.d (.sl (T.map tokC)),.d (rdD T l)]:=rfl
def outS (fD:Nat→D) (T:List Tk) (r:Res Tm):Out:=match r with
 | .error p=>.pan (fD p)
 | .ok (t,m)=>.ret t.a [rdB T m]
def outL (fD:Nat→D) (T:List Tk) (r:Res (List Tm)):Out:=match r with
 | .error p=>.pan (fD p)
 | .ok (ks,m)=>.ret (.d (.sl (ks.map Tm.c))) [rdB T m]
def outN (fD:Nat→D) (T:List Tk) (r:Res (List UInt8)):Out:=match r with
 | .error p=>.pan (fD p)
 | .ok (s,m)=>.ret (.d (.str s)) [rdB T m]
/-- The tokens behind are an end of these, and they end as a text does. -/
structure At (T l:List Tk):Prop where
 sfx:l <:+ T
 ok:okE l
theorem At.to {T l m:List Tk} (h:At T l) (hs:m <:+ l) (ho:okE m):At T m:=⟨hs.trans h.sfx,ho⟩
theorem At.tl {T l:List Tk} (h:At T l) {w:List UInt8} (hw:isW w l=true):At T l.tail:=h.to (tail_sfx l) (h.ok.tl hw)
theorem At.tl1 {T l:List Tk} (h:At T l) {ws:List (List UInt8)} {i:Nat} (ho:oneOf ws l=some i):At T l.tail:=h.to (tail_sfx l) (h.ok.tl1 ho)
theorem At.ne {T l:List Tk} (h:At T l):l ≠ []:=h.ok.ne
structure Rule (E:Env) (fD:Nat→D) (T:List Tk) (L:Nat) (f:FuncId) (p:List Tk→Res Tm):Prop where
 run:∀ l,At T l→l.length≤L→CfO E f [.ptr 1000000 0 0] [rdB T l] (outS fD T (p l))
 sfx:∀ l,SfxOk (p l) l
 ok:∀ l t m,okE l→p l=.ok (t,m)→okE m
section
variable {E:Env} {fD:Nat→D} {T:List Tk} {L:Nat} {f:FuncId} {p:List Tk→Res Tm}
theorem Rule.step (h:Rule E fD T L f p) {l:List Tk} (ha:At T l) (hl:l.length≤L) :
  (∃ e,p l=.error e∧CfX panE E f [.ptr 1000000 0 0] [rdB T l] (.d (fD e)) (deadB 1)) ∨
  (∃ t m,p l=.ok (t,m)∧At T m∧m.length≤l.length∧Cf E f [.ptr 1000000 0 0] [rdB T l] t.a [rdB T m]):=by
 have h1:=h.run l ha hl
 cases hp:p l with
 | error e=>rw [hp] at h1; exact .inl ⟨e,rfl,h1⟩
 | ok x =>
   obtain ⟨t,m⟩:=x
   rw [hp] at h1
   exact .inr ⟨t,m,rfl,ha.to (h.sfx l t m hp) (h.ok l t m ha.ok hp),(h.sfx l t m hp).length_le,h1⟩
end
theorem sim_id {α:Type} {r:Res α} {f:Tk→Tk} {g:Nat→Nat} {r':Res α} (h:Sim f g r r') {t:α} {m:List Tk} (hr:r=.ok (t,m)):okE m:=by
 subst hr
 exact h.1
theorem par_okE (n lvl:Nat) {l m:List Tk} {t:Tm} (h:okE l) (hp:parP n lvl l=.ok (t,m)):okE m :=
 sim_id (f:=id) (g:=id) (par_sim (f:=id) (g:=id) (fun _=>⟨rfl,rfl,rfl,rfl,rfl⟩) n lvl l h) hp
theorem exp_okE:∀ (ws:List (List UInt8)) {l m:List Tk},okE l→expS ws l=.ok m→okE m
 | [],l,m,h,he=>by cases he; exact h
 | w::ws,l,m,h,he=>by
   rw [expS] at he
   split at he
   ·rename_i hw; exact exp_okE ws (h.tl hw) he
   ·cases he
/-- Contracts of calls that panic, or may, over more variables. -/
theorem CfX.more {en:Value→Ending} {E E':Env} (hP:E'.P=E.P) (hG:∀ g cs,E.G g=some cs→E'.G g=some cs) {f:FuncId} {xs:List AV} {B:List Blk} {y:AV} {B':List Blk} (h:CfX en E f xs B y B'):CfX en E' f xs B y B':=by
 refine ⟨by rw [hP]; exact h.1,fun w g vs hr m=>?_⟩
 rw [hP]
 have m0:Mem (ctxOf E w g B) (blkOf B) w g :=
  ⟨m.blks,m.con,fun k cs e=>m.glob k cs (hG k cs e),m.apart,m.own,m.size,m.frame,m.mext,m.mold,m.lkeep,m.os,m.tape,m.output,fun k cs e=>m.know k cs (hG k cs e)⟩
 refine (h.2 w g vs hr m0).mono ?_
 rintro e w' ⟨v,h',rfl,ry,m'⟩
 exact ⟨v,h',rfl,ry,⟨m'.blks,m'.con,fun k cs e=>RepCells_mono m'.mext cs k 0 (m.glob k cs e),m'.apart,m'.own,m'.size,m'.frame,m'.mext,m'.mold,m'.lkeep,m'.os,m'.tape,m'.output,m.know⟩⟩
theorem CfO.more {E E':Env} (hP:E'.P=E.P) (hG:∀ g cs,E.G g=some cs→E'.G g=some cs) {f:FuncId} {xs:List AV} {B:List Blk} {o:Out} (h:CfO E f xs B o):CfO E' f xs B o:=by
 cases o with
 | ret y B'=>exact Cf.more hP hG h
 | pan v=>exact CfX.more hP hG h
end Go.Proofs.Tryz
/- The reader's Fail: a panic with the place of the next token. -/
namespace Go.Proofs.Tryz
open Go.Ab
set_option maxRecDepth 100000
set_option maxHeartbeats 4000000
/-- What Fail panics with. -/
def flD (p:Nat):D:=.val (.iface 52 (.agg #[.int .i64 p]))
theorem p_fail:FailOk flD:=by
 intro T l hs hn hT
 have hp:=p_peek hs hn hT
 refine ⟨by kernel_rfl,fun w h vs hr m=>?_⟩
 obtain ⟨v0,_,rfl,r0,r1⟩:=hr
 simp only [RepAs] at r1
 subst r1
 have hc:=hp.2 w h [v0] ⟨v0,[],rfl,r0,rfl⟩ m
 refine calls_of_wp (fn:=Tryz.f22) (by kernel_rfl) rfl (wp_region ?_)
 have he:=run_enter hp.1 (⟨[v0]⟩:Array Value) w
 refine .inl ?_
 refine .inl ?_
 unfold Oper.wp
 have hrun:∀ (a:Act) (o:Oper),o.op=.call { callee:=.value (.func 21),args:=#[.tmp 2],argTypes:=#[40] }→a.eval (.tmp 2)=v0→(execOp a.eval o).run En.P w=.ok (.enter 21 ⟨[v0]⟩) w:=by
  intro a o ho hv
  rw [← he]
  obtain ⟨dst,op,type,pos,after,guard⟩:=o
  simp only at ho
  subst ho
  have hf:a.eval (.func 21)=.func (.func 21) #[] #[]:=rfl
  simp only [execOp,resolve,hf,Deferred.ofValue,Sem.run_bind,Sem.run_pure,Result.andThen_ok,invoke]
  congr 2
  apply Array.ext'
  simp [hv]
 rw [hrun _ _ rfl rfl]
 simp only [Oper.upon]
 refine hc.mono ?_
 rintro e w' ⟨v,h',rfl,hv,m'⟩
 simp [tkA,tokC,RepA,RepAs,RepD] at hv
 subst hv
 simp only
 have hb:∀ (a:Act) (o:Oper) (z:Int),o.op=.build 52 #[(0,.tmp 4)]→a.eval (.tmp 4)=.int .i64 z→(execOp a.eval o).run En.P w'=.ok (.value (.agg #[.int .i64 z])) w':=by
  intro a o z ho hv
  obtain ⟨dst,op,type,pos,after,guard⟩:=o
  simp only at ho
  subst ho
  simp only [execOp]
  have e:Array.map (fun x:Nat×Operand=>(x.fst,a.eval x.snd)) #[(0,Operand.tmp 4)]=#[(0,.int .i64 z)]:=by simp [hv]
  rw [e]
  first | done | rfl | (show _=_; kernel_rfl)
 have hm:∀ (a:Act) (o:Oper) (z:Int),o.op=.makeInterface 52 (.tmp 5)→a.eval (.tmp 5)=.agg #[.int .i64 z]→(execOp a.eval o).run En.P w'=.ok (.value (.iface 52 (.agg #[.int .i64 z]))) w':=by
  intro a o z ho hv
  obtain ⟨dst,op,type,pos,after,guard⟩:=o
  simp only at ho
  subst ho
  simp only [execOp,hv]
  first | done | rfl | (show _=_; kernel_rfl)
 have hq:∀ (a:Act) (o:Oper) (z:Int),o.op=.panic (.tmp 6)→a.eval (.tmp 6)=.iface 52 (.agg #[.int .i64 z])→(execOp a.eval o).run En.P w'=.halt (.panic (.iface 52 (.agg #[.int .i64 z]))) w':=by
  intro a o z ho hv
  obtain ⟨dst,op,type,pos,after,guard⟩:=o
  simp only at ho
  subst ho
  simp only [execOp,hv]
  first | done | rfl | (show _=_; kernel_rfl)
 have hpos:posT l=(hdT l).fr:=by
  cases l with
  | nil=>exact absurd rfl hn
  | cons t r=>rfl
 have hhi:∀ n q,firstName≤n→(ctxOf En w h [rdB T l]).h0.L n=some q→n<firstName+1:=fun n q hn hq=>by
  rcases Nat.lt_or_ge n (firstName+1) with h1 | h1
  ·exact h1
  ·have hb:=m.blks n
   have e:blkOf [rdB T l] n=.free:=by
    unfold blkOf
    rw [if_pos hn,List.getElem?_eq_none (by rw [List.length_singleton]; omega)]
    rfl
   rw [e] at hb
   simp only [RepB] at hb
   have hq':h.L n=some q:=hq
   rw [hb] at hq'
   cases hq'
 have hin:∀ j,j<1→∃ q,(ctxOf En w h [rdB T l]).h0.L (firstName+j)=some q:=fun j hj=>by
  obtain rfl:j=0:=by omega
  have hb:=m.blks (firstName+0)
  have e:blkOf [rdB T l] (firstName+0)=rdB T l:=by simp [blkOf]
  rw [e] at hb
  unfold rdB at hb
  simp only [RepB] at hb
  obtain ⟨q,_,_,h1,_⟩:=hb
  exact ⟨q,h1⟩
 refine .inl ?_
 refine .inl ?_
 unfold Oper.wp
 rw [hb _ _ _ rfl rfl]
 simp only [Oper.upon]
 refine .inl ?_
 unfold Oper.wp
 rw [hm _ _ _ rfl rfl]
 simp only [Oper.upon]
 refine .inl ?_
 unfold Oper.wp
 rw [hq _ _ _ rfl rfl]
 simp only [Oper.upon]
 refine ⟨rfl,_,_,rfl,?_,mem_dead hhi hin m'⟩
 rw [hpos]
 exact ⟨rfl,rfl⟩
end Go.Proofs.Tryz
