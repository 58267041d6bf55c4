import Derived.Test.YtckddobnichkhaaGreatDoorNxs
import Derived.Test.YtckddobnichkhaaGreatDoorAbD
import Derived.Tactics
import Derived.Tactics2
import Derived.Defers
import Derived.Recover
import Derived.Laws.Pointers
import Derived.Test.YtckddobnichkhaaGreatDoorPrj
import Derived.Test.YtckddobnichkhaaGreatDoorCpr
import Derived.Test.YtckddobnichkhaaGreatDoorUna
import Derived.Test.YtckddobnichkhaaGreatDoorQRqu
set_option linter.all false
/- The program's scanner: the tokens of a text. -/
namespace Go.Proofs.Tryz
open Go.Ab
set_option maxRecDepth 100000
set_option maxHeartbeats 4000000
theorem scan_end {s:List UInt8} {a:Nat} (h:skipB s a=s.length):(scanT s a).kd=5∧(scanT s a).rw=[]∧(scanT s a).fr=s.length∧(scanT s a).ends=true:=by
 have hd:s.drop s.length=[]:=List.drop_length
 refine ⟨?_,?_,h,?_⟩
 ·show (lexR (s.drop (skipB s a))).1=5
  rw [h,hd]; rfl
 ·show (s.drop (skipB s a)).take _=[]
  rw [h,hd]; rfl
 ·show ((lexR (s.drop (skipB s a))).1==0||(lexR (s.drop (skipB s a))).1==5)=true
  rw [h,hd]; rfl
theorem p_scan (s:List UInt8) (hs:s.length≤5000):Cf Es 20 [.d (.str s)] [] (.d (.sl ((toks s).map tokC))) []:=by
 refine cf_intro mixs (fn:=Tryz.f20) (by kernel_rfl) rfl (by kernel_rfl) (by decide) (by simp) ?_
 simp <;> (repeat' (first | contradiction | exact .of (by kernel_rfl) | refine And.intro ?_ ?_ | intro _ | (refine agrd_cases (fun h=>?_) (fun h=>?_) <;> (have h':=h; (try simp at h'); first | done | simp [h,h'] | simp))))
 refine aloopT mixs (by decide) (fun y:Nat×List Tk=>{ s:=mkS [(0,.d (.str s)),(3,.ref 900 0 y.2.length 3),(4,.d (.int .i64 y.1))],b:=mkB [(900,900,.arr 58 3 (y.2.map tokC) false)] })
  (fun y=>y.1≤s.length∧y.2.length≤y.1∧∃ k,s.length+1≤k+y.1∧toks s=y.2++tokF s k y.1) (fun y=>s.length - y.1) (0,[]) ⟨by simp,by simp,s.length+1,by simp,rfl⟩
  (sub_mkn 3 900 58 3 (by simp) (by simp) (by decide) (by decide) _ [(900,900,_)] ⟨by simp,by simp,by simp [renOf,Blk.live,upd],by simp⟩ (by simp [renOf,upd])) ?_
 rintro ⟨a,L⟩ ⟨ha,hL,k,hk,hto⟩
 simp only at ha hL hk hto
 obtain ⟨k,rfl⟩:∃ z,k=z+1:=⟨k - 1,by omega⟩
 have hrun:=ups (p_run 30 blankB p_space (s.drop a) (by simp; omega))
 have hsk:=skip_le ha
 have hskd:skipB s a=a+((s.drop a).takeWhile blankB).length:=rfl
 generalize ((s.drop a).takeWhile blankB).length=n at *
 have hwr:=wrap_in (n:=(a:Int)+(n:Int)) (by omega) (by omega)
 have hal:(a:Int)≤(s.length:Int):=by omega
 have hbb:(L.length+1)*32≤140737488355328:=by omega
 have hb2:L.length≤9223372036854775806:=by omega
 simp [hal,ha] <;> (repeat' (first | contradiction | exact .of (by kernel_rfl) | refine And.intro ?_ ?_ | intro _ | (refine agrd_cases (fun h=>?_) (fun h=>?_) <;> (have h':=h; (try simp at h'); first | done | simp [h,h',hal,ha] | simp [hal,ha]))))
 refine acallT_plain hrun (by simp) ?_
 obtain ⟨a',ha'⟩:∃ a',a'=skipB s a:=⟨_,rfl⟩
 have hz:(a:Int)+(n:Int)=a':=by omega
 have hz':a+n=a':=by omega
 rw [hz] at hwr
 rw [tokF] at hto
 by_cases he:a'=s.length
 ·obtain ⟨k5,rw5,fr5,e5⟩:=scan_end (ha' ▸ he)
  rw [if_pos e5] at hto
  have heI:(a:Int)+(n:Int)=(s.length:Int):=by omega
  have hwr2:IntKind.i64.wrap (s.length:Int)=(s.length:Int):=wrap_in (by omega) (by omega)
  simp [heI,hwr2,hbb,hb2] <;> (repeat' (first | contradiction | exact .of (by kernel_rfl) | refine And.intro ?_ ?_ | intro _ | (refine agrd_cases (fun h=>?_) (fun h=>?_) <;> (have h':=h; (try simp at h'); first | done | simp [h,h',heI,hwr2,hbb,hb2] | simp [heI,hwr2,hbb,hb2]))))
  all_goals (rw [hto,List.take_of_length_le (by simp)]; simp [tokC,k5,rw5,fr5])
 ·have heI:¬ (a':Int)=(s.length:Int):=by omega
  obtain ⟨c,q,hcq⟩:∃ c q,s.drop a'=c::q:=by
   cases hd:s.drop a' with
   | nil=>have:=List.drop_eq_nil_iff.1 hd; omega
   | cons c q=>exact ⟨c,q,rfl⟩
  have hnx:=p_next c q (by rw [← hcq]; simp; omega)
  have hal':(a':Int)≤(s.length:Int):=by omega
  have hal2:a'≤s.length:=by omega
  simp [hz,hwr,heI,hal',hal2] <;> (repeat' (first | contradiction | exact .of (by kernel_rfl) | refine And.intro ?_ ?_ | intro _ | (refine agrd_cases (fun h=>?_) (fun h=>?_) <;> (have h':=h; (try simp at h'); first | done | simp [h,h',hz,hwr,heI,hal',hal2] | simp [hz,hwr,heI,hal',hal2]))))
  refine acallT_plain hnx (by simp [hcq]) ?_
  have hto2:=scan_to ha
  have hk5:(lexR (c::q)).1 ≠ 5:=lex_kd
  have htk:scanT s a=⟨(lexR (c::q)).1,(c::q).take (lexR (c::q)).2.1,(lexR (c::q)).2.2.1,(lexR (c::q)).2.2.2,a',a'+(lexR (c::q)).2.1⟩:=by
   unfold scanT
   rw [← ha',hcq]
  rw [htk] at hto hto2
  unfold nxA
  generalize lexR (c::q)=x at *
  obtain ⟨kd,n2,tx,nn⟩:=x
  simp only at hto hto2 hk5 htk
  have hwr3:=wrap_in (n:=(a':Int)+(n2:Int)) (by omega) (by omega)
  obtain ⟨z,hz2⟩:∃ z,z=a'+n2:=⟨_,rfl⟩
  have hz3:(a':Int)+(n2:Int)=z:=by omega
  rw [hz3] at hwr3
  have hlo:(a':Int)≤(z:Int):=by omega
  have hhi:(z:Int)≤(s.length:Int):=by omega
  have htx:List.drop a' (List.take z s)=List.take n2 (c::q):=by rw [hz2,← hcq,List.drop_take,Nat.add_sub_cancel_left]
  by_cases h0:kd=0
  ·have hen:Tk.ends ⟨kd,(c::q).take n2,tx,nn,a',a'+n2⟩=true:=by simp [Tk.ends,h0]
   rw [if_pos hen] at hto
   simp [hz3,hwr3,hlo,hhi,hbb,hb2,h0] <;> (repeat' (first | contradiction | exact .of (by kernel_rfl) | refine And.intro ?_ ?_ | intro _ | (refine agrd_cases (fun h=>?_) (fun h=>?_) <;> (have h':=h; (try simp at h'); first | done | simp [h,h',hz3,hwr3,hlo,hhi,hbb,hb2,h0] | simp [hz3,hwr3,hlo,hhi,hbb,hb2,h0]))))
   all_goals (rw [hto,List.take_of_length_le (by simp)]; simp [tokC,h0,htx])
  ·have hen:Tk.ends ⟨kd,(c::q).take n2,tx,nn,a',a'+n2⟩=false:=by simp [Tk.ends,h0,hk5]
   rw [if_neg (by simp [hen])] at hto
   simp [hz3,hwr3,hlo,hhi,hbb,hb2,h0] <;> (repeat' (first | contradiction | exact .of (by kernel_rfl) | refine And.intro ?_ ?_ | intro _ | (refine agrd_cases (fun h=>?_) (fun h=>?_) <;> (have h':=h; (try simp at h'); first | done | simp [h,h',hz3,hwr3,hlo,hhi,hbb,hb2,h0] | simp [hz3,hwr3,hlo,hhi,hbb,hb2,h0]))))
   obtain ⟨h21,h22,h23,h24⟩:=hto2
   have h25:=h24 hen
   refine ⟨(z,L++[⟨kd,(c::q).take n2,tx,nn,a',a'+n2⟩]),⟨by simp only; omega,by simp; omega,k,by simp only; omega,by rw [hto,hz2]; simp⟩,?_,by simp only; omega⟩
   exact sub_mk _ [(900,40,_)] ⟨by simp,by simp,by simp [renOf,Blk.live,tokC,hk5,htx],by simp⟩ (by simp [renOf])
end Go.Proofs.Tryz
/- The deferred call of Read: it takes up a failure, or finds nothing. -/
namespace Go.Proofs.Tryz
open Go.RowKit
set_option maxRecDepth 100000
set_option maxHeartbeats 4000000
theorem catch_idle (p q:Addr) (w:World) :
  CallsD Tryz.prog 19 #[.pointer (some p),.pointer (some q)] .returning w fun e u' w'=>e=.returned (.tuple #[])∧u'=.returning∧w'=w:=by
 refine callsD_of_wpS Tryz.func19 rfl fun c₀ cs hu=>?_
 simp only [Tryz.ntmps19,List.size_toArray,List.length_cons,List.length_nil,Nat.reduceAdd,Nat.reduceSub,Array.replicate_succ,Array.replicate_zero,List.push_toArray,List.append_toArray,List.nil_append,List.cons_append]
 apply wpS_seq
 apply wpS_region
 simp [wpOpsS,go_sem,recoverD,hu,Exit.thenS]
 apply wpS_seq
 apply wpS_region
 simp [wpOpsS,go_sem,Exit.thenS]
 refine wpS_cond (t:=false) (by simp [Act.eval]) ?_
 simp only [Bool.false_eq_true,if_false]
 refine wpS_of_wp (wp_skip ?_)
 cases c₀
 simp_all [bodyPostS,results,Tryz.results19]
theorem catch_pan (p q:Addr) (n x y:Int) (older:List PanicEntry) (w:World) (hp:w.cell? p=some (.int .i64 x)) (hq:w.cell? q=some (.int .i64 y)) (zp:w.frozen? p=false) (zq:w.frozen? q=false) (hq2:(w.setCell p (.int .i64 n)).cell? q=some (.int .i64 y)) (zq2:(w.setCell p (.int .i64 n)).frozen? q=false) :
  CallsD Tryz.prog 19 #[.pointer (some p),.pointer (some q)] (.panicking ({ v:=.iface 52 (.agg #[.int .i64 n]),recovered:=false }::older)) w fun e u' w' =>
   e=.returned (.tuple #[])∧u'=.panicking ({ v:=.iface 52 (.agg #[.int .i64 n]),recovered:=true }::older)∧w'=(w.setCell p (.int .i64 n)).setCell q (.int .i64 2):=by
 refine callsD_of_wpS Tryz.func19 rfl fun c₀ cs hu=>?_
 simp only [Tryz.ntmps19,List.size_toArray,List.length_cons,List.length_nil,Nat.reduceAdd,Nat.reduceSub,Array.replicate_succ,Array.replicate_zero,List.push_toArray,List.append_toArray,List.nil_append,List.cons_append]
 apply wpS_seq
 apply wpS_region
 simp [wpOpsS,go_sem,recoverD,hu,Exit.thenS]
 apply wpS_seq
 apply wpS_region
 simp [wpOpsS,go_sem,Exit.thenS]
 refine wpS_cond (t:=true) (by simp [Act.eval]) ?_
 simp only [if_true]
 apply wpS_region
 have hta:∀ w':World,(Instr.typeAssert (.iface 52 (.agg #[.int .i64 n])) 20 52 false).run Tryz.prog w'=.ok (.agg #[.int .i64 n]) w':=fun w'=>by kernel_rfl
 have hfd:∀ w':World,(Instr.field 52 (.agg #[.int .i64 n]) 0).run Tryz.prog w'=.ok (.int .i64 n) w':=fun w'=>by kernel_rfl
 simp [wpOpsS,go_sem,hp,hq,zp,zq,hta,hfd,hq2,zq2,bodyPostS,results,Tryz.results19]
end Go.Proofs.Tryz
/- The program reads terms as the plain reader does. -/
namespace Go.Proofs.Tryz
open Go.Ab
set_option maxRecDepth 100000
set_option maxHeartbeats 4000000
def fnL:Nat→FuncId
 | 0=>12
 | 1=>24
 | 2=>34
 | 3=>49
 | 4=>64
 | 5=>76
 | 6=>87
 | _=>99
theorem prim_num {n:Nat} {T l:List Tk} (ha:At T l) (hn:isNum l=true):parP (n+1) 7 l=.ok (.mk 2 0 (hdT l).n [] [] [],l.tail):=by
 cases l with
 | nil=>exact absurd rfl ha.ne
 | cons t r =>
   have hk:t.kd=2:=by simp [isNum] at hn; exact hn.1
   show (if t.kd=2 then _ else _)=_
   rw [if_pos hk]
   rfl
theorem p_par {fD:Nat→D} (hF:FailOk fD) {T:List Tk} (hV:okT T) (hT:T.length≤10000):∀ (n lvl:Nat) (l:List Tk),lvl≤7→At T l→need lvl l≤n→CfO Es (fnL lvl) [.ptr 1000000 0 0] [rdB T l] (outS fD T (parP n lvl l))
 | 0,lvl,l,hv,ha,hn=>by
   have:=List.length_pos_iff.2 ha.ne
   unfold need at hn
   omega
 | n+1,lvl,l,hv,ha,hn=>by
   have hpos:=List.length_pos_iff.2 ha.ne
   have rl:∀ (k L:Nat),k≤7→9*L+8 - k≤n→Rule Es fD T L (fnL k) (parP n k):=fun k L hk hL =>
    ⟨fun l' ha' hl'=>p_par hF hV hT n k l' hk ha' (by unfold need; omega),fun l'=>par_sfx n k l',fun l' t m ho hp=>par_okE n k ho hp⟩
   unfold need at hn
   match lvl,hv,hn with
   | 0,_,hn=>rw [parP]; exact p_term (rl 1 l.length (by omega) (by omega)) hT ha (Nat.le_refl _)
   | 1,_,hn=>rw [parP]; exact p_and (rl 2 l.length (by omega) (by omega)) hT ha (Nat.le_refl _)
   | 2,_,hn=>rw [parP]; exact p_not (L:=l.length - 1) (rl 2 _ (by omega) (by omega)) (rl 3 _ (by omega) (by omega)) hT ha (by omega)
   | 3,_,hn=>rw [parP]; exact p_comparison (L:=l.length - 1) hF (rl 4 _ (by omega) (by omega)) (rl 0 _ (by omega) (by omega)) hT ha (by omega)
   | 4,_,hn=>rw [parP]; exact p_sum (rl 5 l.length (by omega) (by omega)) hT ha (Nat.le_refl _)
   | 5,_,hn=>rw [parP]; exact p_product (rl 6 l.length (by omega) (by omega)) hT ha (Nat.le_refl _)
   | 6,_,hn =>
     rw [parP]
     obtain ⟨k,rfl⟩:∃ k,n=k+1:=⟨n - 1,by omega⟩
     exact p_unary (L:=l.length - 1) (rl 6 _ (by omega) (by omega)) (rl 7 _ (by omega) (by omega)) (fun l' ha' _ hn'=>prim_num ha' hn') hT ha (by omega)
   | 7,_,hn =>
     have e:parP (n+1) 7 l=priS (parP n 0) l:=by cases l <;> rfl
     rw [e]
     cases l with
     | nil=>exact absurd rfl ha.ne
     | cons t r =>
       have hlen:(t::r).length=r.length+1:=rfl
       by_cases k2:t.kd=2
       ·rw [priS,if_pos k2]
        exact p_prim_num hV hT ha k2
       by_cases k3:t.kd=3
       ·rw [priS,if_neg k2,if_pos k3]
        exact p_prim_txt hV hT ha k3
       exact p_prim_rest hF (rl 0 r.length (by omega) (by omega)) hT ha (Nat.le_refl _) k2 k3
   | k+8,hv,_=>omega
end Go.Proofs.Tryz
/- Depths of terms. -/
namespace Go.Proofs.Tryz
open Go.Ab
theorem most_step {l:List Int} {i:Nat} {x:Int} (h:l[i]?=some x):(if most (l.take i)<x then x else most (l.take i))=most (l.take (i+1)):=by
 rw [most_take h]
 split <;> omega
theorem most_all {l:List Int} {i:Nat} (h:l.length≤i):most (l.take i)=most l:=by rw [List.take_of_length_le h]
theorem s_termDepth:∀ (m:Nat) (x:Tm),SizeOf.sizeOf x<m→x.fits→Cf En 13 [x.a] [] (.d (.int .i64 x.dep)) []
 | 0,_,h,_=>absurd h (by omega)
 | m+1,.mk o y n t q ks,hm,hfit=>by
   refine cf_intro mix (fn:=Tryz.f13) (by kernel_rfl) rfl (by kernel_rfl) (by decide) (by simp) ?_
   rw [Tm.fits] at hfit
   have hq:=fun (x:Tm) (hx:x∈ks)=>s_termDepth m x (by
    have:=Tm.kid_lt (e:=.mk o y n t q ks) (k:=x) hx
    omega) (tmsFits_get ks hfit.2 x hx)
   have hl:=hfit.1
   rw [Tm.dep,tmsDep_most]
   simp [Tm.a,Tm.c,tmsC_map]
   refine ⟨.of (by kernel_rfl),.of (by kernel_rfl),.of (by kernel_rfl),?_⟩
   refine aloopT mix (by decide) (fun i:Nat=>{ s:=mkS [(1,.ptr 1 0 0),(3,.d (.int .i64 (most ((ks.map Tm.dep).take i)))),(7,.d (.sl (ks.map Tm.c))),(8,.d (.int .i64 ks.length)),(9,.d (.int .i64 i))],b:=mkB [(1,1,.var (Tm.a (.mk o y n t q ks)).cells)] }) (fun i:Nat=>i≤ks.length) (fun i=>ks.length - i) 0 (by simp) (sub_mk _ _ ⟨by simp,by simp,by simp [renOf,Blk.live,Tm.a,Tm.c,tmsC_map],by simp⟩ (by simp [renOf,most])) ?_
   rintro i hi
   by_cases hlt:i<ks.length
   ·have hlt':(i:Int)<ks.length:=by omega
    have hg:ks[i]?=some ks[i]:=List.getElem?_eq_getElem hlt
    have hk:=most_step (l:=ks.map Tm.dep) (i:=i) (x:=ks[i].dep) (by rw [List.getElem?_map,hg]; rfl)
    have c1:=Tm.clen ks[i]
    have k1:=Tm.ctake ks[i]
    simp [Tm.a,Tm.c,tmsC_map,hlt,hlt',hg,c1,k1]
    refine ⟨.of (by kernel_rfl),.of (by kernel_rfl),?_⟩
    refine acallT_plain (hq ks[i] (List.getElem_mem hlt)) (by simp [Tm.a]) ?_
    simp
    refine ⟨.of (by kernel_rfl),.of (by kernel_rfl),i+1,hlt,?_,?_⟩
    ·refine sub_mk _ [(1,1,_)] ⟨by simp,by simp,by simp [renOf,Blk.live,Tm.a,Tm.c,tmsC_map],by simp⟩ ?_
     simp [renOf]
     exact ⟨hk,wrap_in (by omega) (by omega)⟩
    ·simp; omega
   ·have hlt':¬ (i:Int)<ks.length:=by omega
    have hall:=most_all (l:=ks.map Tm.dep) (i:=i) (by simp; omega)
    simp [Tm.a,Tm.c,tmsC_map,hlt,hlt',up1,hall]
    exact ⟨.of (by kernel_rfl),.of (by kernel_rfl)⟩
theorem r_termDepth:∀ (m:Nat) (x:Tm),SizeOf.sizeOf x<m→x.fits→Cf En 17 [x.a] [] (.d (.int .i64 x.dep)) []
 | 0,_,h,_=>absurd h (by omega)
 | m+1,.mk o y n t q ks,hm,hfit=>by
   refine cf_intro mix (fn:=Tryz.f17) (by kernel_rfl) rfl (by kernel_rfl) (by decide) (by simp) ?_
   rw [Tm.fits] at hfit
   have hq:=fun (x:Tm) (hx:x∈ks)=>r_termDepth m x (by
    have:=Tm.kid_lt (e:=.mk o y n t q ks) (k:=x) hx
    omega) (tmsFits_get ks hfit.2 x hx)
   have hl:=hfit.1
   rw [Tm.dep,tmsDep_most]
   simp [Tm.a,Tm.c,tmsC_map]
   refine ⟨.of (by kernel_rfl),.of (by kernel_rfl),.of (by kernel_rfl),?_⟩
   refine aloopT mix (by decide) (fun i:Nat=>{ s:=mkS [(1,.ptr 1 0 0),(3,.d (.int .i64 (most ((ks.map Tm.dep).take i)))),(4,.d (.int .i64 i))],b:=mkB [(1,1,.var (Tm.a (.mk o y n t q ks)).cells)] }) (fun i:Nat=>i≤ks.length) (fun i=>ks.length - i) 0 (by simp) (sub_mk _ _ ⟨by simp,by simp,by simp [renOf,Blk.live,Tm.a,Tm.c,tmsC_map],by simp⟩ (by simp [renOf,most])) ?_
   rintro i hi
   by_cases hlt:i<ks.length
   ·have hlt':(i:Int)<ks.length:=by omega
    have hg:ks[i]?=some ks[i]:=List.getElem?_eq_getElem hlt
    have hk:=most_step (l:=ks.map Tm.dep) (i:=i) (x:=ks[i].dep) (by rw [List.getElem?_map,hg]; rfl)
    have c1:=Tm.clen ks[i]
    have k1:=Tm.ctake ks[i]
    simp [Tm.a,Tm.c,tmsC_map,hlt,hlt',hg,c1,k1]
    refine ⟨.of (by kernel_rfl),?_⟩
    refine acallT_plain (hq ks[i] (List.getElem_mem hlt)) (by simp [Tm.a]) ?_
    simp
    refine ⟨.of (by kernel_rfl),.of (by kernel_rfl),i+1,hlt,?_,?_⟩
    ·refine sub_mk _ [(1,1,_)] ⟨by simp,by simp,by simp [renOf,Blk.live,Tm.a,Tm.c,tmsC_map],by simp⟩ ?_
     simp [renOf]
     exact ⟨hk,wrap_in (by omega) (by omega)⟩
    ·simp; omega
   ·have hlt':¬ (i:Int)<ks.length:=by omega
    have hall:=most_all (l:=ks.map Tm.dep) (i:=i) (by simp; omega)
    simp [Tm.a,Tm.c,tmsC_map,hlt,hlt',up1,hall]
    exact ⟨.of (by kernel_rfl),.of (by kernel_rfl)⟩
end Go.Proofs.Tryz
