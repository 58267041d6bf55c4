import Derived.Test.YthpmjipkofbeiaaGreatDoorNxs
import Derived.Test.YthpmjipkofbeiaaGreatDoorTLvl
import Derived.Test.YthpmjipkofbeiaaGreatDoorTUna
import Derived.Test.YthpmjipkofbeiaaGreatDoorVpp
set_option linter.all false
namespace Go.Proofs.Tryz
open Go.Ab
set_option maxRecDepth 100000
set_option maxHeartbeats 8000000
theorem scan_end {s:List UInt8} {a:Nat} (h:skipB s a=s.length):(scanT s a).kd=5∧(scanT s a).rw=[]∧(scanT s a).fr=s.length∧(scanT s a).ends=true:=by
 have hd:s.drop s.length=[]:=List.drop_length
 refine ⟨?_,?_,h,?_⟩
 ·show (lexR (s.drop (skipB s a))).1=5
  rw [h,hd]; rfl
 ·show (s.drop (skipB s a)).take _=[]
  rw [h,hd]; rfl
 ·show ((lexR (s.drop (skipB s a))).1==0||(lexR (s.drop (skipB s a))).1==5)=true
  rw [h,hd]; rfl
theorem p_scan (s:List UInt8) (hs:s.length≤5000):Cf Es 60 [.d (.str s)] [] (.d (.sl ((toks s).map tokC))) []:=by
 refine cf_intro mixs (fn:=Tryz.f60) (by kernel_rfl) rfl (by kernel_rfl) (by decide) (by simp) ?_
 simp<;>(repeat' first|contradiction|exact .ok|apply And.intro|intro _|(refine gc (fun h=>?_) (fun h=>?_)<;>(have h':=h;(try simp at h');first|done|simp[h,h']|simp)))
 refine aloopT mixs (by decide) (fun y:Nat×List Tk=>{ s:=mkS [(0,.d (.str s)),(3,.ref 900 0 y.2.length 3),(4,.d (.int .i64 y.1))],b:=mkB [(900,900,.arr 103 3 (y.2.map tokC) false)] })
  (fun y=>y.1≤s.length∧y.2.length≤y.1∧∃ k,s.length+1≤k+y.1∧toks s=y.2++tokF s k y.1) (fun y=>s.length - y.1) (0,[]) ⟨by simp,by simp,s.length+1,by simp,rfl⟩
  (sub_mkn 3 900 103 3 (by simp) (by simp) (by decide) (by decide) _ [(900,900,_)] ⟨by simp,by simp,by simp [renOf,Blk.live,upd],by simp⟩ (by simp [renOf,upd])) ?_
 rintro ⟨a,L⟩ ⟨ha,hL,k,hk,hto⟩
 simp only at ha hL hk hto
 obtain ⟨k,rfl⟩:∃ z,k=z+1:=⟨k - 1,by omega⟩
 have hrun:=ups (p_run 98 blankB p_space (s.drop a) (by simp; omega))
 have hsk:=skip_le ha
 have hskd:skipB s a=a+((s.drop a).takeWhile blankB).length:=rfl
 generalize ((s.drop a).takeWhile blankB).length=n at *
 have hwr:=wrap_in (n:=(a:Int)+(n:Int)) (by omega) (by omega)
 have hal:(a:Int)≤(s.length:Int):=by omega
 have hbb:(L.length+1)*32≤140737488355328:=by omega
 have hb2:L.length≤9223372036854775806:=by omega
 simp [hal,ha]<;>(repeat' first|contradiction|exact .ok|apply And.intro|intro _|(refine gc (fun h=>?_) (fun h=>?_)<;>(have h':=h;(try simp at h');first|done|simp[h,h',hal,ha]|simp[hal,ha])))
 refine acallT_plain hrun (by simp) ?_
 obtain ⟨a',ha'⟩:∃ a',a'=skipB s a:=⟨_,rfl⟩
 have hz:(a:Int)+(n:Int)=a':=by omega
 have hz':a+n=a':=by omega
 rw [hz] at hwr
 rw [tokF] at hto
 by_cases he:a'=s.length
 ·obtain ⟨k5,rw5,fr5,e5⟩:=scan_end (ha' ▸ he)
  rw [if_pos e5] at hto
  have heI:(a:Int)+(n:Int)=(s.length:Int):=by omega
  have hwr2:IntKind.i64.wrap (s.length:Int)=(s.length:Int):=wrap_in (by omega) (by omega)
  simp [heI,hwr2,hbb,hb2]<;>(repeat' first|contradiction|exact .ok|apply And.intro|intro _|(refine gc (fun h=>?_) (fun h=>?_)<;>(have h':=h;(try simp at h');first|done|simp[h,h',heI,hwr2,hbb,hb2]|simp[heI,hwr2,hbb,hb2])))
  all_goals (rw [hto,List.take_of_length_le (by simp)]; simp [tokC,k5,rw5,fr5])
 ·have heI:¬ (a':Int)=(s.length:Int):=by omega
  obtain ⟨c,q,hcq⟩:∃ c q,s.drop a'=c::q:=by
   cases hd:s.drop a' with
   | nil=>have:=List.drop_eq_nil_iff.1 hd; omega
   | cons c q=>exact ⟨c,q,rfl⟩
  have hnx:=p_next c q (by rw [← hcq]; simp; omega)
  have hal':(a':Int)≤(s.length:Int):=by omega
  have hal2:a'≤s.length:=by omega
  simp [hz,hwr,heI,hal',hal2]<;>(repeat' first|contradiction|exact .ok|apply And.intro|intro _|(refine gc (fun h=>?_) (fun h=>?_)<;>(have h':=h;(try simp at h');first|done|simp[h,h',hz,hwr,heI,hal',hal2]|simp[hz,hwr,heI,hal',hal2])))
  refine acallT_plain hnx (by simp [hcq]) ?_
  have hto2:=scan_to ha
  have hk5:(lexR (c::q)).1 ≠ 5:=lex_kd
  have htk:scanT s a=⟨(lexR (c::q)).1,(c::q).take (lexR (c::q)).2.1,(lexR (c::q)).2.2.1,(lexR (c::q)).2.2.2,a',a'+(lexR (c::q)).2.1⟩:=by
   unfold scanT
   rw [← ha',hcq]
  rw [htk] at hto hto2
  unfold nxA
  generalize lexR (c::q)=x at *
  obtain ⟨kd,n2,tx,nn⟩:=x
  simp only at hto hto2 hk5 htk
  have hwr3:=wrap_in (n:=(a':Int)+(n2:Int)) (by omega) (by omega)
  obtain ⟨z,hz2⟩:∃ z,z=a'+n2:=⟨_,rfl⟩
  have hz3:(a':Int)+(n2:Int)=z:=by omega
  rw [hz3] at hwr3
  have hlo:(a':Int)≤(z:Int):=by omega
  have hhi:(z:Int)≤(s.length:Int):=by omega
  have htx:List.drop a' (List.take z s)=List.take n2 (c::q):=by rw [hz2,← hcq,List.drop_take,Nat.add_sub_cancel_left]
  by_cases h0:kd=0
  ·have hen:Tk.ends ⟨kd,(c::q).take n2,tx,nn,a',a'+n2⟩=true:=by simp [Tk.ends,h0]
   rw [if_pos hen] at hto
   simp [hz3,hwr3,hlo,hhi,hbb,hb2,h0]<;>(repeat' first|contradiction|exact .ok|apply And.intro|intro _|(refine gc (fun h=>?_) (fun h=>?_)<;>(have h':=h;(try simp at h');first|done|simp[h,h',hz3,hwr3,hlo,hhi,hbb,hb2,h0]|simp[hz3,hwr3,hlo,hhi,hbb,hb2,h0])))
   all_goals (rw [hto,List.take_of_length_le (by simp)]; simp [tokC,h0,htx])
  ·have hen:Tk.ends ⟨kd,(c::q).take n2,tx,nn,a',a'+n2⟩=false:=by simp [Tk.ends,h0,hk5]
   rw [if_neg (by simp [hen])] at hto
   simp [hz3,hwr3,hlo,hhi,hbb,hb2,h0]<;>(repeat' first|contradiction|exact .ok|apply And.intro|intro _|(refine gc (fun h=>?_) (fun h=>?_)<;>(have h':=h;(try simp at h');first|done|simp[h,h',hz3,hwr3,hlo,hhi,hbb,hb2,h0]|simp[hz3,hwr3,hlo,hhi,hbb,hb2,h0])))
   obtain ⟨h21,h22,h23,h24⟩:=hto2
   have h25:=h24 hen
   refine ⟨(z,L++[⟨kd,(c::q).take n2,tx,nn,a',a'+n2⟩]),⟨by simp only; omega,by simp; omega,k,by simp only; omega,by rw [hto,hz2]; simp⟩,?_,by simp only; omega⟩
   exact sub_mk _ [(900,40,_)] ⟨by simp,by simp,by simp [renOf,Blk.live,tokC,hk5,htx],by simp⟩ (by simp [renOf])
section
variable {fD:Nat→D} {T l:List Tk} {L:Nat} {p:List Tk→Res Tm}
theorem p_aggregate (hF:FailOk fD) (hp:Rule Es fD T L 31 p) (hT:T.length≤10000) (ha:At T l) (hl:l.length≤L) (i:Nat) (hi:i<4) :
  CfO Es 219 [.ptr 1000000 0 0,.d (.int .i64 i)] [rdB T l] (outS fD T (aggS p i l)):=by
 generalize ho:outS fD T (aggS p i l)=o
 unfold aggS at ho
 refine cfO_intro mixs (fn:=Tryz.f219) (by kernel_rfl) rfl (by kernel_rfl) (by decide) o (by simp) (by simp [rdB]) ?_
 rcases exp_step hF ha hT [wOpen] (by decide) with ⟨e,he,hc⟩ | ⟨l1,he,h1,hl1,hc⟩
 ·rw [he] at ho
  subst ho
  rcases (show i=0∨i=1∨i=2∨i=3 by omega) with rfl | rfl | rfl | rfl
  all_goals
   simp<;>(repeat' first|contradiction|exact .ok|apply And.intro|intro _|(refine gc (fun h=>?_) (fun h=>?_)<;>(have h':=h;(try simp at h');first|done|simp[h,h']|simp)))
   exact acallP_pan [1000000] (hc) (by simp) (by simp) (by simp) (by simp) (by kernel_rfl)
 rw [he,bind1_ok] at ho
 by_cases hi0:i=0
 ·subst hi0
  simp only [true_and] at ho
  cases hs:isW wStar l1 with
  | true =>
    rw [hs,if_pos rfl] at ho
    simp<;>(repeat' first|contradiction|exact .ok|apply And.intro|intro _|(refine gc (fun h=>?_) (fun h=>?_)<;>(have h':=h;(try simp at h');first|done|simp[h,h']|simp)))
    refine acallP_of (acallT_hand [1000000] (hc) (by simp) (by simp) (by simp) (by simp) (by simp) ?_)
    simp<;>(repeat' first|contradiction|exact .ok|apply And.intro|intro _|(refine gc (fun h=>?_) (fun h=>?_)<;>(have h':=h;(try simp at h');first|done|simp[h,h']|simp)))
    refine acallP_of (acallT_hand [1000000] (take_yes h1 hT hs) (by simp) (by simp) (by simp) (by simp) (by simp) ?_)
    simp<;>(repeat' first|contradiction|exact .ok|apply And.intro|intro _|(refine gc (fun h=>?_) (fun h=>?_)<;>(have h':=h;(try simp at h');first|done|simp[h,h']|simp)))
    rcases exp_step hF (h1.tl hs) hT [wShut] (by decide) with ⟨e,he3,hc3⟩ | ⟨l4,he3,h4,hl4,hc3⟩
    ·rw [he3] at ho
     subst ho
     exact acallP_pan [1000000] (hc3) (by simp) (by simp) (by simp) (by simp) (by kernel_rfl)
    rw [he3,bind1_ok] at ho
    subst ho
    refine acallP_of (acallT_hand [1000000] (hc3) (by simp) (by simp) (by simp) (by simp) (by simp) ?_)
    simp<;>(repeat' first|contradiction|exact .ok|apply And.intro|intro _|(refine gc (fun h=>?_) (fun h=>?_)<;>(have h':=h;(try simp at h');first|done|simp[h,h']|simp)))
    refine acallP_of (acallT_plain (ups (p_made 41 [])) (by simp) ?_)
    simp only [outS]
    simp [mkT,Tm.c,tmsC]<;>(repeat' first|contradiction|exact .ok|apply And.intro|intro _|(refine gc (fun h=>?_) (fun h=>?_)<;>(have h':=h;(try simp at h');first|done|simp[h,h',mkT,Tm.c,tmsC]|simp[mkT,Tm.c,tmsC])))
  | false =>
    rw [hs,if_neg (by simp)] at ho
    cases hd:isW wDistinct l1 with
    | true =>
      rw [hd,if_pos rfl] at ho
      simp<;>(repeat' first|contradiction|exact .ok|apply And.intro|intro _|(refine gc (fun h=>?_) (fun h=>?_)<;>(have h':=h;(try simp at h');first|done|simp[h,h']|simp)))
      refine acallP_of (acallT_hand [1000000] (hc) (by simp) (by simp) (by simp) (by simp) (by simp) ?_)
      simp<;>(repeat' first|contradiction|exact .ok|apply And.intro|intro _|(refine gc (fun h=>?_) (fun h=>?_)<;>(have h':=h;(try simp at h');first|done|simp[h,h']|simp)))
      refine acallP_of (acallT_hand [1000000] (take_no h1 hT hs) (by simp) (by simp) (by simp) (by simp) (by simp) ?_)
      simp<;>(repeat' first|contradiction|exact .ok|apply And.intro|intro _|(refine gc (fun h=>?_) (fun h=>?_)<;>(have h':=h;(try simp at h');first|done|simp[h,h']|simp)))
      refine acallP_of (acallT_hand [1000000] (take_yes h1 hT hd) (by simp) (by simp) (by simp) (by simp) (by simp) ?_)
      simp<;>(repeat' first|contradiction|exact .ok|apply And.intro|intro _|(refine gc (fun h=>?_) (fun h=>?_)<;>(have h':=h;(try simp at h');first|done|simp[h,h']|simp)))
      rcases hp.step (h1.tl hd) (by simp; omega) with ⟨e,he2,hc2⟩ | ⟨t,l2,he2,h2,hl2,hc2⟩
      ·rw [he2,bind2_err] at ho
       subst ho
       exact acallP_pan [1000000] (hc2) (by simp) (by simp) (by simp) (by simp) (by kernel_rfl)
      rw [he2,bind2_ok] at ho
      refine acallP_of (acallT_hand [1000000] (hc2) (by simp) (by simp) (by simp) (by simp) (by simp) ?_)
      simp<;>(repeat' first|contradiction|exact .ok|apply And.intro|intro _|(refine gc (fun h=>?_) (fun h=>?_)<;>(have h':=h;(try simp at h');first|done|simp[h,h']|simp)))
      refine acallP_of (acallT_plain (ups (p_made 41 [t])) (by simp) ?_)
      simp [mkT,Tm.c,tmsC]<;>(repeat' first|contradiction|exact .ok|apply And.intro|intro _|(refine gc (fun h=>?_) (fun h=>?_)<;>(have h':=h;(try simp at h');first|done|simp[h,h',mkT,Tm.c,tmsC]|simp[mkT,Tm.c,tmsC])))
      rcases exp_step hF h2 hT [wShut] (by decide) with ⟨e,he3,hc3⟩ | ⟨l4,he3,h4,hl4,hc3⟩
      ·rw [he3] at ho
       subst ho
       exact acallP_pan [1000000] (hc3) (by simp) (by simp) (by simp) (by simp) (by kernel_rfl)
      rw [he3,bind1_ok] at ho
      subst ho
      refine acallP_of (acallT_hand [1000000] (hc3) (by simp) (by simp) (by simp) (by simp) (by simp) ?_)
      simp only [outS]
      simp [mkT,Tm.c,tmsC]<;>(repeat' first|contradiction|exact .ok|apply And.intro|intro _|(refine gc (fun h=>?_) (fun h=>?_)<;>(have h':=h;(try simp at h');first|done|simp[h,h',mkT,Tm.c,tmsC]|simp[mkT,Tm.c,tmsC])))
    | false =>
      rw [hd,if_neg (by simp)] at ho
      simp<;>(repeat' first|contradiction|exact .ok|apply And.intro|intro _|(refine gc (fun h=>?_) (fun h=>?_)<;>(have h':=h;(try simp at h');first|done|simp[h,h']|simp)))
      refine acallP_of (acallT_hand [1000000] (hc) (by simp) (by simp) (by simp) (by simp) (by simp) ?_)
      simp<;>(repeat' first|contradiction|exact .ok|apply And.intro|intro _|(refine gc (fun h=>?_) (fun h=>?_)<;>(have h':=h;(try simp at h');first|done|simp[h,h']|simp)))
      refine acallP_of (acallT_hand [1000000] (take_no h1 hT hs) (by simp) (by simp) (by simp) (by simp) (by simp) ?_)
      simp<;>(repeat' first|contradiction|exact .ok|apply And.intro|intro _|(refine gc (fun h=>?_) (fun h=>?_)<;>(have h':=h;(try simp at h');first|done|simp[h,h']|simp)))
      refine acallP_of (acallT_hand [1000000] (take_no h1 hT hd) (by simp) (by simp) (by simp) (by simp) (by simp) ?_)
      simp<;>(repeat' first|contradiction|exact .ok|apply And.intro|intro _|(refine gc (fun h=>?_) (fun h=>?_)<;>(have h':=h;(try simp at h');first|done|simp[h,h']|simp)))
      rcases hp.step h1 (by omega) with ⟨e,he2,hc2⟩ | ⟨t,l2,he2,h2,hl2,hc2⟩
      ·rw [he2,bind2_err] at ho
       subst ho
       exact acallP_pan [1000000] (hc2) (by simp) (by simp) (by simp) (by simp) (by kernel_rfl)
      rw [he2,bind2_ok] at ho
      refine acallP_of (acallT_hand [1000000] (hc2) (by simp) (by simp) (by simp) (by simp) (by simp) ?_)
      simp<;>(repeat' first|contradiction|exact .ok|apply And.intro|intro _|(refine gc (fun h=>?_) (fun h=>?_)<;>(have h':=h;(try simp at h');first|done|simp[h,h']|simp)))
      refine acallP_of (acallT_plain (ups (p_made 41 [t])) (by simp) ?_)
      simp [mkT,Tm.c,tmsC]<;>(repeat' first|contradiction|exact .ok|apply And.intro|intro _|(refine gc (fun h=>?_) (fun h=>?_)<;>(have h':=h;(try simp at h');first|done|simp[h,h',mkT,Tm.c,tmsC]|simp[mkT,Tm.c,tmsC])))
      rcases exp_step hF h2 hT [wShut] (by decide) with ⟨e,he3,hc3⟩ | ⟨l4,he3,h4,hl4,hc3⟩
      ·rw [he3] at ho
       subst ho
       exact acallP_pan [1000000] (hc3) (by simp) (by simp) (by simp) (by simp) (by kernel_rfl)
      rw [he3,bind1_ok] at ho
      subst ho
      refine acallP_of (acallT_hand [1000000] (hc3) (by simp) (by simp) (by simp) (by simp) (by simp) ?_)
      simp only [outS]
      simp [mkT,Tm.c,tmsC,aggF]<;>(repeat' first|contradiction|exact .ok|apply And.intro|intro _|(refine gc (fun h=>?_) (fun h=>?_)<;>(have h':=h;(try simp at h');first|done|simp[h,h',mkT,Tm.c,tmsC,aggF]|simp[mkT,Tm.c,tmsC,aggF])))
 ·rw [if_neg (by simp [hi0]),if_neg (by simp [hi0])] at ho
  rcases (show i=1∨i=2∨i=3 by omega) with rfl | rfl | rfl
  all_goals
   simp<;>(repeat' first|contradiction|exact .ok|apply And.intro|intro _|(refine gc (fun h=>?_) (fun h=>?_)<;>(have h':=h;(try simp at h');first|done|simp[h,h']|simp)))
   refine acallP_of (acallT_hand [1000000] (hc) (by simp) (by simp) (by simp) (by simp) (by simp) ?_)
   simp<;>(repeat' first|contradiction|exact .ok|apply And.intro|intro _|(refine gc (fun h=>?_) (fun h=>?_)<;>(have h':=h;(try simp at h');first|done|simp[h,h']|simp)))
   rcases hp.step h1 (by omega) with ⟨e,he2,hc2⟩ | ⟨t,l2,he2,h2,hl2,hc2⟩
   ·rw [he2,bind2_err] at ho
    subst ho
    exact acallP_pan [1000000] (hc2) (by simp) (by simp) (by simp) (by simp) (by kernel_rfl)
   rw [he2,bind2_ok] at ho
   refine acallP_of (acallT_hand [1000000] (hc2) (by simp) (by simp) (by simp) (by simp) (by simp) ?_)
   simp<;>(repeat' first|contradiction|exact .ok|apply And.intro|intro _|(refine gc (fun h=>?_) (fun h=>?_)<;>(have h':=h;(try simp at h');first|done|simp[h,h']|simp)))
   refine acallP_of (acallT_plain (ups (p_made 41 [t])) (by simp) ?_)
   simp [mkT,Tm.c,tmsC]<;>(repeat' first|contradiction|exact .ok|apply And.intro|intro _|(refine gc (fun h=>?_) (fun h=>?_)<;>(have h':=h;(try simp at h');first|done|simp[h,h',mkT,Tm.c,tmsC]|simp[mkT,Tm.c,tmsC])))
   rcases exp_step hF h2 hT [wShut] (by decide) with ⟨e,he3,hc3⟩ | ⟨l4,he3,h4,hl4,hc3⟩
   ·rw [he3] at ho
    subst ho
    exact acallP_pan [1000000] (hc3) (by simp) (by simp) (by simp) (by simp) (by kernel_rfl)
   rw [he3,bind1_ok] at ho
   subst ho
   refine acallP_of (acallT_hand [1000000] (hc3) (by simp) (by simp) (by simp) (by simp) (by simp) ?_)
   simp only [outS]
   simp [mkT,Tm.c,tmsC,aggF]<;>(repeat' first|contradiction|exact .ok|apply And.intro|intro _|(refine gc (fun h=>?_) (fun h=>?_)<;>(have h':=h;(try simp at h');first|done|simp[h,h',mkT,Tm.c,tmsC,aggF]|simp[mkT,Tm.c,tmsC,aggF])))
end
structure TkV (t:Tk):Prop where
 num:t.kd=2→resP t.rw=(V.mk 1 t.n [],0)
 txt:t.kd=3→resP t.rw=(V.mk 3 0 t.tx,0)
 len:t.rw.length≤10000
def okT (T:List Tk):Prop:=∀ t∈T,TkV t
def priS (q:List Tk→Res Tm):List Tk→Res Tm
 | []=>.error 0
 | t::r =>
   if t.kd=2 then .ok (.mk 2 0 t.n [] [] [],r)
   else if t.kd=3 then .ok (.mk 4 0 0 t.tx [] [],r)
   else if isW wTrue (t::r)=true then .ok (.mk 3 0 1 [] [] [],r)
   else if isW wFalse (t::r)=true then .ok (mkT 3 [],r)
   else if isW wNull (t::r)=true then (match oneOf [wInt,wBool,wText] r with
    | some i=>.ok (.mk 1 (1+i) 0 [] [] [],r.tail)
    | none=>.error (posT r))
   else if isW wOpen (t::r)=true then bind2 (q r) fun t l2=>bind1 (expS [wShut] l2) fun l3=>.ok (t,l3)
   else if isW wLength (t::r)=true then bind2 (listS q 0 r) fun ks l2=>.ok (mkT 13 ks,l2)
   else if isW wCoalesce (t::r)=true then bind2 (listS q 1 r) fun ks l2=>.ok (mkT 27 ks,l2)
   else if isW wCase (t::r)=true then bind2 (caseS q [wWhen,wThen,wElse] [] r) fun ks l2=>bind1 (expS [wEnd] l2) fun l3=>.ok (mkT 26 ks,l3)
   else match oneOf aggW (t::r) with
    | some i=>aggS q i r
    | none=>bind2 (nameS (t::r)) fun a l1 =>
      if isW wDot l1=true then bind2 (nameS l1.tail) fun b l2=>.ok (.mk 40 0 0 b a [],l2) else .ok (.mk 40 0 0 a [] [],l1)
section
variable {fD:Nat→D} {T:List Tk} {L:Nat} {q:List Tk→Res Tm}
theorem p_prim_num {t:Tk} {r:List Tk} (hV:okT T) (hT:T.length≤10000) (ha:At T (t::r)) (hk:t.kd=2) :
  Cf Es 213 [.ptr 1000000 0 0] [rdB T (t::r)] (Tm.mk 2 0 t.n [] [] []).a [rdB T r]:=by
 have hp:=ups (p_peek ha.sfx ha.ne hT)
 have hv:=hV t (ha.sfx.subset List.mem_cons_self)
 have hlen:=ha.sfx.length_le
 have hpar:=upw (v_parse t.rw (by have:=hv.len; omega))
 rw [hv.num hk] at hpar
 refine cf_intro mixs (fn:=Tryz.f213) (by kernel_rfl) rfl (by kernel_rfl) (by decide) (by simp [rdB]) ?_
 simp only [hdT,tkA,tokC,hk,show ((2:Int)=5)=False from by decide,if_false] at hp
 have hi:T.length - r.length=T.length - (t::r).length+1:=by simp only [List.length_cons] at *; omega
 have hb:T.length - (t::r).length≤10000:=by omega
 unfold rdB at *
 rw [hi]
 generalize T.length - (t::r).length=i at *
 have hwr:=wrap_in (n:=(i:Int)+1) (by omega) (by omega)
 simp [V.a,V.c] at hp hpar ⊢
 (repeat' (first|contradiction|exact .ok|apply And.intro|intro _|(refine gc (fun h=>?_) (fun h=>?_)<;>(have h':=h;(try simp at h');first|done|simp[h,h']|simp))))
 refine acallT_hand [1000000] (hp) (by simp) (by simp) (by simp) (by simp) (by simp) ?_
 simp [hwr]<;>(repeat' first|contradiction|exact .ok|apply And.intro|intro _|(refine gc (fun h=>?_) (fun h=>?_)<;>(have h':=h;(try simp at h');first|done|simp[h,h',hwr]|simp[hwr])))
 refine acallT_plain hpar (by simp) ?_
 simp<;>(repeat' first|contradiction|exact .ok|apply And.intro|intro _|(refine gc (fun h=>?_) (fun h=>?_)<;>(have h':=h;(try simp at h');first|done|simp[h,h']|simp)))
 refine acallT_plain (ups (p_made 2 [])) (by simp) ?_
 simp [mkT,Tm.c,tmsC,hwr]<;>(repeat' first|contradiction|exact .ok|apply And.intro|intro _|(refine gc (fun h=>?_) (fun h=>?_)<;>(have h':=h;(try simp at h');first|done|simp[h,h',mkT,Tm.c,tmsC,hwr]|simp[mkT,Tm.c,tmsC,hwr])))
theorem p_prim_txt {t:Tk} {r:List Tk} (hV:okT T) (hT:T.length≤10000) (ha:At T (t::r)) (hk:t.kd=3) :
  Cf Es 213 [.ptr 1000000 0 0] [rdB T (t::r)] (Tm.mk 4 0 0 t.tx [] []).a [rdB T r]:=by
 have hp:=ups (p_peek ha.sfx ha.ne hT)
 have hv:=hV t (ha.sfx.subset List.mem_cons_self)
 have hlen:=ha.sfx.length_le
 have hpar:=upw (v_parse t.rw (by have:=hv.len; omega))
 rw [hv.txt hk] at hpar
 refine cf_intro mixs (fn:=Tryz.f213) (by kernel_rfl) rfl (by kernel_rfl) (by decide) (by simp [rdB]) ?_
 simp only [hdT,tkA,tokC,hk,show ((3:Int)=5)=False from by decide,if_false] at hp
 have hi:T.length - r.length=T.length - (t::r).length+1:=by simp only [List.length_cons] at *; omega
 have hb:T.length - (t::r).length≤10000:=by omega
 unfold rdB at *
 rw [hi]
 generalize T.length - (t::r).length=i at *
 have hwr:=wrap_in (n:=(i:Int)+1) (by omega) (by omega)
 simp [V.a,V.c] at hp hpar ⊢
 (repeat' (first|contradiction|exact .ok|apply And.intro|intro _|(refine gc (fun h=>?_) (fun h=>?_)<;>(have h':=h;(try simp at h');first|done|simp[h,h']|simp))))
 refine acallT_hand [1000000] (hp) (by simp) (by simp) (by simp) (by simp) (by simp) ?_
 simp [hwr]<;>(repeat' first|contradiction|exact .ok|apply And.intro|intro _|(refine gc (fun h=>?_) (fun h=>?_)<;>(have h':=h;(try simp at h');first|done|simp[h,h',hwr]|simp[hwr])))
 refine acallT_plain hpar (by simp) ?_
 simp<;>(repeat' first|contradiction|exact .ok|apply And.intro|intro _|(refine gc (fun h=>?_) (fun h=>?_)<;>(have h':=h;(try simp at h');first|done|simp[h,h']|simp)))
 refine acallT_plain (ups (p_made 2 [])) (by simp) ?_
 simp [mkT,Tm.c,tmsC,hwr]<;>(repeat' first|contradiction|exact .ok|apply And.intro|intro _|(refine gc (fun h=>?_) (fun h=>?_)<;>(have h':=h;(try simp at h');first|done|simp[h,h',mkT,Tm.c,tmsC,hwr]|simp[mkT,Tm.c,tmsC,hwr])))
 refine acallT_plain (ups (p_made 4 [])) (by simp) ?_
 simp [mkT,Tm.c,tmsC,hwr]<;>(repeat' first|contradiction|exact .ok|apply And.intro|intro _|(refine gc (fun h=>?_) (fun h=>?_)<;>(have h':=h;(try simp at h');first|done|simp[h,h',mkT,Tm.c,tmsC,hwr]|simp[mkT,Tm.c,tmsC,hwr])))
end
end Go.Proofs.Tryz
