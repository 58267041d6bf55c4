import Derived.Test.YtgdkfmglkjfciaaGreatDoorPSqp
import Derived.Test.YtgdkfmglkjfciaaGreatDoorPFdx
set_option linter.all false
namespace Go.Proofs.Tryz
open Go.Ab
set_option maxRecDepth 100000
set_option maxHeartbeats 8000000
def blkS:Nat→List UInt8
 | 0=>[]
 | k+1=>blkS k++[if k % 2=0 then 32 else 10]
theorem blkS_len:∀ k:Nat,(blkS k).length=k
 | 0=>rfl
 | k+1=>by rw [blkS,List.length_append,blkS_len k]; rfl
theorem blkS_ok:∀ k:Nat,Blk0 (blkS k)
 | 0=>fun x h=>by cases h
 | k+1=>fun x h=>by
   rw [blkS] at h
   rcases List.mem_append.1 h with h | h
   ·exact blkS_ok k x h
   ·rw [List.mem_singleton.1 h]
    split
    ·exact .inl rfl
    ·exact .inr rfl
theorem tokF_fr (s:List UInt8):∀ (k a:Nat) (t:Tk),a≤s.length→t∈tokF s k a→t.fr≤s.length
 | 0,a,t,_,h=>by cases h
 | k+1,a,t,ha,h=>by
   have e:(scanT s a).fr≤s.length:=(skip_le ha).2
   rw [tokF] at h
   split at h
   ·rw [List.mem_singleton.1 h]; exact e
   ·rcases List.mem_cons.1 h with e' | h
    ·rw [e']; exact e
    ·exact tokF_fr s k _ t (scan_to ha).2.1 h
theorem full_pos {s:List UInt8} {N n p:Nat} (h:full (stmtP N n) s=.error p):p≤s.length:=by
 have hfr:∀ t∈toks s,t.fr≤s.length:=fun t ht=>tokF_fr s _ 0 t (Nat.zero_le _) ht
 have hmap:(toks s).map (fun t:Tk=>{ t with fr:=min t.fr s.length })=toks s:=by
  conv=>rhs; rw [← List.map_id (toks s)]
  refine List.map_congr_left fun t ht=>?_
  have:=hfr t ht
  show ({ t with fr:=min t.fr s.length }:Tk)=t
  rw [Nat.min_eq_left this]
 have e:=stmtP_sim (f:=fun t:Tk=>{ t with fr:=min t.fr s.length }) (g:=fun p=>min p s.length) (fun t=>⟨rfl,rfl,rfl,rfl,rfl⟩) N n (toks s) (toks_okE s)
 rw [hmap] at e
 unfold full at h
 cases hq:stmtP N n (toks s) with
 | error q =>
   rw [hq] at h e
   injection h with h
   subst h
   have e':(Except.error q:Res Sm)=.error (min q s.length):=e
   injection e' with e'
   omega
 | ok y =>
   obtain ⟨x,m⟩:=y
   rw [hq] at h
   simp only at h
   split at h
   ·cases h
   ·cases h
    have hm:=stmtP_sfx N n (toks s) x m hq
    have hok:okE m:=sim_idS (stmtP_sim (f:=id) (g:=id) (fun _=>⟨rfl,rfl,rfl,rfl,rfl⟩) N n _ (toks_okE s)) hq
    cases m with
    | nil=>exact absurd rfl hok.ne
    | cons t r=>exact hfr t (hm.subset List.mem_cons_self)
theorem blank_rel {b s:List UInt8} (hb:Blk0 b) (hl:(b++(s++b)).length≤4000) :
  (psR (b++(s++b))).1=(psR s).1∧(psR (b++(s++b))).2.2=(psR s).2.2∧((psR s).2.2=2→∃ p:Nat,p≤s.length∧(psR s).2.1=p∧(psR (b++(s++b))).2.1=gB b s p):=by
 have hs:s.length≤4000:=by
  simp only [List.length_append] at hl
  omega
 unfold psR
 rw [if_pos hl,if_pos hs,full_stmt hb]
 cases hf:full (stmtP fuelN 6000) s with
 | error p=>exact ⟨rfl,rfl,fun _=>⟨p,full_pos hf,rfl,rfl⟩⟩
 | ok x =>
   simp only [movE]
   refine ⟨by first | rfl | trivial,by first | rfl | trivial,fun h=>?_⟩
   split at h
   ·exact absurd (show (0:Int)=2 from h) (by decide)
   ·exact absurd (show (13:Int)=2 from h) (by decide)
theorem tm2 (i:Nat):Int.tmod (i:Int) 2=((i % 2:Nat):Int):=by
 rw [Int.tmod_eq_emod_of_nonneg (by omega)]
 omega
theorem sql_blanks (L:List Int) (n:Int) (h0:0≤n) (hn:n<256):Cf Es 4 [.d (.sl (L.map fun n=>[.int .i64 n])),.d (.int .u8 n)] [] (.d (.bool true)) []:=by
 refine cf_intro mixs (fn:=Tryz.f4) (by kernel_rfl) rfl (by kernel_rfl) (by decide) (by simp) ?_
 have hmd:=ups (p_made5 L)
 have hml:=mdS_len L (min L.length 60) 0 []
 have hml2:(mdT L).length≤1300:=by
  show (mdS L (min L.length 60) 0 []).length≤1300
  simp only [List.length_nil] at hml
  omega
 obtain ⟨m,rfl⟩:∃ m:Nat,n=m:=⟨n.toNat,by omega⟩
 have hw1:IntKind.i64.wrap (m:Int)=m:=wrap_in (by omega) (by omega)
 have hw2:Int.tmod (m:Int) 20=((m % 20:Nat):Int):=by
  rw [Int.tmod_eq_emod_of_nonneg (by omega)]
  omega
 have hw3:IntKind.i64.wrap ((m % 20:Nat):Int)=((m % 20:Nat):Int):=wrap_in (by omega) (by omega)
 obtain ⟨k,hk⟩:∃ k,k=m % 20:=⟨_,rfl⟩
 have hk20:k<20:=by omega
 rw [← hk] at hw2 hw3
 simp<;>(repeat' first|contradiction|exact .ok|apply And.intro|intro _|(refine gc (fun h=>?_) (fun h=>?_)<;>(have h':=h;(try simp at h');first|done|simp[h,h']|simp)))
 refine acallT_plain hmd (by simp) ?_
 generalize mdT L=M at *
 simp
 (repeat refine ⟨.of (by kernel_rfl),?_⟩)
 refine aloopT mixs (by decide) (fun i:Nat=>{ s:=mkS [(0,.d (.sl (L.map fun n=>[.int .i64 n]))),(1,.d (.int .u8 m)),(4,.d (.bool false)),(5,.d (.str M)),(6,.d (.str (blkS i))),(7,.d (.int .i64 i))],b:=mkB [] }) (fun i=>i≤k) (fun i=>k - i) 0 (by simp)
  (sub_mk _ [] .nil (by simp [renOf,blkS])) ?_
 rintro i hi
 by_cases hlt:i<k
 ·have hlt':(i:Int)<(k:Int):=by omega
  have hwr:=wrap_in (n:=(i:Int)+1) (by omega) (by omega)
  have ht2:=tm2 i
  have hbl:=blkS_len i
  have hbs:blkS (i+1)=blkS i++[if i % 2=0 then 32 else 10]:=rfl
  have hw10:IntKind.i64.wrap 1=1:=by decide
  have hw20:IntKind.i64.wrap 2=2:=by decide
  have a1:(blkS i).length+1≤9223372036854775807:=by omega
  have a2:i+1≤9223372036854775807:=by omega
  rcases Nat.mod_two_eq_zero_or_one i with h2 | h2
  ·rw [h2] at ht2
   rw [h2,if_pos rfl] at hbs
   have ht2':Int.tmod (i:Int) 2=0:=ht2
   simp [hlt',hw1,hw2,hw3,ht2',hw10,hbl,a1,a2]<;>(repeat' first|contradiction|exact .ok|apply And.intro|intro _|(refine gc (fun h=>?_) (fun h=>?_)<;>(have h':=h;(try simp at h');first|done|simp[h,h',hlt',hw1,hw2,hw3,ht2',hw10,hbl,a1,a2]|simp[hlt',hw1,hw2,hw3,ht2',hw10,hbl,a1,a2])))
   refine ⟨i+1,by omega,?_,by simp only; omega⟩
   exact sub_mk _ [] .nil (by simp [hwr,hbs])
  ·rw [h2] at ht2
   rw [h2,if_neg (by decide)] at hbs
   have ht2':Int.tmod (i:Int) 2=1:=ht2
   simp [hlt',hw1,hw2,hw3,ht2',hw10,hw20,hbl,a1,a2]<;>(repeat' first|contradiction|exact .ok|apply And.intro|intro _|(refine gc (fun h=>?_) (fun h=>?_)<;>(have h':=h;(try simp at h');first|done|simp[h,h',hlt',hw1,hw2,hw3,ht2',hw10,hw20,hbl,a1,a2]|simp[hlt',hw1,hw2,hw3,ht2',hw10,hw20,hbl,a1,a2])))
   refine ⟨i+1,by omega,?_,by simp only; omega⟩
   exact sub_mk _ [] .nil (by simp [hwr,hbs])
 ·obtain rfl:i=k:=by omega
  have hlt':¬ (i:Int)<(i:Int):=by omega
  have hbl:=blkS_len i
  have hb:=blkS_ok i
  generalize blkS i=B at *
  have hp1:=p_parse (s:=M) (by omega)
  have hp2:=p_parse (s:=B++(M++B)) (by simp only [List.length_append]; omega)
  have hp3:=r_parseSt (s:=M) (by omega)
  obtain ⟨e1,e2,e3⟩:=blank_rel (s:=M) hb (by simp only [List.length_append]; omega)
  have hsm:=ups (r_same _ (psR M).1 (psR M).1 (Nat.lt_succ_self _) psR_good.1)
  rw [Sm.eq_self] at hsm
  have c1:B.length+M.length≤9223372036854775807:=by omega
  have c2:B.length+M.length+B.length≤9223372036854775807:=by omega
  unfold psA at hp1 hp2 hp3
  rw [e1,e2] at hp2
  generalize hR:psR M=R at *
  generalize (psR (B++(M++B))).2.1=q at *
  obtain ⟨x,p,er⟩:=R
  simp only at hp1 hp2 hp3 hsm e3
  simp [hlt',hw1,hw2,hw3]<;>(repeat' first|contradiction|exact .ok|apply And.intro|intro _|(refine gc (fun h=>?_) (fun h=>?_)<;>(have h':=h;(try simp at h');first|done|simp[h,h',hlt',hw1,hw2,hw3]|simp[hlt',hw1,hw2,hw3])))
  refine acallT_plain hp1 (by simp) ?_
  simp [c1,c2,List.append_assoc]<;>(repeat' first|contradiction|exact .ok|apply And.intro|intro _|(refine gc (fun h=>?_) (fun h=>?_)<;>(have h':=h;(try simp at h');first|done|simp[h,h',c1,c2,List.append_assoc]|simp[c1,c2,List.append_assoc])))
  refine acallT_plain hp2 (by simp) ?_
  simp<;>(repeat' first|contradiction|exact .ok|apply And.intro|intro _|(refine gc (fun h=>?_) (fun h=>?_)<;>(have h':=h;(try simp at h');first|done|simp[h,h']|simp)))
  refine acallT_plain hp3 (by simp) ?_
  by_cases her:er=2
  ·obtain ⟨p0,hp0,rfl,rfl⟩:=e3 her
   subst her
   unfold gB at *
   by_cases hpl:p0=M.length
   ·subst hpl
    have hw5:IntKind.i64.wrap ((M.length:Int)+B.length)=M.length+B.length:=wrap_in (by omega) (by omega)
    have hge:(M.length:Int)+B.length≤((2*B.length+M.length:Nat):Int):=by omega
    simp only [if_true] at *
    generalize ((2*B.length+M.length:Nat):Int)=q at *
    simp [hw5,hge]<;>(repeat' first|contradiction|exact .ok|apply And.intro|intro _|(refine gc (fun h=>?_) (fun h=>?_)<;>(have h':=h;(try simp at h');first|done|simp[h,h',hw5,hge]|simp[hw5,hge])))
   ·have hpl':¬ (p0:Int)=(M.length:Int):=by omega
    have hpb:((p0:Int)==(M.length:Int))=false:=beq_eq_false_iff_ne.2 hpl'
    have hw5:IntKind.i64.wrap ((p0:Int)+B.length)=p0+B.length:=wrap_in (by omega) (by omega)
    have hq:((p0+B.length:Nat):Int)=(p0:Int)+B.length:=by omega
    simp only [if_neg hpl] at *
    rw [hq] at *
    simp [hpl',hpb,hw5]<;>(repeat' first|contradiction|exact .ok|apply And.intro|intro _|(refine gc (fun h=>?_) (fun h=>?_)<;>(have h':=h;(try simp at h');first|done|simp[h,h',hpl',hpb,hw5]|simp[hpl',hpb,hw5])))
    all_goals first | done | (refine acallT_plain hsm (by simp) ?_; simp [hpl',hpb,hw5] <;> (repeat' (first | contradiction | exact .of (by kernel_rfl) | refine And.intro ?_ ?_ | intro _ | (refine agrd_cases (fun h=>?_) (fun h=>?_) <;> (have h':=h; (try simp at h'); first | done | simp [h,h',hpl',hpb,hw5] | simp [hpl',hpb,hw5])))))
  ·have heb:(er==2)=false:=beq_eq_false_iff_ne.2 her
   simp [her,heb]<;>(repeat' first|contradiction|exact .ok|apply And.intro|intro _|(refine gc (fun h=>?_) (fun h=>?_)<;>(have h':=h;(try simp at h');first|done|simp[h,h',her,heb]|simp[her,heb])))
   all_goals first | done | (refine acallT_plain hsm (by simp) ?_; simp [her,heb] <;> (repeat' (first | contradiction | exact .of (by kernel_rfl) | refine And.intro ?_ ?_ | intro _ | (refine agrd_cases (fun h=>?_) (fun h=>?_) <;> (have h':=h; (try simp at h'); first | done | simp [h,h',her,heb] | simp [her,heb])))))
end Go.Proofs.Tryz
