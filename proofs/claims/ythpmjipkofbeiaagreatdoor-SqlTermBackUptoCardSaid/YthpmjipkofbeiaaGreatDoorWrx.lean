import Derived.Test.YthpmjipkofbeiaaGreatDoorTFwl
set_option linter.all false
namespace Go.Proofs.Tryz
open Go.Ab
set_option maxRecDepth 100000
set_option maxHeartbeats 4000000
theorem w_case (a b c:Tm) (ha:WrK a) (hb:WrK b) (hc:WrK c):Cf Es 23 [(mkT 26 [a,b,c]).a] [] (.d (.str (wr (mkT 26 [a,b,c])))) []:=by
 refine cf_intro mixs (fn:=Tryz.f23) (by kernel_rfl) rfl (by kernel_rfl) (by decide) (by simp) ?_
 rw [show wr (mkT 26 [a,b,c])=wCase++32::(wWhen++32::(wr a++32::(wThen++32::(wr b++32::(wElse++32::(wr c++32::wEnd)))))) from by unfold mkT; rw [wr,wrs,wrs,wrs,wrs]; rfl]
 have ho:=op_none (o:=26) (by decide)
 obtain ⟨pa,la⟩:=ha
 obtain ⟨pb,lb⟩:=hb
 obtain ⟨pc,lc⟩:=hc
 generalize wr a=A at *
 generalize wr b=B at *
 generalize wr c=C at *
 have c1:=a.clen
 have k1:=a.ctake
 have c2:=b.clen
 have k2:=b.ctake
 have c3:=c.clen
 have k3:=c.ctake
 have zF:(10+A.length≤9223372036854775807)∧(A.length≤9223372036854775791)∧(A.length+6+1+1+1+1+1+1+1+1+1+1+B.length≤9223372036854775807)∧(A.length+(B.length+1+1+1+1+1+1)≤9223372036854775791)∧(A.length+(B.length+6+1+1+1+1+1+1)+1+1+1+1+1+1+1+1+1+1+C.length≤9223372036854775807)∧(A.length+(B.length+(C.length+1+1+1+1+1+1)+1+1+1+1+1+1)≤9223372036854775793)∧True:=⟨by omega,by omega,by omega,by omega,by omega,by omega,trivial⟩ --Z
 simp [mkT,Tm.a,Tm.c,tmsC]
 (repeat refine ⟨.of (by kernel_rfl),?_⟩)
 refine acallT_plain ho (by simp) ?_
 simp [c1,k1,c2,k2,c3,k3]
 (repeat' (first|contradiction|exact .ok|apply And.intro|intro _|(refine gc (fun h=>?_) (fun h=>?_)<;>(have h':=h;(try simp at h');first|done|simp[h,h',c1,k1,c2,k2,c3,k3]|simp[c1,k1,c2,k2,c3,k3]))))
 refine acallT_plain pa (by simp [Tm.a]) ?_
 simp [zF,c2,k2,c3,k3]
 refine acallT_plain pb (by simp [Tm.a]) ?_
 simp [zF,c2,k2,c3,k3]
 refine acallT_plain pc (by simp [Tm.a]) ?_
 simp [zF]
 (repeat' (first|contradiction|exact .ok|apply And.intro|intro _|(refine gc (fun h=>?_) (fun h=>?_)<;>(have h':=h;(try simp at h');first|done|simp[h,h',zF]|simp[zF]))))
 all_goals (first | rfl | omega | skip)
theorem w_coal (ks:List Tm) (hk:∀ x∈ks,WrK x) (hl:ks.length≤1000000000000) (hj:(joinB (ks.map wr)).length≤1099511627776):Cf Es 23 [(mkT 27 ks).a] [] (.d (.str (wr (mkT 27 ks)))) []:=by
 refine cf_intro mixs (fn:=Tryz.f23) (by kernel_rfl) rfl (by kernel_rfl) (by decide) (by simp) ?_
 rw [show wr (mkT 27 ks)=wCoalesce++40::(joinB (ks.map wr)++[41]) from by unfold mkT; rw [wr,wrs_map]; rfl]
 have ho:=op_none (o:=27) (by decide)
 have hjo:=p_joinedT 23 wr ks hl (by omega) fun x hx=>(hk x hx).1
 generalize joinB (ks.map wr)=A at *
 have g1:∀ k:Nat,k≤1000→k+A.length≤9223372036854775807:=fun k h=>by omega
 have g2:∀ k:Nat,9223372036854770000≤k→A.length≤k:=fun k h=>by omega
 have g3:∀ k j:Nat,k≤1000→j≤1000→k+A.length+j≤9223372036854775807:=fun k j h1 h2=>by omega
 have g4:∀ k j:Nat,k≤1000→j≤1000→k+(A.length+j)≤9223372036854775807:=fun k j h1 h2=>by omega
 simp [mkT,Tm.a,Tm.c,tmsC_map]
 (repeat refine ⟨.of (by kernel_rfl),?_⟩)
 refine acallT_plain ho (by simp) ?_
 simp
 (repeat' (first|contradiction|exact .ok|apply And.intro|intro _|(refine gc (fun h=>?_) (fun h=>?_)<;>(have h':=h;(try simp at h');first|done|simp[h,h']|simp))))
 refine acallT_plain hjo (by simp) ?_
 simp [g1,g2,g3,g4]
 (repeat' (first|contradiction|exact .ok|apply And.intro|intro _|(refine gc (fun h=>?_) (fun h=>?_)<;>(have h':=h;(try simp at h');first|done|simp[h,h',g1,g2,g3,g4]|simp[g1,g2,g3,g4]))))
 all_goals (first | rfl | omega | skip)
theorem w_isIn (a:Tm) (ks:List Tm) (ha:WrK a) (hk:∀ x∈ks,WrK x) (hl:ks.length≤1000000000000) (hj:(joinB (ks.map wr)).length≤1099511627776):Cf Es 23 [(mkT 28 (a::ks)).a] [] (.d (.str (wr (mkT 28 (a::ks))))) []:=by
 refine cf_intro mixs (fn:=Tryz.f23) (by kernel_rfl) rfl (by kernel_rfl) (by decide) (by simp) ?_
 rw [show wr (mkT 28 (a::ks))=plB 4 (rkT a) (wr a)++32::(wIn++32::(40::(joinB (ks.map wr)++[41]))) from by unfold mkT; rw [wr,wrs_map]; rfl]
 have ho:=op_none (o:=28) (by decide)
 obtain ⟨pa,la⟩:=ha.pl 4 (by decide)
 have hjo:=p_joinedT 23 wr ks hl (by omega) fun x hx=>(hk x hx).1
 generalize plB 4 (rkT a) (wr a)=A at *
 generalize joinB (ks.map wr)=B at *
 have c1:=a.clen
 have k1:=a.ctake
 have ht:List.take ks.length (List.map Tm.c ks)=List.map Tm.c ks:=List.take_of_length_le (by simp)
 have h1:(1:Int)≤(ks.length:Int)+1:=by omega
 have zF:(A.length≤9223372036854775802)∧(A.length+5+B.length≤9223372036854775807)∧(A.length+(B.length+1+1+1+1+1)≤9223372036854775806)∧True:=⟨by omega,by omega,by omega,trivial⟩ --Z
 simp [mkT,Tm.a,Tm.c,tmsC_map]
 (repeat refine ⟨.of (by kernel_rfl),?_⟩)
 refine acallT_plain ho (by simp) ?_
 simp [c1,k1]
 (repeat' (first|contradiction|exact .ok|apply And.intro|intro _|(refine gc (fun h=>?_) (fun h=>?_)<;>(have h':=h;(try simp at h');first|done|simp[h,h',c1,k1]|simp[c1,k1]))))
 refine acallT_plain pa (by simp [Tm.a]) ?_
 simp [zF,ht,h1,Tm.clen]
 (repeat' (first|contradiction|exact .ok|apply And.intro|intro _|(refine gc (fun h=>?_) (fun h=>?_)<;>(have h':=h;(try simp at h');first|done|simp[h,h',zF,ht,h1,Tm.clen]|simp[zF,ht,h1,Tm.clen]))))
 refine acallT_plain hjo (by simp) ?_
 simp [zF,ht,h1,Tm.clen]
 (repeat' (first|contradiction|exact .ok|apply And.intro|intro _|(refine gc (fun h=>?_) (fun h=>?_)<;>(have h':=h;(try simp at h');first|done|simp[h,h',zF,ht,h1,Tm.clen]|simp[zF,ht,h1,Tm.clen]))))
 all_goals (first | rfl | omega | skip)
theorem w_rows:Cf Es 23 [(Tm.mk 41 0 1 [] [] []).a] [] (.d (.str (wr (.mk 41 0 1 [] [] [])))) []:=by
 refine cf_intro mixs (fn:=Tryz.f23) (by kernel_rfl) rfl (by kernel_rfl) (by decide) (by simp) ?_
 have ho:=op_none (o:=41) (by decide)
 rw [show wr (.mk 41 0 1 [] [] [])=wCount++[40,42,41] from rfl]
 simp [Tm.a,Tm.c,tmsC]
 (repeat refine ⟨.of (by kernel_rfl),?_⟩)
 refine acallT_plain ho (by simp) ?_
 simp
 (repeat' (first|contradiction|exact .ok|apply And.intro|intro _|(refine gc (fun h=>?_) (fun h=>?_)<;>(have h':=h;(try simp at h');first|done|simp[h,h']|simp))))
 all_goals (first | rfl | omega | skip)
theorem agg_get {n:Int} (h:2≤n∧n≤6):aggC[n.toNat]?=some (.str (aggB n))∧aggC.length=7∧(aggB n).length≤20:=by
 have:n=2∨n=3∨n=4∨n=5∨n=6:=by omega
 rcases this with rfl | rfl | rfl | rfl | rfl <;> exact ⟨rfl,rfl,by decide⟩
theorem w_agg {n:Int} (hn:2≤n∧n≤6) (a:Tm) (ha:WrK a):Cf Es 23 [(Tm.mk 41 0 n [] [] [a]).a] [] (.d (.str (wr (.mk 41 0 n [] [] [a])))) []:=by
 refine cf_intro mixs (fn:=Tryz.f23) (by kernel_rfl) rfl (by kernel_rfl) (by decide) (by simp) ?_
 have ho:=op_none (o:=41) (by decide)
 rw [show wr (.mk 41 0 n [] [] [a])=aggB n++(wr a++[41]) from by
  rw [wr,wrs,wrs]
  show (if n=1 then _ else _)=_
  rw [if_neg (by omega)]; rfl]
 obtain ⟨pa,la⟩:=ha
 obtain ⟨q1,q2,q3⟩:=agg_get hn
 have hn1:¬ n=1:=by omega
 have hn0:0≤n:=by omega
 have hn7:n<7:=by omega
 have hnt:n.toNat≤7:=by omega
 have hnt2:n.toNat<7:=by omega
 obtain ⟨rest,hd⟩:∃ rest,aggC.drop n.toNat=.str (aggB n)::rest:=by
  obtain ⟨h,e⟩:=List.getElem?_eq_some_iff.1 q1
  exact ⟨_,by rw [List.drop_eq_getElem_cons h,e]⟩
 generalize wr a=A at *
 generalize aggB n=G at *
 have hn8:n≤7:=by omega
 have c1:=a.clen
 have k1:=a.ctake
 have zF:(G.length+A.length≤9223372036854775807)∧(G.length+A.length≤9223372036854775806)∧True:=⟨by omega,by omega,trivial⟩ --Z
 simp [Tm.a,Tm.c,tmsC]
 (repeat refine ⟨.of (by kernel_rfl),?_⟩)
 refine acallT_plain ho (by simp) ?_
 simp [c1,k1,hn1,hn0,hn7,hn8,hnt,hnt2,q1,q2,hd]
 (repeat' (first|contradiction|exact .ok|apply And.intro|intro _|(refine gc (fun h=>?_) (fun h=>?_)<;>(have h':=h;(try simp at h');first|done|simp[h,h',c1,k1,hn1,hn0,hn7,hn8,hnt,hnt2,q1,q2,hd]|simp[c1,k1,hn1,hn0,hn7,hn8,hnt,hnt2,q1,q2,hd]))))
 refine acallT_plain pa (by simp [Tm.a]) ?_
 simp [zF]
 (repeat' (first|contradiction|exact .ok|apply And.intro|intro _|(refine gc (fun h=>?_) (fun h=>?_)<;>(have h':=h;(try simp at h');first|done|simp[h,h',zF]|simp[zF]))))
 all_goals (first | rfl | omega | skip)
theorem w_null {y:Int} (hy:1≤y∧y≤3):Cf Es 23 [(Tm.mk 1 y 0 [] [] []).a] [] (.d (.str (wr (.mk 1 y 0 [] [] [])))) []:=by
 refine cf_intro mixs (fn:=Tryz.f23) (by kernel_rfl) rfl (by kernel_rfl) (by decide) (by simp) ?_
 have ho:=op_none (o:=1) (by decide)
 rw [show wr (.mk 1 y 0 [] [] [])=wNull++32::typW y from rfl]
 have:y=1∨y=2∨y=3:=by omega
 rcases this with rfl | rfl | rfl
 all_goals
  simp [Tm.a,Tm.c,tmsC]
  (repeat refine ⟨.of (by kernel_rfl),?_⟩)
  refine acallT_plain ho (by simp) ?_
  simp [typC,typL]
  (repeat' (first|contradiction|exact .ok|apply And.intro|intro _|(refine gc (fun h=>?_) (fun h=>?_)<;>(have h':=h;(try simp at h');first|done|simp[h,h',typC,typL]|simp[typC,typL]))))
 all_goals (first | rfl | omega | skip)
theorem w_int {n:Int} (h0:-1000000000000≤n) (h1:n≤1000000000000):Cf Es 23 [(Tm.mk 2 0 n [] [] []).a] [] (.d (.str (wr (.mk 2 0 n [] [] [])))) []:=by
 refine cf_intro mixs (fn:=Tryz.f23) (by kernel_rfl) rfl (by kernel_rfl) (by decide) (by simp) ?_
 have ho:=op_none (o:=2) (by decide)
 have hf:=upw (f_formatInt n (by omega) (by omega))
 rw [show wr (.mk 2 0 n [] [] [])=Lib.itoa n from rfl]
 generalize Lib.itoa n=A at *
 simp [Tm.a,Tm.c,tmsC]
 (repeat refine ⟨.of (by kernel_rfl),?_⟩)
 refine acallT_plain ho (by simp) ?_
 simp
 (repeat' (first|contradiction|exact .ok|apply And.intro|intro _|(refine gc (fun h=>?_) (fun h=>?_)<;>(have h':=h;(try simp at h');first|done|simp[h,h']|simp))))
 refine acallT_plain hf (by simp) ?_
 simp
 all_goals exact gz
theorem w_bool {n:Int} (h:n=0∨n=1):Cf Es 23 [(Tm.mk 3 0 n [] [] []).a] [] (.d (.str (wr (.mk 3 0 n [] [] [])))) []:=by
 refine cf_intro mixs (fn:=Tryz.f23) (by kernel_rfl) rfl (by kernel_rfl) (by decide) (by simp) ?_
 have ho:=op_none (o:=3) (by decide)
 have hf:=upw (f_formatBool (n==1))
 rw [show wr (.mk 3 0 n [] [] [])=if n=1 then tru else fls from rfl]
 rcases h with rfl | rfl
 all_goals
  simp at hf
  simp [Tm.a,Tm.c,tmsC]
  (repeat refine ⟨.of (by kernel_rfl),?_⟩)
  refine acallT_plain ho (by simp) ?_
  simp
  (repeat' (first|contradiction|exact .ok|apply And.intro|intro _|(refine gc (fun h=>?_) (fun h=>?_)<;>(have h':=h;(try simp at h');first|done|simp[h,h']|simp))))
  refine acallT_plain hf (by simp) ?_
  simp
  all_goals exact gz
theorem w_text {t:List UInt8} (hl:t.length≤1099511627776):Cf Es 23 [(Tm.mk 4 0 0 t [] []).a] [] (.d (.str (wr (.mk 4 0 0 t [] [])))) []:=by
 refine cf_intro mixs (fn:=Tryz.f23) (by kernel_rfl) rfl (by kernel_rfl) (by decide) (by simp) ?_
 have ho:=op_none (o:=4) (by decide)
 rw [show wr (.mk 4 0 0 t [] [])=39::(t++[39]) from rfl]
 have g1:∀ k:Nat,k≤1000→k+t.length≤9223372036854775807:=fun k h=>by omega
 have g2:∀ k:Nat,9223372036854770000≤k→t.length≤k:=fun k h=>by omega
 have g3:∀ k j:Nat,k≤1000→j≤1000→k+t.length+j≤9223372036854775807:=fun k j h1 h2=>by omega
 simp [Tm.a,Tm.c,tmsC]
 (repeat refine ⟨.of (by kernel_rfl),?_⟩)
 refine acallT_plain ho (by simp) ?_
 simp [g1,g2,g3]
 (repeat' (first|contradiction|exact .ok|apply And.intro|intro _|(refine gc (fun h=>?_) (fun h=>?_)<;>(have h':=h;(try simp at h');first|done|simp[h,h',g1,g2,g3]|simp[g1,g2,g3]))))
theorem w_name {t q:List UInt8} (hl:t.length≤1099511627776) (hq:q.length≤1099511627776):Cf Es 23 [(Tm.mk 40 0 0 t q []).a] [] (.d (.str (wr (.mk 40 0 0 t q [])))) []:=by
 refine cf_intro mixs (fn:=Tryz.f23) (by kernel_rfl) rfl (by kernel_rfl) (by decide) (by simp) ?_
 have ho:=op_none (o:=40) (by decide)
 rw [show wr (.mk 40 0 0 t q [])=if q=[] then t else q++46::t from rfl]
 have g1:∀ k:Nat,9223372036854770000≤k→q.length≤k:=fun k h=>by omega
 have g2:∀ j:Nat,j≤1000→q.length+j+t.length≤9223372036854775807:=fun j h1=>by omega
 simp [Tm.a,Tm.c,tmsC]
 (repeat refine ⟨.of (by kernel_rfl),?_⟩)
 refine acallT_plain ho (by simp) ?_
 by_cases h0:q=[]
 ·subst h0
  simp
  all_goals exact gz
 ·simp [h0,g1,g2]
  (repeat' (first|contradiction|exact .ok|apply And.intro|intro _|(refine gc (fun h=>?_) (fun h=>?_)<;>(have h':=h;(try simp at h');first|done|simp[h,h',h0,g1,g2]|simp[h0,g1,g2]))))
  all_goals (first | rfl | omega | skip)
end Go.Proofs.Tryz
