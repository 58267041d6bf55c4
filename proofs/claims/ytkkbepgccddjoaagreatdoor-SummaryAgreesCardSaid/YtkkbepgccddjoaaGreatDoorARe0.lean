import Derived.Test.YtkkbepgccddjoaaGreatDoorLog
import Derived.Test.YtkkbepgccddjoaaGreatDoorAri
import Derived.Test.YtkkbepgccddjoaaGreatDoorAExp
import Derived.Test.YtkkbepgccddjoaaGreatDoorAbB
set_option linter.all false
namespace Go.Proofs.Tryz
open Go.Ab
abbrev Opn:=List UInt8×Int×Int×Int
def ops:List Opn:=[([],0,0,0),([110,117,108,108],0,0,0),([105,110,116],0,0,1),([98,111,111,108],0,0,2),([116,101,120,116],0,0,3),([99,111,108,117,109,110],0,0,0),([97,100,100],2,1,1),([115,117,98],2,1,1),([109,117,108],2,1,1),([100,105,118],2,1,1),([109,111,100],2,1,1),([110,101,103],1,1,1),([99,111,110,99,97,116],2,2,3),([108,101,110,103,116,104],1,2,1),([101,113],2,4,2),([110,101],2,4,2),([108,116],2,4,2),([108,101],2,4,2),([103,116],2,4,2),([103,101],2,4,2),([115,97,109,101],2,4,2),([105,115,110,117,108,108],1,5,2),([97,110,100],2,3,2),([111,114],2,3,2),([110,111,116],1,3,2),([105,115,116,114,117,101],1,3,2),([99,97,115,101],3,6,0),([99,111,97,108,101,115,99,101],2,4,0),([105,110],2,4,2)]
def rowC (o:Opn):List D:=[.str o.1,.int .i64 o.2.1,.int .i64 o.2.2.1,.int .i64 o.2.2.2]
def opsC:List D:=ops.flatMap rowC
noncomputable def Eo:Env:=⟨Tryz.prog,fun g=>if g=1 then some [.int .i64 0,.int .i64 0,.str []] else if g=0 then some opsC else none⟩
@[simp] theorem Eo_P:Eo.P=Tryz.prog:=id rfl
@[simp] theorem Eo_G (g:Nat):Eo.G g=if g=1 then some [.int .i64 0,.int .i64 0,.str []] else if g=0 then some opsC else none:=rfl
theorem mixo:Eo.P.follows .mixedOrders=true:=by kernel_rfl
theorem up {f:FuncId} {xs:List AV} {B:List Blk} {y:AV} {B':List Blk} (h:Cf En f xs B y B'):Cf Eo f xs B y B' :=
 Cf.more (E:=En) (E':=Eo) rfl (fun g cs e=>by
  rw [En_G] at e
  rw [Eo_G]
  split at e
  ·rename_i h0; rw [if_pos h0]; exact e
  ·cases e) h
theorem opsC_len:opsC.length=116:=by decide
theorem drop_rows:∀ (l:List Opn) (o:Nat),(l.flatMap rowC).drop (o*4)=(l.drop o).flatMap rowC
 | [],o=>by simp
 | x::l,0=>by simp
 | x::l,o+1=>by
   rw [List.flatMap_cons,show (o+1)*4=(rowC x).length+o*4 from by simp [rowC]; omega,← List.drop_drop,List.drop_left,drop_rows l o,List.drop_succ_cons]
def zop:Opn:=([],0,0,0)
def opOf (o:Int):Opn:=(ops[o.toNat]?).getD zop
theorem ops_row {o:Nat} (h:o<29):∃ rest,opsC.drop (o*4)=.str (opOf o).1::.int .i64 (opOf o).2.1::.int .i64 (opOf o).2.2.1::.int .i64 (opOf o).2.2.2::rest:=by
 have hl:o<ops.length:=h
 refine ⟨(ops.drop (o+1)).flatMap rowC,?_⟩
 unfold opsC
 rw [drop_rows,List.drop_eq_getElem_cons hl,List.flatMap_cons]
 unfold opOf
 rw [Int.toNat_natCast,List.getElem?_eq_getElem hl]
 rfl
theorem ops_word:∀ o:Nat,o<29→1≤o→(opOf o).1 ≠ []:=by decide
def isOp (o:Int):Bool:=decide (1≤o)&&decide (o≤28)
def findO (o:Int):Opn:=if isOp o=true then opOf o else zop
def opA (o:Opn):AV:=.agg [.d (.str o.1),.d (.int .i64 o.2.1),.d (.int .i64 o.2.2.1),.d (.int .i64 o.2.2.2)]
set_option maxRecDepth 100000 in
theorem e_find (o:Int):Cf Eo 188 [.d (.int .i64 o)] [] (.tup [opA (findO o),.d (.bool (isOp o))]) []:=by
 refine cf_intro mixo (fn:=Tryz.f188) (by kernel_rfl) rfl (by kernel_rfl) (by decide) (by simp) ?_
 by_cases h1:o<0
 ·have hi:isOp o=false:=by unfold isOp; simp; omega
  simp [findO,hi,opA,zop,h1]
  (repeat' (first|contradiction|exact .ok|apply And.intro|intro _|(refine gc (fun h=>?_) (fun h=>?_)<;>(have h':=h;(try simp at h');first|done|simp[h,h',h1]|simp[h1]))))
 by_cases h2:29≤o
 ·have hi:isOp o=false:=by unfold isOp; simp; omega
  simp [findO,hi,opA,zop,h1,h2]
  (repeat' (first|contradiction|exact .ok|apply And.intro|intro _|(refine gc (fun h=>?_) (fun h=>?_)<;>(have h':=h;(try simp at h');first|done|simp[h,h',h1,h2]|simp[h1,h2]))))
  all_goals omega
 obtain ⟨n,rfl⟩:∃ n:Nat,o=n:=⟨o.toNat,by omega⟩
 have hn:n<29:=by omega
 obtain ⟨rest,hr⟩:=ops_row hn
 have hb:n*4≤116:=by omega
 have hlt:(n:Int)<29:=by omega
 have hnl:¬ 29≤n:=by omega
 have h4:n*4≤opsC.length:=by rw [opsC_len]; omega
 by_cases h0:n=0
 ·subst h0
  have h00:opsC.head?=some (.str []):=rfl
  simp [findO,isOp,opA,zop,opsC_len,h00]
  (repeat' (first|contradiction|exact .ok|apply And.intro|intro _|(refine gc (fun h=>?_) (fun h=>?_)<;>(have h':=h;(try simp at h');first|done|simp[h,h',h00]|simp[h00]))))
 ·have hi:isOp n=true:=by unfold isOp; simp; omega
  have hw:=ops_word n hn (by omega)
  simp [findO,hi,opA,opsC_len,h1,hlt,hb,hr,hnl]
  (repeat' (first|contradiction|exact .ok|apply And.intro|intro _|(refine gc (fun h=>?_) (fun h=>?_)<;>(have h':=h;(try simp at h');first|done|simp[h,h',hr,h1,hlt,hb,opsC_len,hnl,hw]|simp[hr,h1,hlt,hb,opsC_len,hnl,hw]))))
  all_goals simp [findO,hi]
def cntd (o:Int) (n:Nat):Bool:=isOp o&&((n:Int)==(opOf o).2.1||(o==28&&decide ((n:Int)>(opOf o).2.1)))
set_option maxRecDepth 100000 in
theorem e_known (o c n:Int) (t:List UInt8) (g:Int) (ks:List Ex):Cf Eo 144 [(Ex.mk o c n t g ks).a] [] (.tup [opA (findO o),.d (.bool (isOp o)),.d (.bool (cntd o ks.length))]) []:=by
 refine cf_intro mixo (fn:=Tryz.f144) (by kernel_rfl) rfl (by kernel_rfl) (by decide) (by simp) ?_
 simp [Ex.a,Ex.c,kidsC_map]
 (repeat' (first|contradiction|exact .ok|apply And.intro|intro _|(refine gc (fun h=>?_) (fun h=>?_)<;>(have h':=h;(try simp at h');first|done|simp[h,h']|simp))))
 refine acallT_plain (e_find o) (by simp [V.a]) ?_
 simp [opA]
 (repeat' (first|contradiction|exact .ok|apply And.intro|intro _|(refine gc (fun h=>?_) (fun h=>?_)<;>(have h':=h;(try simp at h');first|done|simp[h,h']|simp))))
 all_goals simp_all [cntd,findO]
end Go.Proofs.Tryz
namespace Go.Proofs.Tryz
open Go.Ab
set_option maxRecDepth 100000
set_option maxHeartbeats 4000000
def at1 (l:List V):V:=(l[1]?).getD nulV
theorem V.clen (v:V):v.c.length=3:=rfl
end Go.Proofs.Tryz
namespace Go.Proofs.Tryz
open Go.Ab
set_option maxRecDepth 100000
set_option maxHeartbeats 4000000
end Go.Proofs.Tryz
namespace Go.Proofs.Tryz
open Go.Ab
set_option maxRecDepth 100000
set_option maxHeartbeats 64000000
end Go.Proofs.Tryz
