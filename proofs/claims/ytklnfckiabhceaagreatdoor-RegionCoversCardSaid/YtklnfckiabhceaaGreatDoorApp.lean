import Derived.Test.YtklnfckiabhceaaGreatDoorEvl
set_option linter.all false
namespace Go.Proofs.Tryz
open Go.Ab
set_option maxRecDepth 100000
set_option maxHeartbeats 4000000
theorem e_truth (b:Bool):Cf En 151 [.d (.bool b)] [] (ofV b).a []:=by
 refine cf_intro mix (fn:=Tryz.f151) (by kernel_rfl) rfl (by kernel_rfl) (by decide) (by simp) ?_
 cases b
 ·simp
  (repeat' (first|contradiction|exact .ok|apply And.intro|intro _|(refine gc (fun h=>?_) (fun h=>?_)<;>(have i:=h;(try simp at i);first|done|simp[h,i]|simp))))
  refine acallT_plain (v_bool 0) (by simp [V.a]) ?_
  simp [boolV0,ofV,V.a]
  all_goals exact gz
 ·simp
  (repeat' (first|contradiction|exact .ok|apply And.intro|intro _|(refine gc (fun h=>?_) (fun h=>?_)<;>(have i:=h;(try simp at i);first|done|simp[h,i]|simp))))
  refine acallT_plain (v_bool 1) (by simp [V.a]) ?_
  simp [boolV1,ofV,V.a]
  all_goals exact gz
def at0 (l:List V):V:=(l[0]?).getD nulV
def at1 (l:List V):V:=(l[1]?).getD nulV
def inV (x:V) (ys:List V):V:=ys.foldl (fun o y=>orV o (eqV x y)) ⟨2,0,[]⟩
def applyV (op:Int) (l:List V):V :=
 if op=6∨op=7∨op=8∨op=9∨op=10∨op=12 then arV op (at0 l) (at1 l)
 else if op=11 then arV 7 ⟨1,0,[]⟩ (at0 l)
 else if op=13 then (if (at0 l).k=3 then ⟨1,(at0 l).t.length,[]⟩ else nulV)
 else if op=14 then eqV (at0 l) (at1 l)
 else if op=15 then notV (eqV (at0 l) (at1 l))
 else if op=16 then lessV (at0 l) (at1 l)
 else if op=17 then notV (lessV (at1 l) (at0 l))
 else if op=18 then lessV (at1 l) (at0 l)
 else if op=19 then notV (lessV (at0 l) (at1 l))
 else if op=20 then ofV ((at0 l).same (at1 l))
 else if op=21 then ofV ((at0 l).k==0)
 else if op=22 then andV (at0 l) (at1 l)
 else if op=23 then orV (at0 l) (at1 l)
 else if op=24 then notV (at0 l)
 else if op=25 then ofV ((at0 l).tr==1)
 else if op=27 then (if (at0 l).k=0 then at1 l else at0 l)
 else if op=28 then inV (at0 l) (l.drop 1)
 else nulV
theorem ap_6 (x y:V):Cf En 96 [.d (.int .i64 6),.d (.sl ([x,y].map V.c))] [] (applyV 6 [x,y]).a []:=by
 have e:applyV 6 [x,y]=arV 6 x y:=by simp [applyV,at0,at1]
 rw [e]
 refine cf_intro mix (fn:=Tryz.f96) (by kernel_rfl) rfl (by kernel_rfl) (by decide) (by simp) ?_
 simp [V.c]
 (repeat' (first|contradiction|exact .ok|apply And.intro|intro _|(refine gc (fun h=>?_) (fun h=>?_)<;>(have i:=h;(try simp at i);first|done|simp[h,i]|simp))))
 refine acallT_plain (v_arith 6 x y) (by simp [V.a]) ?_
 simp [V.a]
 all_goals exact gz
theorem ap_7 (x y:V):Cf En 96 [.d (.int .i64 7),.d (.sl ([x,y].map V.c))] [] (applyV 7 [x,y]).a []:=by
 have e:applyV 7 [x,y]=arV 7 x y:=by simp [applyV,at0,at1]
 rw [e]
 refine cf_intro mix (fn:=Tryz.f96) (by kernel_rfl) rfl (by kernel_rfl) (by decide) (by simp) ?_
 simp [V.c]
 (repeat' (first|contradiction|exact .ok|apply And.intro|intro _|(refine gc (fun h=>?_) (fun h=>?_)<;>(have i:=h;(try simp at i);first|done|simp[h,i]|simp))))
 refine acallT_plain (v_arith 7 x y) (by simp [V.a]) ?_
 simp [V.a]
 all_goals exact gz
theorem ap_8 (x y:V):Cf En 96 [.d (.int .i64 8),.d (.sl ([x,y].map V.c))] [] (applyV 8 [x,y]).a []:=by
 have e:applyV 8 [x,y]=arV 8 x y:=by simp [applyV,at0,at1]
 rw [e]
 refine cf_intro mix (fn:=Tryz.f96) (by kernel_rfl) rfl (by kernel_rfl) (by decide) (by simp) ?_
 simp [V.c]
 (repeat' (first|contradiction|exact .ok|apply And.intro|intro _|(refine gc (fun h=>?_) (fun h=>?_)<;>(have i:=h;(try simp at i);first|done|simp[h,i]|simp))))
 refine acallT_plain (v_arith 8 x y) (by simp [V.a]) ?_
 simp [V.a]
 all_goals exact gz
theorem ap_9 (x y:V):Cf En 96 [.d (.int .i64 9),.d (.sl ([x,y].map V.c))] [] (applyV 9 [x,y]).a []:=by
 have e:applyV 9 [x,y]=arV 9 x y:=by simp [applyV,at0,at1]
 rw [e]
 refine cf_intro mix (fn:=Tryz.f96) (by kernel_rfl) rfl (by kernel_rfl) (by decide) (by simp) ?_
 simp [V.c]
 (repeat' (first|contradiction|exact .ok|apply And.intro|intro _|(refine gc (fun h=>?_) (fun h=>?_)<;>(have i:=h;(try simp at i);first|done|simp[h,i]|simp))))
 refine acallT_plain (v_arith 9 x y) (by simp [V.a]) ?_
 simp [V.a]
 all_goals exact gz
theorem ap_10 (x y:V):Cf En 96 [.d (.int .i64 10),.d (.sl ([x,y].map V.c))] [] (applyV 10 [x,y]).a []:=by
 have e:applyV 10 [x,y]=arV 10 x y:=by simp [applyV,at0,at1]
 rw [e]
 refine cf_intro mix (fn:=Tryz.f96) (by kernel_rfl) rfl (by kernel_rfl) (by decide) (by simp) ?_
 simp [V.c]
 (repeat' (first|contradiction|exact .ok|apply And.intro|intro _|(refine gc (fun h=>?_) (fun h=>?_)<;>(have i:=h;(try simp at i);first|done|simp[h,i]|simp))))
 refine acallT_plain (v_arith 10 x y) (by simp [V.a]) ?_
 simp [V.a]
 all_goals exact gz
theorem ap_12 (x y:V):Cf En 96 [.d (.int .i64 12),.d (.sl ([x,y].map V.c))] [] (applyV 12 [x,y]).a []:=by
 have e:applyV 12 [x,y]=arV 12 x y:=by simp [applyV,at0,at1]
 rw [e]
 refine cf_intro mix (fn:=Tryz.f96) (by kernel_rfl) rfl (by kernel_rfl) (by decide) (by simp) ?_
 simp [V.c]
 (repeat' (first|contradiction|exact .ok|apply And.intro|intro _|(refine gc (fun h=>?_) (fun h=>?_)<;>(have i:=h;(try simp at i);first|done|simp[h,i]|simp))))
 refine acallT_plain (v_arith 12 x y) (by simp [V.a]) ?_
 simp [V.a]
 all_goals exact gz
theorem ap_11 (x:V):Cf En 96 [.d (.int .i64 11),.d (.sl ([x].map V.c))] [] (applyV 11 [x]).a []:=by
 have e:applyV 11 [x]=arV 7 ⟨1,0,[]⟩ x:=by simp [applyV,at0,at1]
 rw [e]
 refine cf_intro mix (fn:=Tryz.f96) (by kernel_rfl) rfl (by kernel_rfl) (by decide) (by simp) ?_
 simp [V.c]
 (repeat' (first|contradiction|exact .ok|apply And.intro|intro _|(refine gc (fun h=>?_) (fun h=>?_)<;>(have i:=h;(try simp at i);first|done|simp[h,i]|simp))))
 refine acallT_plain (v_arith 7 ⟨1,0,[]⟩ x) (by simp [V.a]) ?_
 simp [V.a]
 all_goals exact gz
theorem ap_14 (x y:V):Cf En 96 [.d (.int .i64 14),.d (.sl ([x,y].map V.c))] [] (applyV 14 [x,y]).a []:=by
 have e:applyV 14 [x,y]=eqV x y:=by simp [applyV,at0,at1]
 rw [e]
 refine cf_intro mix (fn:=Tryz.f96) (by kernel_rfl) rfl (by kernel_rfl) (by decide) (by simp) ?_
 simp [V.c]
 (repeat' (first|contradiction|exact .ok|apply And.intro|intro _|(refine gc (fun h=>?_) (fun h=>?_)<;>(have i:=h;(try simp at i);first|done|simp[h,i]|simp))))
 refine acallT_plain (v_eq x y) (by simp [V.a]) ?_
 simp [V.a]
 all_goals exact gz
theorem ap_15 (x y:V):Cf En 96 [.d (.int .i64 15),.d (.sl ([x,y].map V.c))] [] (applyV 15 [x,y]).a []:=by
 have e:applyV 15 [x,y]=notV (eqV x y):=by simp [applyV,at0,at1]
 rw [e]
 refine cf_intro mix (fn:=Tryz.f96) (by kernel_rfl) rfl (by kernel_rfl) (by decide) (by simp) ?_
 simp [V.c]
 (repeat' (first|contradiction|exact .ok|apply And.intro|intro _|(refine gc (fun h=>?_) (fun h=>?_)<;>(have i:=h;(try simp at i);first|done|simp[h,i]|simp))))
 refine acallT_plain (v_eq x y) (by simp [V.a]) ?_
 simp [V.a]
 (repeat' (first|contradiction|exact .ok|apply And.intro|intro _|(refine gc (fun h=>?_) (fun h=>?_)<;>(have i:=h;(try simp at i);first|done|simp[h,i]|simp))))
 refine acallT_plain (v_not (eqV x y)) (by simp [V.a]) ?_
 simp [V.a]
 all_goals exact gz
theorem ap_16 (x y:V):Cf En 96 [.d (.int .i64 16),.d (.sl ([x,y].map V.c))] [] (applyV 16 [x,y]).a []:=by
 have e:applyV 16 [x,y]=lessV x y:=by simp [applyV,at0,at1]
 rw [e]
 refine cf_intro mix (fn:=Tryz.f96) (by kernel_rfl) rfl (by kernel_rfl) (by decide) (by simp) ?_
 simp [V.c]
 (repeat' (first|contradiction|exact .ok|apply And.intro|intro _|(refine gc (fun h=>?_) (fun h=>?_)<;>(have i:=h;(try simp at i);first|done|simp[h,i]|simp))))
 refine acallT_plain (v_less x y) (by simp [V.a]) ?_
 simp [V.a]
 all_goals exact gz
theorem ap_17 (x y:V):Cf En 96 [.d (.int .i64 17),.d (.sl ([x,y].map V.c))] [] (applyV 17 [x,y]).a []:=by
 have e:applyV 17 [x,y]=notV (lessV y x):=by simp [applyV,at0,at1]
 rw [e]
 refine cf_intro mix (fn:=Tryz.f96) (by kernel_rfl) rfl (by kernel_rfl) (by decide) (by simp) ?_
 simp [V.c]
 (repeat' (first|contradiction|exact .ok|apply And.intro|intro _|(refine gc (fun h=>?_) (fun h=>?_)<;>(have i:=h;(try simp at i);first|done|simp[h,i]|simp))))
 refine acallT_plain (v_less y x) (by simp [V.a]) ?_
 simp [V.a]
 (repeat' (first|contradiction|exact .ok|apply And.intro|intro _|(refine gc (fun h=>?_) (fun h=>?_)<;>(have i:=h;(try simp at i);first|done|simp[h,i]|simp))))
 refine acallT_plain (v_not (lessV y x)) (by simp [V.a]) ?_
 simp [V.a]
 all_goals exact gz
theorem ap_18 (x y:V):Cf En 96 [.d (.int .i64 18),.d (.sl ([x,y].map V.c))] [] (applyV 18 [x,y]).a []:=by
 have e:applyV 18 [x,y]=lessV y x:=by simp [applyV,at0,at1]
 rw [e]
 refine cf_intro mix (fn:=Tryz.f96) (by kernel_rfl) rfl (by kernel_rfl) (by decide) (by simp) ?_
 simp [V.c]
 (repeat' (first|contradiction|exact .ok|apply And.intro|intro _|(refine gc (fun h=>?_) (fun h=>?_)<;>(have i:=h;(try simp at i);first|done|simp[h,i]|simp))))
 refine acallT_plain (v_less y x) (by simp [V.a]) ?_
 simp [V.a]
 all_goals exact gz
theorem ap_19 (x y:V):Cf En 96 [.d (.int .i64 19),.d (.sl ([x,y].map V.c))] [] (applyV 19 [x,y]).a []:=by
 have e:applyV 19 [x,y]=notV (lessV x y):=by simp [applyV,at0,at1]
 rw [e]
 refine cf_intro mix (fn:=Tryz.f96) (by kernel_rfl) rfl (by kernel_rfl) (by decide) (by simp) ?_
 simp [V.c]
 (repeat' (first|contradiction|exact .ok|apply And.intro|intro _|(refine gc (fun h=>?_) (fun h=>?_)<;>(have i:=h;(try simp at i);first|done|simp[h,i]|simp))))
 refine acallT_plain (v_less x y) (by simp [V.a]) ?_
 simp [V.a]
 (repeat' (first|contradiction|exact .ok|apply And.intro|intro _|(refine gc (fun h=>?_) (fun h=>?_)<;>(have i:=h;(try simp at i);first|done|simp[h,i]|simp))))
 refine acallT_plain (v_not (lessV x y)) (by simp [V.a]) ?_
 simp [V.a]
 all_goals exact gz
theorem ap_20 (x y:V):Cf En 96 [.d (.int .i64 20),.d (.sl ([x,y].map V.c))] [] (applyV 20 [x,y]).a []:=by
 have e:applyV 20 [x,y]=ofV (x.same y):=by simp [applyV,at0,at1]
 rw [e]
 refine cf_intro mix (fn:=Tryz.f96) (by kernel_rfl) rfl (by kernel_rfl) (by decide) (by simp) ?_
 simp [V.c]
 (repeat' (first|contradiction|exact .ok|apply And.intro|intro _|(refine gc (fun h=>?_) (fun h=>?_)<;>(have i:=h;(try simp at i);first|done|simp[h,i]|simp))))
 refine acallT_plain (v_same x y) (by simp [V.a]) ?_
 simp [V.a]
 (repeat' (first|contradiction|exact .ok|apply And.intro|intro _|(refine gc (fun h=>?_) (fun h=>?_)<;>(have i:=h;(try simp at i);first|done|simp[h,i]|simp))))
 refine acallT_plain (e_truth (x.same y)) (by simp [V.a]) ?_
 simp [V.a]
 all_goals exact gz
theorem ap_21 (x:V):Cf En 96 [.d (.int .i64 21),.d (.sl ([x].map V.c))] [] (applyV 21 [x]).a []:=by
 have e:applyV 21 [x]=ofV (x.k==0):=by simp [applyV,at0,at1]
 rw [e]
 refine cf_intro mix (fn:=Tryz.f96) (by kernel_rfl) rfl (by kernel_rfl) (by decide) (by simp) ?_
 simp [V.c]
 (repeat' (first|contradiction|exact .ok|apply And.intro|intro _|(refine gc (fun h=>?_) (fun h=>?_)<;>(have i:=h;(try simp at i);first|done|simp[h,i]|simp))))
 refine acallT_plain (e_truth (x.k==0)) (by simp [V.a]) ?_
 simp [V.a]
 all_goals exact gz
theorem ap_22 (x y:V):Cf En 96 [.d (.int .i64 22),.d (.sl ([x,y].map V.c))] [] (applyV 22 [x,y]).a []:=by
 have e:applyV 22 [x,y]=andV x y:=by simp [applyV,at0,at1]
 rw [e]
 refine cf_intro mix (fn:=Tryz.f96) (by kernel_rfl) rfl (by kernel_rfl) (by decide) (by simp) ?_
 simp [V.c]
 (repeat' (first|contradiction|exact .ok|apply And.intro|intro _|(refine gc (fun h=>?_) (fun h=>?_)<;>(have i:=h;(try simp at i);first|done|simp[h,i]|simp))))
 refine acallT_plain (v_and x y) (by simp [V.a]) ?_
 simp [V.a]
 all_goals exact gz
theorem ap_23 (x y:V):Cf En 96 [.d (.int .i64 23),.d (.sl ([x,y].map V.c))] [] (applyV 23 [x,y]).a []:=by
 have e:applyV 23 [x,y]=orV x y:=by simp [applyV,at0,at1]
 rw [e]
 refine cf_intro mix (fn:=Tryz.f96) (by kernel_rfl) rfl (by kernel_rfl) (by decide) (by simp) ?_
 simp [V.c]
 (repeat' (first|contradiction|exact .ok|apply And.intro|intro _|(refine gc (fun h=>?_) (fun h=>?_)<;>(have i:=h;(try simp at i);first|done|simp[h,i]|simp))))
 refine acallT_plain (v_or x y) (by simp [V.a]) ?_
 simp [V.a]
 all_goals exact gz
theorem ap_24 (x:V):Cf En 96 [.d (.int .i64 24),.d (.sl ([x].map V.c))] [] (applyV 24 [x]).a []:=by
 have e:applyV 24 [x]=notV x:=by simp [applyV,at0,at1]
 rw [e]
 refine cf_intro mix (fn:=Tryz.f96) (by kernel_rfl) rfl (by kernel_rfl) (by decide) (by simp) ?_
 simp [V.c]
 (repeat' (first|contradiction|exact .ok|apply And.intro|intro _|(refine gc (fun h=>?_) (fun h=>?_)<;>(have i:=h;(try simp at i);first|done|simp[h,i]|simp))))
 refine acallT_plain (v_not x) (by simp [V.a]) ?_
 simp [V.a]
 all_goals exact gz
theorem ap_25 (x:V):Cf En 96 [.d (.int .i64 25),.d (.sl ([x].map V.c))] [] (applyV 25 [x]).a []:=by
 have e:applyV 25 [x]=ofV (x.tr==1):=by simp [applyV,at0,at1]
 rw [e]
 refine cf_intro mix (fn:=Tryz.f96) (by kernel_rfl) rfl (by kernel_rfl) (by decide) (by simp) ?_
 simp [V.c]
 (repeat' (first|contradiction|exact .ok|apply And.intro|intro _|(refine gc (fun h=>?_) (fun h=>?_)<;>(have i:=h;(try simp at i);first|done|simp[h,i]|simp))))
 refine acallT_plain (v_truth x) (by simp [V.a]) ?_
 simp [V.a]
 (repeat' (first|contradiction|exact .ok|apply And.intro|intro _|(refine gc (fun h=>?_) (fun h=>?_)<;>(have i:=h;(try simp at i);first|done|simp[h,i]|simp))))
 refine acallT_plain (e_truth (x.tr==1)) (by simp [V.a]) ?_
 simp [V.a]
 all_goals exact gz
theorem ap_13 (x:V):Cf En 96 [.d (.int .i64 13),.d (.sl ([x].map V.c))] [] (applyV 13 [x]).a []:=by
 refine cf_intro mix (fn:=Tryz.f96) (by kernel_rfl) rfl (by kernel_rfl) (by decide) (by simp) ?_
 by_cases h:x.k=3
 ·rw [show applyV 13 [x]=⟨1,x.t.length,[]⟩ from by simp [applyV,at0,h]]
  simp [V.c,V.a,h]
  (repeat' (first|contradiction|exact .ok|apply And.intro|intro _|(refine gc (fun h=>?_) (fun h=>?_)<;>(have i:=h;(try simp at i);first|done|simp[h,i,h]|simp[h]))))
 ·rw [show applyV 13 [x]=nulV from by simp [applyV,at0,h]]
  simp [V.c,V.a,h,nulV]
  (repeat' (first|contradiction|exact .ok|apply And.intro|intro _|(refine gc (fun h=>?_) (fun h=>?_)<;>(have i:=h;(try simp at i);first|done|simp[h,i,h]|simp[h]))))
theorem ap_27 (x y:V):Cf En 96 [.d (.int .i64 27),.d (.sl ([x,y].map V.c))] [] (applyV 27 [x,y]).a []:=by
 refine cf_intro mix (fn:=Tryz.f96) (by kernel_rfl) rfl (by kernel_rfl) (by decide) (by simp) ?_
 by_cases h:x.k=0
 ·rw [show applyV 27 [x,y]=y from by simp [applyV,at0,at1,h]]
  simp [V.c,V.a,h]
  (repeat' (first|contradiction|exact .ok|apply And.intro|intro _|(refine gc (fun h=>?_) (fun h=>?_)<;>(have i:=h;(try simp at i);first|done|simp[h,i,h]|simp[h]))))
 ·rw [show applyV 27 [x,y]=x from by simp [applyV,at0,at1,h]]
  simp [V.c,V.a,h]
  (repeat' (first|contradiction|exact .ok|apply And.intro|intro _|(refine gc (fun h=>?_) (fun h=>?_)<;>(have i:=h;(try simp at i);first|done|simp[h,i,h]|simp[h]))))
theorem V.clen (v:V):v.c.length=3:=rfl
theorem inV_take (x:V) (ys:List V) (i:Nat) (y:V) (h:ys[i]?=some y):inV x (ys.take (i+1))=orV (inV x (ys.take i)) (eqV x y):=by
 unfold inV
 rw [List.take_add_one,h]
 simp
theorem ap_28 (x:V) (ys:List V) (hl:ys.length≤1000):Cf En 96 [.d (.int .i64 28),.d (.sl ((x::ys).map V.c))] [] (applyV 28 (x::ys)).a []:=by
 have e:applyV 28 (x::ys)=inV x ys:=by simp [applyV,at0]
 rw [e]
 refine cf_intro mix (fn:=Tryz.f96) (by kernel_rfl) rfl (by kernel_rfl) (by decide) (by simp) ?_
 simp
 (repeat' (first|contradiction|exact .ok|apply And.intro|intro _|(refine gc (fun h=>?_) (fun h=>?_)<;>(have i:=h;(try simp at i);first|done|simp[h,i]|simp))))
 refine acallT_plain (v_bool 0) (by simp [V.a]) ?_
 have htk:List.take ys.length (List.map V.c ys)=List.map V.c ys:=List.take_of_length_le (by simp)
 have h1:(1:Int)≤(ys.length:Int)+1:=by omega
 simp only [boolV0,V.a]
 simp [htk,h1,V.clen]
 (repeat' (first|contradiction|exact .ok|apply And.intro|intro _|(refine gc (fun h=>?_) (fun h=>?_)<;>(have i:=h;(try simp at i);first|done|simp[h,i]|simp))))
 refine aloopT mix (by decide) (fun i:Nat=>{ s:=mkS [(1,.d (.sl ((x::ys).map V.c))),(4,.ptr 4 0 0),(5,.ptr 5 0 0),(168,.d (.sl (ys.map V.c))),(169,.d (.int .i64 ys.length)),(170,.d (.int .i64 i))],b:=mkB [(4,4,.var [.d (.int .i64 0),.d (.int .i64 0),.d (.str [])]),(5,5,.var (inV x (ys.take i)).a.cells)] }) (fun i:Nat=>i≤ys.length) (fun i=>ys.length - i) 0 (by simp) (sub_mk _ [(4,4,_),(5,5,_)] ⟨by simp,by simp,by simp [renOf,Blk.live,V.a,inV],by simp⟩ (by simp [renOf])) ?_
 intro i hi
 by_cases hlt:i<ys.length
 ·have hg:ys[i]?=some ys[i]:=List.getElem?_eq_getElem hlt
  have hlt':(i:Int)<ys.length:=by omega
  have ht:=inV_take x ys i ys[i] hg
  simp [hlt,hlt',hg,V.c,V.a]
  (repeat' (first|contradiction|exact .ok|apply And.intro|intro _|(refine gc (fun h=>?_) (fun h=>?_)<;>(have i:=h;(try simp at i);first|done|simp[h,i]|simp))))
  refine acallT_plain (v_eq x ys[i]) (by simp [V.a]) ?_
  simp [V.a]
  refine acallT_plain (v_or (inV x (ys.take i)) (eqV x ys[i])) (by simp [V.a]) ?_
  simp [V.a]
  (repeat' (first|contradiction|exact .ok|apply And.intro|intro _|(refine gc (fun h=>?_) (fun h=>?_)<;>(have i:=h;(try simp at i);first|done|simp[h,i]|simp))))
  refine ⟨i+1,hlt,?_,?_⟩
  ·refine sub_mk _ [(4,4,_),(5,5,_)] ⟨by simp,by simp,by simp [renOf,Blk.live,V.a,ht],by simp⟩ ?_
   simp [renOf,V.c]
   exact wrap_in (by omega) (by omega)
  ·simp; omega
 ·have hie:i=ys.length:=by omega
  subst hie
  simp [V.a,V.c]
  all_goals exact gz
theorem ap_1:Cf En 96 [.d (.int .i64 1),.d (.sl (([]:List V).map V.c))] [] (applyV 1 []).a []:=by
 rw [show applyV 1 []=nulV from by simp [applyV]]
 refine cf_intro mix (fn:=Tryz.f96) (by kernel_rfl) rfl (by kernel_rfl) (by decide) (by simp) ?_
 simp [nulV,V.a]
 all_goals exact gz
theorem len1 {l:List V} (h:l.length=1):∃ x,l=[x]:=by
 match l,h with
 | [x],_=>exact ⟨x,rfl⟩
theorem len2 {l:List V} (h:l.length=2):∃ x y,l=[x,y]:=by
 match l,h with
 | [x,y],_=>exact ⟨x,y,rfl⟩
theorem apply_all (op:Int) (l:List V) (hc:cntd op l.length=true) (hl:l.length≤1000) (n2:op ≠ 2) (n3:op ≠ 3) (n4:op ≠ 4) (n5:op ≠ 5) (n26:op ≠ 26) :
  Cf En 96 [.d (.int .i64 op),.d (.sl (l.map V.c))] [] (applyV op l).a []:=by
 have h1:isOp op=true:=by
  unfold cntd at hc
  simp only [Bool.and_eq_true] at hc
  exact hc.1
 have h2:1≤op∧op≤28:=by simpa [isOp] using h1
 have h3:op=1∨op=6∨op=7∨op=8∨op=9∨op=10∨op=11∨op=12∨op=13∨op=14∨op=15∨op=16∨op=17∨op=18∨op=19∨op=20∨op=21∨op=22∨op=23∨op=24∨op=25∨op=27∨op=28:=by omega
 clear h1 h2 n2 n3 n4 n5 n26
 rcases h3 with rfl | rfl | rfl | rfl | rfl | rfl | rfl | rfl | rfl | rfl | rfl | rfl | rfl | rfl | rfl | rfl | rfl | rfl | rfl | rfl | rfl | rfl | rfl
 ·have:l=[]:=by simpa [cntd,isOp,opOf,ops] using hc
  subst this; exact ap_1
 ·obtain ⟨x,y,rfl⟩:=len2 (l:=l) (by simp [cntd,isOp,opOf,ops] at hc; omega)
  exact ap_6 x y
 ·obtain ⟨x,y,rfl⟩:=len2 (l:=l) (by simp [cntd,isOp,opOf,ops] at hc; omega)
  exact ap_7 x y
 ·obtain ⟨x,y,rfl⟩:=len2 (l:=l) (by simp [cntd,isOp,opOf,ops] at hc; omega)
  exact ap_8 x y
 ·obtain ⟨x,y,rfl⟩:=len2 (l:=l) (by simp [cntd,isOp,opOf,ops] at hc; omega)
  exact ap_9 x y
 ·obtain ⟨x,y,rfl⟩:=len2 (l:=l) (by simp [cntd,isOp,opOf,ops] at hc; omega)
  exact ap_10 x y
 ·obtain ⟨x,rfl⟩:=len1 (l:=l) (by simp [cntd,isOp,opOf,ops] at hc; omega)
  exact ap_11 x
 ·obtain ⟨x,y,rfl⟩:=len2 (l:=l) (by simp [cntd,isOp,opOf,ops] at hc; omega)
  exact ap_12 x y
 ·obtain ⟨x,rfl⟩:=len1 (l:=l) (by simp [cntd,isOp,opOf,ops] at hc; omega)
  exact ap_13 x
 ·obtain ⟨x,y,rfl⟩:=len2 (l:=l) (by simp [cntd,isOp,opOf,ops] at hc; omega)
  exact ap_14 x y
 ·obtain ⟨x,y,rfl⟩:=len2 (l:=l) (by simp [cntd,isOp,opOf,ops] at hc; omega)
  exact ap_15 x y
 ·obtain ⟨x,y,rfl⟩:=len2 (l:=l) (by simp [cntd,isOp,opOf,ops] at hc; omega)
  exact ap_16 x y
 ·obtain ⟨x,y,rfl⟩:=len2 (l:=l) (by simp [cntd,isOp,opOf,ops] at hc; omega)
  exact ap_17 x y
 ·obtain ⟨x,y,rfl⟩:=len2 (l:=l) (by simp [cntd,isOp,opOf,ops] at hc; omega)
  exact ap_18 x y
 ·obtain ⟨x,y,rfl⟩:=len2 (l:=l) (by simp [cntd,isOp,opOf,ops] at hc; omega)
  exact ap_19 x y
 ·obtain ⟨x,y,rfl⟩:=len2 (l:=l) (by simp [cntd,isOp,opOf,ops] at hc; omega)
  exact ap_20 x y
 ·obtain ⟨x,rfl⟩:=len1 (l:=l) (by simp [cntd,isOp,opOf,ops] at hc; omega)
  exact ap_21 x
 ·obtain ⟨x,y,rfl⟩:=len2 (l:=l) (by simp [cntd,isOp,opOf,ops] at hc; omega)
  exact ap_22 x y
 ·obtain ⟨x,y,rfl⟩:=len2 (l:=l) (by simp [cntd,isOp,opOf,ops] at hc; omega)
  exact ap_23 x y
 ·obtain ⟨x,rfl⟩:=len1 (l:=l) (by simp [cntd,isOp,opOf,ops] at hc; omega)
  exact ap_24 x
 ·obtain ⟨x,rfl⟩:=len1 (l:=l) (by simp [cntd,isOp,opOf,ops] at hc; omega)
  exact ap_25 x
 ·obtain ⟨x,y,rfl⟩:=len2 (l:=l) (by simp [cntd,isOp,opOf,ops] at hc; omega)
  exact ap_27 x y
 ·cases l with
  | nil=>exact absurd hc (by decide)
  | cons x ys=>exact ap_28 x ys (by simp at hl; omega)
end Go.Proofs.Tryz
