import Derived.WalkKit
import Derived.Great.BuildSlice
import Derived.Lib.AppendZeros
set_option linter.all false
namespace Go.Ab
inductive D where
 | int (k:IntKind) (n:Int)
 | bool (b:Bool)
 | str (s:List UInt8)
 | val (v:Value)
 | ifn
 | any (p:Value→Prop)
 | sl (xs:List (List D))
mutual
def aU (μ:Nat→Nat→Option Value) (v:Value):D→Prop
 | .int k n=>v=.int k n
 | .bool b=>v=.bool b
 | .str s=>v=.string ⟨s.toArray⟩
 | .val u=>v=u∧u.oneCell'=true
 | .ifn=>∃ t x,v=.iface t x
 | .any p=>p v∧v.oneCell'=true
 | .sl xs=>∃ a cap,v=.slice a xs.length cap∧xs.length≤cap∧(xs=[]∨∃ b o sz,a=some ⟨b,o,none⟩∧lK μ b o sz xs)
def lK (μ:Nat→Nat→Option Value) (b o sz:Nat):List (List D)→Prop
 | []=>True
 | x::xs=>x.length=sz∧dT μ b o x∧lK μ b (o+sz) sz xs
def dT (μ:Nat→Nat→Option Value) (b o:Nat):List D→Prop
 | []=>True
 | c::cs=>(∃ v,μ b o=some v∧aU μ v c)∧dT μ b (o+1) cs
end
inductive AV where
 | un
 | sk
 | d (x:D)
 | agg (cs:List AV)
 | tup (cs:List AV)
 | ptr (n i j:Nat)
 | dp (cs:List D)
 | ref (n lo len sz:Nat)
 | nils
 | clo (f:FuncId) (caps:List AV)
 | bnd (f:FuncId) (first:List AV)
 | mref (n:Nat)
 | anyb
def AV.cells:AV→List AV
 | .agg cs=>cs
 | v=>[v]
def AV.isCell:AV→Bool
 | .d _ | .ptr .. | .dp _ | .ref .. | .nils | .clo .. | .bnd .. | .mref _ | .anyb=>true
 | _=>false
def AV.good:AV→Bool
 | .un | .sk | .tup _=>false
 | _=>true
inductive Blk where
 | free
 | dead
 | var (cells:List AV)
 | arr (ety sz:Nat) (xs:List (List D)) (frz:Bool)
 | iter (s:List UInt8) (i:Nat)
 | varr (ety sz:Nat) (xs:List (List AV))
 | mp (es:List (D×D))
def Blk.live:Blk→Bool
 | .var _ | .arr .. | .iter .. | .varr .. | .mp _=>true
 | _=>false
def Blk.frzd:Blk→Blk
 | .arr e s xs _=>.arr e s xs true
 | b=>b
def dQ {α:Type} (f:Nat→α) (i:Nat) (x:α):Nat→α:=fun j=>if j=i then x else f j
def bW {α:Type} (f:Nat→α):List (Nat×α)→Nat→α
 | []=>f
 | (i,x)::r=>bW (dQ f i x) r
structure St where
 s:Nat→AV
 b:Nat→Blk
structure Loc where
 blk:Nat
 asz:Nat
 sz:Nat
 nul:Bool
structure Gh where
 μ:Nat→Nat→Option Value
 L:Nat→Option Loc
mutual
def aG (h:Gh) (v:Value):AV→Prop
 | .un=>True
 | .sk=>v=undef
 | .d x=>aU h.μ v x
 | .agg cs=>∃ arr,v=.agg ⟨arr⟩∧bB h arr cs
 | .tup cs=>∃ arr,v=.tuple ⟨arr⟩∧bB h arr cs
 | .ptr n i j=>∃ l,h.L n=some l∧l.nul=false∧v=.pointer (some ⟨l.blk,i*l.sz+j,none⟩)
 | .dp cs=>∃ b o,v=.pointer (some ⟨b,o,none⟩)∧dT h.μ b o cs
 | .ref n lo len sz=>∃ l,h.L n=some l∧l.sz=sz∧if l.nul then v=.slice none 0 0∧lo=0∧len=0 else
   ∃ cap,v=.slice (some ⟨l.blk,lo*l.sz,none⟩) len cap∧len≤cap∧cap≤maxLen∧(lo+cap)*l.sz=l.asz
 | .nils=>v=.slice none 0 0
 | .clo f caps=>∃ arr,v=.func (.func f) #[] ⟨arr⟩∧bB h arr caps
 | .bnd f fs=>∃ arr,v=.func (.func f) ⟨arr⟩ #[]∧bB h arr fs
 | .mref n=>∃ l,h.L n=some l∧l.nul=false∧v=.map (some l.blk)
 | .anyb=>∃ b,v=.bool b
def bB (h:Gh):List Value→List AV→Prop
 | vs,[]=>vs=[]
 | vs,c::cs=>∃ u us,vs=u::us∧aG h u c∧bB h us cs
end
def D.keyV:D→Option Value
 | .int k n=>some (.int k n)
 | .bool b=>some (.bool b)
 | .str s=>some (.string ⟨s.toArray⟩)
 | _=>none
def mG (μ:Nat→Nat→Option Value):List MapEntry→List (D×D)→Prop
 | [],[]=>True
 | e::es,x::xs=>x.1.keyV=some e.key∧aU μ e.val x.2∧mG μ es xs
 | _,_=>False
def lL (h:Gh) (w:World) (n:Nat):Blk→Prop
 | .free=>h.L n=none
 | .dead=>∃ l,h.L n=some l
 | .var cells=>∃ l cs ety,h.L n=some l∧l.nul=false∧w.heap[l.blk]?=some (.cells ⟨cs⟩ ety (0,0))∧bB h cs cells∧∀ o,h.μ l.blk o=none
 | .arr ety sz xs frz=>∃ l,h.L n=some l∧l.sz=sz∧0<sz∧if l.nul then xs=[] else
   ∃ cs,w.heap[l.blk]?=some (.cells cs ety (0,0))∧cs.size=l.asz∧xs.length*sz≤cs.size ∧
     (∀ i x,xs[i]?=some x→x.length=sz∧∀ j c,x[j]?=some c→∃ v,cs[i*sz+j]?=some v∧aU h.μ v c) ∧
     ∀ o v,h.μ l.blk o=some v→frz=true∧o<xs.length*sz
 | .iter s i=>∃ l,h.L n=some l∧l.nul=false∧w.heap[l.blk]?=some (.stringIter ⟨s.toArray⟩ i)∧∀ o,h.μ l.blk o=none
 | .varr ety sz xs=>∃ l,h.L n=some l∧l.sz=sz∧0<sz∧if l.nul then xs=[] else
   ∃ cs,w.heap[l.blk]?=some (.cells cs ety (0,0))∧cs.size=l.asz∧xs.length*sz≤cs.size ∧
     (∀ i x,xs[i]?=some x→x.length=sz∧∀ j c,x[j]?=some c→∃ v,cs[i*sz+j]?=some v∧aG h v c) ∧
     ∀ o,h.μ l.blk o=none
 | .mp es=>∃ l es' clock,h.L n=some l∧l.nul=false∧w.heap[l.blk]?=some (.map es' clock)∧mG h.μ es'.toList es∧es.Pairwise (fun a b=>a.1.keyV ≠ b.1.keyV)∧∀ o,h.μ l.blk o=none
inductive TK where
 | bool
 | int (k:IntKind)
 | string
 | slice (e:TypeId)
 | array (n:Nat) (e:TypeId)
 | struct (fs:List (Nat×Nat×Bool))
 | other
structure TI where
 size:Nat
 bytes:Nat
 zero:Option (List Value)
 kind:TK
def TK.agg:TK→Bool
 | .array .. | .struct _=>true
 | _=>false
def mW:TypeDesc→Bool
 | .struct _ | .array ..=>true
 | _=>false
def nW (P:Program) (f:Field):Nat×Nat×Bool :=
 match P.info? f.type,P.underlying f.type with
 | some i,some d=>(f.offset,i.size,mW d)
 | _,_=>(f.offset,0,false)
def rY (P:Program):TypeDesc→TK
 | .bool=>.bool
 | .int k=>.int k
 | .string=>.string
 | .slice e=>.slice e
 | .array n e=>.array n e
 | .struct fs=>.struct (fs.toList.map (nW P))
 | _=>.other
def cV (P:Program) (t:TypeId):Option TI :=
 match P.info? t,P.underlying t with
 | some i,some d=>some { size:=i.size,bytes:=i.bytes,zero:=i.zero.map (·.cells.toList),kind:=rY P d }
 | _,_=>none
def iF:Value→AV
 | .int k n=>.d (.int k n)
 | .bool b=>.d (.bool b)
 | .string s=>.d (.str s.data.toList)
 | .slice none 0 0=>.nils
 | .nilIface=>.d (.val .nilIface)
 | .nilFunc=>.d (.val .nilFunc)
 | .map none=>.d (.val (.map none))
 | _=>.un
def mX (G:Nat→Option (List D)) (s:Nat→AV):Operand→AV
 | .tmp t=>s t
 | .const v=>iF v
 | .global g=>match G g with | some cs=>.dp cs | none=>.un
 | .func f=>.clo f []
def tB:AV→List AV→Option (FuncId×List AV)
 | .clo f caps,args=>some (f,args++caps)
 | .bnd f fs,args=>some (f,fs++args)
 | _,_=>none
def OB (bl:Nat→Blk):AV→Option (D×List Nat)
 | .d x=>some (x,[])
 | .nils=>some (.sl [],[])
 | .ref n lo len _=>match bl n with
   | .arr _ _ xs _=>if lo+len≤xs.length then some (.sl ((xs.drop lo).take len),[n]) else none
   | _=>none
 | _=>none
def qH (bl:Nat→Blk):List AV→Option (List D×List Nat)
 | []=>some ([],[])
 | c::cs=>match OB bl c,qH bl cs with
   | some (x,l),some (xs,ls)=>some (x::xs,l++ls)
   | _,_=>none
def eC (bl:Nat→Blk) (l:List Nat):List (Nat×Blk):=l.map fun n=>(n,(bl n).frzd)
def nL (agg:Bool) (size:Nat) (cells:List AV):Option AV :=
 if agg then (if size≤cells.length then some (.agg (cells.take size)) else none)
 else cells.head?
abbrev BL:=Option (AV×List (Nat×Blk))
def eB (v:AV):BL:=some (v,[])
def OC (dst:Option Tmp) (bl:Nat→Blk) (b:Blk) (v:Nat→AV):BL :=
 match dst with
 | some n=>match bl n with
   | .free=>some (v n,[(n,b)])
   | _=>none
 | none=>none
def xG (ti:TI) (bl:Nat→Blk):AV→BL
 | .ptr n i j=>match bl n with
   | .var cells=>if i=0 then (nL ti.kind.agg ti.size (cells.drop j)).map (·,[]) else none
   | .arr _ _ xs _=>match xs[i]? with
     | some x=>(nL ti.kind.agg ti.size ((x.map AV.d).drop j)).map (·,[])
     | none=>none
   | .varr _ _ xs=>match xs[i]? with
     | some x=>(nL ti.kind.agg ti.size (x.drop j)).map (·,[])
     | none=>none
   | _=>none
 | .dp cs=>(nL ti.kind.agg ti.size (cs.map AV.d)).map (·,[])
 | _=>none
def dI {α:Type} (l:List α) (j:Nat) (vs:List α):List α:=l.take j++vs++l.drop (j+vs.length)
def OD (ti:TI) (bl:Nat→Blk) (v:AV):AV→BL
 | .ptr n i j=>if v.good=true∧v.cells.length=ti.size∧v.cells.all AV.isCell=true then match bl n with
   | .var cells=>if i=0∧j+ti.size≤cells.length then some (.sk,[(n,.var (dI cells j v.cells))]) else none
   | .arr e s xs false=>match xs[i]?,qH bl v.cells with
     | some x,some (ds,[])=>if j+ti.size≤x.length then some (.sk,[(n,.arr e s (xs.set i (dI x j ds)) false)]) else none
     | _,_=>none
   | .varr e s xs=>match xs[i]? with
     | some x=>if j+ti.size≤x.length then some (.sk,[(n,.varr e s (xs.set i (dI x j v.cells)))]) else none
     | none=>none
   | _=>none
   else none
 | _=>none
def tC (k:TK) (f:Nat):AV→BL
 | .ptr n i j=>match k with
   | .struct fs=>match fs[f]? with
     | some (off,sz,_)=>if sz=0 then none else eB (.ptr n i (j+off))
     | none=>none
   | _=>none
 | .dp cs=>match k with
   | .struct fs=>match fs[f]? with
     | some (off,sz,_)=>if sz=0∨cs.length<off then none else eB (.dp (cs.drop off))
     | none=>none
   | _=>none
 | _=>none
def OE (k:TK) (f:Nat):AV→BL
 | .agg cs=>match k with
   | .struct fs=>match fs[f]? with
     | some (off,sz,ag)=>if sz=0 then none else (nL ag sz (cs.drop off)).map (·,[])
     | none=>none
   | _=>none
 | _=>none
def tD (P:Program) (k:TK) (i:Int) (x:AV):BL :=
 match k,x with
 | .slice e,.d (.sl xs)=>match cV P e with
   | some te=>if 0≤i then match xs[i.toNat]? with
     | some y=>if y.length=te.size then eB (.dp y) else none
     | none=>none
     else none
   | none=>none
 | .slice e,.ref n lo len sz=>match cV P e with
   | some te=>if 0≤i∧i.toNat<len∧sz=te.size then eB (.ptr n (lo+i.toNat) 0) else none
   | none=>none
 | .array n e,.dp cs=>match cV P e with
   | some te=>if 0≤i∧i<n∧i.toNat*te.size≤cs.length then eB (.dp (cs.drop (i.toNat*te.size))) else none
   | none=>none
 | .array m e,.ptr n k' j=>match cV P e with
   | some te=>if 0≤i∧i<m then eB (.ptr n k' (j+i.toNat*te.size)) else none
   | none=>none
 | _,_=>none
def OF (k:TK) (i:Int) (x:AV):BL :=
 match k,x with
 | .string,.d (.str s)=>if 0≤i then match s[i.toNat]? with
   | some c=>eB (.d (.int .u8 c.toNat))
   | none=>none
   else none
 | _,_=>none
def aHz (op:BinOp) (k:IntKind) (a b:Int):Option D :=
 match op with
 | .add=>some (.int k (k.wrap (a+b)))
 | .sub=>some (.int k (k.wrap (a - b)))
 | .mul=>some (.int k (k.wrap (a*b)))
 | .quo=>if b=0 then none else some (.int k (k.wrap (a.tdiv b)))
 | .rem=>if b=0 then none else some (.int k (a.tmod b))
 | .shr=>if b<0 then none else some (.int k (a.fdiv (2 ^ (min b.toNat k.bits))))
 | .eql=>some (.bool (a==b))
 | .neq=>some (.bool (a != b))
 | .lss=>some (.bool (decide (a<b)))
 | .leq=>some (.bool (decide (a≤b)))
 | .gtr=>some (.bool (decide (a>b)))
 | .geq=>some (.bool (decide (a≥b)))
 | _=>none
def aHA (op:BinOp) (a b:List UInt8):Option D :=
 match op with
 | .add=>if a.length+b.length≤9223372036854775807 then some (.str (a++b)) else none
 | .eql=>some (.bool (a==b))
 | .neq=>some (.bool !(a==b))
 | .lss=>some (.bool (Op.bytesLess a b))
 | .leq=>some (.bool (Op.bytesLess a b||a==b))
 | .gtr=>some (.bool !(Op.bytesLess a b||a==b))
 | .geq=>some (.bool !(Op.bytesLess a b))
 | _=>none
def OG:TK→AV→AV→Option Bool
 | .int _,.d (.int k a),.d (.int k' b)=>if k=k' then some (a==b) else none
 | .bool,.d (.bool a),.d (.bool b)=>some (a==b)
 | .string,.d (.str a),.d (.str b)=>some (a==b)
 | _,_,_=>none
def eD:List TK→List AV→List AV→Option Bool
 | [],[],[]=>some true
 | k::ks,x::xs,y::ys=>match OG k x y,eD ks xs ys with
   | some a,some b=>some (a&&b)
   | _,_=>none
 | _,_,_=>none
def EU (P:Program):Nat→List Field→Bool
 | _,[]=>true
 | i, f :: fs => f.offset == i && f.name != "_" && (match P.underlying f.type with | some d => !mW d | none => false) && EU P (i + 1) fs
def XE (P:Program) (f:Field):TK:=((P.underlying f.type).map (rY P)).getD .other
def aEn (P:Program) (f:Field):Option (List TK):=match P.underlying f.type with
 | some (.struct fs)=>match P.info? f.type with
   | some i=>if (!P.stoodInHeld f.type&&EU P 0 fs.toList&&i.size==fs.size)=true then some (fs.toList.map (XE P)) else none
   | none=>none
 | some d=>if mW d=true then none else some [rY P d]
 | none=>none
def BM (P:Program):Nat→List Field→Option (List TK)
 | _,[]=>some []
 | i, f :: fs => if (f.offset == i && f.name != "_") = true then match aEn P f with
   | some ks=>match BM P (i+ks.length) fs with
     | some r=>some (ks++r)
     | none=>none
   | none=>none
   else none
def GM (P:Program) (t:TypeId):Option (List TK) :=
 match P.underlying t with
 | some (.struct fs)=>if (!P.stoodInHeld t&&!P.eqGuardType P.depth t)=true then BM P 0 fs.toList else none
 | _=>none
def aAM (op:BinOp):AV→Option AV
 | .nils=>match op with
   | .eql=>some (.d (.bool true))
   | .neq=>some (.d (.bool false))
   | _=>none
 | .d (.sl [])=>match op with
   | .eql | .neq=>some .anyb
   | _=>none
 | .d (.sl (_::_))=>match op with
   | .eql=>some (.d (.bool false))
   | .neq=>some (.d (.bool true))
   | _=>none
 | .ref _ _ len _=>match op with
   | .eql=>some (if 0<len then .d (.bool false) else .anyb)
   | .neq=>some (if 0<len then .d (.bool true) else .anyb)
   | _=>none
 | _=>none
def aHB (P:Program) (op:BinOp) (t:TypeId) (x y:AV):Option AV :=
 match x,y with
 | .d (.int k a),.d (.int k' b)=>if k=k' then (aHz op k a b).map AV.d else none
 | .d (.str a),.d (.str b)=>(aHA op a b).map AV.d
 | .d (.bool a),.d (.bool b)=>match cV P t with
   | some ti=>match ti.kind,op with
     | .bool,.eql=>some (.d (.bool (a==b)))
     | .bool,.neq=>some (.d (.bool !(a==b)))
     | _,_=>none
   | none=>none
 | .agg xs,.agg ys=>match GM P t with
   | some ks=>match op,eD ks xs ys with
     | .eql,some b=>some (.d (.bool b))
     | .neq,some b=>some (.d (.bool !b))
     | _,_=>none
   | none=>none
 | x,.nils=>match cV P t with
   | some ti=>match ti.kind with
     | .slice _=>aAM op x
     | _=>none
   | none=>none
 | _,_=>none
def unE (op:UnOp):AV→Option AV
 | .d (.int k n)=>match op with
   | .neg=>some (.d (.int k (k.wrap (0 - n))))
   | _=>none
 | .d (.bool b)=>match op with
   | .not=>some (.d (.bool !b))
   | _=>none
 | _=>none
def uO:AV→Option Int
 | .d (.int _ n)=>some n
 | _=>none
def BN:Option AV→Option (Option Int)
 | none=>some none
 | some v=>(uO v).map some
def OH (P:Program) (k:TK) (x:AV) (lo hi mx:Option AV):BL :=
 match BN lo,BN hi,mx with
 | some lo,some hi,none=>match k,x with
   | .slice e,.d (.sl xs)=>match cV P e with
     | some te =>
       if 0≤lo.getD 0∧lo.getD 0≤hi.getD xs.length∧hi.getD xs.length≤xs.length∧((xs.take (hi.getD xs.length).toNat).drop (lo.getD 0).toNat).all (·.length==te.size)=true then
        eB (.d (.sl ((xs.take (hi.getD xs.length).toNat).drop (lo.getD 0).toNat))) else none
     | none=>none
   | .slice e,.ref n lo' len sz=>match cV P e with
     | some te =>
       if te.size=sz∧0≤lo.getD 0∧lo.getD 0≤hi.getD len∧hi.getD len≤len∧(lo.getD 0=0∨lo.getD 0<len) then
        eB (.ref n (lo'+(lo.getD 0).toNat) ((hi.getD len).toNat - (lo.getD 0).toNat) sz)
       else if te.size=sz∧0≤lo.getD 0∧lo.getD 0=hi.getD len∧hi.getD len≤len then eB (.d (.sl [])) else none
     | none=>none
   | .slice e,.nils=>match cV P e with
     | some _=>if lo.getD 0=0∧hi.getD 0=0 then eB .nils else none
     | none=>none
   | .string,.d (.str s) =>
     if 0≤lo.getD 0∧lo.getD 0≤hi.getD s.length∧hi.getD s.length≤s.length then
      eB (.d (.str ((s.take (hi.getD s.length).toNat).drop (lo.getD 0).toNat))) else none
   | _,_=>none
 | _,_,_=>none
def aHC (k:TK):AV→Option AV
 | .d (.str s)=>match k with | .string=>some (.d (.int .i64 s.length)) | _=>none
 | .d (.sl xs)=>match k with | .slice _=>some (.d (.int .i64 xs.length)) | _=>none
 | .ref _ _ len _=>match k with | .slice _=>some (.d (.int .i64 len)) | _=>none
 | .nils=>match k with | .slice _=>some (.d (.int .i64 0)) | _=>none
 | _=>none
def zC (bl:Nat→Blk):AV→Option (List (List D))
 | .d (.sl xs)=>some xs
 | .nils=>some []
 | .ref n lo len _=>match bl n with
   | .arr _ _ xs _=>if lo+len≤xs.length then some ((xs.drop lo).take len) else none
   | _=>none
 | _=>none
def OI (m:Nat):AV→Bool
 | .ref n _ _ _=>n != m
 | _=>true
def EV (P:Program) (dst:Option Tmp) (e:TypeId) (bl:Nat→Blk) (s x:AV):BL :=
 match cV P e,zC bl x,dst with
 | some te,some ys,some n=>if ys.all (·.length==te.size)=true∧0<te.size∧te.zero.map List.length=some te.size then
   match s with
   | .nils=>if ys.length*te.bytes≤140737488355328∧ys.length≤9223372036854775807 then
     match bl n with
     | .free=>some (.ref n 0 ys.length te.size,[(n,.arr e te.size ys false)])
     | _=>none
     else none
   | .ref m 0 len _=>match bl m with
     | .arr e' sz xs frz=>if e'=e∧sz=te.size∧len=xs.length∧(xs.length+ys.length)*te.bytes≤140737488355328∧xs.length+ys.length≤9223372036854775807∧n ≠ m then
       match bl n with
       | .free=>some (.ref n 0 (xs.length+ys.length) te.size,[(m,.dead),(n,.arr e sz (xs++ys) frz)])
       | _=>none
       else if e'=e∧sz=te.size∧len≤xs.length∧frz=false∧(len+ys.length)*te.bytes≤140737488355328∧len+ys.length≤9223372036854775807∧n ≠ m∧OI m x=true then
        match bl n with
        | .free=>some (.ref n 0 (len+ys.length) te.size,[(m,.dead),(n,.arr e sz (xs.take len++ys) frz)])
        | _=>none
       else none
     | _=>none
   | _=>none
   else none
 | _,_,_=>none
def GN (place:Nat→Option (Nat×Nat)) (cells:List AV):List (Nat×AV)→Option (List AV)
 | []=>some cells
 | (i,v)::rest=>match place i with
   | none=>none
   | some (off,size)=>if v.good=true∧v.cells.length=size∧off+size≤cells.length then GN place (dI cells off v.cells) rest else none
def rK {α:Type} (sz:Nat):Nat→List α→List (List α)
 | 0,_=>[]
 | n+1,l=>l.take sz::rK sz n (l.drop sz)
def OJ (P:Program) (t:TypeId) (parts:List (Nat×AV)):BL :=
 match cV P t with
 | some ti=>match ti.kind,ti.zero with
   | .struct fs,some z=>if fs.all (fun f=>f.2.1 != 0)=true then (GN (fun i=>(fs[i]?).map fun f=>(f.1,f.2.1)) (z.map iF) parts).map fun cs=>(.agg cs,[]) else none
   | .array _ e,some z=>match cV P e with
     | some te=>(GN (fun i=>some (i*te.size,te.size)) (z.map iF) parts).map fun cs=>(.agg cs,[])
     | none=>none
   | _,_=>none
 | none=>none
def qO (P:Program) (dst:Option Tmp) (t:TypeId) (len:Nat) (bl:Nat→Blk) (parts:List (Nat×AV)):BL :=
 match cV P t with
 | some { kind:=.slice e,.. }=>match cV P e with
   | some te=>if parts.map (·.1)=List.range len∧parts.all (fun p=>p.2.good)=true∧0<te.size∧len*te.size≤16777216∧te.zero.isSome=true∧parts.all (fun p=>p.2.cells.length==te.size)=true then
     match qH bl (parts.flatMap (·.2.cells)),dst with
     | some (ds,l),some n=>if n∈l then none else match bl n with
       | .free=>some (.ref n 0 len te.size,eC bl l++[(n,.arr e te.size (rK te.size len ds) false)])
       | _=>none
     | _,_=>none
     else none
   | none=>none
 | _=>none
def aAN (P:Program) (src dst:TypeId) (x:AV):Option AV :=
 match cV P src,cV P dst,x with
 | some ts,some td,.d (.int _ n)=>match ts.kind,td.kind with
   | .int _,.int k=>some (.d (.int k (k.wrap n)))
   | _,_=>none
 | some ts,some td,.d (.str s)=>match ts.kind,td.kind with
   | .string,.string=>some (.d (.str s))
   | _,_=>none
 | _,_,_=>none
def LU:List (List D)→Option (List UInt8)
 | []=>some []
 | [.int .u8 n]::l=>match LU l with
   | some r=>some (UInt8.ofNat n.toNat::r)
   | none=>none
 | _=>none
def aAO (P:Program) (src dst:TypeId) (bl:Nat→Blk) (x:AV):BL :=
 match x with
 | .ref n lo len sz=>match cV P src,cV P dst with
   | some ts,some td=>match ts.kind,td.kind with
     | .slice e,.string=>match cV P e with
       | some te=>match te.kind,bl n with
         | .int .u8,.arr _ _ xs _=>if sz=1∧0<len∧lo+len≤xs.length then match LU ((xs.drop lo).take len) with
           | some b=>eB (.d (.str b))
           | none=>none
           else none
         | _,_=>none
       | none=>none
     | _,_=>none
   | _,_=>none
 | x=>(aAN P src dst x).map (·,[])
def aHD (bl:Nat→Blk):List Value→Option (List D×List Nat)
 | [.slice none 0 0]=>some ([.val (.slice none 0 0)],[])
 | z=>qH bl (z.map iF)
def tE (P:Program) (dst:Option Tmp) (t:TypeId) (bl:Nat→Blk) (l c:AV):BL :=
 match cV P t,uO l,uO c with
 | some { kind:=.slice e,.. },some l,some c=>match cV P e with
   | some te=>match te.zero with
     | some z=>if 0≤l∧l=c∧l≤9223372036854775807∧(te.bytes:Int)*l≤281474976710656∧0<te.size∧z.length=te.size then
       match aHD bl z with
       | some (ds,[])=>OC dst bl (.arr e te.size (List.replicate l.toNat ds) false) fun n=>.ref n 0 l.toNat te.size
       | _=>none
       else none
     | none=>none
   | none=>none
 | _,_,_=>none
def zD (P:Program) (dst:Option Tmp) (t t':TypeId) (bl:Nat→Blk) (s x:AV):BL :=
 match cV P t,cV P t',s,x with
 | some { kind:=.slice e,.. },some { kind:=.int _,.. },.nils,.d (.int _ n)=>match cV P e with
   | some te=>match te.zero with
     | some z=>if 0<n∧n≤9223372036854775807∧(te.bytes:Int)*n≤281474976710656∧0<te.size∧z.length=te.size then
       match qH bl (z.map iF) with
       | some (ds,[])=>OC dst bl (.arr e te.size (List.replicate n.toNat ds) false) fun m=>.ref m 0 n.toNat te.size
       | _=>none
       else none
     | none=>none
   | none=>none
 | _,_,_,_=>none
def GO (f:Int→Int→Int) (k:IntKind):Int→List AV→Option Int
 | a,[]=>some a
 | a,.d (.int k' b)::r=>if k'=k then GO f k (f a b) r else none
 | _,_=>none
def aHE (k:TK):AV→Option AV
 | .nils=>match k with | .slice _=>some (.d (.int .i64 0)) | _=>none
 | _=>none
def EW (P:Program) (t:TypeId):Bool:=match P.underlying t with
 | some (.interface _)=>true
 | _=>false
def aHF (P:Program) (op:BinOp) (t:TypeId) (x:AV):Option AV :=
 if EW P t=true then match x,op with
  | .d (.val .nilIface),.eql=>some (.d (.bool true))
  | .d (.val .nilIface),.neq=>some (.d (.bool false))
  | .d .ifn,.eql=>some (.d (.bool false))
  | .d .ifn,.neq=>some (.d (.bool true))
  | _,_=>none
 else none
def OK (P:Program) (t:TypeId) (bl:Nat→Blk):AV→BL
 | .ref n lo len sz=>match cV P t with
   | some { kind:=.slice e,.. }=>match cV P e with
     | some te=>match te.zero with
       | some z=>match bl n with
         | .arr e' s xs false=>if 0<len∧lo+len≤xs.length∧s=te.size∧sz=te.size∧z.length=te.size then
           match qH bl (z.map iF) with
           | some (ds,[])=>some (.tup [],[(n,.arr e' s (xs.take lo++List.replicate len ds++xs.drop (lo+len)) false)])
           | _=>none
           else none
         | _=>none
       | none=>none
     | none=>none
   | _=>none
 | _=>none
def DN:D→D→Bool
 | .int k a,.int k' b=>k==k'&&a==b
 | .bool a,.bool b=>a==b
 | .str a,.str b=>a==b
 | _,_=>false
def uP:TypeDesc→D→Bool
 | .int k,.int k' _=>k'==k
 | .bool,.bool _=>true
 | .string,.str _=>true
 | _,_=>false
def GP (k v:D):List (D×D)→List (D×D)
 | []=>[(k,v)]
 | e::r=>if DN k e.1=true then (k,v)::r else e::GP k v r
def GQ (k:D):List (D×D)→List (D×D)
 | []=>[]
 | e::r=>if DN k e.1=true then r else e::GQ k r
def zE (k:D):List (D×D)→Option D
 | []=>none
 | e::r=>if DN k e.1=true then some e.2 else zE k r
def qP (P:Program) (t:TypeId):Option (TypeDesc×Option D):=match P.underlying t with
 | some (.map k e)=>(P.underlying k).map fun kd=>(kd,((P.info? e).bind (·.zero)).bind fun z=>match iF z with | .d d=>some d | _=>none)
 | _=>none
def aAP (P:Program) (t:TypeId) (ok:Bool) (bl:Nat→Blk) (m k:AV):BL :=
 match qP P t,k with
 | some (kd,some z),.d k=>if uP kd k=true then match m with
   | .mref n=>match bl n with
     | .mp es=>if es.all (fun e=>uP kd e.1)=true then
       some (if ok=true then .tup [.d ((zE k es).getD z),.d (.bool (zE k es).isSome)] else .d ((zE k es).getD z),[])
       else none
     | _=>none
   | .d (.val (.map none))=>some (if ok=true then .tup [.d z,.d (.bool false)] else .d z,[])
   | _=>none
   else none
 | _,_=>none
def EX (P:Program) (t:TypeId) (bl:Nat→Blk) (m k v:AV):BL :=
 match qP P t,m,k,v with
 | some (kd,_),.mref n,.d k,.d v=>match bl n with
   | .mp es=>if uP kd k=true∧es.all (fun e=>uP kd e.1)=true then some (.sk,[(n,.mp (GP k v es))]) else none
   | _=>none
 | _,_,_,_=>none
def EY (P:Program) (t:TypeId) (bl:Nat→Blk) (m k:AV):BL :=
 match qP P t,k with
 | some (kd,_),.d k=>match m with
   | .mref n=>match bl n with
     | .mp es=>if uP kd k=true∧es.all (fun e=>uP kd e.1)=true then some (.tup [],[(n,.mp (GQ k es))]) else none
     | _=>none
   | .d (.val (.map none))=>if uP kd k=true then some (.tup [],[]) else none
   | _=>none
 | _,_=>none
def EZ (P:Program) (t:TypeId) (bl:Nat→Blk):AV→BL
 | .mref n=>match qP P t with
   | some _=>match bl n with
     | .mp es=>some (.d (.int .i64 es.length),[])
     | _=>none
   | none=>none
 | _=>none
def aAQ (P:Program) (t:TypeId) (bl:Nat→Blk) (d s:AV):BL :=
 match cV P t with
 | some { kind:=.slice e,.. }=>match cV P e,zC bl s with
   | some te,some ys=>if ys.all (·.length==te.size)=true then match d with
     | .nils=>some (.d (.int .i64 0),[])
     | .ref n lo len sz=>if min ys.length len=0 then some (.d (.int .i64 0),[]) else match bl n with
       | .arr e' z xs false=>if lo+len≤xs.length∧z=te.size∧sz=te.size then
         some (.d (.int .i64 (min ys.length len:Nat)),[(n,.arr e' z (xs.take lo++ys.take (min ys.length len)++xs.drop (lo+min ys.length len)) false)])
         else none
       | _=>none
     | _=>none
     else none
   | _,_=>none
 | _=>none
def aHG (op:BinOp):AV→Option AV
 | .mref _=>match op with
   | .eql=>some (.d (.bool false))
   | .neq=>some (.d (.bool true))
   | _=>none
 | .d (.val (.map none))=>match op with
   | .eql=>some (.d (.bool true))
   | .neq=>some (.d (.bool false))
   | _=>none
 | _=>none
def AV.mnames:AV→List Nat
 | .mref n=>[n]
 | _=>[]
def zJ (P:Program) (ρ:Operand→AV) (dst:Option Tmp) (c:Call) (bl:Nat→Blk):BL :=
 match c.callee with
 | .builtin .len=>match c.args.toList,c.argTypes.toList with
   | [x],[t]=>match ρ x with
     | .mref n=>EZ P t bl (.mref n)
     | v=>match cV P t with
       | some ti=>(aHC ti.kind v).map (·,[])
       | none=>none
   | _,_=>none
 | .builtin .delete=>match c.args.toList,c.argTypes.toList with
   | [m,k],t::_=>EY P t bl (ρ m) (ρ k)
   | _,_=>none
 | .builtin .copy=>match c.args.toList,c.argTypes.toList with
   | [d,s],[t,_]=>aAQ P t bl (ρ d) (ρ s)
   | _,_=>none
 | .builtin .clear=>match c.args.toList,c.argTypes.toList with
   | [x],[t]=>OK P t bl (ρ x)
   | _,_=>none
 | .builtin .cap=>match c.args.toList,c.argTypes.toList with
   | [x],[t]=>match cV P t with
     | some ti=>(aHE ti.kind (ρ x)).map (·,[])
     | none=>none
   | _,_=>none
 | .builtin .append=>match c.args.toList,c.argTypes.toList with
   | [s,x],[t,t']=>if t'=t then match cV P t with
     | some { kind:=.slice e,.. }=>EV P dst e bl (ρ s) (ρ x)
     | _=>none
     else zD P dst t t' bl (ρ s) (ρ x)
   | _,_=>none
 | .builtin .max=>match c.args.toList with
   | [x,y]=>match ρ x,ρ y with
     | .d (.int k a),.d (.int k' b)=>if k'=k then eB (.d (.int k (if b>a then b else a))) else none
     | _,_=>none
   | x::r=>match ρ x with
     | .d (.int k a)=>(GO (fun a b=>if b>a then b else a) k a (r.map ρ)).map fun n=>(.d (.int k n),[])
     | _=>none
   | _=>none
 | .builtin .min=>match c.args.toList with
   | [x,y]=>match ρ x,ρ y with
     | .d (.int k a),.d (.int k' b)=>if k'=k then eB (.d (.int k (if b<a then b else a))) else none
     | _,_=>none
   | x::r=>match ρ x with
     | .d (.int k a)=>(GO (fun a b=>if b<a then b else a) k a (r.map ρ)).map fun n=>(.d (.int k n),[])
     | _=>none
   | _=>none
 | _=>none
def aAR (bl:Nat→Blk):AV→BL
 | .ptr n 0 0=>match bl n with
   | .iter s i=>if i<s.length then some (.tup [.d (.bool true),.d (.int .i64 i),.d (.int .i32 (Utf8.decode ⟨s.toArray⟩ i).1)],[(n,.iter s (i+(Utf8.decode ⟨s.toArray⟩ i).2))])
     else some (.tup [.d (.bool false)],[])
   | _=>none
 | _=>none
def OL (k:TK) (dst:Option Tmp) (bl:Nat→Blk) (x:AV):BL :=
 match k,x with
 | .string,.d (.str s)=>OC dst bl (.iter s 0) fun n=>.ptr n 0 0
 | _,_=>none
def zK (P:Program) (ρ:Operand→AV) (o:Oper) (bl:Nat→Blk):BL :=
 match o.op with
 | .move x | .assign x=>eB (ρ x)
 | .pick c a b=>match ρ c with
   | .d (.bool t)=>eB (if t=true then ρ a else ρ b)
   | _=>none
 | .alloc t=>match cV P t with
   | some ti=>match ti.zero with
     | some z=>OC o.dst bl (.var (z.map iF)) fun n=>.ptr n 0 0
     | none=>none
   | none=>none
 | .box _ x=>if (ρ x).good=true then OC o.dst bl (.var (ρ x).cells) fun n=>.ptr n 0 0 else none
 | .build t ps=>OJ P t (ps.toList.map fun p=>(p.1,ρ p.2))
 | .buildSlice t len ps=>qO P o.dst t len bl (ps.toList.map fun p=>(p.1,ρ p.2))
 | .load t a=>match cV P t with
   | some ti=>xG ti bl (ρ a)
   | none=>none
 | .store t a v=>match cV P t with
   | some ti=>OD ti bl (ρ v) (ρ a)
   | none=>none
 | .nilCheck x=>match ρ x with
   | .ptr n i j=>eB (.ptr n i j)
   | .dp cs=>eB (.dp cs)
   | _=>none
 | .binOp op t x y _=>match y with
   | .const .nilIface=>match ρ (.const .nilIface) with
     | .d (.val .nilIface)=>(aHF P op t (ρ x)).map (·,[])
     | _=>none
   | .const (.map none)=>match ρ (.const (.map none)) with
     | .d (.val (.map none))=>if (qP P t).isSome=true then (aHG op (ρ x)).map (·,[]) else none
     | _=>none
   | y=>(aHB P op t (ρ x) (ρ y)).map (·,[])
 | .unOp op _ x=>(unE op (ρ x)).map (·,[])
 | .convert s d x=>aAO P s d bl (ρ x)
 | .makeFunc (.func f) first caps=>if first.size=0 then eB (.clo f (caps.toList.map ρ)) else if caps.size=0 then eB (.bnd f (first.toList.map ρ)) else none
 | .makeSlice t l c=>tE P o.dst t bl (ρ l) (ρ c)
 | .slice t x lo hi mx=>match cV P t with
   | some ti=>OH P ti.kind (ρ x) (lo.map ρ) (hi.map ρ) (mx.map ρ)
   | none=>none
 | .fieldAddr t x f=>match cV P t with
   | some ti=>tC ti.kind f (ρ x)
   | none=>none
 | .field t x f=>match cV P t with
   | some ti=>OE ti.kind f (ρ x)
   | none=>none
 | .indexAddr t x i=>match cV P t,uO (ρ i) with
   | some ti,some i=>tD P ti.kind i (ρ x)
   | _,_=>none
 | .index t x i=>match cV P t,uO (ρ i) with
   | some ti,some i=>OF ti.kind i (ρ x)
   | _,_=>none
 | .extract x i=>match ρ x with
   | .tup vs=>(vs[i]?).map (·,[])
   | _=>none
 | .range t x=>match cV P t with
   | some ti=>OL ti.kind o.dst bl (ρ x)
   | none=>none
 | .next x isS=>if isS=true then aAR bl (ρ x) else none
 | .makeMap _ none=>OC o.dst bl (.mp []) fun n=>.mref n
 | .mapUpdate t m k v=>EX P t bl (ρ m) (ρ k) (ρ v)
 | .lookup t m k ok=>aAP P t ok bl (ρ m) (ρ k)
 | .call c=>zJ P ρ o.dst c bl
 | _=>none
def AV.names:AV→List Nat
 | .ptr n _ _=>[n]
 | .ref n _ _ _=>[n]
 | .mref n=>[n]
 | _=>[]
def zL (l:List AV):List Nat:=l.flatMap fun v=>v.cells.flatMap AV.names
def oE (ρ:Operand→AV) (o:Oper):List Nat :=
 match o.op with
 | .load _ a=>(ρ a).names
 | .store _ a v=>(ρ a).names++zL [ρ v]
 | .alloc _ | .box _ _ | .makeSlice _ _ _ | .range _ _ | .makeMap _ _=>o.dst.toList
 | .mapUpdate _ m _ _ | .lookup _ m _ _=>(ρ m).mnames
 | .next x _=>(ρ x).names
 | .convert _ _ x=>(ρ x).names
 | .buildSlice _ _ ps=>o.dst.toList++zL (ps.toList.map fun p=>ρ p.2)
 | .call c=>match c.callee with
   | .builtin .append=>o.dst.toList++zL (c.args.toList.map ρ)
   | .builtin .clear | .builtin .copy=>zL (c.args.toList.map ρ)
   | .builtin .len | .builtin .delete=>c.args.toList.flatMap fun x=>(ρ x).mnames
   | _=>[]
 | _=>[]
def bM (t:List Nat) (bl:Nat→Blk):Nat→Blk:=fun n=>if n∈t then bl n else .dead
def PH (μ μ':Nat→Nat→Option Value):Prop:=∀ b o v,μ b o=some v→μ' b o=some v
mutual
theorem kS {μ μ':Nat→Nat→Option Value} (hμ:PH μ μ'):∀ (d:D) (v:Value),aU μ v d→aU μ' v d
 | .int ..,_,h=>by simpa [aU] using h
 | .bool ..,_,h=>by simpa [aU] using h
 | .str ..,_,h=>by simpa [aU] using h
 | .val ..,_,h=>by simpa [aU] using h
 | .ifn,_,h=>by simpa [aU] using h
 | .any ..,_,h=>by simpa [aU] using h
 | .sl xs,v,h=>by
   simp only [aU] at *
   obtain ⟨a,cap,h1,h0,h2⟩:=h
   exact ⟨a,cap,h1,h0,h2.imp id fun ⟨b,o,sz,ha,he⟩=>⟨b,o,sz,ha,qW hμ xs b o sz he⟩⟩
theorem qW {μ μ':Nat→Nat→Option Value} (hμ:PH μ μ'):∀ (xs:List (List D)) (b o sz:Nat),lK μ b o sz xs→lK μ' b o sz xs
 | [],_,_,_,_=>by simp [lK]
 | x::xs,b,o,sz,h=>by
   simp only [lK] at *
   exact ⟨h.1,gO hμ x b o h.2.1,qW hμ xs b (o+sz) sz h.2.2⟩
theorem gO {μ μ':Nat→Nat→Option Value} (hμ:PH μ μ'):∀ (cs:List D) (b o:Nat),dT μ b o cs→dT μ' b o cs
 | [],_,_,_=>by simp [dT]
 | c::cs,b,o,h=>by
   simp only [dT] at *
   obtain ⟨⟨v,h1,h2⟩,h3⟩:=h
   exact ⟨⟨v,hμ _ _ _ h1,kS hμ c v h2⟩,gO hμ cs b (o+1) h3⟩
end
theorem iG {μ:Nat→Nat→Option Value} {b:Nat}:∀ {cs:List D} {o:Nat},
  dT μ b o cs↔∀ (j:Nat) (c:D),cs[j]?=some c→∃ v,μ b (o+j)=some v∧aU μ v c
 | [],o=>by simp [dT]
 | c::cs,o=>by
   simp only [dT,iG (cs:=cs)]
   constructor
   ·rintro ⟨h1,h2⟩ j d hj
    cases j with
    | zero=>simp at hj; subst hj; simpa using h1
    | succ j=>have:=h2 j d (by simpa using hj); rwa [show o+1+j=o+(j+1) from by omega] at this
   ·intro h
    exact ⟨by simpa using h 0 c rfl,fun j d hj=>by have:=h (j+1) d (by simpa using hj); rwa [show o+(j+1)=o+1+j from by omega] at this⟩
theorem gW {μ:Nat→Nat→Option Value} {b sz:Nat}:∀ {xs:List (List D)} {o:Nat},
  lK μ b o sz xs↔∀ (i:Nat) (x:List D),xs[i]?=some x→x.length=sz∧dT μ b (o+i*sz) x
 | [],o=>by simp [lK]
 | x::xs,o=>by
   simp only [lK,gW (xs:=xs)]
   constructor
   ·rintro ⟨h1,h2,h3⟩ i y hi
    cases i with
    | zero=>simp at hi; subst hi; simpa using ⟨h1,h2⟩
    | succ i=>have:=h3 i y (by simpa using hi); rwa [show o+sz+i*sz=o+(i+1)*sz from by rw [Nat.add_mul]; omega] at this
   ·intro h
    exact ⟨(h 0 x rfl).1,by simpa using (h 0 x rfl).2,fun i y hi=>by have:=h (i+1) y (by simpa using hi); rwa [show o+(i+1)*sz=o+sz+i*sz from by rw [Nat.add_mul]; omega] at this⟩
theorem tJ {μ:Nat→Nat→Option Value} {v:Value} {d:D} (h:aU μ v d):v.oneCell'=true:=by
 cases d <;> simp only [aU] at h
 case int=>subst h; rfl
 case bool=>subst h; rfl
 case str=>subst h; rfl
 case val=>rw [h.1]; exact h.2
 case ifn=>obtain ⟨t,x,rfl⟩:=h; rfl
 case any=>exact h.2
 case sl=>obtain ⟨a,cap,rfl,_⟩:=h; rfl
structure Gh.le (h h':Gh):Prop where
 μ:PH h.μ h'.μ
 L:∀ n l,h.L n=some l→h'.L n=some l
theorem Gh.le.refl (h:Gh):h.le h:=⟨fun _ _ _ e=>e,fun _ _ e=>e⟩
theorem Gh.le.trans {a b c:Gh} (x:a.le b) (y:b.le c):a.le c:=⟨fun i j v e=>y.μ i j v (x.μ i j v e),fun n l e=>y.L n l (x.L n l e)⟩
mutual
theorem lU {h h':Gh} (le:h.le h'):∀ (c:AV) (v:Value),aG h v c→aG h' v c
 | .un,_,_=>by simp [aG]
 | .sk,_,e=>by simpa [aG] using e
 | .d x,v,e=>by simp only [aG] at *; exact kS le.μ x v e
 | .agg cs,v,e=>by simp only [aG] at *; obtain ⟨arr,h1,h2⟩:=e; exact ⟨arr,h1,jG le cs arr h2⟩
 | .tup cs,v,e=>by simp only [aG] at *; obtain ⟨arr,h1,h2⟩:=e; exact ⟨arr,h1,jG le cs arr h2⟩
 | .ptr n i j,v,e=>by simp only [aG] at *; obtain ⟨l,h1,h2⟩:=e; exact ⟨l,le.L n l h1,h2⟩
 | .dp cs,v,e=>by simp only [aG] at *; obtain ⟨b,o,h1,h2⟩:=e; exact ⟨b,o,h1,gO le.μ cs b o h2⟩
 | .ref n lo len sz,v,e=>by simp only [aG] at *; obtain ⟨l,h1,h2⟩:=e; exact ⟨l,le.L n l h1,h2⟩
 | .nils,v,e=>by simpa [aG] using e
 | .anyb,v,e=>by simpa [aG] using e
 | .clo f caps,v,e=>by simp only [aG] at *; obtain ⟨arr,h1,h2⟩:=e; exact ⟨arr,h1,jG le caps arr h2⟩
 | .bnd f caps,v,e=>by simp only [aG] at *; obtain ⟨arr,h1,h2⟩:=e; exact ⟨arr,h1,jG le caps arr h2⟩
 | .mref n,v,e=>by simp only [aG] at *; obtain ⟨l,h1,h2⟩:=e; exact ⟨l,le.L n l h1,h2⟩
theorem jG {h h':Gh} (le:h.le h'):∀ (cs:List AV) (vs:List Value),bB h vs cs→bB h' vs cs
 | [],_,e=>by simpa [bB] using e
 | c::cs,_,e=>by
   simp only [bB] at *
   obtain ⟨u,us,h1,h2,h3⟩:=e
   exact ⟨u,us,h1,lU le c u h2,jG le cs us h3⟩
end
theorem bV {h:Gh}:∀ {cs:List AV} {vs:List Value},bB h vs cs↔vs.length=cs.length∧∀ (j:Nat) (c:AV),cs[j]?=some c→∃ v,vs[j]?=some v∧aG h v c
 | [],vs=>by simp [bB]
 | c::cs,vs=>by
   simp only [bB]
   constructor
   ·rintro ⟨u,us,rfl,h2,h3⟩
    rw [bV] at h3
    refine ⟨by simp [h3.1],fun j d hj=>?_⟩
    cases j with
    | zero=>simp at hj; subst hj; exact ⟨u,rfl,h2⟩
    | succ j=>simpa using h3.2 j d (by simpa using hj)
   ·rintro ⟨hl,hg⟩
    cases vs with
    | nil=>simp at hl
    | cons u us =>
      refine ⟨u,us,rfl,?_,bV.2 ⟨by simpa using hl,fun j d hj=>by simpa using hg (j+1) d (by simpa using hj)⟩⟩
      obtain ⟨v,hv,hr⟩:=hg 0 c rfl
      simp at hv
      exact hv ▸ hr
theorem pQ {h:Gh} {v:Value} {c:AV} (hr:aG h v c) (hg:c.good=true):bB h v.cells.toList c.cells:=by
 cases c <;> simp only [aG] at hr <;> simp [AV.good] at hg
 case d x =>
  have:=tJ hr
  cases v <;> first | (simp [Value.oneCell'] at this; done) | simp [Value.cells,AV.cells,bB,aG,hr]
 case agg cs=>obtain ⟨arr,rfl,h2⟩:=hr; simpa [Value.cells,AV.cells] using h2
 case ptr=>obtain ⟨l,h1,h2,rfl⟩:=hr; simp [Value.cells,AV.cells,bB,aG,h1,h2]
 case dp=>obtain ⟨b,o,rfl,h2⟩:=hr; exact ⟨_,_,rfl,⟨b,o,rfl,h2⟩,rfl⟩
 case ref n lo len sz =>
  have hv:v.cells=#[v]:=by
   obtain ⟨l,h1,_,h2⟩:=hr
   split at h2
   ·rw [h2.1]; rfl
   ·obtain ⟨cap,hc,_⟩:=h2; rw [hc]; rfl
  simpa [hv,AV.cells,bB,aG] using hr
 case nils=>subst hr; simp [Value.cells,AV.cells,bB,aG]
 case clo=>obtain ⟨arr,rfl,h2⟩:=hr; simp [Value.cells,AV.cells,bB,aG,h2]
 case bnd=>obtain ⟨arr,rfl,h2⟩:=hr; simp [Value.cells,AV.cells,bB,aG,h2]
 case mref=>obtain ⟨l,h1,h2,rfl⟩:=hr; simp [Value.cells,AV.cells,bB,aG,h1,h2]
 case anyb=>obtain ⟨b,rfl⟩:=hr; simp [Value.cells,AV.cells,bB,aG]
theorem HO {h:Gh} {v:Value} {c:AV} (hr:aG h v c) (hc:c.isCell=true):v.oneCell'=true:=by
 cases c <;> simp only [aG] at hr <;> simp [AV.isCell] at hc
 case d x=>exact tJ hr
 case anyb=>obtain ⟨b,rfl⟩:=hr; rfl
 case ptr=>obtain ⟨l,h1,h2,rfl⟩:=hr; rfl
 case dp=>obtain ⟨b,o,rfl,h2⟩:=hr; rfl
 case ref n lo len sz =>
  obtain ⟨l,h1,_,h2⟩:=hr
  split at h2
  ·rw [h2.1]; rfl
  ·obtain ⟨cap,hc,_⟩:=h2; rw [hc]; rfl
 case nils=>subst hr; rfl
 case clo=>obtain ⟨arr,rfl,h2⟩:=hr; rfl
 case bnd=>obtain ⟨arr,rfl,h2⟩:=hr; rfl
 case mref=>obtain ⟨l,h1,h2,rfl⟩:=hr; rfl
theorem tK {μ μ':Nat→Nat→Option Value} (hμ:PH μ μ'):∀ (es:List MapEntry) (xs:List (D×D)),mG μ es xs→mG μ' es xs
 | [],[],_=>trivial
 | e::es,x::xs,h=>⟨h.1,kS hμ _ _ h.2.1,tK hμ es xs h.2.2⟩
 | [],_::_,h=>h.elim
 | _::_,[],h=>h.elim
structure kD where
 P:Program
 G:Nat→Option (List D)
 w0:World
 h0:Gh
 base:List Nat
 dfr:List Deferred:=[]
def aB:Nat:=1000000
structure Mem (C:kD) (bl:Nat→Blk) (w:World) (h:Gh):Prop where
 blks:∀ n,lL h w n (bl n)
 con:∀ b o v,h.μ b o=some v→w.cell? ⟨b,o,none⟩=some v
 glob:∀ g cs,C.G g=some cs→dT h.μ g 0 cs
 apart:∀ n n' l l',n ≠ n'→(bl n).live=true→(bl n').live=true→h.L n=some l→h.L n'=some l'→l.nul=false→l'.nul=false→l.blk ≠ l'.blk
 own:∀ n l,(bl n).live=true→h.L n=some l→l.nul=false→C.w0.heap.size≤l.blk∨l.blk∈C.base
 size:C.w0.heap.size≤w.heap.size
 frame:∀ b,b<C.w0.heap.size→b ∉ C.base→w.heap[b]?=C.w0.heap[b]?
 mext:PH C.h0.μ h.μ
 mold:∀ b,b<C.w0.heap.size→b ∉ C.base→∀ o v,h.μ b o=some v→C.h0.μ b o=some v
 lkeep:∀ n l,aB≤n→C.h0.L n=some l→h.L n=some l
 os:w.os=C.w0.os
 tape:w.tape=C.w0.tape
 output:w.output=C.w0.output
 know:∀ g cs,C.G g=some cs→g<C.w0.heap.size∧g ∉ C.base∧∃ a ety z,C.w0.heap[g]?=some (.cells a ety z)∧a.size=cs.length
theorem zR {h:Gh} {w:World} {n:Nat} {b:Blk} (hb:lL h w n b) (hl:b.live=true):∃ l,h.L n=some l:=by
 cases b <;> simp only [lL,Blk.live] at*<;> first | (simp at hl; done) | skip
 ·obtain ⟨l,_,_,h1,_⟩:=hb; exact ⟨l,h1⟩
 ·obtain ⟨l,h1,_⟩:=hb; exact ⟨l,h1⟩
 ·obtain ⟨l,h1,_⟩:=hb; exact ⟨l,h1⟩
 ·obtain ⟨l,h1,_⟩:=hb; exact ⟨l,h1⟩
 ·obtain ⟨l,_,_,h1,_⟩:=hb; exact ⟨l,h1⟩
theorem lR {h:Gh} {w:World} {n:Nat} {b:Blk} {l:Loc} (hb:lL h w n b) (hl:b.live=true) (hL:h.L n=some l) (hn:l.nul=false) :
  ∃ (o:Obj) (_:Unit),w.heap[l.blk]?=some o:=by
 cases b <;> simp only [lL,Blk.live] at*<;> first | (simp at hl; done) | skip
 ·obtain ⟨l',cs,ety,h1,_,h3,_⟩:=hb
  rw [hL] at h1; cases h1; exact ⟨_,(),h3⟩
 ·obtain ⟨l',h1,_,_,h4⟩:=hb
  rw [hL] at h1; cases h1
  rw [hn] at h4
  obtain ⟨cs,h5,_⟩:=h4
  exact ⟨_,(),h5⟩
 ·obtain ⟨l',h1,_,h3,_⟩:=hb
  rw [hL] at h1; cases h1
  exact ⟨_,(),h3⟩
 ·obtain ⟨l',h1,_,_,h4⟩:=hb
  rw [hL] at h1; cases h1
  rw [hn] at h4
  obtain ⟨cs,h5,_⟩:=h4
  exact ⟨_,(),h5⟩
 ·obtain ⟨l',es',clock,h1,_,h3,_⟩:=hb
  rw [hL] at h1; cases h1
  exact ⟨_,(),h3⟩
theorem oR {w:World} {b:Nat} {o:Obj} (h:w.heap[b]?=some o):b<w.heap.size:=(Array.getElem?_eq_some_iff.1 h).1
theorem iE {h h':Gh} {w w':World} {n:Nat} {b:Blk} (hb:lL h w n b) (le:h.le h') (hfree:h.L n=none→h'.L n=none)
  (hheap:∀ l,b.live=true→h.L n=some l→l.nul=false→w'.heap[l.blk]?=w.heap[l.blk]?)
  (hmu:∀ l,b.live=true→h.L n=some l→l.nul=false→∀ o v,h'.μ l.blk o=some v→h.μ l.blk o=some v):lL h' w' n b:=by
 cases b with
 | free=>exact hfree hb
 | dead=>obtain ⟨l,h1⟩:=hb; exact ⟨l,le.L n l h1⟩
 | var cells =>
   obtain ⟨l,cs,ety,h1,h2,h3,h4,h5⟩:=hb
   refine ⟨l,cs,ety,le.L n l h1,h2,(hheap l rfl h1 h2).trans h3,jG le cells cs h4,fun o=>?_⟩
   cases hv:h'.μ l.blk o with
   | none=>rfl
   | some v=>have:=hmu l rfl h1 h2 o v hv; rw [h5] at this; cases this
 | arr ety sz xs frz =>
   obtain ⟨l,h1,h2,h3,h4⟩:=hb
   refine ⟨l,le.L n l h1,h2,h3,?_⟩
   cases hn:l.nul with
   | true=>rw [hn] at h4; simpa using h4
   | false =>
     rw [hn] at h4
     obtain ⟨cs,h5,h6,h7,h8,h9⟩:=h4
     simp only [Bool.false_eq_true,if_false]
     refine ⟨cs,(hheap l rfl h1 hn).trans h5,h6,h7,fun i x hx=>⟨(h8 i x hx).1,fun j c hc=>?_⟩,fun o v hv=>h9 o v (hmu l rfl h1 hn o v hv)⟩
     obtain ⟨v,hv,hr⟩:=(h8 i x hx).2 j c hc
     exact ⟨v,hv,kS le.μ c v hr⟩
 | iter s i =>
   obtain ⟨l,h1,h2,h3,h5⟩:=hb
   refine ⟨l,le.L n l h1,h2,(hheap l rfl h1 h2).trans h3,fun o=>?_⟩
   cases hv:h'.μ l.blk o with
   | none=>rfl
   | some v=>have:=hmu l rfl h1 h2 o v hv; rw [h5] at this; cases this
 | varr ety sz xs =>
   obtain ⟨l,h1,h2,h3,h4⟩:=hb
   refine ⟨l,le.L n l h1,h2,h3,?_⟩
   cases hn:l.nul with
   | true=>rw [hn] at h4; simpa using h4
   | false =>
     rw [hn] at h4
     obtain ⟨cs,h5,h6,h7,h8,h9⟩:=h4
     simp only [Bool.false_eq_true,if_false]
     refine ⟨cs,(hheap l rfl h1 hn).trans h5,h6,h7,fun i x hx=>⟨(h8 i x hx).1,fun j c hc=>?_⟩,fun o=>?_⟩
     ·obtain ⟨v,hv,hr⟩:=(h8 i x hx).2 j c hc
      exact ⟨v,hv,lU le c v hr⟩
     ·cases hv:h'.μ l.blk o with
      | none=>rfl
      | some v=>have:=hmu l rfl h1 hn o v hv; rw [h9] at this; cases this
 | mp es =>
   obtain ⟨l,es',clock,h1,h2,h3,h4,h5,h6⟩:=hb
   refine ⟨l,es',clock,le.L n l h1,h2,(hheap l rfl h1 h2).trans h3,tK le.μ _ _ h4,h5,fun o=>?_⟩
   cases hv:h'.μ l.blk o with
   | none=>rfl
   | some v=>have:=hmu l rfl h1 h2 o v hv; rw [h6] at this; cases this
theorem HB {C:kD} {bl:Nat→Blk} {w:World} {h:Gh} (m:Mem C bl w h) {b o:Nat} {v:Value} (hv:h.μ b o=some v):b<w.heap.size :=
 World.block_lt_of_cell? w _ (m.con b o v hv)
def Gh.add (h:Gh) (n:Nat) (l:Loc):Gh:={ h with L:=fun m=>if m=n then some l else h.L m }
theorem Gh.le_add {h:Gh} {n:Nat} {l:Loc} (hn:h.L n=none):h.le (h.add n l) :=
 ⟨fun _ _ _ e=>e,fun m l' e=>by
  have:m ≠ n:=fun e'=>by subst e'; rw [hn] at e; cases e
  simp [Gh.add,this,e]⟩
theorem Mem.drew {C:kD} {bl:Nat→Blk} {w:World} {h:Gh} (m:Mem C bl w h):Mem C bl w.drew h :=
 ⟨fun n=>iE (m.blks n) (.refl h) id (fun _ _ _ _=>rfl) (fun _ _ _ _ _ _ e=>e),m.con,m.glob,m.apart,m.own,m.size,m.frame,m.mext,m.mold,m.lkeep,m.os,m.tape,m.output,m.know⟩
theorem Mem.allocG {C:kD} {bl:Nat→Blk} {w:World} {h:Gh} (m:Mem C bl w h) {n:Nat} (hfree:bl n=.free) (b':Blk) (ob:Obj) (asz sz:Nat)
  (hb:lL (h.add n ⟨w.heap.size,asz,sz,false⟩) (w.alloc ob) n b') (hn:n<aB) :
  Mem C (dQ bl n b') (w.alloc ob) (h.add n ⟨w.heap.size,asz,sz,false⟩):=by
 have hL:h.L n=none:=by have:=m.blks n; rw [hfree] at this; exact this
 have le:=Gh.le_add (l:=⟨w.heap.size,asz,sz,false⟩) hL
 have hold:∀ k,k<w.heap.size→(w.alloc ob).heap[k]?=w.heap[k]?:=fun k hk=>RowKit.Below.heap_alloc w _ k hk
 refine ⟨fun k=>?_,fun b o v hv=>?_,fun g c hg=>gO le.μ _ _ _ (m.glob g c hg),?_,?_,?_,?_,m.mext,m.mold,?_,m.os,m.tape,m.output,m.know⟩
 ·by_cases hk:k=n
  ·subst hk; simpa [dQ] using hb
  ·simp only [dQ,if_neg hk]
   refine iE (m.blks k) le (fun e=>by simp [Gh.add,hk,e]) (fun l h1 h2 h3=>?_) (fun _ _ _ _ _ _ e=>e)
   obtain ⟨c,e,hh⟩:=lR (m.blks k) h1 h2 h3
   exact hold _ (oR hh)
 ·have hlt:=HB m hv
  exact (World.cell?_of_block (w:=w) (hold b hlt)).trans (m.con b o v hv)
 ·intro i j l l' hij h1 h2 h3 h4 h5 h6
  by_cases hi:i=n
  ·subst hi
   have hj:j ≠ i:=fun e=>hij e.symm
   simp only [dQ,if_neg hj] at h2
   simp only [Gh.add,if_neg hj] at h4
   simp only [Gh.add,if_true] at h3
   cases h3
   obtain ⟨c,e,hh⟩:=lR (m.blks j) h2 h4 h6
   have:=oR hh
   simp only; omega
  ·simp only [dQ,if_neg hi] at h1
   simp only [Gh.add,if_neg hi] at h3
   by_cases hj:j=n
   ·subst hj
    simp only [Gh.add,if_true] at h4
    cases h4
    obtain ⟨c,e,hh⟩:=lR (m.blks i) h1 h3 h5
    have:=oR hh
    simp only; omega
   ·simp only [dQ,if_neg hj] at h2
    simp only [Gh.add,if_neg hj] at h4
    exact m.apart i j l l' hij h1 h2 h3 h4 h5 h6
 ·intro i l h1 h2 h3
  by_cases hi:i=n
  ·subst hi
   simp only [Gh.add,if_true] at h2
   cases h2
   exact .inl m.size
  ·simp only [dQ,if_neg hi] at h1
   simp only [Gh.add,if_neg hi] at h2
   exact m.own i l h1 h2 h3
 ·have:=m.size; simp; omega
 ·intro b hb1 hb2
  have:=m.size
  exact (hold b (by omega)).trans (m.frame b hb1 hb2)
 ·intro i l hi hl
  have:i ≠ n:=by omega
  simp only [Gh.add,if_neg this]
  exact m.lkeep i l hi hl
theorem Mem.alloc {C:kD} {bl:Nat→Blk} {w:World} {h:Gh} (m:Mem C bl w h) {n:Nat} (hfree:bl n=.free) (b':Blk) (cs:Array Value) (ety:TypeId) (sz:Nat)
  (hb:lL (h.add n ⟨w.heap.size,cs.size,sz,false⟩) (w.alloc (.cells cs ety)) n b') (hn:n<aB) :
  Mem C (dQ bl n b') (w.alloc (.cells cs ety)) (h.add n ⟨w.heap.size,cs.size,sz,false⟩):=m.allocG hfree b' (.cells cs ety) cs.size sz hb hn
theorem Mem.rewrite {C:kD} {bl:Nat→Blk} {w w':World} {h:Gh} (m:Mem C bl w h) {n:Nat} {l:Loc} (hlive:(bl n).live=true) (hL:h.L n=some l) (hnul:l.nul=false)
  (b':Blk) (hsize:w'.heap.size=w.heap.size) (hother:∀ k,k ≠ l.blk→w'.heap[k]?=w.heap[k]?)
  (hcon:∀ o v,h.μ l.blk o=some v→w'.cell? ⟨l.blk,o,none⟩=some v)
  (hos:w'.os=w.os) (htape:w'.tape=w.tape) (hout:w'.output=w.output)
  (hb:lL h w' n b'):Mem C (dQ bl n b') w' h:=by
 have hne:∀ k l',k ≠ n→(bl k).live=true→h.L k=some l'→l'.nul=false→l'.blk ≠ l.blk:=fun k l' hk h1 h2 h3=>m.apart k n l' l hk h1 hlive h2 hL h3 hnul
 refine ⟨fun k=>?_,fun b o v hv=>?_,m.glob,?_,?_,by rw [hsize]; exact m.size,?_,m.mext,m.mold,m.lkeep,hos.trans m.os,htape.trans m.tape,hout.trans m.output,m.know⟩
 ·by_cases hk:k=n
  ·subst hk; simpa [dQ] using hb
  ·simp only [dQ,if_neg hk]
   exact iE (m.blks k) (.refl h) id (fun l' h1 h2 h3=>hother _ (hne k l' hk h1 h2 h3)) (fun _ _ _ _ _ _ e=>e)
 ·by_cases hbk:b=l.blk
  ·subst hbk; exact hcon o v hv
  ·exact (World.cell?_of_block (w:=w) (hother b hbk)).trans (m.con b o v hv)
 ·intro i j l1 l2 hij h1 h2 h3 h4 h5 h6
  have live:∀ k,(dQ bl n b' k).live=true→(bl k).live=true:=fun k hk=>by
   by_cases e:k=n
   ·subst e; exact hlive
   ·simpa [dQ,e] using hk
  exact m.apart i j l1 l2 hij (live i h1) (live j h2) h3 h4 h5 h6
 ·intro i l1 h1 h2 h3
  have:(bl i).live=true:=by
   by_cases e:i=n
   ·subst e; exact hlive
   ·simpa [dQ,e] using h1
  exact m.own i l1 this h2 h3
 ·intro b hb1 hb2
  have hbk:b ≠ l.blk:=by
   rintro rfl
   rcases m.own n l hlive hL hnul with h1 | h1
   ·omega
   ·exact hb2 h1
  exact (hother b hbk).trans (m.frame b hb1 hb2)
theorem Mem.kill {C:kD} {bl:Nat→Blk} {w:World} {h:Gh} (m:Mem C bl w h) {n:Nat} (hlive:(bl n).live=true):Mem C (dQ bl n .dead) w h:=by
 have live:∀ k,(dQ bl n .dead k).live=true→(bl k).live=true:=fun k hk=>by
  by_cases e:k=n
  ·subst e; exact hlive
  ·simpa [dQ,e] using hk
 refine ⟨fun k=>?_,m.con,m.glob,fun i j l1 l2 hij h1 h2=>m.apart i j l1 l2 hij (live i h1) (live j h2),fun i l1 h1=>m.own i l1 (live i h1),m.size,m.frame,m.mext,m.mold,m.lkeep,m.os,m.tape,m.output,m.know⟩
 by_cases hk:k=n
 ·subst hk; simpa [dQ,lL] using zR (m.blks k) hlive
 ·simpa [dQ,hk] using m.blks k
theorem Mem.move {C:kD} {bl:Nat→Blk} {w:World} {h:Gh} (m:Mem C bl w h) {n k:Nat} {l:Loc} (hnk:n ≠ k) (hlive:(bl k).live=true) (hL:h.L k=some l)
  (hfree:bl n=.free) (hn:n<aB):Mem C (dQ (dQ bl k .dead) n (bl k)) w (h.add n l):=by
 have hLn:h.L n=none:=by have:=m.blks n; rw [hfree] at this; exact this
 have le:=Gh.le_add (l:=l) hLn
 have hb:lL (h.add n l) w n (bl k):=by
  have hb0:=m.blks k
  cases hbk:bl k with
  | free=>rw [hbk] at hlive; simp [Blk.live] at hlive
  | dead=>rw [hbk] at hlive; simp [Blk.live] at hlive
  | var cells =>
    rw [hbk] at hb0
    obtain ⟨l',cs,ety,h1,h2,h3,h4,h5⟩:=hb0
    rw [hL] at h1; cases h1
    exact ⟨l,cs,ety,by simp [Gh.add],h2,h3,jG le _ _ h4,h5⟩
  | arr ety sz xs frz =>
    rw [hbk] at hb0
    obtain ⟨l',h1,h2,h3,h4⟩:=hb0
    rw [hL] at h1; cases h1
    exact ⟨l,by simp [Gh.add],h2,h3,h4⟩
  | iter s i =>
    rw [hbk] at hb0
    obtain ⟨l',h1,h2,h3,h4⟩:=hb0
    rw [hL] at h1; cases h1
    exact ⟨l,by simp [Gh.add],h2,h3,h4⟩
  | varr ety sz xs =>
    rw [hbk] at hb0
    obtain ⟨l',h1,h2,h3,h4⟩:=hb0
    rw [hL] at h1; cases h1
    refine ⟨l,by simp [Gh.add],h2,h3,?_⟩
    cases hn:l.nul with
    | true=>rw [hn] at h4; simpa using h4
    | false =>
      rw [hn] at h4
      obtain ⟨cs,h5,h6,h7,h8,h9⟩:=h4
      simp only [Bool.false_eq_true,if_false]
      refine ⟨cs,h5,h6,h7,fun i x hx=>⟨(h8 i x hx).1,fun j c hc=>?_⟩,h9⟩
      obtain ⟨v,hv,hr⟩:=(h8 i x hx).2 j c hc
      exact ⟨v,hv,lU le c v hr⟩
  | mp es =>
    rw [hbk] at hb0
    obtain ⟨l',es',clock,h1,h2,h3,h4⟩:=hb0
    rw [hL] at h1; cases h1
    exact ⟨l,es',clock,by simp [Gh.add],h2,h3,h4⟩
 have view:∀ i l1,(dQ (dQ bl k .dead) n (bl k) i).live=true→(h.add n l).L i=some l1→(i=n∧l1=l)∨(i ≠ n∧i ≠ k∧(bl i).live=true∧h.L i=some l1):=fun i l1 h1 h2=>by
  by_cases e:i=n
  ·subst e; simp [Gh.add] at h2; exact .inl ⟨rfl,h2.symm⟩
  ·by_cases e':i=k
   ·subst e'; simp [dQ,e,Blk.live] at h1
   ·simp only [dQ,if_neg e,if_neg e'] at h1
    simp only [Gh.add,if_neg e] at h2
    exact .inr ⟨e,e',h1,h2⟩
 refine ⟨fun i=>?_,m.con,m.glob,?_,?_,m.size,m.frame,m.mext,m.mold,?_,m.os,m.tape,m.output,m.know⟩
 ·by_cases e:i=n
  ·subst e; simpa [dQ] using hb
  ·by_cases e':i=k
   ·subst e'; simp only [dQ,if_neg e,if_true]; exact ⟨l,by simp [Gh.add,e,hL]⟩
   ·simp only [dQ,if_neg e,if_neg e']
    exact iE (m.blks i) le (fun e0=>by simp [Gh.add,e,e0]) (fun _ _ _ _=>rfl) (fun _ _ _ _ _ _ e=>e)
 ·intro i j l1 l2 hij h1 h2 h3 h4 h5 h6
  rcases view i l1 h1 h3 with ⟨rfl,rfl⟩ | ⟨a1,a2,a3,a4⟩ <;> rcases view j l2 h2 h4 with ⟨rfl,rfl⟩ | ⟨b1,b2,b3,b4⟩
  ·exact absurd rfl hij
  ·exact m.apart k j _ _ (Ne.symm b2) hlive b3 hL b4 h5 h6
  ·exact m.apart i k _ _ a2 a3 hlive a4 hL h5 h6
  ·exact m.apart i j _ _ hij a3 b3 a4 b4 h5 h6
 ·intro i l1 h1 h2 h3
  rcases view i l1 h1 h2 with ⟨rfl,rfl⟩ | ⟨a1,a2,a3,a4⟩
  ·exact m.own k _ hlive hL h3
  ·exact m.own i _ a3 a4 h3
 ·intro i l1 hi hl
  have:i ≠ n:=by omega
  simp only [Gh.add,if_neg this]
  exact m.lkeep i l1 hi hl
def Gh.hold (h:Gh) (b:Nat) (k:Nat) (f:Nat→Option Value):Gh:={ h with μ:=fun b' o=>if b'=b∧o<k then f o else h.μ b' o }
theorem Mem.freeze {C:kD} {bl:Nat→Blk} {w:World} {h:Gh} (m:Mem C bl w h) {n ety sz:Nat} {xs:List (List D)} {frz:Bool} (hbl:bl n=.arr ety sz xs frz) :
  ∃ h',h.le h'∧h'.L=h.L∧Mem C (dQ bl n (.arr ety sz xs true)) w h' ∧
    (∀ l,h.L n=some l→l.nul=false→lK h'.μ l.blk 0 sz xs)∧∀ b,(∀ l,h.L n=some l→l.nul=false→b ≠ l.blk)→∀ o,h'.μ b o=h.μ b o:=by
 have hb:=m.blks n
 rw [hbl] at hb
 obtain ⟨l,h1,h2,h3,h4⟩:=hb
 cases hn:l.nul with
 | true =>
   refine ⟨h,.refl h,rfl,?_,fun l' e1 e2=>(by rw [h1] at e1; cases e1; rw [hn] at e2; cases e2),fun _ _ _=>rfl⟩
   have live:∀ k,(dQ bl n (.arr ety sz xs true) k).live=true→(bl k).live=true:=fun k hk=>by
    by_cases e:k=n
    ·subst e; rw [hbl]; rfl
    ·simpa [dQ,e] using hk
   refine ⟨fun k=>?_,m.con,m.glob,fun i j l1 l2 hij a b=>m.apart i j l1 l2 hij (live i a) (live j b),fun i l1 a=>m.own i l1 (live i a),m.size,m.frame,m.mext,m.mold,m.lkeep,m.os,m.tape,m.output,m.know⟩
   by_cases e:k=n
   ·subst e
    simp only [dQ,if_true]
    rw [hn] at h4
    exact ⟨l,h1,h2,h3,by rw [hn]; simpa using h4⟩
   ·simpa [dQ,e] using m.blks k
 | false =>
   rw [hn] at h4
   obtain ⟨cs,h5,h6,h7,h8,h9⟩:=h4
   have hlive:(bl n).live=true:=by rw [hbl]; rfl
   let h':=h.hold l.blk (xs.length*sz) fun o=>cs[o]?
   have hcell:∀ o,w.cell? ⟨l.blk,o,none⟩=cs[o]?:=fun o=>cell_of_row w l.blk o cs ety (0,0) h5
   have hmu:PH h.μ h'.μ:=fun b o v e=>by
    by_cases c:b=l.blk∧o<xs.length*sz
    ·obtain ⟨rfl,c2⟩:=c
     have:=m.con _ _ _ e
     rw [hcell] at this
     simp [h',Gh.hold,c2,this]
    ·simp [h',Gh.hold,c,e]
   have le:h.le h':=⟨hmu,fun _ _ e=>e⟩
   have hother:∀ b,b ≠ l.blk→∀ o,h'.μ b o=h.μ b o:=fun b hb o=>by simp [h',Gh.hold,hb]
   refine ⟨h',le,rfl,?_,?_,fun b hb o=>hother b (hb l h1 hn) o⟩
   ·refine ⟨fun k=>?_,fun b o v hv=>?_,fun g c hg=>gO hmu _ _ _ (m.glob g c hg),?_,?_,m.size,m.frame,fun b o v e=>hmu _ _ _ (m.mext b o v e),?_,m.lkeep,m.os,m.tape,m.output,m.know⟩
    ·by_cases e:k=n
     ·subst e
      simp only [dQ,if_true]
      refine ⟨l,h1,h2,h3,?_⟩
      rw [hn]
      refine ⟨cs,h5,h6,h7,fun i x hx=>⟨(h8 i x hx).1,fun j c hc=>?_⟩,fun o v hv=>⟨rfl,?_⟩⟩
      ·obtain ⟨v,a,b⟩:=(h8 i x hx).2 j c hc
       exact ⟨v,a,kS hmu c v b⟩
      ·by_cases c:o<xs.length*sz
       ·exact c
       ·exact (h9 o v (by simpa [h',Gh.hold,c] using hv)).2
     ·simp only [dQ,if_neg e]
      refine iE (m.blks k) le id (fun _ _ _ _=>rfl) (fun l' a b c o v hv=>?_)
      rw [hother _ (m.apart k n l' l e a hlive b h1 c hn) o] at hv
      exact hv
    ·by_cases c:b=l.blk∧o<xs.length*sz
     ·obtain ⟨rfl,c2⟩:=c
      rw [hcell]
      simpa [h',Gh.hold,c2] using hv
     ·exact m.con b o v (by simpa [h',Gh.hold,c] using hv)
    ·intro i j l1 l2 hij a b
     have live:∀ k,(dQ bl n (.arr ety sz xs true) k).live=true→(bl k).live=true:=fun k hk=>by
      by_cases e:k=n
      ·subst e; rw [hbl]; rfl
      ·simpa [dQ,e] using hk
     exact m.apart i j l1 l2 hij (live i a) (live j b)
    ·intro i l1 a
     have:(bl i).live=true:=by
      by_cases e:i=n
      ·subst e; rw [hbl]; rfl
      ·simpa [dQ,e] using a
     exact m.own i l1 this
    ·intro b hb1 hb2 o v hv
     have:b ≠ l.blk:=by
      rintro rfl
      rcases m.own n l hlive h1 hn with e | e
      ·omega
      ·exact hb2 e
     rw [hother b this o] at hv
     exact m.mold b hb1 hb2 o v hv
   ·intro l' e1 e2
    rw [h1] at e1; cases e1
    rw [gW]
    intro i x hx
    refine ⟨(h8 i x hx).1,iG.2 fun j c hc=>?_⟩
    obtain ⟨v,a,b⟩:=(h8 i x hx).2 j c hc
    have hj:j<sz:=by have:=(List.getElem?_eq_some_iff.1 hc).1; rw [(h8 i x hx).1] at this; exact this
    have hi:i<xs.length:=(List.getElem?_eq_some_iff.1 hx).1
    have hlt:i*sz+j<xs.length*sz:=by
     have:(i+1)*sz≤xs.length*sz:=Nat.mul_le_mul_right _ hi
     rw [Nat.add_mul] at this; omega
    refine ⟨v,?_,kS hmu c v b⟩
    simp only [Nat.zero_add]
    simp [h',Gh.hold,hlt,a]
theorem bO {P:Program} {t:TypeId} {ti:TI} (h:cV P t=some ti) :
  ∃ i d,P.info? t=some i∧P.underlying t=some d∧ti={ size:=i.size,bytes:=i.bytes,zero:=i.zero.map (·.cells.toList),kind:=rY P d }:=by
 unfold cV at h
 split at h
 ·rename_i i d h1 h2
  exact ⟨i,d,h1,h2,by simpa using h.symm⟩
 ·cases h
theorem aKm {P:Program} {d:TypeDesc}:(rY P d).agg=mW d:=by cases d <;> rfl
theorem sB {P:Program} {t:TypeId} {d:TypeDesc} (h:P.underlying t=some d) (w:World):(isAgg t).run P w=.ok (mW d) w:=by
 unfold isAgg
 simp only [Sem.run_bind,run_underlying h,Result.andThen_ok]
 cases d <;> rfl
theorem dM {P:Program} {t:TypeId} {i:TypeInfo} (h:P.info? t=some i) (w:World):(sizeOf t).run P w=.ok i.size w:=by
 simp [sizeOf,typeInfo,h]
def Good (C:kD) (bl:Nat→Blk) (h:Gh) (wr:List (Nat×Blk)) (v:AV) (r:Result Value):Prop :=
 ∃ u w' h',r=.ok u w'∧h.le h'∧Mem C (bW bl wr) w' h'∧aG h' u v
theorem Good.still {C:kD} {bl:Nat→Blk} {h:Gh} {w:World} {v:AV} {u:Value} (m:Mem C bl w h) (hr:aG h u v):Good C bl h [] v (.ok u w) :=
 ⟨u,w,h,rfl,.refl h,m,hr⟩
theorem tH {h:Gh} {n:Nat} {vs:List Value} {cs:List AV} (hr:bB h vs cs):bB h (vs.take n) (cs.take n):=by
 rw [bV] at *
 refine ⟨by simp [hr.1],fun j c hj=>?_⟩
 rw [List.getElem?_take] at hj
 split at hj
 ·rename_i hlt
  obtain ⟨v,a,b⟩:=hr.2 j c hj
  exact ⟨v,by rw [List.getElem?_take,if_pos hlt]; exact a,b⟩
 ·cases hj
theorem mY {h:Gh} {n:Nat} {vs:List Value} {cs:List AV} (hr:bB h vs cs):bB h (vs.drop n) (cs.drop n):=by
 rw [bV] at *
 refine ⟨by simp [hr.1],fun j c hj=>?_⟩
 rw [List.getElem?_drop] at hj
 obtain ⟨v,a,b⟩:=hr.2 _ c hj
 exact ⟨v,by rw [List.getElem?_drop]; exact a,b⟩
theorem fC {h:Gh} {vs us:List Value} {cs ds:List AV} (hr:bB h vs cs) (hs:bB h us ds):bB h (vs++us) (cs++ds):=by
 induction cs generalizing vs with
 | nil=>simp only [bB] at hr; subst hr; simpa using hs
 | cons c cs ih =>
   simp only [bB] at hr
   obtain ⟨u,us',rfl,h1,h2⟩:=hr
   exact ⟨u,us'++us,rfl,h1,ih h2⟩
theorem mH {P:Program} {t:TypeId} {ti:TI} (hti:cV P t=some ti) {w:World} {h:Gh} {b o:Nat} {vs:List Value} {cells:List AV} {v:AV}
  (hat:∀ j u,vs[j]?=some u→w.cell? ⟨b,o+j,none⟩=some u) (hr:bB h vs cells) (hp:nL ti.kind.agg ti.size cells=some v) :
  ∃ u,(loadVar t ⟨b,o,none⟩).run P w=.ok u w∧aG h u v:=by
 obtain ⟨i,d,h1,h2,rfl⟩:=bO hti
 simp only [aKm,nL] at hp
 unfold loadVar
 simp only [Sem.run_bind,sB h2,Result.andThen_ok]
 cases hd:mW d with
 | true =>
   rw [hd] at hp
   simp only [if_true] at hp ⊢
   split at hp <;> simp only [Option.some.injEq,reduceCtorEq] at hp
   rename_i hsz
   subst hp
   have hl:(vs.take i.size).length=i.size:=by rw [List.length_take,(bV.1 hr).1]; omega
   have hrun:=run_loadCells_list (P:=P) w ⟨b,o,none⟩ (vs.take i.size) (fun j u hj=>by
    rw [List.getElem?_take] at hj
    split at hj
    ·rw [Addr.add_lit]; exact hat j u hj
    ·cases hj)
   rw [hl] at hrun
   exact ⟨.agg ⟨vs.take i.size⟩,by simp [dM h1,hrun],_,rfl,tH hr⟩
 | false =>
   rw [hd] at hp
   simp only [Bool.false_eq_true,if_false] at hp ⊢
   cases cells with
   | nil=>simp at hp
   | cons c cs =>
     simp only [List.head?_cons,Option.some.injEq] at hp
     subst hp
     simp only [bB] at hr
     obtain ⟨u,us,rfl,h3,_⟩:=hr
     have:=hat 0 u rfl
     simp only [Nat.add_zero] at this
     exact ⟨u,by simp [this],h3⟩
theorem cN {t:List Nat} {bl:Nat→Blk} {n:Nat} {b:Blk} (h:bM t bl n=b) (hb:b ≠ .dead):bl n=b:=by
 unfold bM at h
 split at h
 ·exact h
 ·exact absurd h.symm hb
theorem DP {h:Gh} {ds:List D} {vs:List Value} (hl:vs.length=ds.length) (hg:∀ (j:Nat) (c:D),ds[j]?=some c→∃ v:Value,vs[j]?=some v∧aU h.μ v c):bB h vs (ds.map AV.d):=by
 rw [bV]
 refine ⟨by simp [hl],fun j c hj=>?_⟩
 rw [List.getElem?_map] at hj
 cases hd:ds[j]? with
 | none=>rw [hd] at hj; simp at hj
 | some x =>
   rw [hd] at hj
   simp only [Option.map_some,Option.some.injEq] at hj
   subst hj
   obtain ⟨v,a,b⟩:=hg j x hd
   exact ⟨v,a,by simpa [aG] using b⟩
theorem DQ {C:kD} {bl:Nat→Blk} {w:World} {h:Gh} (m:Mem C bl w h) {t:TypeId} {ti:TI} (hti:cV C.P t=some ti) {tl:List Nat} {p v:AV} {wr:List (Nat×Blk)} {pv:Value}
  (hp:aG h pv p) (he:xG ti (bM tl bl) p=some (v,wr)):wr=[]∧∃ u,(Instr.loadAt t pv).run C.P w=.ok u w∧aG h u v:=by
 cases p with
 | ptr n i j =>
   simp only [aG] at hp
   obtain ⟨l,hL,hnul,rfl⟩:=hp
   simp only [xG] at he
   have hb:=m.blks n
   split at he
   ·rename_i cells hbl
    rw [cN hbl (by simp)] at hb
    split at he
    ·rename_i hi
     subst hi
     simp only [Option.map_eq_some_iff,Prod.mk.injEq] at he
     obtain ⟨v',hpart,rfl,rfl⟩:=he
     obtain ⟨l',cs,ety,h1,h2,h3,h4,h5⟩:=hb
     rw [hL] at h1; cases h1
     obtain ⟨u,hu,hru⟩:=mH (w:=w) (b:=l.blk) (o:=j) hti (fun k u hk=>by
      rw [List.getElem?_drop] at hk
      rw [cell_of_row w l.blk (j+k) _ ety (0,0) h3]; simpa using hk) (mY h4) hpart
     refine ⟨rfl,u,?_,hru⟩
     simp only [Instr.loadAt,Instr.sureAddr,Nat.zero_mul,Nat.zero_add,Sem.run_bind,Sem.run_pure,Result.andThen_ok]
     exact hu
    ·cases he
   ·rename_i ety sz xs frz hbl
    rw [cN hbl (by simp)] at hb
    split at he
    ·rename_i x hx
     simp only [Option.map_eq_some_iff,Prod.mk.injEq] at he
     obtain ⟨v',hpart,rfl,rfl⟩:=he
     obtain ⟨l',h1,h2,h3,h4⟩:=hb
     rw [hL] at h1; cases h1
     rw [hnul] at h4
     obtain ⟨cs,h5,h6,h7,h8,h9⟩:=h4
     obtain ⟨hxl,hxc⟩:=h8 i x hx
     have hi:i<xs.length:=(List.getElem?_eq_some_iff.1 hx).1
     have hrow:(i+1)*sz≤xs.length*sz:=Nat.mul_le_mul_right _ hi
     rw [Nat.add_mul] at hrow
     have hrep:bB h ((cs.toList.drop (i*sz)).take sz) (x.map AV.d):=DP (by simp; omega) fun k c hk=>by
      obtain ⟨v,a,b⟩:=hxc k c hk
      have hk':k<sz:=by have:=(List.getElem?_eq_some_iff.1 hk).1; omega
      exact ⟨v,by rw [List.getElem?_take,if_pos hk',List.getElem?_drop]; simpa using a,b⟩
     obtain ⟨u,hu,hru⟩:=mH (w:=w) (b:=l.blk) (o:=i*l.sz+j) hti (fun k u hk=>by
      rw [List.getElem?_drop,List.getElem?_take] at hk
      split at hk
      ·rw [List.getElem?_drop] at hk
       rw [cell_of_row w l.blk _ _ ety (0,0) h5,h2,Nat.add_assoc]; simpa using hk
      ·cases hk) (mY hrep) hpart
     refine ⟨rfl,u,?_,hru⟩
     simp only [Instr.loadAt,Instr.sureAddr,Sem.run_bind,Sem.run_pure,Result.andThen_ok]
     exact hu
    ·cases he
   ·rename_i ety sz xs hbl
    rw [cN hbl (by simp)] at hb
    split at he
    ·rename_i x hx
     simp only [Option.map_eq_some_iff,Prod.mk.injEq] at he
     obtain ⟨v',hpart,rfl,rfl⟩:=he
     obtain ⟨l',h1,h2,h3,h4⟩:=hb
     rw [hL] at h1; cases h1
     rw [hnul] at h4
     obtain ⟨cs,h5,h6,h7,h8,h9⟩:=h4
     obtain ⟨hxl,hxc⟩:=h8 i x hx
     have hi:i<xs.length:=(List.getElem?_eq_some_iff.1 hx).1
     have hrow:(i+1)*sz≤xs.length*sz:=Nat.mul_le_mul_right _ hi
     rw [Nat.add_mul] at hrow
     have hrep:bB h ((cs.toList.drop (i*sz)).take sz) x:=bV.2 ⟨by simp; omega,fun k c hk=>by
      obtain ⟨v,a,b⟩:=hxc k c hk
      have hk':k<sz:=by have:=(List.getElem?_eq_some_iff.1 hk).1; omega
      exact ⟨v,by rw [List.getElem?_take,if_pos hk',List.getElem?_drop]; simpa using a,b⟩⟩
     obtain ⟨u,hu,hru⟩:=mH (w:=w) (b:=l.blk) (o:=i*l.sz+j) hti (fun k u hk=>by
      rw [List.getElem?_drop,List.getElem?_take] at hk
      split at hk
      ·rw [List.getElem?_drop] at hk
       rw [cell_of_row w l.blk _ _ ety (0,0) h5,h2,Nat.add_assoc]; simpa using hk
      ·cases hk) (mY hrep) hpart
     refine ⟨rfl,u,?_,hru⟩
     simp only [Instr.loadAt,Instr.sureAddr,Sem.run_bind,Sem.run_pure,Result.andThen_ok]
     exact hu
    ·cases he
   ·cases he
 | dp cs =>
   simp only [aG] at hp
   obtain ⟨b,o,rfl,hc⟩:=hp
   rw [iG] at hc
   simp only [xG,Option.map_eq_some_iff,Prod.mk.injEq] at he
   obtain ⟨v',hpart,rfl,rfl⟩:=he
   obtain ⟨u,hu,hru⟩:=mH (w:=w) (b:=b) (o:=o) (vs:=(List.range cs.length).map fun j=>(h.μ b (o+j)).getD undef) hti (fun k u hk=>by
    rw [List.getElem?_map] at hk
    by_cases hk':k<cs.length
    ·rw [List.getElem?_range hk'] at hk
     obtain ⟨v,a,_⟩:=hc k _ (List.getElem?_eq_getElem hk')
     simp only [Option.map_some,Option.some.injEq,a,Option.getD_some] at hk
     subst hk
     exact m.con _ _ _ a
    ·rw [List.getElem?_eq_none (by simpa using hk')] at hk; simp at hk) (DP (by simp) fun k c hk=>by
    obtain ⟨v,a,b'⟩:=hc k c hk
    have hk':k<cs.length:=(List.getElem?_eq_some_iff.1 hk).1
    exact ⟨v,by rw [List.getElem?_map,List.getElem?_range hk']; simp [a],b'⟩) hpart
   refine ⟨rfl,u,?_,hru⟩
   simp only [Instr.loadAt,Instr.sureAddr,Sem.run_bind,Sem.run_pure,Result.andThen_ok]
   exact hu
 | _=>simp [xG] at he
theorem pE {dst:Option Tmp} {bl:Nat→Blk} {b:Blk} {f:Nat→AV} {v:AV} {wr:List (Nat×Blk)} (h:OC dst bl b f=some (v,wr)) :
  ∃ n,dst=some n∧bl n=.free∧v=f n∧wr=[(n,b)]:=by
 unfold OC at h
 split at h
 ·rename_i n
  split at h
  ·rename_i hf
   simp only [Option.some.injEq,Prod.mk.injEq] at h
   exact ⟨n,rfl,hf,h.1.symm,h.2.symm⟩
  ·cases h
 ·cases h
theorem zQ {C:kD} {bl:Nat→Blk} {w:World} {h:Gh} (m:Mem C bl w h) {n:Nat} (hn:n<aB) (hfree:bl n=.free) (t:TypeId) {cells:List AV} {cv:Value}
  (hr:bB h cv.cells.toList cells):Good C bl h [(n,.var cells)] (.ptr n 0 0) ((do pure (.pointer (some (← newVar t cv))):Sem Value).run C.P w):=by
 have hL:h.L n=none:=by have:=m.blks n; rw [hfree] at this; exact this
 have hsz:∀ o,h.μ w.heap.size o=none:=fun o=>by
  cases e:h.μ w.heap.size o with
  | none=>rfl
  | some v=>exact absurd (HB m e) (by omega)
 have m':=m.alloc hfree (.var cells) cv.cells t cv.cells.size ⟨⟨w.heap.size,cv.cells.size,cv.cells.size,false⟩,cv.cells.toList,t,by simp [Gh.add],rfl,by simpa using heap_alloc_new w _,jG (Gh.le_add hL) _ _ hr,hsz⟩ hn
 refine ⟨.pointer (some ⟨w.heap.size,0,none⟩),_,_,?_,Gh.le_add hL,m',?_⟩
 ·simp [newVar,newRow]
 ·simp [aG,Gh.add]
theorem uU {h:Gh} (v:Value):aG h v (iF v):=by
 unfold iF
 split <;> simp [aG,aU,Value.oneCell']
theorem kC {h:Gh} (vs:List Value):bB h vs (vs.map iF):=by
 induction vs with
 | nil=>simp [bB]
 | cons v vs ih=>exact ⟨v,vs,rfl,uU v,ih⟩
theorem OR {C:kD} {bl:Nat→Blk} {w:World} {h:Gh} (m:Mem C bl w h) {t:TypeId} {ti:TI} (hti:cV C.P t=some ti) {z:List Value} (hz:ti.zero=some z) {n:Nat} (hn:n<aB)
  (hfree:bl n=.free):Good C bl h [(n,.var (z.map iF))] (.ptr n 0 0) ((Instr.alloc t true (.tuple #[])).run C.P w):=by
 obtain ⟨i,d,h1,h2,rfl⟩:=bO hti
 simp only [Option.map_eq_some_iff] at hz
 obtain ⟨zv,hz1,rfl⟩:=hz
 have hg:=zQ (cv:=zv) m hn hfree t (kC _)
 have e:(Instr.alloc t true (.tuple #[])).run C.P w=((do pure (.pointer (some (← newVar t zv))):Sem Value).run C.P w):=by
  simp [Instr.alloc,zeroValue,typeInfo,h1,hz1]
 rw [e]
 exact hg
theorem XU {C:kD} {bl:Nat→Blk} {w:World} {h:Gh} (m:Mem C bl w h) {t:TypeId} {v:AV} {u:Value} (hr:aG h u v) (hgd:v.good=true) {n:Nat} (hn:n<aB)
  (hfree:bl n=.free):Good C bl h [(n,.var v.cells)] (.ptr n 0 0) ((Instr.box t u).run C.P w) :=
 zQ (cv:=u) m hn hfree t (pQ hr hgd)
theorem uW {P:Program} {fs:Array Field} {f off sz:Nat} {ag:Bool}
  (h:(fs.toList.map (nW P))[f]?=some (off,sz,ag)) (hsz:sz ≠ 0) :
  ∃ fd i d,fs[f]?=some fd∧P.info? fd.type=some i∧P.underlying fd.type=some d∧off=fd.offset∧sz=i.size∧ag=mW d:=by
 rw [List.getElem?_map] at h
 cases hf:fs.toList[f]? with
 | none=>rw [hf] at h; simp at h
 | some fd =>
   rw [hf] at h
   simp only [Option.map_some,Option.some.injEq,nW] at h
   split at h
   ·rename_i i d h1 h2
    simp only [Prod.mk.injEq] at h
    exact ⟨fd,i,d,by simpa using hf,h1,h2,h.1.symm,h.2.1.symm,h.2.2.symm⟩
   ·simp only [Prod.mk.injEq] at h
    exact absurd h.2.1.symm hsz
theorem qT {P:Program} {d:TypeDesc} {l:List (Nat×Nat×Bool)} (h:rY P d=.struct l):∃ fs,d=.struct fs ∧
  l=fs.toList.map (nW P):=by
 cases d <;> simp only [rY] at h <;> first | (cases h; done) | skip
 rename_i fs
 exact ⟨fs,rfl,by simpa using h.symm⟩
theorem dV {P:Program} {d:TypeDesc} {e:TypeId} (h:rY P d=.slice e):d=.slice e:=by
 cases d <;> simp only [rY] at h <;> first | (cases h; done) | skip
 simpa using h
theorem xS {P:Program} {d:TypeDesc} {n e:Nat} (h:rY P d=.array n e):d=.array n e:=by
 cases d <;> simp only [rY] at h <;> first | (cases h; done) | skip
 simpa using h
theorem kE {P:Program} {d:TypeDesc} (h:rY P d=.string):d=.string:=by
 cases d <;> simp only [rY] at h <;> first | (cases h; done) | rfl
theorem BY {P:Program} {d:TypeDesc} (h:rY P d=.bool):d=.bool:=by
 cases d <;> simp only [rY] at h <;> first | (cases h; done) | rfl
theorem uX {P:Program} {d:TypeDesc} {k:IntKind} (h:rY P d=.int k):d=.int k:=by
 cases d <;> simp only [rY] at h <;> first | (cases h; done) | skip
 simpa using h
theorem xH {μ:Nat→Nat→Option Value} {b o k:Nat} {cs:List D} (h:dT μ b o cs):dT μ b (o+k) (cs.drop k):=by
 rw [iG] at *
 intro j c hj
 rw [List.getElem?_drop] at hj
 have:=h _ c hj
 rwa [Nat.add_assoc]
theorem BZ {P:Program} {w:World} {h:Gh} {t:TypeId} {ti:TI} (hti:cV P t=some ti) {f:Nat} {p v:AV} {wr:List (Nat×Blk)} {pv:Value}
  (hp:aG h pv p) (he:tC ti.kind f p=some (v,wr)):wr=[]∧∃ u,(Instr.fieldAt t pv f).run P w=.ok u w∧aG h u v:=by
 obtain ⟨i,d,h1,h2,rfl⟩:=bO hti
 have run:∀ (fs:Array Field) (fd:Field) (i':TypeInfo) (b o:Nat),d=.struct fs→fs[f]?=some fd→P.info? fd.type=some i'→i'.size ≠ 0 →
   (Instr.fieldAt t (.pointer (some ⟨b,o,none⟩)) f).run P w=.ok (.pointer (some ⟨b,o+fd.offset,none⟩)) w:=by
  intro fs fd i' b o hd hf hi hne
  simp [Instr.fieldAt,run_underlying (hd ▸ h2),hf,Instr.sureAddr,fieldPlace,dM hi,hne,Addr.add_lit]
 cases p <;> simp only [tC] at he <;> first | (cases he; done) | skip
 case ptr n i' j =>
  split at he
  ·rename_i l hk
   obtain ⟨fs,rfl,rfl⟩:=qT hk
   split at he
   ·rename_i off sz ag hf
    split at he
    ·cases he
    ·rename_i hsz
     simp only [eB,Option.some.injEq,Prod.mk.injEq] at he
     obtain ⟨rfl,rfl⟩:=he
     obtain ⟨fd,i2,d2,a1,a2,a3,rfl,rfl,rfl⟩:=uW hf hsz
     simp only [aG] at hp
     obtain ⟨l,hL,hn,rfl⟩:=hp
     refine ⟨rfl,_,run fs fd i2 _ _ rfl a1 a2 hsz,?_⟩
     simp only [aG]
     exact ⟨l,hL,hn,by rw [Nat.add_assoc]⟩
   ·cases he
  ·cases he
 case dp cs =>
  split at he
  ·rename_i l hk
   obtain ⟨fs,rfl,rfl⟩:=qT hk
   split at he
   ·rename_i off sz ag hf
    split at he
    ·cases he
    ·rename_i hsz
     simp only [not_or] at hsz
     simp only [eB,Option.some.injEq,Prod.mk.injEq] at he
     obtain ⟨rfl,rfl⟩:=he
     obtain ⟨fd,i2,d2,a1,a2,a3,rfl,rfl,rfl⟩:=uW hf hsz.1
     simp only [aG] at hp
     obtain ⟨b,o,rfl,hc⟩:=hp
     refine ⟨rfl,_,run fs fd i2 _ _ rfl a1 a2 hsz.1,?_⟩
     simp only [aG]
     exact ⟨b,_,rfl,xH hc⟩
   ·cases he
  ·cases he
theorem aEL {h:Gh} {arr:List Value} {cs:List AV} (hr:bB h arr cs) {off sz:Nat} {ag:Bool} {v:AV} (hp:nL ag sz (cs.drop off)=some v) :
  ∃ u,aG h u v∧(if ag=true then u=.agg ((⟨arr⟩:Array Value).extract off (off+sz)) else arr[off]?=some u):=by
 unfold nL at hp
 cases ag with
 | true =>
   simp only [if_true] at hp ⊢
   split at hp <;> simp only [Option.some.injEq,reduceCtorEq] at hp
   subst hp
   refine ⟨_,?_,rfl⟩
   simp only [aG]
   refine ⟨_,?_,tH (mY (n:=off) hr)⟩
   congr 1
   apply Array.ext'
   simp
 | false =>
   simp only [Bool.false_eq_true,if_false] at hp ⊢
   rw [List.head?_drop] at hp
   obtain ⟨u,a,b⟩:=(bV.1 hr).2 off v hp
   exact ⟨u,b,a⟩
theorem PC {P:Program} {w:World} {h:Gh} {t:TypeId} {ti:TI} (hti:cV P t=some ti) {f:Nat} {p v:AV} {wr:List (Nat×Blk)} {pv:Value}
  (hp:aG h pv p) (he:OE ti.kind f p=some (v,wr)):wr=[]∧∃ u,(Instr.field t pv f).run P w=.ok u w∧aG h u v:=by
 obtain ⟨i,d,h1,h2,rfl⟩:=bO hti
 cases p <;> simp only [OE] at he <;> first | (cases he; done) | skip
 case agg cs =>
  split at he
  ·rename_i l hk
   obtain ⟨fs,rfl,rfl⟩:=qT hk
   split at he
   ·rename_i off sz ag hf
    split at he
    ·cases he
    ·rename_i hsz
     obtain ⟨fd,i2,d2,a1,a2,a3,rfl,rfl,rfl⟩:=uW hf hsz
     simp only [Option.map_eq_some_iff,Prod.mk.injEq] at he
     obtain ⟨v',hpart,rfl,rfl⟩:=he
     simp only [aG] at hp
     obtain ⟨arr,rfl,hr⟩:=hp
     obtain ⟨u,hu,hx⟩:=aEL hr hpart
     refine ⟨rfl,u,?_,hu⟩
     have e:(Go.part fd.type ⟨arr⟩ fd.offset).run P w=.ok u w:=by
      unfold Go.part
      simp only [Sem.run_bind,sB a3,Result.andThen_ok]
      cases hd:mW d2 with
      | true=>rw [hd] at hx; simp only [if_true] at hx; simp [dM a2,hx]
      | false=>rw [hd] at hx; simp only [Bool.false_eq_true,if_false] at hx; simp [hx]
     simp [Instr.field,run_underlying h2,a1,asAgg,e]
   ·cases he
  ·cases he
theorem pN {h:Gh} {v:Value} {x:AV} {n:Int} (hr:aG h v x) (hi:uO x=some n):∃ k,v=.int k n:=by
 unfold uO at hi
 split at hi
 ·simp only [Option.some.injEq] at hi
  subst hi
  simp only [aG,aU] at hr
  exact ⟨_,hr⟩
 ·cases hi
theorem CA {P:Program} {w:World} {h:Gh} {t:TypeId} {ti:TI} (hti:cV P t=some ti) {x v:AV} {i:Int} {k:IntKind} {wr:List (Nat×Blk)} {xv:Value}
  (hp:aG h xv x) (he:tD P ti.kind i x=some (v,wr)):wr=[]∧∃ u,(Instr.indexAt t xv (.int k i)).run P w=.ok u w∧aG h u v:=by
 obtain ⟨i0,d,h1,h2,rfl⟩:=bO hti
 unfold tD at he
 split at he
 ·rename_i e xs hk
  have hd:=dV hk
  subst hd
  split at he
  ·rename_i te hte
   obtain ⟨ie,de,e1,e2,rfl⟩:=bO hte
   split at he
   ·rename_i h0
    split at he
    ·rename_i y hy
     split at he
     ·rename_i hyl
      simp only [eB,Option.some.injEq,Prod.mk.injEq] at he
      obtain ⟨rfl,rfl⟩:=he
      simp only [aG,aU] at hp
      obtain ⟨a,cap,rfl,_,hx⟩:=hp
      have hlt:i.toNat<xs.length:=(List.getElem?_eq_some_iff.1 hy).1
      rcases hx with rfl | ⟨b,o,sz,rfl,hels⟩
      ·simp at hlt
      ·rw [gW] at hels
       obtain ⟨hl,hc⟩:=hels _ _ hy
       have hlt':i<(xs.length:Int):=by omega
       refine ⟨rfl,.pointer (some ⟨b,o+i.toNat*sz,none⟩),?_,?_⟩
       ·have e3:ie.size=sz:=hyl.symm.trans hl
        simp [Instr.indexAt,asIntOf,run_underlying h2,h0,hlt',dM e1,Addr.add_lit,e3]
       ·simp only [aG]; exact ⟨b,_,rfl,hc⟩
     ·cases he
    ·cases he
   ·cases he
  ·cases he
 ·rename_i e n lo len sz hk
  have hd:=dV hk
  subst hd
  split at he
  ·rename_i te hte
   obtain ⟨ie,de,e1,e2,rfl⟩:=bO hte
   split at he
   ·rename_i hc
    obtain ⟨h0,hlt,rfl⟩:=hc
    simp only [eB,Option.some.injEq,Prod.mk.injEq] at he
    obtain ⟨rfl,rfl⟩:=he
    simp only [aG] at hp
    obtain ⟨l,hL,hsz,hx⟩:=hp
    split at hx
    ·omega
    ·rename_i hn
     obtain ⟨cap,rfl,h3,h4,h5⟩:=hx
     have hlt':i<(len:Int):=by omega
     refine ⟨rfl,.pointer (some ⟨l.blk,lo*l.sz+i.toNat*ie.size,none⟩),?_,?_⟩
     ·simp [Instr.indexAt,asIntOf,run_underlying h2,h0,hlt',dM e1,Addr.add_lit]
     ·simp only [aG]
      refine ⟨l,hL,by simpa using hn,?_⟩
      rw [hsz,Nat.add_mul,Nat.add_zero]
   ·cases he
  ·cases he
 ·rename_i m e cs hk
  have hd:=xS hk
  subst hd
  split at he
  ·rename_i te hte
   obtain ⟨ie,de,e1,e2,rfl⟩:=bO hte
   split at he
   ·rename_i hc
    obtain ⟨h0,hlt,hle⟩:=hc
    simp only [eB,Option.some.injEq,Prod.mk.injEq] at he
    obtain ⟨rfl,rfl⟩:=he
    simp only [aG] at hp
    obtain ⟨b,o,rfl,hcs⟩:=hp
    refine ⟨rfl,.pointer (some ⟨b,o+i.toNat*ie.size,none⟩),?_,?_⟩
    ·simp [Instr.indexAt,asIntOf,run_underlying h2,h0,hlt,dM e1,Addr.add_lit,Instr.sureAddr]
    ·simp only [aG]; exact ⟨b,_,rfl,xH hcs⟩
   ·cases he
  ·cases he
 ·rename_i m e n i' j hk
  have hd:=xS hk
  subst hd
  split at he
  ·rename_i te hte
   obtain ⟨ie,de,e1,e2,rfl⟩:=bO hte
   split at he
   ·rename_i hc
    obtain ⟨h0,hlt⟩:=hc
    simp only [eB,Option.some.injEq,Prod.mk.injEq] at he
    obtain ⟨rfl,rfl⟩:=he
    simp only [aG] at hp
    obtain ⟨l,hL,hn,rfl⟩:=hp
    refine ⟨rfl,.pointer (some ⟨l.blk,i'*l.sz+j+i.toNat*ie.size,none⟩),?_,?_⟩
    ·simp [Instr.indexAt,asIntOf,run_underlying h2,h0,hlt,dM e1,Addr.add_lit,Instr.sureAddr]
    ·simp only [aG]; exact ⟨l,hL,hn,by rw [Nat.add_assoc]⟩
   ·cases he
  ·cases he
 ·cases he
theorem PD {P:Program} {w:World} {h:Gh} {t:TypeId} {ti:TI} (hti:cV P t=some ti) {x v:AV} {i:Int} {k:IntKind} {wr:List (Nat×Blk)} {xv:Value}
  (hp:aG h xv x) (he:OF ti.kind i x=some (v,wr)):wr=[]∧∃ u,(Instr.index t xv (.int k i)).run P w=.ok u w∧aG h u v:=by
 obtain ⟨i0,d,h1,h2,rfl⟩:=bO hti
 unfold OF at he
 split at he
 ·rename_i s hk
  have hd:=kE hk
  subst hd
  split at he
  ·rename_i h0
   split at he
   ·rename_i c hc
    simp only [eB,Option.some.injEq,Prod.mk.injEq] at he
    obtain ⟨rfl,rfl⟩:=he
    simp only [aG,aU] at hp
    subst hp
    have hlt:i.toNat<s.length:=(List.getElem?_eq_some_iff.1 hc).1
    have hb:(⟨s.toArray⟩:ByteArray)[i.toNat]?=some c:=by
     rw [ByteArray.getElem?_lt' _ _ (show i.toNat<(⟨s.toArray⟩:ByteArray).size by rw [ByteArray.size_mk']; simpa using hlt)]
     have:=(List.getElem?_eq_some_iff.1 hc).2
     simp [← this]
     rfl
    refine ⟨rfl,_,?_,by simp [aG,aU]; rfl⟩
    simp [Instr.index,asIntOf,run_underlying h2,h0,hb]
   ·cases he
  ·cases he
 ·cases he
def D.plain:D→Value
 | .int k n=>.int k n
 | .bool b=>.bool b
 | .str s=>.string ⟨s.toArray⟩
 | .val v=>v
 | .ifn=>undef
 | .any _=>undef
 | .sl _=>undef
theorem YT {P:Program} {w:World} {op:BinOp} {t:TypeId} {k:IntKind} {a b:Int} {x:D} (he:aHz op k a b=some x) :
  (binOp op t (.int k a) (.int k b)).run P w=.ok x.plain w∧∀ h:Gh,aG h x.plain (.d x):=by
 cases op <;> simp only [aHz] at he <;> first | (cases he; done) | skip
 case quo =>
  split at he <;> simp only [Option.some.injEq,reduceCtorEq] at he
  rename_i hb; subst he
  exact ⟨by simp [binOp_quo,Op.intDiv,hb,D.plain],fun h=>by simp [aG,aU,D.plain]⟩
 case rem =>
  split at he <;> simp only [Option.some.injEq,reduceCtorEq] at he
  rename_i hb; subst he
  exact ⟨by simp [binOp_rem,Op.intDiv,hb,D.plain],fun h=>by simp [aG,aU,D.plain]⟩
 case shr =>
  split at he <;> simp only [Option.some.injEq,reduceCtorEq] at he
  rename_i hb; subst he
  exact ⟨by simp [binOp,Op.shift,hb,D.plain],fun h=>by simp [aG,aU,D.plain]⟩
 all_goals
  simp only [Option.some.injEq] at he
  subst he
  exact ⟨by simp [binOp,Op.intArith,Op.intCmp,D.plain],fun h=>by simp [aG,aU,D.plain]⟩
theorem YU {P:Program} {w:World} {op:BinOp} {t:TypeId} {a b:List UInt8} {x:D} (he:aHA op a b=some x) :
  (binOp op t (.string ⟨a.toArray⟩) (.string ⟨b.toArray⟩)).run P w=.ok x.plain w∧∀ h:Gh,aG h x.plain (.d x):=by
 cases op <;> simp only [aHA] at he <;> first | (cases he; done) | skip
 case add =>
  split at he <;> simp only [Option.some.injEq,reduceCtorEq] at he
  rename_i hl; subst he
  refine ⟨?_,fun h=>by simp [aG,aU,D.plain]⟩
  rw [binOp_string_add,run_string_add_sum w _ _ (by simpa [ByteArray.size_mk'] using hl),ByteArray.mk_append_mk]
  rfl
 all_goals
  simp only [Option.some.injEq] at he
  subst he
  exact ⟨by simp [binOp,Op.stringOp,D.plain],fun h=>by simp [aG,aU,D.plain]⟩
theorem zS {P:Program} {w:World} {h:Gh} {d:Nat} {t:TypeId} {dk:TypeDesc} (hdk:P.underlying t=some dk) {x y:AV} {u v:Value} {r:Bool} (hx:aG h u x) (hy:aG h v y)
  (he:OG (rY P dk) x y=some r):(Op.equalIn (d+1) t u v).run P w=.ok r w:=by
 unfold OG at he
 split at he
 ·rename_i hk
  have:=uX hk; subst this
  simp only [aG,aU] at hx hy
  subst hx hy
  split at he <;> simp only [Option.some.injEq,reduceCtorEq] at he
  rename_i hkk; subst hkk; subst he
  exact run_equalIn_int w d t _ _ _ _ hdk
 ·rename_i hk
  have:=BY hk; subst this
  simp only [aG,aU] at hx hy
  subst hx hy
  simp only [Option.some.injEq] at he
  subst he
  exact run_equalIn_bool w d t _ _ hdk
 ·rename_i hk
  have:=kE hk; subst this
  simp only [aG,aU] at hx hy
  subst hx hy
  simp only [Option.some.injEq] at he
  subst he
  rw [run_equalIn_string w d t _ _ hdk]
  simp
 ·cases he
theorem uY {P:Program} {w:World} {h:Gh} {d:Nat} {us vs:List Value}:∀ (fs:List Field) (i:Nat) (xs ys:List AV) (r:Bool),EU P i fs=true →
  bB h (us.drop i) xs→bB h (vs.drop i) ys→eD (fs.map (XE P)) xs ys=some r→(Op.eqFields (d+1) ⟨us⟩ ⟨vs⟩ fs).run P w=.ok r w
 | [],i,xs,ys,r,_,_,_,he=>by
   cases xs <;> cases ys <;> simp [eD] at he
   subst he
   simp [Op.eqFields]
 | f::fs,i,xs,ys,r,hp,hx,hy,he=>by
   cases xs with
   | nil=>simp [eD] at he
   | cons x xs =>
     cases ys with
     | nil=>simp [eD] at he
     | cons y ys =>
       simp only [EU,Bool.and_eq_true,beq_iff_eq,bne_iff_ne,ne_eq] at hp
       obtain ⟨⟨⟨rfl,hname⟩,hdesc⟩,hrest⟩:=hp
       cases hu:P.underlying f.type with
       | none=>rw [hu] at hdesc; simp at hdesc
       | some dk =>
         rw [hu] at hdesc
         simp only [List.map_cons,XE,hu,Option.map_some,Option.getD_some,eD] at he
         split at he <;> simp only [Option.some.injEq,reduceCtorEq] at he
         rename_i a b hca hcb
         subst he
         simp only [bB] at hx hy
         obtain ⟨u,us',hu1,hu2,hu3⟩:=hx
         obtain ⟨v,vs',hv1,hv2,hv3⟩:=hy
         have hpart:∀ (l l':List Value) (q:Value),l.drop f.offset=q::l'→(Go.part f.type ⟨l⟩ f.offset).run P w=.ok q w:=by
          intro l l' q hl
          have hq:l[f.offset]?=some q:=by
           have:=congrArg List.head? hl
           rw [List.head?_drop] at this
           simpa using this
          unfold Go.part
          simp only [Sem.run_bind,sB hu,Result.andThen_ok]
          have:mW dk=false:=by simpa using hdesc
          simp [this,hq]
         have hd1:us.drop (f.offset+1)=us':=by rw [← List.tail_drop,hu1]; rfl
         have hd2:vs.drop (f.offset+1)=vs':=by rw [← List.tail_drop,hv1]; rfl
         have ih:=uY (d:=d) (w:=w) fs (f.offset+1) xs ys b hrest (hd1 ▸ hu3) (hd2 ▸ hv3) hcb
         simp only [Op.eqFields,hname,not_false_eq_true,if_true,ne_eq,Sem.run_bind,hpart _ _ _ hu1,hpart _ _ _ hv1,Result.andThen_ok,zS hu hu2 hv2 hca]
         cases a <;> simp [ih]
theorem DU:∀ (k1 k2:List TK) (xs ys:List AV) (r:Bool),eD (k1++k2) xs ys=some r →
  ∃ a b,eD k1 (xs.take k1.length) (ys.take k1.length)=some a∧eD k2 (xs.drop k1.length) (ys.drop k1.length)=some b∧r=(a&&b)
 | [],k2,xs,ys,r,h=>⟨true,r,by simp [eD],by simpa using h,by simp⟩
 | k::k1,k2,[],ys,r,h=>by cases ys <;> simp [eD] at h
 | k::k1,k2,x::xs,[],r,h=>by simp [eD] at h
 | k::k1,k2,x::xs,y::ys,r,h=>by
   rw [List.cons_append,eD] at h
   split at h <;> simp only [Option.some.injEq,reduceCtorEq] at h
   rename_i a b ha hb
   obtain ⟨a',b',h1,h2,h3⟩:=DU k1 k2 xs ys b hb
   refine ⟨a&&a',b',?_,by simpa using h2,?_⟩
   ·simp only [List.length_cons,List.take_succ_cons,eD,ha,h1]
   ·rw [← h,h3,Bool.and_assoc]
theorem DV:∀ (ks:List TK) (xs ys:List AV) (r:Bool),eD ks xs ys=some r→xs.length=ks.length∧ys.length=ks.length
 | [],[],[],_,_=>⟨rfl,rfl⟩
 | [],[],_::_,_,h=>by simp [eD] at h
 | [],_::_,_,_,h=>by simp [eD] at h
 | _::_,[],ys,_,h=>by cases ys <;> simp [eD] at h
 | _::_,_::_,[],_,h=>by simp [eD] at h
 | k::ks,x::xs,y::ys,r,h=>by
   rw [eD] at h
   split at h <;> simp only [Option.some.injEq,reduceCtorEq] at h
   rename_i a b ha hb
   obtain ⟨h1,h2⟩:=DV ks xs ys b hb
   simp [h1,h2]
theorem CB {h:Gh}:∀ (n:Nat) {us:List Value} {xs:List AV},bB h us xs→bB h (us.take n) (xs.take n)∧bB h (us.drop n) (xs.drop n)
 | 0,us,xs,hr=>⟨by simp [bB],by simpa using hr⟩
 | n+1,us,[],hr=>by
   simp only [bB] at hr
   subst hr
   simp [bB]
 | n+1,us,x::xs,hr=>by
   simp only [bB] at hr
   obtain ⟨u,us',rfl,h1,h2⟩:=hr
   obtain ⟨a,b⟩:=CB n h2
   refine ⟨?_,by simpa using b⟩
   simp only [List.take_succ_cons,bB]
   exact ⟨u,_,rfl,h1,a⟩
theorem zU {P:Program} {w:World} {h:Gh} {d:Nat} {us vs:List Value}:∀ (fs:List Field) (i:Nat) (ks:List TK) (xs ys:List AV) (r:Bool),BM P i fs=some ks →
  bB h (us.drop i) xs→bB h (vs.drop i) ys→eD ks xs ys=some r→(Op.eqFields (d+2) ⟨us⟩ ⟨vs⟩ fs).run P w=.ok r w
 | [],i,ks,xs,ys,r,hk,_,_,he=>by
   simp only [BM,Option.some.injEq] at hk
   subst hk
   cases xs <;> cases ys <;> simp [eD] at he
   subst he
   simp [Op.eqFields]
 | f::fs,i,ks,xs,ys,r,hk,hx,hy,he=>by
   rw [BM] at hk
   split at hk
   case isFalse=>cases hk
   rename_i hc
   simp only [Bool.and_eq_true,beq_iff_eq,bne_iff_ne,ne_eq] at hc
   obtain ⟨rfl,hname⟩:=hc
   cases hF:aEn P f with
   | none=>rw [hF] at hk; cases hk
   | some k1 =>
     rw [hF] at hk
     simp only at hk
     cases hA:BM P (f.offset+k1.length) fs with
     | none=>rw [hA] at hk; cases hk
     | some k2 =>
       rw [hA] at hk
       simp only [Option.some.injEq] at hk
       subst hk
       obtain ⟨a,b,ha,hb,rfl⟩:=DU k1 k2 xs ys r he
       obtain ⟨x1,x2⟩:=CB k1.length hx
       obtain ⟨y1,y2⟩:=CB k1.length hy
       rw [List.drop_drop] at x2 y2
       have ih:=zU (d:=d) (w:=w) fs (f.offset+k1.length) k2 _ _ b hA x2 y2 hb
       obtain ⟨la,lb⟩:=DV _ _ _ _ ha
       have key:∃ p q,(Go.part f.type ⟨us⟩ f.offset).run P w=.ok p w∧(Go.part f.type ⟨vs⟩ f.offset).run P w=.ok q w∧(Op.equalIn (d+2) f.type p q).run P w=.ok a w:=by
        unfold aEn at hF
        cases hu:P.underlying f.type with
        | none=>rw [hu] at hF; cases hF
        | some dk =>
          rw [hu] at hF
          have plain:mW dk=false→k1=[rY P dk]→∃ p q,(Go.part f.type ⟨us⟩ f.offset).run P w=.ok p w∧(Go.part f.type ⟨vs⟩ f.offset).run P w=.ok q w∧(Op.equalIn (d+2) f.type p q).run P w=.ok a w:=fun hna hk1=>by
           subst hk1
           simp only [List.length_singleton] at x1 y1 ha la lb
           have one:∀ {zs:List AV} {l:List Value},(zs.take 1).length=1→bB h ((l.drop f.offset).take 1) (zs.take 1)→∃ z u,zs.take 1=[z]∧l[f.offset]?=some u∧aG h u z:=fun {zs l} hl hr=>by
            match zs.take 1,hl,hr with
            | [z],_,hr =>
              simp only [bB] at hr
              obtain ⟨u,us',e,h1,_⟩:=hr
              refine ⟨z,u,rfl,?_,h1⟩
              have:=congrArg List.head? e
              simpa [List.head?_take,List.head?_drop] using this
           obtain ⟨z1,u1,e1,g1,r1⟩:=one la x1
           obtain ⟨z2,u2,e2,g2,r2⟩:=one lb y1
           rw [e1,e2] at ha
           have hpart:∀ (l:List Value) (q:Value),l[f.offset]?=some q→(Go.part f.type ⟨l⟩ f.offset).run P w=.ok q w:=fun l q hq=>by
            unfold Go.part
            simp only [Sem.run_bind,sB hu,Result.andThen_ok]
            simp [hna,hq]
           refine ⟨u1,u2,hpart _ _ g1,hpart _ _ g2,zS (d:=d+1) hu r1 r2 ?_⟩
           rw [eD] at ha
           split at ha <;> simp only [Option.some.injEq,reduceCtorEq] at ha
           rename_i c e hc he
           simp only [eD,Option.some.injEq] at he
           subst he
           rw [hc,← ha]
           simp
          cases dk with
          | struct fs2 =>
            simp only at hF
            cases hi:P.info? f.type with
            | none=>rw [hi] at hF; cases hF
            | some inf =>
              rw [hi] at hF
              simp only at hF
              split at hF <;> simp only [Option.some.injEq,reduceCtorEq] at hF
              rename_i hc
              simp only [Bool.and_eq_true,Bool.not_eq_true',beq_iff_eq] at hc
              obtain ⟨⟨c1,c2⟩,c3⟩:=hc
              have hkl:k1.length=inf.size:=by rw [← hF,c3]; simp
              have hf:P.fieldsOf f.type=fs2:=by simp [Program.fieldsOf,hu]
              have hpart:∀ l:List Value,(Go.part f.type ⟨l⟩ f.offset).run P w=.ok (.agg ⟨(l.drop f.offset).take inf.size⟩) w:=fun l=>by
               unfold Go.part
               simp only [Sem.run_bind,sB hu,Result.andThen_ok]
               simp [mW,dM hi,List.extract_eq_drop_take]
              refine ⟨_,_,hpart us,hpart vs,?_⟩
              rw [run_equalIn_struct w (d+1) f.type _ _ (by rw [hf]; exact hu) c1,hf]
              rw [hkl] at x1 y1 ha
              subst hF
              exact uY (d:=d) fs2.toList 0 _ _ a c2 (by simpa using x1) (by simpa using y1) ha
          | array n e =>
            simp only [mW,if_true] at hF
            cases hF
          | _ =>
            simp only [mW,Bool.false_eq_true,if_false,Option.some.injEq] at hF
            exact plain rfl hF.symm
       obtain ⟨p,q,k1',k2',k3⟩:=key
       simp only [Op.eqFields,hname,not_false_eq_true,if_true,ne_eq,Sem.run_bind,k1',k2',Result.andThen_ok,k3]
       cases a <;> simp [ih]
theorem qU {P:Program} (w:World) (n:Nat) {t e:TypeId} (ht:P.underlying t=some (.slice e)) (a:Option Addr) (len cap:Nat):(Op.equalIn (n+1) t (.slice a len cap) (.slice none 0 0)).run P w=.ok a.isNone w:=by
 cases a <;> simp [Op.equalIn,run_underlying ht]
theorem TL {P:Program} {w:World} {h:Gh} {op:BinOp} {t e:TypeId} {x v:AV} {a:Value} {ox oy:Operand} (ht:P.underlying t=some (.slice e)) (hx:aG h a x) (he:aAM op x=some v) :
  ∃ u,((do eqGuard op t ox oy a (.slice none 0 0); binOp op t a (.slice none 0 0)):Sem Value).run P w=.ok u w∧aG h u v:=by
 have key:∀ (b:Option Addr) (len cap:Nat) (r:AV),(op=.eql→aG h (.bool b.isNone) r)→(op=.neq→aG h (.bool (!b.isNone)) r)→(op=.eql∨op=.neq) →
   ∃ u,((do eqGuard op t ox oy (.slice b len cap) (.slice none 0 0); binOp op t (.slice b len cap) (.slice none 0 0)):Sem Value).run P w=.ok u w∧aG h u r:=by
  intro b len cap r h1 h2 ho
  rcases ho with rfl | rfl
  ·exact ⟨_,by simp [eqGuard,binOp,Op.equal,Op.maxDepth,qU w 9999 ht],h1 rfl⟩
  ·exact ⟨_,by simp [eqGuard,binOp,Op.equal,Op.maxDepth,qU w 9999 ht],h2 rfl⟩
 unfold aAM at he
 split at he
 ·simp only [aG] at hx
  subst hx
  split at he <;> simp only [Option.some.injEq,reduceCtorEq] at he <;> subst he
  ·exact key _ _ _ _ (fun _=>by simp [aG,aU]) (fun e=>by cases e) (.inl rfl)
  ·exact key _ _ _ _ (fun e=>by cases e) (fun _=>by simp [aG,aU]) (.inr rfl)
 ·simp only [aG,aU] at hx
  obtain ⟨b,cap,rfl,_,_⟩:=hx
  split at he <;> simp only [Option.some.injEq,reduceCtorEq] at he <;> subst he
  ·exact key _ _ _ _ (fun _=>by simp [aG]) (fun e=>by cases e) (.inl rfl)
  ·exact key _ _ _ _ (fun e=>by cases e) (fun _=>by simp [aG]) (.inr rfl)
 ·simp only [aG,aU] at hx
  obtain ⟨b,cap,rfl,_,hb⟩:=hx
  obtain ⟨a',rfl⟩:∃ a',b=some a':=by
   rcases hb with e | ⟨b',o,sz,e,_⟩
   ·cases e
   ·exact ⟨_,e⟩
  split at he <;> simp only [Option.some.injEq,reduceCtorEq] at he <;> subst he
  ·exact key _ _ _ _ (fun _=>by simp [aG,aU]) (fun e=>by cases e) (.inl rfl)
  ·exact key _ _ _ _ (fun e=>by cases e) (fun _=>by simp [aG,aU]) (.inr rfl)
 ·rename_i n lo len sz
  simp only [aG] at hx
  obtain ⟨l,hL,hsz,hv⟩:=hx
  have hs:∃ (b:Option Addr) (cap:Nat),a=.slice b len cap∧(0<len→b.isNone=false):=by
   split at hv
   ·obtain ⟨rfl,_,rfl⟩:=hv
    exact ⟨none,0,rfl,by simp⟩
   ·obtain ⟨cap,rfl,_⟩:=hv
    exact ⟨_,cap,rfl,by simp⟩
  obtain ⟨b,cap,rfl,hb⟩:=hs
  split at he <;> simp only [Option.some.injEq,reduceCtorEq] at he <;> subst he
  ·refine key _ _ _ _ (fun _=>?_) (fun e=>by cases e) (.inl rfl)
   by_cases hl:0<len
   ·rw [if_pos hl,hb hl]; simp [aG,aU]
   ·rw [if_neg hl]; simp [aG]
  ·refine key _ _ _ _ (fun e=>by cases e) (fun _=>?_) (.inr rfl)
   by_cases hl:0<len
   ·rw [if_pos hl,hb hl]; simp [aG,aU]
   ·rw [if_neg hl]; simp [aG]
 ·cases he
theorem YV {P:Program} {w:World} {h:Gh} {op:BinOp} {t:TypeId} {x y v:AV} {a b:Value} {ox oy:Operand} (hx:aG h a x) (hy:aG h b y) (he:aHB P op t x y=some v) :
  ∃ u,((do eqGuard op t ox oy a b; binOp op t a b):Sem Value).run P w=.ok u w∧aG h u v:=by
 unfold aHB at he
 split at he
 ·simp only [aG,aU] at hx hy
  subst hx hy
  split at he
  ·rename_i hk; subst hk
   simp only [Option.map_eq_some_iff] at he
   obtain ⟨z,hz,rfl⟩:=he
   obtain ⟨h1,h2⟩:=YT (P:=P) (w:=w) (t:=t) hz
   exact ⟨_,by simp [eqGuard_at_int,h1],h2 h⟩
  ·cases he
 ·simp only [aG,aU] at hx hy
  subst hx hy
  simp only [Option.map_eq_some_iff] at he
  obtain ⟨z,hz,rfl⟩:=he
  obtain ⟨h1,h2⟩:=YU (P:=P) (w:=w) (t:=t) hz
  exact ⟨_,by simp [eqGuard_at_string,h1],h2 h⟩
 ·simp only [aG,aU] at hx hy
  subst hx hy
  split at he
  ·rename_i ti hti
   obtain ⟨i,d,h1,h2,rfl⟩:=bO hti
   split at he <;> simp only [Option.some.injEq,reduceCtorEq] at he
   ·rename_i hk
    have:=BY hk; subst this
    subst he
    exact ⟨_,by simp [eqGuard_at_bool,binOp,Op.equal,Op.maxDepth,run_equalIn_bool w 9999 t _ _ h2]; rfl,by simp [aG,aU]⟩
   ·rename_i hk
    have:=BY hk; subst this
    subst he
    exact ⟨_,by simp [eqGuard_at_bool,binOp,Op.equal,Op.maxDepth,run_equalIn_bool w 9999 t _ _ h2]; rfl,by simp [aG,aU]⟩
  ·cases he
 ·simp only [aG] at hx hy
  obtain ⟨us,rfl,hus⟩:=hx
  obtain ⟨vs,rfl,hvs⟩:=hy
  split at he
  ·rename_i ks hks
   unfold GM at hks
   split at hks
   ·rename_i fs hfs
    split at hks
    case isFalse=>cases hks
    rename_i hc
    simp only [Bool.and_eq_true,Bool.not_eq_true'] at hc
    obtain ⟨c1,c2⟩:=hc
    have hst:∀ r,eD ks _ _=some r→(Op.equal t (.agg ⟨us⟩) (.agg ⟨vs⟩)).run P w=.ok r w:=fun r hr=>by
     have hf:P.fieldsOf t=fs:=by simp [Program.fieldsOf,hfs]
     unfold Op.equal Op.maxDepth
     rw [run_equalIn_struct w 9999 t _ _ (by rw [hf]; exact hfs) c1,hf]
     exact zU (d:=9997) fs.toList 0 ks _ _ r hks (by simpa using hus) (by simpa using hvs) hr
    have hg:(eqGuard op t ox oy (.agg ⟨us⟩) (.agg ⟨vs⟩)).run P w=.ok () w:=by
     cases op <;> simp [eqGuard,c2]
    split at he <;> simp only [Option.some.injEq,reduceCtorEq] at he
    ·rename_i r hr
     subst he
     exact ⟨.bool r,by simp [hg,binOp,hst r hr],by simp [aG,aU]⟩
    ·rename_i r hr
     subst he
     exact ⟨.bool (!r),by simp [hg,binOp,hst r hr],by simp [aG,aU]⟩
   ·cases hks
  ·cases he
 ·split at he
  ·rename_i ti hti
   obtain ⟨i,d,h1,h2,rfl⟩:=bO hti
   split at he
   ·rename_i e hk
    have:=dV (P:=P) (d:=d) hk
    subst this
    have hy':b=.slice none 0 0:=by simpa only [aG] using hy
    subst hy'
    exact TL h2 hx he
   ·cases he
  ·cases he
 ·cases he
theorem aCQ {P:Program} {w:World} {h:Gh} {op:UnOp} {x v:AV} {a:Value} (hx:aG h a x) (he:unE op x=some v) :
  ∃ u,(Op.unary op a).run P w=.ok u w∧aG h u v:=by
 unfold unE at he
 split at he
 ·simp only [aG,aU] at hx
  subst hx
  split at he <;> simp only [Option.some.injEq,reduceCtorEq] at he
  subst he
  exact ⟨.int _ (IntKind.wrap _ (0 - _)),by simp only [Op.unary,Op.intArith]; rfl,by simp [aG,aU]⟩
 ·simp only [aG,aU] at hx
  subst hx
  split at he <;> simp only [Option.some.injEq,reduceCtorEq] at he
  subst he
  exact ⟨.bool (!_),by simp only [Op.unary]; rfl,by simp [aG,aU]⟩
 ·cases he
theorem HL {h:Gh} {x:Option AV} {v:Option Value} {n:Option Int} (hr:match x,v with | some x,some v=>aG h v x | none,none=>True | _,_=>False) (hi:BN x=some n) :
  (v=none∧n=none)∨∃ k i,v=some (.int k i)∧n=some i:=by
 cases x <;> cases v <;> simp only at hr
 ·simp [BN] at hi; exact .inl ⟨rfl,hi.symm⟩
 ·simp only [BN,Option.map_eq_some_iff] at hi
  obtain ⟨i,h1,h2⟩:=hi
  obtain ⟨k,hk⟩:=pN hr h1
  exact .inr ⟨k,i,by rw [hk],h2.symm⟩
theorem lM {P:Program} {w:World} {isSlice:Bool} {len cap:Nat} {lo hi:Option Value} {l h:Option Int} (hlo:(lo=none∧l=none)∨∃ k i,lo=some (.int k i)∧l=some i)
  (hhi:(hi=none∧h=none)∨∃ k i,hi=some (.int k i)∧h=some i) (hc:len≤cap) (h0:0≤l.getD 0) (h1:l.getD 0≤h.getD len) (h2:h.getD len≤len) :
  (Instr.sliceBounds isSlice len cap lo hi none).run P w=.ok ((l.getD 0).toNat,(h.getD len).toNat,cap) w:=by
 rcases hlo with ⟨rfl,rfl⟩ | ⟨k,i,rfl,rfl⟩ <;> rcases hhi with ⟨rfl,rfl⟩ | ⟨k',j,rfl,rfl⟩ <;> simp only [Option.getD_some,Option.getD_none] at *
 ·simp [Instr.sliceBounds]
 ·have:=run_sliceBound (P:=P) w k' j cap (if isSlice then .sliceAcap else .sliceAlen) (by omega) (by omega)
  simp [Instr.sliceBounds,this]
 ·have:=run_sliceBound (P:=P) w k i len .sliceB (by omega) (by omega)
  simp [Instr.sliceBounds,this]
 ·have a:=run_sliceBound (P:=P) w k' j cap (if isSlice then .sliceAcap else .sliceAlen) (by omega) (by omega)
  have b:=run_sliceBound (P:=P) w k i j.toNat .sliceB (by omega) (by omega)
  simp [Instr.sliceBounds,a,b]
theorem PE {P:Program} {w:World} {h:Gh} {t:TypeId} {ti:TI} (hti:cV P t=some ti) {x v:AV} {lo hi mx:Option AV} {vlo vhi vmx:Option Value} {wr:List (Nat×Blk)} {xv:Value}
  (hp:aG h xv x) (hlo:match lo,vlo with | some x,some v=>aG h v x | none,none=>True | _,_=>False) (hhi:match hi,vhi with | some x,some v=>aG h v x | none,none=>True | _,_=>False)
  (hmx:match mx,vmx with | some x,some v=>aG h v x | none,none=>True | _,_=>False)
  (he:OH P ti.kind x lo hi mx=some (v,wr)):wr=[]∧∃ u,(Instr.sliceAt t xv vlo vhi vmx).run P w=.ok u w∧aG h u v:=by
 obtain ⟨i0,d,h1,h2,rfl⟩:=bO hti
 unfold OH at he
 split at he
 ·rename_i l hh h3 h4
  have hmx':vmx=none:=by cases vmx <;> simp_all
  subst hmx'
  have olo:=HL hlo h3
  have ohi:=HL hhi h4
  split at he
  ·rename_i e xs hk
   have:=dV hk; subst this
   split at he
   ·rename_i te hte
    obtain ⟨ie,de,e1,e2,rfl⟩:=bO hte
    split at he
    ·rename_i hc
     obtain ⟨c0,c1,c2,c3⟩:=hc
     simp only [eB,Option.some.injEq,Prod.mk.injEq] at he
     obtain ⟨rfl,rfl⟩:=he
     simp only [aG,aU] at hp
     obtain ⟨a,cap,rfl,hcap,hx⟩:=hp
     have hb:=lM (P:=P) (w:=w) (isSlice:=true) olo ohi hcap c0 c1 c2
     generalize hl:(l.getD 0).toNat=L at *
     generalize hH:(hh.getD ↑xs.length).toNat=H at *
     have hHx:H≤xs.length:=by omega
     have hLH:L≤H:=by omega
     refine ⟨rfl,.slice (if cap=L then a else a.map (·.add (L*ie.size))) (H - L) (cap - L),?_,?_⟩
     ·simp [Instr.sliceAt,run_underlying h2,Instr.slice,hb,dM e1]
     ·simp only [aG,aU]
      refine ⟨_,_,by simp [List.length_drop,List.length_take,Nat.min_eq_left hHx]; exact ⟨rfl,rfl⟩,by simp; omega,?_⟩
      by_cases hne:H=L
      ·left; rw [List.drop_eq_nil_iff]; simp; omega
      ·right
       rcases hx with rfl | ⟨b,o,sz,rfl,hels⟩
       ·simp at hHx; omega
       ·rw [gW] at hels
        have hLlt:L<xs.length:=by omega
        have hsz:ie.size=sz:=by
         have a1:=(hels L xs[L] (List.getElem?_eq_getElem hLlt)).1
         rw [List.all_eq_true] at c3
         have:=c3 xs[L] (by
          rw [List.mem_iff_getElem?]
          exact ⟨0,by rw [List.getElem?_drop,List.getElem?_take,if_pos (by omega)]; simp⟩)
         simp only [beq_iff_eq] at this
         omega
        refine ⟨b,o+L*sz,sz,by rw [if_neg (by omega)]; simp [Addr.add_lit,hsz],?_⟩
        rw [gW]
        intro i x hi
        rw [List.getElem?_drop,List.getElem?_take] at hi
        split at hi
        ·have:=hels _ _ hi
         rwa [Nat.add_mul,← Nat.add_assoc] at this
        ·cases hi
    ·cases he
   ·cases he
  ·rename_i e n lo' len sz hk
   have:=dV hk; subst this
   split at he
   ·rename_i te hte
    obtain ⟨ie,de,e1,e2,rfl⟩:=bO hte
    split at he
    ·rename_i hc
     obtain ⟨c4,c0,c1,c2,c3⟩:=hc
     simp only at c4
     simp only [eB,Option.some.injEq,Prod.mk.injEq] at he
     obtain ⟨rfl,rfl⟩:=he
     simp only [aG] at hp
     obtain ⟨l0,hL,hsz,hp⟩:=hp
     generalize hl:(l.getD 0).toNat=L at *
     generalize hH:(hh.getD ↑len).toNat=H at *
     split at hp
     ·rename_i hn
      obtain ⟨rfl,rfl,rfl⟩:=hp
      have hb:=lM (P:=P) (w:=w) (isSlice:=true) (len:=0) (cap:=0) olo ohi (Nat.le_refl _) c0 c1 c2
      rw [hl,hH] at hb
      have hL0:L=0:=by omega
      have hH0:H=0:=by omega
      subst hL0 hH0
      refine ⟨rfl,.slice none 0 0,?_,?_⟩
      ·simp [Instr.sliceAt,run_underlying h2,Instr.slice,hb,dM e1]
      ·simp only [aG]
       exact ⟨l0,hL,hsz,by rw [if_pos hn]; simp⟩
     ·rename_i hn
      obtain ⟨cap,rfl,hcap,hcm,hasz⟩:=hp
      have hb:=lM (P:=P) (w:=w) (isSlice:=true) olo ohi hcap c0 c1 c2
      rw [hl,hH] at hb
      refine ⟨rfl,.slice (if cap=L then some ⟨l0.blk,lo'*l0.sz,none⟩ else (some ⟨l0.blk,lo'*l0.sz,none⟩:Option Addr).map (·.add (L*ie.size))) (H - L) (cap - L),?_,?_⟩
      ·simp [Instr.sliceAt,run_underlying h2,Instr.slice,hb,dM e1]
      ·simp only [aG]
       refine ⟨l0,hL,hsz,?_⟩
       rw [if_neg hn]
       refine ⟨cap - L,?_,by omega,by omega,?_⟩
       ·have hadd:(⟨l0.blk,lo'*l0.sz,none⟩:Addr).add (L*ie.size)=⟨l0.blk,(lo'+L)*l0.sz,none⟩:=by
         rw [Addr.add_lit,Nat.add_mul,c4,hsz]
        rcases c3 with c3 | c3
        ·have hL0:L=0:=by omega
         subst hL0
         simp at hadd ⊢
         try simp [hadd]
        ·rw [if_neg (by omega)]
         simp [hadd]
       ·have:lo'+L+(cap - L)=lo'+cap:=by omega
        rw [this]; exact hasz
    ·split at he
     ·rename_i hc
      obtain ⟨c4,c0,c1,c2⟩:=hc
      simp only at c4
      simp only [eB,Option.some.injEq,Prod.mk.injEq] at he
      obtain ⟨rfl,rfl⟩:=he
      simp only [aG] at hp
      obtain ⟨l0,hL,hsz,hp⟩:=hp
      generalize hl:(l.getD 0).toNat=L at *
      generalize hH:(hh.getD ↑len).toNat=H at *
      have hHL:H - L=0:=by omega
      split at hp
      ·rename_i hn
       obtain ⟨rfl,rfl,rfl⟩:=hp
       have hb:=lM (P:=P) (w:=w) (isSlice:=true) (len:=0) (cap:=0) olo ohi (Nat.le_refl _) c0 (by omega) c2
       rw [hl,hH] at hb
       have hL0:L=0:=by omega
       have hH0:H=0:=by omega
       subst hL0 hH0
       refine ⟨rfl,.slice none 0 0,?_,?_⟩
       ·simp [Instr.sliceAt,run_underlying h2,Instr.slice,hb,dM e1]
       ·simp only [aG,aU]
        exact ⟨none,0,rfl,Nat.le_refl _,.inl trivial⟩
      ·rename_i hn
       obtain ⟨cap,rfl,hcap,hcm,hasz⟩:=hp
       have hb:=lM (P:=P) (w:=w) (isSlice:=true) olo ohi hcap c0 (by omega) c2
       rw [hl,hH] at hb
       refine ⟨rfl,.slice (if cap=L then some ⟨l0.blk,lo'*l0.sz,none⟩ else (some ⟨l0.blk,lo'*l0.sz,none⟩:Option Addr).map (·.add (L*ie.size))) (H - L) (cap - L),?_,?_⟩
       ·simp [Instr.sliceAt,run_underlying h2,Instr.slice,hb,dM e1]
       ·simp only [aG,aU]
        exact ⟨_,_,by rw [hHL]; rfl,Nat.zero_le _,.inl trivial⟩
     ·cases he
   ·cases he
  ·rename_i e hk
   have:=dV hk; subst this
   split at he
   ·rename_i te hte
    obtain ⟨ie,de,e1,e2,rfl⟩:=bO hte
    split at he
    ·rename_i hc
     obtain ⟨c0,c1⟩:=hc
     simp only [eB,Option.some.injEq,Prod.mk.injEq] at he
     obtain ⟨rfl,rfl⟩:=he
     simp only [aG] at hp
     subst hp
     have hb:=lM (P:=P) (w:=w) (isSlice:=true) (len:=0) (cap:=0) olo ohi (Nat.le_refl _) (by omega) (by have:(((0:Nat):Int))=0:=rfl; rw [this]; omega) (by have:(((0:Nat):Int))=0:=rfl; rw [this]; omega)
     have:(((0:Nat):Int))=0:=rfl
     rw [this,c0,c1] at hb
     refine ⟨rfl,.slice none 0 0,?_,by simp only [aG]⟩
     simp [Instr.sliceAt,run_underlying h2,Instr.slice,hb,dM e1]
    ·cases he
   ·cases he
  ·rename_i s hk
   have:=kE hk; subst this
   split at he
   ·rename_i hc
    obtain ⟨c0,c1,c2⟩:=hc
    simp only [eB,Option.some.injEq,Prod.mk.injEq] at he
    obtain ⟨rfl,rfl⟩:=he
    simp only [aG,aU] at hp
    subst hp
    have hsize:(⟨s.toArray⟩:ByteArray).size=s.length:=by simp [ByteArray.size_mk']
    have hb:=lM (P:=P) (w:=w) (isSlice:=false) (len:=s.length) (cap:=s.length) olo ohi (Nat.le_refl _) c0 c1 c2
    refine ⟨rfl,_,?_,by simp only [aG,aU]; rfl⟩
    simp only [Instr.sliceAt,Sem.run_bind,run_underlying h2,Result.andThen_ok,Instr.slice,hsize,Option.isSome_none,Bool.false_eq_true,if_false,hb,Sem.run_pure]
    rw [ByteArray.extract_mk,List.drop_take]
   ·cases he
  ·cases he
 ·cases he
theorem uZ {P:Program} {w:World} {h:Gh} {ev:Operand→Value} {ρ:Operand→AV} (hρ:∀ o,aG h (ev o) (ρ o)) {k:IntKind} {f:Int→Int→Int} {g:Value→Value→Sem Value}
  (hg:∀ a b,g (.int k a) (.int k b)=pure (.int k (f a b))):∀ (r:List Operand) (a n:Int),GO f k a (r.map ρ)=some n→((r.map ev).foldlM g (.int k a):Sem Value).run P w=.ok (.int k n) w
 | [],a,n,he=>by simp only [List.map_nil,GO,Option.some.injEq] at he; subst he; simp
 | o::r,a,n,he=>by
   simp only [List.map_cons] at he
   unfold GO at he
   split at he
   ·rename_i h1 h2; cases h2
   ·rename_i k' b r' h1 h2
    simp only [List.cons.injEq] at h2
    obtain ⟨h2,rfl⟩:=h2
    split at he
    ·rename_i hk
     subst hk
     have ho:=hρ o
     rw [h2] at ho
     simp only [aG,aU] at ho
     rw [List.map_cons,List.foldlM_cons,ho,hg,Sem.run_bind,Sem.run_pure,Result.andThen_ok]
     exact uZ hρ hg r _ _ he
    ·cases he
   ·cases he
theorem YW {P:Program} {w:World} {h:Gh} {t ty:TypeId} {ti:TI} (hti:cV P t=some ti) {x v:AV} {xv:Value} (hp:aG h xv x) (he:aHE ti.kind x=some v) :
  ∃ u,(Builtin.cap_ #[t] ty #[xv]).run P w=.ok u w∧aG h u v:=by
 obtain ⟨i0,d,h1,h2,rfl⟩:=bO hti
 unfold aHE at he
 split at he
 ·split at he <;> simp only [Option.some.injEq,reduceCtorEq] at he
  rename_i hk
  have:=dV hk; subst this
  subst he
  simp only [aG] at hp
  subst hp
  exact ⟨goInt _,by simp [Builtin.cap_,run_underlying h2]; rfl,by simp [aG,aU,goInt]⟩
 ·cases he
theorem PF {P:Program} {t:TypeId} (h:EW P t=true):∃ ms,P.underlying t=some (.interface ms):=by
 unfold EW at h
 split at h
 ·rename_i ms e; exact ⟨ms,e⟩
 ·cases h
theorem pO {P:Program} (w:World) (d:Nat) (t:TypeId) {ms} (h:P.underlying t=some (.interface ms)):(Op.equalIn (d+1) t .nilIface .nilIface).run P w=.ok true w:=by
 simp [Op.equalIn,run_underlying h]
theorem qV {P:Program} (w:World) (d:Nat) (t:TypeId) {ms} (h:P.underlying t=some (.interface ms)) (t':TypeId) (x:Value):(Op.equalIn (d+1) t (.iface t' x) .nilIface).run P w=.ok false w:=by
 simp [Op.equalIn,run_underlying h]
theorem YX {P:Program} {w:World} {h:Gh} {op:BinOp} {t:TypeId} {x v:AV} {a:Value} {ox:Operand} (hx:aG h a x) (he:aHF P op t x=some v) :
  ∃ u,((do eqGuard op t ox (.const .nilIface) a .nilIface; binOp op t a .nilIface):Sem Value).run P w=.ok u w∧aG h u v:=by
 unfold aHF at he
 split at he
 ·rename_i hi
  obtain ⟨ms,hms⟩:=PF hi
  split at he <;> simp only [Option.some.injEq,reduceCtorEq] at he
  ·simp only [aG,aU] at hx
   obtain ⟨rfl,_⟩:=hx
   subst he
   exact ⟨.bool true,by simp [eqGuard,binOp,Op.equal,Op.maxDepth,pO w 9999 t hms],by simp [aG,aU]⟩
  ·simp only [aG,aU] at hx
   obtain ⟨rfl,_⟩:=hx
   subst he
   exact ⟨.bool false,by simp [eqGuard,binOp,Op.equal,Op.maxDepth,pO w 9999 t hms],by simp [aG,aU]⟩
  ·simp only [aG,aU] at hx
   obtain ⟨t',x',rfl⟩:=hx
   subst he
   exact ⟨.bool false,by simp [eqGuard,binOp,Op.equal,Op.maxDepth,qV w 9999 t hms],by simp [aG,aU]⟩
  ·simp only [aG,aU] at hx
   obtain ⟨t',x',rfl⟩:=hx
   subst he
   exact ⟨.bool true,by simp [eqGuard,binOp,Op.equal,Op.maxDepth,qV w 9999 t hms],by simp [aG,aU]⟩
 ·cases he
theorem YY {P:Program} {w:World} {h:Gh} {t ty:TypeId} {ti:TI} (hti:cV P t=some ti) {x v:AV} {xv:Value} (hp:aG h xv x) (he:aHC ti.kind x=some v) :
  ∃ u,(Builtin.len_ #[t] ty #[xv]).run P w=.ok u w∧aG h u v:=by
 obtain ⟨i0,d,h1,h2,rfl⟩:=bO hti
 unfold aHC at he
 split at he
 ·split at he <;> simp only [Option.some.injEq,reduceCtorEq] at he
  rename_i hk
  have:=kE hk; subst this
  subst he
  simp only [aG,aU] at hp
  subst hp
  exact ⟨goInt _,by simp [Builtin.len_,run_underlying h2]; rfl,by simp [aG,aU,goInt,ByteArray.size_mk']⟩
 ·split at he <;> simp only [Option.some.injEq,reduceCtorEq] at he
  rename_i hk
  have:=dV hk; subst this
  subst he
  simp only [aG,aU] at hp
  obtain ⟨a,cap,rfl,_⟩:=hp
  exact ⟨goInt _,by simp [Builtin.len_,run_underlying h2]; rfl,by simp [aG,aU,goInt]⟩
 ·split at he <;> simp only [Option.some.injEq,reduceCtorEq] at he
  rename_i hk
  have:=dV hk; subst this
  subst he
  simp only [aG] at hp
  obtain ⟨l,hL,hsz,hx⟩:=hp
  split at hx
  ·obtain ⟨rfl,rfl,rfl⟩:=hx
   exact ⟨goInt _,by simp [Builtin.len_,run_underlying h2]; rfl,by simp [aG,aU,goInt]⟩
  ·obtain ⟨cap,rfl,_⟩:=hx
   exact ⟨goInt _,by simp [Builtin.len_,run_underlying h2]; rfl,by simp [aG,aU,goInt]⟩
 ·split at he <;> simp only [Option.some.injEq,reduceCtorEq] at he
  rename_i hk
  have:=dV hk; subst this
  subst he
  simp only [aG] at hp
  subst hp
  exact ⟨goInt _,by simp [Builtin.len_,run_underlying h2]; rfl,by simp [aG,aU,goInt]⟩
 ·cases he
theorem TM {P:Program} {w:World} {h:Gh} {s t:TypeId} {x v:AV} {xv:Value} (hp:aG h xv x) (he:aAN P s t x=some v) :
  ∃ u,(convert s t xv).run P w=.ok u w∧aG h u v:=by
 unfold aAN at he
 split at he
 ·rename_i ts td k n hts htd
  obtain ⟨is,ds,a1,a2,rfl⟩:=bO hts
  obtain ⟨it,dt,b1,b2,rfl⟩:=bO htd
  simp only [aG,aU] at hp
  subst hp
  split at he <;> simp only [Option.some.injEq,reduceCtorEq] at he
  rename_i hk1 hk2
  have:=uX hk1; subst this
  have:=uX hk2; subst this
  subst he
  exact ⟨.int _ _,by simp [convert,run_underlying a2,run_underlying b2,Conv.intToInt]; exact ⟨rfl,rfl⟩,by simp [aG,aU]⟩
 ·rename_i ts td l hts htd
  obtain ⟨is,ds,a1,a2,rfl⟩:=bO hts
  obtain ⟨it,dt,b1,b2,rfl⟩:=bO htd
  simp only [aG,aU] at hp
  subst hp
  split at he <;> simp only [Option.some.injEq,reduceCtorEq] at he
  rename_i hk1 hk2
  have:=kE hk1; subst this
  have:=kE hk2; subst this
  subst he
  exact ⟨.string _,by simp [convert,run_underlying a2,run_underlying b2]; rfl,by simp [aG,aU]⟩
 ·cases he
theorem HM:∀ {l:List (List D)} {b:List UInt8},LU l=some b→l.length=b.length∧∀ i,i<l.length→∃ n,l[i]?=some [.int .u8 n]∧b[i]?=some (UInt8.ofNat n.toNat)
 | [],b,h=>by simp only [LU,Option.some.injEq] at h; subst h; simp
 | [.int .u8 n]::l,b,h=>by
   simp only [LU] at h
   split at h
   ·rename_i r hr
    cases h
    obtain ⟨h1,h2⟩:=HM hr
    refine ⟨by simp [h1],fun i hi=>?_⟩
    cases i with
    | zero=>exact ⟨n,rfl,rfl⟩
    | succ i =>
      obtain ⟨m,a,c⟩:=h2 i (by simpa using hi)
      exact ⟨m,by simpa using a,by simpa using c⟩
   ·cases h
theorem TN {C:kD} {bl:Nat→Blk} {w:World} {h:Gh} (m:Mem C bl w h) {s d:TypeId} {tl:List Nat} {x v:AV} {wr:List (Nat×Blk)} {xv:Value}
  (hp:aG h xv x) (he:aAO C.P s d (bM tl bl) x=some (v,wr)):wr=[]∧∃ u,(convert s d xv).run C.P w=.ok u w∧aG h u v:=by
 unfold aAO at he
 split at he
 ·rename_i n lo len sz
  split at he <;> try (cases he; done)
  rename_i ts td hts htd
  obtain ⟨is,ds,a1,a2,rfl⟩:=bO hts
  obtain ⟨it,dt,b1,b2,rfl⟩:=bO htd
  split at he <;> try (cases he; done)
  rename_i e hk1 hk2
  have:=dV hk1; subst this
  have:=kE hk2; subst this
  split at he <;> try (cases he; done)
  rename_i te hte
  obtain ⟨ie,de,c1,c2,rfl⟩:=bO hte
  split at he <;> try (cases he; done)
  rename_i ety sz' xs frz hk3 hbl
  have:=uX hk3; subst this
  split at he <;> try (cases he; done)
  rename_i hc
  obtain ⟨rfl,h0,hle⟩:=hc
  split at he <;> try (cases he; done)
  rename_i b hby
  simp only [eB,Option.some.injEq,Prod.mk.injEq] at he
  obtain ⟨rfl,rfl⟩:=he
  refine ⟨rfl,?_⟩
  have hb:=m.blks n
  rw [cN hbl (by simp)] at hb
  simp only [aG] at hp
  obtain ⟨l,hL,hsz,hv⟩:=hp
  obtain ⟨l',hL',hsz',_,hb⟩:=hb
  rw [hL] at hL'; cases hL'
  have hnul:l.nul=false:=by
   cases hn:l.nul with
   | false=>rfl
   | true =>
     rw [hn] at hv
     simp only [if_true] at hv
     omega
  rw [hnul] at hb hv
  simp only [Bool.false_eq_true,if_false] at hb hv
  obtain ⟨cs,hh,_,_,hget,_⟩:=hb
  obtain ⟨cap,rfl,_,_,_⟩:=hv
  obtain ⟨hbl1,hbl2⟩:=HM hby
  have hlen:((xs.drop lo).take len).length=len:=by rw [List.length_take,List.length_drop]; omega
  rw [hsz,Nat.mul_one]
  have hpick:∀ i,i<len→∃ k,xs[lo+i]?=some [.int .u8 k]∧b[i]?=some (UInt8.ofNat k.toNat):=fun i hi=>by
   obtain ⟨k,e1,e2⟩:=hbl2 i (by omega)
   rw [List.getElem?_take,if_pos hi,List.getElem?_drop] at e1
   exact ⟨k,e1,e2⟩
  have hcell:∀ i,i<len→∃ k,w.cell? ⟨l.blk,lo+i,none⟩=some (.int .u8 k)∧b[i]?=some (UInt8.ofNat k.toNat):=fun i hi=>by
   obtain ⟨k,e1,e2⟩:=hpick i hi
   obtain ⟨_,hj⟩:=hget _ _ e1
   obtain ⟨v,hv,hr⟩:=hj 0 _ rfl
   simp only [aU] at hr
   subst hr
   refine ⟨k,?_,e2⟩
   rw [cell_of_row w l.blk (lo+i) _ ety (0,0) hh]
   rw [show lo+i=(lo+i)*sz'+0 from by rw [← hsz',hsz]; omega]
   exact hv
  let ks:List Int:=(List.range len).map fun i=>match w.cell? ⟨l.blk,lo+i,none⟩ with
   | some (.int .u8 k)=>k
   | _=>0
  have hks:ks.length=len:=by simp [ks]
  have hkg:∀ i,i<len→w.cell? ⟨l.blk,lo+i,none⟩=some (.int .u8 (ks.getD i 0))∧b[i]?=some (UInt8.ofNat (ks.getD i 0).toNat):=fun i hi=>by
   obtain ⟨k,e1,e2⟩:=hcell i hi
   have:ks.getD i 0=k:=by simp [ks,List.getD,List.getElem?_map,List.getElem?_range hi,e1]
   rw [this]
   exact ⟨e1,e2⟩
  refine ⟨_,run_convert_bytes_arg w s e a2 c2 l.blk lo len cap ks hks (fun i hi=>(hkg i hi).1) d b2,?_⟩
  simp only [aG,aU]
  congr 1
  unfold strOfNums
  congr 2
  apply List.ext_getElem?
  intro i
  rcases Nat.lt_or_ge i len with hi | hi
  ·rw [List.getElem?_map,(hkg i hi).2,List.getElem?_eq_getElem (by omega)]
   simp [List.getD,List.getElem?_eq_getElem (show i<ks.length by omega)]
  ·rw [List.getElem?_eq_none (by simp; omega),List.getElem?_eq_none (by omega)]
 ·simp only [Option.map_eq_some_iff,Prod.mk.injEq] at he
  obtain ⟨v',hv,rfl,rfl⟩:=he
  obtain ⟨u,hu,ru⟩:=TM (w:=w) hp hv
  exact ⟨rfl,u,hu,ru⟩
theorem NY (off:Nat) (l:List Value) (cs:Array Value) (hle:off+l.length≤cs.size) :
  (l.zipIdx.foldl (fun cs (x:Value×Nat)=>cs.setIfInBounds (off+x.2) x.1) cs)=⟨dI cs.toList off l⟩:=by
 obtain ⟨h1,h2⟩:=Great.foldl_set off l 0 cs
 apply Array.ext_getElem?
 intro k
 rw [h2 k]
 simp only [Nat.add_zero]
 simp only [List.getElem?_toArray,dI,List.append_assoc]
 rw [List.getElem?_append,List.getElem?_append]
 simp only [List.length_take,Array.length_toList]
 have hm:min off cs.size=off:=by omega
 rw [hm]
 by_cases c1:k<off
 ·rw [if_neg (by omega),if_pos c1,List.getElem?_take,if_pos c1]; simp
 ·rw [if_neg c1]
  by_cases c2:k<off+l.length
  ·rw [if_pos (by omega),if_pos (by omega)]
  ·rw [if_neg (by omega),if_neg (by omega),List.getElem?_drop]
   simp only [Array.getElem?_toList]
   congr 1; omega
theorem xO {h:Gh} {place:Nat→Option (Nat×Nat)}:∀ (parts:List (Nat×AV)) (vs:List (Nat×Value)) (cs:List AV) (cells:Array Value) (r:List AV),
  parts.map (·.1)=vs.map (·.1)→bB h (vs.map (·.2)) (parts.map (·.2))→bB h cells.toList cs→GN place cs parts=some r →
  ∃ q,Instr.fill place cells vs=some q∧bB h q.toList r
 | [],vs,cs,cells,r,hk,_,hc,he=>by
   cases vs with
   | nil=>simp only [GN,Option.some.injEq] at he; subst he; exact ⟨cells,rfl,hc⟩
   | cons v vs=>simp at hk
 | (i,p)::parts,vs,cs,cells,r,hk,hr,hc,he=>by
   cases vs with
   | nil=>simp at hk
   | cons v vs =>
     obtain ⟨i',v⟩:=v
     simp only [List.map_cons,List.cons.injEq] at hk
     obtain ⟨rfl,hk⟩:=hk
     simp only [List.map_cons,bB,List.cons.injEq] at hr
     obtain ⟨u,us,⟨rfl,rfl⟩,hr1,hr2⟩:=hr
     simp only [GN] at he
     split at he
     ·cases he
     ·rename_i off size hpl
      split at he
      ·rename_i hcond
       obtain ⟨hg,hl,hle⟩:=hcond
       have hcells:=pQ hr1 hg
       have hlen:=(bV.1 hcells).1
       have hclen:=(bV.1 hc).1
       have hsz:v.cells.size=size:=by have:v.cells.toList.length=v.cells.size:=by simp
                                      omega
       have hcs:cells.size=cs.length:=by simpa using hclen
       have hsp:bB h (dI cells.toList off v.cells.toList) (dI cs off p.cells):=by
        unfold dI
        rw [show off+v.cells.toList.length=off+p.cells.length from by omega]
        exact fC (fC (tH hc) hcells) (mY hc)
       obtain ⟨q,hq,hqr⟩:=xO (place:=place) parts vs _ ⟨dI cells.toList off v.cells.toList⟩ r hk hr2 hsp he
       refine ⟨q,?_,hqr⟩
       unfold Instr.fill
       simp only [hpl]
       rw [if_neg (by simp [hsz]; omega)]
       rw [← hq]
       congr 1
       rw [← NY off v.cells.toList cells (by simp; omega),← Array.foldl_toList,Array.toList_zipIdx]
      ·cases he
theorem DL {P:Program}:∀ (fs:List Field),(fs.map (nW P)).all (fun f=>f.2.1 != 0)=true →
  fs.mapM (fun f=>(P.info? f.type).map fun i=>(f.offset,i.size))=some ((fs.map (nW P)).map fun f=>(f.1,f.2.1))
 | [],_=>rfl
 | f::fs,h=>by
   simp only [List.map_cons,List.all_cons,Bool.and_eq_true] at h
   have ih:=DL fs h.2
   have h1:=h.1
   simp only [nW] at h1
   split at h1
   ·rename_i i d e1 e2
    simp [ih,e1,e2,nW]
   ·simp at h1
theorem NZ {P:Program} {w:World} {h:Gh} {t:TypeId} {parts:List (Nat×AV)} {vs:List (Nat×Value)} {v:AV} {wr:List (Nat×Blk)}
  (hk:parts.map (·.1)=vs.map (·.1)) (hr:bB h (vs.map (·.2)) (parts.map (·.2))) (he:OJ P t parts=some (v,wr)) :
  wr=[]∧∃ u,(Instr.build t vs.toArray).run P w=.ok u w∧aG h u v:=by
 unfold OJ at he
 split at he
 ·rename_i ti hti
  obtain ⟨i,d,h1,h2,rfl⟩:=bO hti
  split at he
  ·rename_i l z hk' hz
   obtain ⟨fs,rfl,rfl⟩:=qT hk'
   split at he
   ·rename_i hall
    simp only [Option.map_eq_some_iff] at hz he
    obtain ⟨zv,hz1,rfl⟩:=hz
    obtain ⟨cs,hcs,he⟩:=he
    simp only [Prod.mk.injEq] at he
    obtain ⟨rfl,rfl⟩:=he
    obtain ⟨q,hq,hqr⟩:=xO parts vs _ zv.cells cs hk hr (kC _) hcs
    refine ⟨rfl,.agg q,run_build w t _ q ?_,?_⟩
    ·have hp:=DL fs.toList hall
     simp only [Program.built,h1,h2,hz1,hp]
     rw [← hq]
     congr 1
     funext x
     simp [List.getElem?_map]
    ·simp only [aG]; exact ⟨q.toList,rfl,hqr⟩
   ·cases he
  ·rename_i n e z hk' hz
   have:=xS hk'; subst this
   split at he
   ·rename_i te hte
    obtain ⟨ie,de,e1,e2,rfl⟩:=bO hte
    simp only [Option.map_eq_some_iff] at hz he
    obtain ⟨zv,hz1,rfl⟩:=hz
    obtain ⟨cs,hcs,he⟩:=he
    simp only [Prod.mk.injEq] at he
    obtain ⟨rfl,rfl⟩:=he
    obtain ⟨q,hq,hqr⟩:=xO parts vs _ zv.cells cs hk hr (kC _) hcs
    refine ⟨rfl,.agg q,run_build w t _ q ?_,?_⟩
    ·simp only [Program.built,h1,h2,hz1,e1]
     exact hq
    ·simp only [aG]; exact ⟨q.toList,rfl,hqr⟩
   ·cases he
  ·cases he
 ·cases he
theorem aCh {C:kD} {bl:Nat→Blk} {w:World} {h:Gh} (m:Mem C bl w h) {tl:List Nat} {c:AV} {x:D} {l:List Nat} {v:Value} (hr:aG h v c) (ht:OB (bM tl bl) c=some (x,l)) :
  ∃ h',h.le h'∧Mem C (bW bl (eC bl l)) w h'∧aU h'.μ v x:=by
 cases c <;> simp only [OB] at ht <;> first | (cases ht; done) | skip
 case d y =>
  simp only [Option.some.injEq,Prod.mk.injEq] at ht
  obtain ⟨rfl,rfl⟩:=ht
  exact ⟨h,.refl h,m,by simpa [aG] using hr⟩
 case nils =>
  simp only [Option.some.injEq,Prod.mk.injEq] at ht
  obtain ⟨rfl,rfl⟩:=ht
  simp only [aG] at hr
  subst hr
  exact ⟨h,.refl h,m,by simp [aU]⟩
 case ref n lo len sz =>
  split at ht
  ·rename_i e s xs f hbl
   have hbl':=cN hbl (by simp)
   split at ht <;> simp only [Option.some.injEq,Prod.mk.injEq,reduceCtorEq] at ht
   rename_i hle
   obtain ⟨rfl,rfl⟩:=ht
   obtain ⟨h',le,hL,m',hels,_⟩:=m.freeze hbl'
   refine ⟨h',le,by simp only [eC,List.map_cons,List.map_nil,bW,hbl',Blk.frzd]; exact m',?_⟩
   simp only [aG] at hr
   obtain ⟨l,hl,hsz,hx⟩:=hr
   have hb:=m.blks n
   rw [hbl'] at hb
   obtain ⟨l',hl',hs,_,_⟩:=hb
   rw [hl] at hl'; cases hl'
   subst hs
   simp only [aU]
   have hlen:((xs.drop lo).take len).length=len:=by simp; omega
   split at hx
   ·obtain ⟨rfl,rfl,rfl⟩:=hx
    exact ⟨none,0,by simp,by simp,.inl (by simp)⟩
   ·rename_i hn
    obtain ⟨cap,rfl,hc,_,_⟩:=hx
    refine ⟨_,cap,by rw [hlen],by rw [hlen]; exact hc,.inr ⟨l.blk,lo*l.sz,l.sz,rfl,?_⟩⟩
    have:=hels l hl (by simpa using hn)
    rw [gW] at this ⊢
    intro i y hi
    rw [List.getElem?_take] at hi
    split at hi
    ·rw [List.getElem?_drop] at hi
     have:=this _ y hi
     rwa [Nat.zero_add,Nat.add_mul] at this
    ·cases hi
  ·cases ht
theorem aCi (b:Blk):b.frzd.frzd=b.frzd:=by cases b <;> rfl
theorem kA {α:Type} (f:Nat→α) (l l':List (Nat×α)):bW f (l++l')=bW (bW f l) l':=by
 induction l generalizing f with
 | nil=>rfl
 | cons p l ih=>exact ih _
theorem kB (bl:Nat→Blk) (l:List Nat) (n:Nat):bW bl (eC bl l) n=if n∈l then (bl n).frzd else bl n:=by
 have key:∀ (l:List Nat) (g:Nat→Blk),(∀ k,g k=bl k∨g k=(bl k).frzd)→bW g (eC bl l) n=if n∈l then (bl n).frzd else g n:=by
  intro l
  induction l with
  | nil=>intro g _; simp [eC,bW]
  | cons k l ih =>
    intro g hg
    have:=ih (dQ g k (bl k).frzd) (fun j=>by
     by_cases e:j=k
     ·subst e; right; simp [dQ]
     ·simpa [dQ,e] using hg j)
    show bW (dQ g k (bl k).frzd) (eC bl l) n=_
    rw [this]
    by_cases e:n∈l
    ·simp [e]
    ·by_cases e':n=k
     ·subst e'; simp [e,dQ]
     ·simp [e,e',dQ]
 simpa using key l bl fun k=>.inl rfl
theorem uN (bl:Nat→Blk) (l l':List Nat):bW (bW bl (eC bl l)) (eC (bW bl (eC bl l)) l')=bW bl (eC bl (l++l')):=by
 funext n
 rw [kB,kB,kB]
 by_cases a:n∈l <;> by_cases b:n∈l' <;> simp [a,b,aCi]
theorem GF {tl:List Nat} {bl:Nat→Blk} {l:List Nat} (h:∀ n∈l,n∈tl):eC (bM tl bl) l=eC bl l:=by
 unfold eC
 apply List.map_congr_left
 intro n hn
 simp [bM,h n hn]
theorem mV {C:kD} {bl:Nat→Blk} {w:World}:∀ {cs:List AV} {tl:List Nat} {ds:List D} {l:List Nat} {vs:List Value} {h:Gh} (NI:List Nat),Mem C (bW bl (eC bl NI)) w h→bB h vs cs →
  qH (bM tl bl) cs=some (ds,l)→∃ h',h.le h'∧Mem C (bW bl (eC bl (NI++l))) w h'∧vs.length=ds.length∧∀ (j:Nat) (x:D),ds[j]?=some x→∃ v:Value,vs[j]?=some v∧aU h'.μ v x
 | [],tl,ds,l,vs,h,NI,m,hr,ht=>by
   simp only [qH,Option.some.injEq,Prod.mk.injEq] at ht
   obtain ⟨rfl,rfl⟩:=ht
   simp only [bB] at hr
   subst hr
   exact ⟨h,.refl h,by simpa using m,rfl,fun j x hj=>by simp at hj⟩
 | c::cs,tl,ds,l,vs,h,NI,m,hr,ht=>by
   simp only [qH] at ht
   split at ht <;> simp only [Option.some.injEq,Prod.mk.injEq,reduceCtorEq] at ht
   rename_i x l1 xs l2 h1 h2
   obtain ⟨rfl,rfl⟩:=ht
   simp only [bB] at hr
   obtain ⟨u,us,rfl,hu,hus⟩:=hr
   have h1':OB (bM tl (bW bl (eC bl NI))) c=some (x,l1):=by
    cases c <;> simp only [OB] at h1 ⊢ <;> first | (cases h1; done) | exact h1 | skip
    rename_i n lo len sz
    have e:bM tl (bW bl (eC bl NI)) n=bM tl bl n∨bM tl (bW bl (eC bl NI)) n=(bM tl bl n).frzd:=by
     unfold bM
     split
     ·rw [kB]; split
      ·exact .inr rfl
      ·exact .inl rfl
     ·exact .inl rfl
    rcases e with e | e
    ·rw [e]; exact h1
    ·rw [e]
     split at h1
     ·rename_i hb; rw [hb]; exact h1
     ·cases h1
   obtain ⟨ha,lea,ma,ra⟩:=aCh m hu h1'
   rw [uN] at ma
   obtain ⟨hb,leb,mb,hlen,hg⟩:=mV (cs:=cs) (NI++l1) ma (jG lea cs us hus) h2
   refine ⟨hb,lea.trans leb,by rw [← List.append_assoc]; exact mb,by simp [hlen],fun j y hj=>?_⟩
   cases j with
   | zero=>simp at hj; subst hj; exact ⟨u,rfl,kS leb.μ _ _ ra⟩
   | succ j=>simpa using hg j y (by simpa using hj)
theorem kP {C:kD} {bl:Nat→Blk} {w:World} {h:Gh} (m:Mem C bl w h) {n:Nat} (hn:n<aB) (hfree:bl n=.free) {ety sz:Nat} (hsz:0<sz) {cs:Array Value} {xs:List (List D)} {cap len:Nat} (frz:Bool)
  (hcap:cs.size=cap*sz) (hlen:xs.length≤cap) (hmax:cap≤maxLen) (hl:len=xs.length)
  (hx:∀ (i:Nat) (x:List D),xs[i]?=some x→x.length=sz∧∀ (j:Nat) (c:D),x[j]?=some c→∃ v,cs[i*sz+j]?=some v∧aU h.μ v c) :
  ∃ h',h.le h'∧Mem C (dQ bl n (.arr ety sz xs frz)) (w.alloc (.cells cs ety)) h'∧aG h' (.slice (some ⟨w.heap.size,0,none⟩) len cap) (.ref n 0 len sz):=by
 have hL:h.L n=none:=by have:=m.blks n; rw [hfree] at this; exact this
 have hmu:∀ o,h.μ w.heap.size o=none:=fun o=>by
  cases e:h.μ w.heap.size o with
  | none=>rfl
  | some v=>exact absurd (HB m e) (by omega)
 refine ⟨_,Gh.le_add (l:=⟨w.heap.size,cs.size,sz,false⟩) hL,m.alloc hfree (.arr ety sz xs frz) cs ety sz ?_ hn,?_⟩
 ·refine ⟨⟨w.heap.size,cs.size,sz,false⟩,by simp [Gh.add],rfl,hsz,?_⟩
  simp only [Bool.false_eq_true,if_false]
  exact ⟨cs,heap_alloc_new w _,rfl,by rw [hcap]; exact Nat.mul_le_mul_right _ hlen,hx,fun o v e=>by simp only [Gh.add] at e; rw [hmu] at e; cases e⟩
 ·simp only [aG]
  refine ⟨⟨w.heap.size,cs.size,sz,false⟩,by simp [Gh.add],rfl,?_⟩
  simp only [Bool.false_eq_true,if_false]
  exact ⟨cap,by simp,by omega,hmax,by simp [hcap]⟩
theorem GG {α:Type} (sz:Nat):∀ (n:Nat) (l:List α) (i:Nat) (x:List α),(rK sz n l)[i]?=some x→i<n∧x=(l.drop (i*sz)).take sz
 | 0,l,i,x,h=>by simp [rK] at h
 | n+1,l,i,x,h=>by
   cases i with
   | zero=>simp only [rK,List.getElem?_cons_zero,Option.some.injEq] at h; exact ⟨by omega,by simp [h]⟩
   | succ i =>
     simp only [rK,List.getElem?_cons_succ] at h
     obtain ⟨a,b⟩:=GG sz n _ i x h
     exact ⟨by omega,by rw [b,List.drop_drop,Nat.add_mul,Nat.one_mul,Nat.add_comm]⟩
theorem rH {α:Type} (sz:Nat):∀ (n:Nat) (l:List α),(rK sz n l).length=n
 | 0,_=>rfl
 | n+1,l=>by simp [rK,rH sz n]
theorem yV {α:Type}:∀ (l:List (Nat×α)) (k:Nat),l.map (·.1)=List.range' k l.length→l=((l.map (·.2)).zipIdx k).map fun x=>(x.2,x.1)
 | [],_,_=>rfl
 | (i,v)::l,k,h=>by
   simp only [List.map_cons,List.length_cons,List.range'_succ,List.cons.injEq] at h
   obtain ⟨rfl,h⟩:=h
   simp only [List.map_cons,List.zipIdx_cons]
   rw [← yV l (i+1) h]
theorem GH {h:Gh}:∀ {cs:List AV} {vs:List Value},bB h vs cs→cs.all AV.good=true→bB h (vs.flatMap fun v=>v.cells.toList) (cs.flatMap AV.cells)
 | [],vs,hr,_=>by simp only [bB] at hr; subst hr; simp [bB]
 | c::cs,vs,hr,hg=>by
   simp only [bB] at hr
   obtain ⟨u,us,rfl,h1,h2⟩:=hr
   simp only [List.all_cons,Bool.and_eq_true] at hg
   simp only [List.flatMap_cons]
   exact fC (pQ h1 hg.1) (GH h2 hg.2)
theorem yW {C:kD} {bl:Nat→Blk} {w:World} {h:Gh} (m:Mem C bl w h) {dst:Option Tmp} (hdst:∀ n,dst=some n→n<aB) {tl:List Nat} {t:TypeId} {len:Nat}
  {parts:List (Nat×AV)} {vs:List (Nat×Value)} {v:AV} {wr:List (Nat×Blk)} (htl:∀ p∈wr,p.1∈tl)
  (hk:parts.map (·.1)=vs.map (·.1)) (hr:bB h (vs.map (·.2)) (parts.map (·.2))) (he:qO C.P dst t len (bM tl bl) parts=some (v,wr)) :
  Good C bl h wr v ((Instr.buildSlice t len vs.toArray).run C.P w):=by
 unfold qO at he
 split at he
 ·rename_i sz0 by0 z0 e hti
  obtain ⟨i,d,h1,h2,h3⟩:=bO hti
  have hd:=dV (P:=C.P) (d:=d) (by injection h3 with _ _ _ h4; exact h4.symm)
  subst hd
  split at he
  ·rename_i te hte
   obtain ⟨ie,de,e1,e2,rfl⟩:=bO hte
   split at he
   ·rename_i hc
    obtain ⟨c1,c2,c3,c4,c5,c6⟩:=hc
    simp only at c3 c4 c5 c6 he
    obtain ⟨zl,hzl⟩:=Option.isSome_iff_exists.1 c5
    simp only [Option.map_eq_some_iff] at hzl
    obtain ⟨zv,hz1,_⟩:=hzl
    split at he
    ·rename_i ds l n hds
     split at he
     ·cases he
     ·rename_i hnl
      split at he
      ·rename_i hfree
       simp only [Option.some.injEq,Prod.mk.injEq] at he
       obtain ⟨rfl,rfl⟩:=he
       have hnfree:bl n=.free:=cN hfree (by simp)
       have hvl:vs.length=len:=by
        have:=congrArg List.length (hk.symm.trans c1); simpa using this
       have hgood:(parts.map (·.2)).all AV.good=true:=by simpa [List.all_map] using c2
       have hcl:∀ p∈parts.map (·.2),p.cells.length=ie.size:=by
        intro q hq
        obtain ⟨p,hp,hpe⟩:=List.mem_map.1 hq
        rw [List.all_eq_true] at c6
        have:=c6 p hp
        rw [← hpe]; simpa using this
       have hsizes:∀ u∈vs.map (·.2),u.cells.size=ie.size:=by
        clear hds
        generalize parts.map (·.2)=ps at hr hgood hcl
        intro u hu
        obtain ⟨j,hj⟩:=List.mem_iff_getElem?.1 hu
        have hlen2:=(bV.1 hr).1
        have hj':j<ps.length:=by have:=(List.getElem?_eq_some_iff.1 hj).1; omega
        obtain ⟨u',hu',hr'⟩:=(bV.1 hr).2 j _ (List.getElem?_eq_getElem hj')
        rw [hj] at hu'; cases hu'
        have hmem:ps[j]∈ps:=List.getElem_mem hj'
        have hg':(ps[j]).good=true:=by rw [List.all_eq_true] at hgood; exact hgood _ hmem
        have:=(bV.1 (pQ hr' hg')).1
        simpa [hcl _ hmem] using this
       have hvs:vs=((vs.map (·.2)).zipIdx 0).map fun x=>(x.2,x.1):=yV vs 0 (by rw [← hk,c1,List.range_eq_range',hvl])
       have hpos:¬ len*ie.size=0∨len=0:=by
        rcases Nat.eq_zero_or_pos len with e | e
        ·exact .inr e
        ·exact .inl (Nat.ne_of_gt (Nat.mul_pos e c3))
       have hfill:∀ cells0:Array Value,cells0.size=len*ie.size→Instr.fill (fun i=>some (i*ie.size,ie.size)) cells0 vs=some ((vs.map (·.2)).flatMap fun v=>v.cells.toList).toArray:=fun cells0 h0=>by
        rw [hvs]
        have:=Great.fill_whole c3 (vs.map (·.2)) cells0 hsizes (by simp [hvl,h0])
        rw [← hvs] at this ⊢
        exact this
       have hrun:(Instr.buildSlice t len vs.toArray).run C.P w=.ok (.slice (some ⟨w.heap.size,0,none⟩) len len) (w.alloc (.cells ((vs.map (·.2)).flatMap fun v=>v.cells.toList).toArray e)):=by
        rcases hpos with hp | rfl
        ·exact run_buildSlice w t e len _ _ ie zv h2 e1 hz1 (by omega) hp (hfill _ (by simp))
        ·have hvn:vs=[]:=List.length_eq_zero_iff.1 hvl
         subst hvn
         simp [Instr.buildSlice,run_underlying h2,dM e1,Instr.fill,newRow,Array.range_zero']
       rw [hrun]
       have hflat:=GH hr hgood
       have hds':qH (bM tl bl) ((parts.map (·.2)).flatMap AV.cells)=some (ds,l):=by rw [← hds]; congr 1; simp [List.flatMap_map]
       obtain ⟨h',le,m',hlen',hg'⟩:=mV (tl:=tl) [] (by simpa [eC,bW] using m) hflat hds'
       simp only [List.nil_append] at m'
       have hfree':bW bl (eC bl l) n=.free:=by rw [kB,if_neg hnl,hnfree]
       have hcells:((vs.map (·.2)).flatMap fun v=>v.cells.toList).length=len*ie.size:=by
        have:∀ (l:List Value),(∀ u∈l,u.cells.size=ie.size)→(l.flatMap fun v=>v.cells.toList).length=l.length*ie.size:=by
         intro l
         induction l with
         | nil=>intro _; simp
         | cons u l ih=>intro hl; simp only [List.flatMap_cons,List.length_append,List.length_cons,Array.length_toList,Nat.add_mul,Nat.one_mul]; rw [ih fun x hx=>hl x (List.mem_cons_of_mem _ hx),hl u List.mem_cons_self]; omega
        rw [this _ hsizes]; simp [hvl]
       obtain ⟨h2',le2,m2,r2⟩:=kP (ety:=e) m' (hdst n rfl) hfree' c3 (cs:=((vs.map (·.2)).flatMap fun v=>v.cells.toList).toArray) (xs:=rK ie.size len ds) (cap:=len) (len:=len) false
        (by simpa using hcells) (by rw [rH]; exact Nat.le_refl _) (by
         have:len≤len*ie.size:=Nat.le_mul_of_pos_right _ c3
         simp only [maxLen]; omega) (by rw [rH]) (fun i x hi=>by
         obtain ⟨a,rfl⟩:=GG _ _ _ _ _ hi
         have hrow:(i+1)*ie.size≤len*ie.size:=Nat.mul_le_mul_right _ a
         rw [Nat.add_mul,Nat.one_mul] at hrow
         have hdl:ds.length=len*ie.size:=by rw [← hlen',hcells]
         refine ⟨by simp; omega,fun j c hj=>?_⟩
         rw [List.getElem?_take] at hj
         split at hj
         ·rw [List.getElem?_drop] at hj
          obtain ⟨u,hu,hru⟩:=hg' _ c hj
          exact ⟨u,by simpa using hu,hru⟩
         ·cases hj)
       refine ⟨_,_,h2',rfl,le.trans le2,?_,r2⟩
       rw [GF (fun k hk=>htl (k,((bM tl bl) k).frzd) (List.mem_append_left _ (List.mem_map.2 ⟨k,hk,rfl⟩))),kA]
       exact m2
      ·cases he
    ·cases he
   ·cases he
  ·cases he
 ·cases he
theorem eN {α:Type} {l:List α} {j:Nat} {vs:List α} (h:j+vs.length≤l.length):(dI l j vs).length=l.length:=by
 simp [dI]; omega
theorem jH {α:Type} {l:List α} {j:Nat} {vs:List α} (h:j+vs.length≤l.length) (k:Nat) :
  (dI l j vs)[k]?=if j≤k∧k<j+vs.length then vs[k - j]? else l[k]?:=by
 unfold dI
 rw [List.append_assoc,List.getElem?_append,List.getElem?_append]
 simp only [List.length_take]
 have hm:min j l.length=j:=by omega
 rw [hm]
 by_cases c1:k<j
 ·rw [if_pos c1,if_neg (by omega),List.getElem?_take,if_pos c1]
 ·rw [if_neg c1]
  by_cases c2:k<j+vs.length
  ·rw [if_pos (by omega),if_pos (by omega)]
  ·rw [if_neg (by omega),if_neg (by omega),List.getElem?_drop]
   congr 1; omega
theorem PJ {C:kD} {bl:Nat→Blk} {w:World} {h:Gh} (m:Mem C bl w h) {tl:List Nat} {t:TypeId} {ti:TI} (hti:cV C.P t=some ti) {p x v:AV} {wr:List (Nat×Blk)} {pv xv:Value}
  (hp:aG h pv p) (hx:aG h xv x) (he:OD ti (bM tl bl) x p=some (v,wr)) :
  v=.sk∧∃ w',(Instr.storeAt t pv xv).run C.P w=.ok () w'∧Mem C (bW bl wr) w' h:=by
 obtain ⟨i0,d,h1,h2,rfl⟩:=bO hti
 cases p <;> simp only [OD] at he <;> first | (cases he; done) | skip
 case ptr n i j =>
  simp only [aG] at hp
  obtain ⟨l,hL,hnul,rfl⟩:=hp
  split at he
  ·rename_i hcond
   obtain ⟨hg,hcl,hcells⟩:=hcond
   have hrx:=pQ hx hg
   have hlen:xv.cells.toList.length=i0.size:=by rw [(bV.1 hrx).1,hcl]
   have hone:∀ u∈xv.cells.toList,u.oneCell'=true:=by
    intro u hu
    obtain ⟨k,hk⟩:=List.mem_iff_getElem?.1 hu
    have hk':k<x.cells.length:=by have:=(List.getElem?_eq_some_iff.1 hk).1; rw [(bV.1 hrx).1] at this; exact this
    obtain ⟨u',hu',hr'⟩:=(bV.1 hrx).2 k _ (List.getElem?_eq_getElem hk')
    rw [hk] at hu'; cases hu'
    rw [List.all_eq_true] at hcells
    exact HO hr' (hcells _ (List.getElem_mem hk'))
   have run:∀ (cs:Array Value) (ety o:Nat),w.heap[l.blk]?=some (.cells cs ety (0,0))→o+i0.size≤cs.size →
     (Instr.storeAt t (.pointer (some ⟨l.blk,o,none⟩)) xv).run C.P w=.ok () (w.setRow l.blk ⟨dI cs.toList o xv.cells.toList⟩):=by
    intro cs ety o hh hle
    have hst:=run_storeCells_at C.P l.blk o ety xv.cells.toList 0 cs w hh (by omega) hone
    simp only [Nat.add_zero] at hst
    have hsz:xv.cells.size=i0.size:=by simpa using hlen
    simp [Instr.storeAt,Instr.sureAddr,storeVar,dM h1,hsz,hst,dI]
   have hb:=m.blks n
   split at he
   ·rename_i cells hbl
    rw [cN hbl (by simp)] at hb
    split at he <;> simp only [Option.some.injEq,Prod.mk.injEq,reduceCtorEq] at he
    rename_i hi
    obtain ⟨rfl,hle⟩:=hi
    obtain ⟨rfl,rfl⟩:=he
    obtain ⟨l',cs,ety,a1,a2,a3,a4,a5⟩:=hb
    rw [hL] at a1; cases a1
    have hcsl:=(bV.1 a4).1
    refine ⟨rfl,_,?_,m.rewrite (w':=w.setRow l.blk ⟨dI cs j xv.cells.toList⟩) (by rw [cN hbl (by simp)]; rfl) hL hnul (.var (dI cells j x.cells)) (setRow_size _ _ _) (fun k hk=>setRow_other w l.blk k _ hk) (fun o v hv=>by rw [a5] at hv; cases hv) rfl rfl rfl ?_⟩
    ·rw [Nat.zero_mul,Nat.zero_add]
     exact run ⟨cs⟩ ety j a3 (by simp; omega)
    ·refine ⟨l,_,ety,hL,hnul,setRow_heap w l.blk _ _ ety _ a3,?_,a5⟩
     unfold dI
     rw [hlen,hcl]
     exact fC (fC (tH a4) hrx) (mY a4)
   ·rename_i e s xs hbl
    rw [cN hbl (by simp)] at hb
    split at he
    ·rename_i x0 ds hx0 hds
     split at he <;> simp only [Option.some.injEq,Prod.mk.injEq,reduceCtorEq] at he
     rename_i hle
     have hle:j+i0.size≤x0.length:=hle
     obtain ⟨rfl,rfl⟩:=he
     obtain ⟨l',a1,a2,a3,a4⟩:=hb
     rw [hL] at a1; cases a1
     rw [hnul] at a4
     obtain ⟨cs,a5,a6,a7,a8,a9⟩:=a4
     obtain ⟨hx0l,hx0c⟩:=a8 i x0 hx0
     have hi:i<xs.length:=(List.getElem?_eq_some_iff.1 hx0).1
     have hrow:(i+1)*s≤xs.length*s:=Nat.mul_le_mul_right _ hi
     rw [Nat.add_mul,Nat.one_mul] at hrow
     obtain ⟨h',le,_,hdl,hdg⟩:=mV (tl:=tl) (bl:=bl) [] (by simpa [eC,bW] using m) hrx hds
     have hmu:∀ o,h.μ l.blk o=none:=fun o=>by
      cases e:h.μ l.blk o with
      | none=>rfl
      | some v=>have:=(a9 o v e).1; cases this
     have hdsl:ds.length=i0.size:=by rw [← hdl,hlen]
     have hfit:i*s+j+xv.cells.toList.length≤cs.toList.length:=by rw [hlen,Array.length_toList]; omega
     have hds0:∀ (j:Nat) (c:D),ds[j]?=some c→∃ u:Value,xv.cells.toList[j]?=some u∧aU h.μ u c:=by
      have key:∀ (cs:List AV) (ds:List D) (vs:List Value),bB h vs cs→qH (bM tl bl) cs=some (ds,[])→∀ (j:Nat) (c:D),ds[j]?=some c→∃ u:Value,vs[j]?=some u∧aU h.μ u c:=by
       intro cs
       induction cs with
       | nil=>intro ds vs _ ht j c hj; simp only [qH,Option.some.injEq,Prod.mk.injEq] at ht; rw [← ht.1] at hj; simp at hj
       | cons c0 cs ih =>
         intro ds vs hr ht j c hj
         simp only [qH] at ht
         split at ht <;> simp only [Option.some.injEq,Prod.mk.injEq,reduceCtorEq,List.append_eq_nil_iff] at ht
         rename_i y l1 ys l2 e1 e2
         obtain ⟨rfl,rfl,rfl⟩:=ht
         simp only [bB] at hr
         obtain ⟨u,us,rfl,hu,hus⟩:=hr
         cases j with
         | zero =>
           simp at hj
           subst hj
           refine ⟨u,rfl,?_⟩
           cases c0 <;> simp only [OB] at e1 <;> first | (cases e1; done) | skip
           case d z=>simp only [Option.some.injEq,Prod.mk.injEq] at e1; rw [← e1.1]; simpa [aG] using hu
           case nils=>simp only [Option.some.injEq,Prod.mk.injEq] at e1; rw [← e1.1]; simp only [aG] at hu; subst hu; simp [aU]
           case ref =>
            split at e1
            ·split at e1 <;> simp at e1
            ·cases e1
         | succ j=>simpa using ih ys us hus e2 j c (by simpa using hj)
      exact key _ _ _ hrx hds
     refine ⟨rfl,_,run cs e (i*l.sz+j) a5 (by rw [a2]; omega),m.rewrite (w':=w.setRow l.blk ⟨dI cs.toList (i*l.sz+j) xv.cells.toList⟩) (by rw [cN hbl (by simp)]; rfl) hL hnul (.arr e s (xs.set i (dI x0 j ds)) false) (setRow_size _ _ _) (fun k hk=>setRow_other w l.blk k _ hk) (fun o v hv=>by rw [hmu] at hv; cases hv) rfl rfl rfl ?_⟩
     refine ⟨l,hL,a2,a3,?_⟩
     rw [hnul]
     simp only [Bool.false_eq_true,if_false]
     rw [a2]
     refine ⟨_,setRow_heap w l.blk _ _ e _ a5,?_,?_,?_,fun o v hv=>by rw [hmu] at hv; cases hv⟩
     ·have:=eN hfit; simp only [Array.length_toList] at this; rw [← a6]; simpa using this
     ·have:=eN hfit; simp only [Array.length_toList] at this; simp only [List.length_set]; simpa [this] using a7
     ·intro i' x' hx'
      have hcell:∀ k,(⟨dI cs.toList (i*s+j) xv.cells.toList⟩:Array Value)[k]?=if i*s+j≤k∧k<i*s+j+i0.size then xv.cells.toList[k - (i*s+j)]? else cs[k]?:=fun k=>by
       have:=jH hfit k
       rw [hlen] at this
       simpa using this
      by_cases hii:i'=i
      ·subst hii
       rw [List.getElem?_set_self hi] at hx'
       cases hx'
       refine ⟨by rw [eN (by rw [hdsl]; exact hle),hx0l],fun k c hk=>?_⟩
       rw [jH (by rw [hdsl]; exact hle),hdsl] at hk
       rw [hcell]
       by_cases hin:j≤k∧k<j+i0.size
       ·rw [if_pos hin] at hk
        rw [if_pos (by omega)]
        have:=hds0 _ c hk
        rwa [show i'*s+k - (i'*s+j)=k - j from by omega]
       ·rw [if_neg hin] at hk
        rw [if_neg (by omega)]
        exact hx0c k c hk
      ·rw [List.getElem?_set_ne (by omega)] at hx'
       obtain ⟨b1,b2⟩:=a8 i' x' hx'
       refine ⟨b1,fun k c hk=>?_⟩
       rw [hcell]
       have hks:k<s:=by have:=(List.getElem?_eq_some_iff.1 hk).1; omega
       have hjs:j+i0.size≤s:=by omega
       rw [if_neg]
       ·exact b2 k c hk
       ·intro hcc
        rcases Nat.lt_or_ge i' i with q | q
        ·have:(i'+1)*s≤i*s:=Nat.mul_le_mul_right _ q
         rw [Nat.add_mul,Nat.one_mul] at this; omega
        ·have:(i+1)*s≤i'*s:=Nat.mul_le_mul_right _ (by omega)
         rw [Nat.add_mul,Nat.one_mul] at this; omega
    ·cases he
   ·rename_i e s xs hbl
    rw [cN hbl (by simp)] at hb
    split at he
    ·rename_i x0 hx0
     split at he <;> simp only [Option.some.injEq,Prod.mk.injEq,reduceCtorEq] at he
     rename_i hle
     have hle:j+i0.size≤x0.length:=hle
     obtain ⟨rfl,rfl⟩:=he
     obtain ⟨l',a1,a2,a3,a4⟩:=hb
     rw [hL] at a1; cases a1
     rw [hnul] at a4
     obtain ⟨cs,a5,a6,a7,a8,a9⟩:=a4
     obtain ⟨hx0l,hx0c⟩:=a8 i x0 hx0
     have hi:i<xs.length:=(List.getElem?_eq_some_iff.1 hx0).1
     have hrow:(i+1)*s≤xs.length*s:=Nat.mul_le_mul_right _ hi
     rw [Nat.add_mul,Nat.one_mul] at hrow
     have hdsl:x.cells.length=i0.size:=hcl
     have hfit:i*s+j+xv.cells.toList.length≤cs.toList.length:=by rw [hlen,Array.length_toList]; omega
     refine ⟨rfl,_,run cs e (i*l.sz+j) a5 (by rw [a2]; omega),m.rewrite (w':=w.setRow l.blk ⟨dI cs.toList (i*l.sz+j) xv.cells.toList⟩) (by rw [cN hbl (by simp)]; rfl) hL hnul (.varr e s (xs.set i (dI x0 j x.cells))) (setRow_size _ _ _) (fun k hk=>setRow_other w l.blk k _ hk) (fun o v hv=>by rw [a9] at hv; cases hv) rfl rfl rfl ?_⟩
     refine ⟨l,hL,a2,a3,?_⟩
     rw [hnul]
     simp only [Bool.false_eq_true,if_false]
     rw [a2]
     refine ⟨_,setRow_heap w l.blk _ _ e _ a5,?_,?_,?_,a9⟩
     ·have:=eN hfit; simp only [Array.length_toList] at this; rw [← a6]; simpa using this
     ·have:=eN hfit; simp only [Array.length_toList] at this; simp only [List.length_set]; simpa [this] using a7
     ·intro i' x' hx'
      have hcell:∀ k,(⟨dI cs.toList (i*s+j) xv.cells.toList⟩:Array Value)[k]?=if i*s+j≤k∧k<i*s+j+i0.size then xv.cells.toList[k - (i*s+j)]? else cs[k]?:=fun k=>by
       have:=jH hfit k
       rw [hlen] at this
       simpa using this
      by_cases hii:i'=i
      ·subst hii
       rw [List.getElem?_set_self hi] at hx'
       cases hx'
       refine ⟨by rw [eN (by rw [hdsl]; exact hle),hx0l],fun k c hk=>?_⟩
       rw [jH (by rw [hdsl]; exact hle),hdsl] at hk
       rw [hcell]
       by_cases hin:j≤k∧k<j+i0.size
       ·rw [if_pos hin] at hk
        rw [if_pos (by omega)]
        have:=(bV.1 hrx).2 _ c hk
        rwa [show i'*s+k - (i'*s+j)=k - j from by omega]
       ·rw [if_neg hin] at hk
        rw [if_neg (by omega)]
        exact hx0c k c hk
      ·rw [List.getElem?_set_ne (by omega)] at hx'
       obtain ⟨b1,b2⟩:=a8 i' x' hx'
       refine ⟨b1,fun k c hk=>?_⟩
       rw [hcell]
       have hks:k<s:=by have:=(List.getElem?_eq_some_iff.1 hk).1; omega
       have hjs:j+i0.size≤s:=by omega
       rw [if_neg]
       ·exact b2 k c hk
       ·intro hcc
        rcases Nat.lt_or_ge i' i with q | q
        ·have:(i'+1)*s≤i*s:=Nat.mul_le_mul_right _ q
         rw [Nat.add_mul,Nat.one_mul] at this; omega
        ·have:(i+1)*s≤i'*s:=Nat.mul_le_mul_right _ (by omega)
         rw [Nat.add_mul,Nat.one_mul] at this; omega
    ·cases he
   ·cases he
  ·cases he
theorem ZM {C:kD} {bl:Nat→Blk} {w:World} {h:Gh} {tl:List Nat} (m:Mem C bl w h) {z:List Value} {ds:List D} (hz:aHD (bM tl bl) z=some (ds,[])) :
  ∃ h',h.le h'∧Mem C bl w h'∧z.length=ds.length∧∀ (j:Nat) (x:D),ds[j]?=some x→∃ v:Value,z[j]?=some v∧aU h'.μ v x:=by
 unfold aHD at hz
 split at hz
 ·simp only [Option.some.injEq,Prod.mk.injEq,and_true] at hz
  subst hz
  refine ⟨h,.refl h,m,rfl,fun j x hj=>?_⟩
  cases j with
  | zero =>
    simp only [List.getElem?_cons_zero,Option.some.injEq] at hj
    subst hj
    exact ⟨_,rfl,by simp [aU,Value.oneCell']⟩
  | succ j=>simp at hj
 ·obtain ⟨h0,le0,m0,hdl,hdg⟩:=mV (tl:=tl) (bl:=bl) [] (by simpa [eC,bW] using m) (kC (h:=h) z) hz
  exact ⟨h0,le0,by simpa [eC,bW] using m0,hdl,hdg⟩
theorem CD {C:kD} {bl:Nat→Blk} {w:World} {h:Gh} (m:Mem C bl w h) {dst:Option Tmp} (hdst:∀ n,dst=some n→n<aB) {tl:List Nat} {t:TypeId} {l c v:AV} {wr:List (Nat×Blk)} {lv cv:Value}
  (hl:aG h lv l) (hc:aG h cv c) (he:tE C.P dst t (bM tl bl) l c=some (v,wr)) :
  Good C bl h wr v ((Instr.makeSlice t lv cv).run C.P w):=by
 unfold tE at he
 split at he
 ·rename_i sz0 by0 z0 e ln cn hti hln hcn
  obtain ⟨i,d,h1,h2,h3⟩:=bO hti
  have hd:=dV (P:=C.P) (d:=d) (by injection h3 with _ _ _ h4; exact h4.symm)
  subst hd
  obtain ⟨kl,rfl⟩:=pN hl hln
  obtain ⟨kc,rfl⟩:=pN hc hcn
  split at he
  ·rename_i te hte
   obtain ⟨ie,de,e1,e2,rfl⟩:=bO hte
   split at he
   ·rename_i z hz
    simp only [Option.map_eq_some_iff] at hz
    obtain ⟨zv,hz1,rfl⟩:=hz
    split at he
    ·rename_i hcond
     obtain ⟨c1,rfl,c3,c4,c5,c6⟩:=hcond
     simp only at c4 c5 c6
     split at he
     ·rename_i ds hds
      obtain ⟨n,rfl,hfree,rfl,rfl⟩:=pE he
      have hfree:=cN hfree (by simp)
      have hrun:=run_make (P:=C.P) w t e ie zv h2 e1 hz1 kl kc ln ln c1 (Int.le_refl _) c4 c3
      rw [hrun]
      obtain ⟨h0,le0,m0',hdl,hdg⟩:=ZM (tl:=tl) (bl:=bl) m hds
      have hdsl:ds.length=ie.size:=by rw [← hdl,c6]
      have hzs:zv.cells.size=ie.size:=by simpa using c6
      obtain ⟨h',le,m',r'⟩:=kP (ety:=e) m0' (hdst n rfl) hfree c5 (cs:=madeCells zv.cells (ln.toNat*ie.size)) (xs:=List.replicate ln.toNat ds) (cap:=ln.toNat) (len:=ln.toNat) false
       (by rw [size_madeCells]) (by simp) (by simp only [maxLen]; omega) (by simp) (fun i x hx=>by
       rw [List.getElem?_replicate] at hx
       split at hx <;> simp only [Option.some.injEq,reduceCtorEq] at hx
       rename_i hi
       subst hx
       refine ⟨hdsl,fun j c hj=>?_⟩
       obtain ⟨u,hu,hr⟩:=hdg j c hj
       have hj':j<ie.size:=by have:=(List.getElem?_eq_some_iff.1 hj).1; omega
       have hrow:(i+1)*ie.size≤ln.toNat*ie.size:=Nat.mul_le_mul_right _ hi
       rw [Nat.add_mul,Nat.one_mul] at hrow
       refine ⟨u,?_,hr⟩
       have hmod:(i*ie.size+j) % zv.cells.size=j:=by rw [hzs,Nat.mul_add_mod_of_lt hj']
       unfold madeCells
       rw [Array.getElem?_map,Array.getElem?_range,if_pos (by omega)]
       simp only [Option.map_some,hmod,Option.some.injEq]
       have hj2:j<zv.cells.size:=by omega
       have:zv.cells[j]?=some u:=by simpa using hu
       rw [getElem!_pos zv.cells j hj2]
       simpa [Array.getElem?_eq_getElem hj2] using this)
      exact ⟨_,_,h',rfl,le0.trans le,m',r'⟩
     ·cases he
    ·cases he
   ·cases he
  ·cases he
 ·cases he
theorem PK {C:kD} {bl:Nat→Blk} {w:World} {h:Gh} (m:Mem C bl w h) {tl:List Nat} {t ty:TypeId} {x v:AV} {wr:List (Nat×Blk)} {xv:Value}
  (hx:aG h xv x) (he:OK C.P t (bM tl bl) x=some (v,wr)) :
  v=.tup []∧∃ w',(Builtin.clear_ #[t] ty #[xv]).run C.P w=.ok (.tuple #[]) w'∧Mem C (bW bl wr) w' h:=by
 unfold OK at he
 split at he
 ·rename_i n lo len sz
  split at he
  ·rename_i sz0 by0 z0 e hti
   obtain ⟨i,d,h1,h2,h3⟩:=bO hti
   have hd:=dV (P:=C.P) (d:=d) (by injection h3 with _ _ _ h4; exact h4.symm)
   subst hd
   split at he
   ·rename_i te hte
    obtain ⟨ie,de,e1,e2,rfl⟩:=bO hte
    split at he
    ·rename_i z hz
     simp only [Option.map_eq_some_iff] at hz
     obtain ⟨zv,hz1,rfl⟩:=hz
     split at he
     ·rename_i e' s xs hbl
      split at he
      ·rename_i hcond
       obtain ⟨c1,c2,rfl,rfl,c5⟩:=hcond
       simp only at c5
       split at he
       ·rename_i ds hds
        simp only [Option.some.injEq,Prod.mk.injEq] at he
        obtain ⟨rfl,rfl⟩:=he
        refine ⟨rfl,?_⟩
        simp only [aG] at hx
        obtain ⟨l,hL,hsz,hv⟩:=hx
        have hb:=m.blks n
        have hbn:=cN hbl (by simp)
        rw [hbn] at hb
        obtain ⟨l',a1,a2,a3,a4⟩:=hb
        rw [hL] at a1; cases a1
        cases hn:l.nul with
        | true =>
          rw [hn] at hv
          simp only [if_true] at hv
          omega
        | false =>
          rw [hn] at hv a4
          simp only [Bool.false_eq_true,if_false] at hv a4
          obtain ⟨cap,rfl,hcl,hcm,hca⟩:=hv
          obtain ⟨cs,a5,a6,a7,a8,a9⟩:=a4
          have hmu:∀ o,h.μ l.blk o=none:=fun o=>by
           cases e:h.μ l.blk o with
           | none=>rfl
           | some v=>have:=(a9 o v e).1; cases this
          obtain ⟨h0,le0,m0,hdl,hdg⟩:=mV (tl:=tl) (bl:=bl) [] (by simpa [eC,bW] using m) (kC (h:=h) zv.cells.toList) hds
          have hzc:∀ (j:Nat) (c:D),ds[j]?=some c→∃ u:Value,zv.cells.toList[j]?=some u∧aU h.μ u c:=by
           have key:∀ (vs:List Value) (ds:List D),qH (bM tl bl) (vs.map iF)=some (ds,[])→∀ (j:Nat) (c:D),ds[j]?=some c→∃ u:Value,vs[j]?=some u∧aU h.μ u c:=by
            intro vs
            induction vs with
            | nil=>intro ds ht j c hj; simp only [List.map_nil,qH,Option.some.injEq,Prod.mk.injEq] at ht; rw [← ht.1] at hj; simp at hj
            | cons v0 vs ih =>
              intro ds ht j c hj
              simp only [List.map_cons,qH] at ht
              split at ht <;> simp only [Option.some.injEq,Prod.mk.injEq,reduceCtorEq,List.append_eq_nil_iff] at ht
              rename_i y l1 ys l2 e1 e2
              obtain ⟨rfl,rfl,rfl⟩:=ht
              cases j with
              | zero =>
                simp at hj
                subst hj
                refine ⟨v0,rfl,?_⟩
                have hr:aG h v0 (iF v0):=by
                 have:=kC (h:=h) [v0]
                 simp only [List.map_cons,List.map_nil,bB] at this
                 obtain ⟨u,us,hu,hr,_⟩:=this
                 cases hu; exact hr
                cases hcv:iF v0 <;> rw [hcv] at e1 hr <;> simp only [OB] at e1 <;> first | (cases e1; done) | skip
                case d z=>simp only [Option.some.injEq,Prod.mk.injEq] at e1; rw [← e1.1]; simpa [aG] using hr
                case nils=>simp only [Option.some.injEq,Prod.mk.injEq] at e1; rw [← e1.1]; simp only [aG] at hr; subst hr; simp [aU]
                case ref =>
                 split at e1
                 ·split at e1 <;> simp at e1
                 ·cases e1
              | succ j=>simpa using ih ys e2 j c (by simpa using hj)
           exact key _ _ hds
          have hdsl:ds.length=ie.size:=by rw [← hdl,c5]
          have hzs:zv.cells.size=ie.size:=by simpa using c5
          let Z:=(Builtin.zeroCells zv.cells len).toList
          have hZl:Z.length=len*ie.size:=by simp [Z,size_zeroCells,hzs]
          have hZg:∀ k,k<len*ie.size→Z[k]?=zv.cells.toList[k % ie.size]?:=fun k hk=>by
           have hp:0<ie.size:=a3
           have hm:k % ie.size<zv.cells.size:=by rw [hzs]; exact Nat.mod_lt _ hp
           simp only [Z,Builtin.zeroCells,Array.getElem?_toList,Array.getElem?_map,Array.getElem?_range]
           rw [if_pos (by rw [hzs]; exact hk)]
           simp only [Option.map_some,hzs]
           rw [getElem!_pos zv.cells _ hm,Array.getElem?_eq_getElem hm]
          have hone:∀ u∈Z,u.oneCell'=true:=by
           intro u hu
           obtain ⟨k,hk⟩:=List.mem_iff_getElem?.1 hu
           have hkl:k<len*ie.size:=by have:=(List.getElem?_eq_some_iff.1 hk).1; omega
           rw [hZg k hkl] at hk
           have hm:k % ie.size<ds.length:=by rw [hdsl]; exact Nat.mod_lt _ a3
           obtain ⟨u',hu',hr⟩:=hzc _ _ (List.getElem?_eq_getElem hm)
           rw [hk] at hu'; cases hu'
           exact HO (h:=h) (c:=.d _) (by simpa [aG] using hr) rfl
          have hmul:(lo+len)*ie.size≤xs.length*ie.size:=Nat.mul_le_mul_right _ c2
          rw [Nat.add_mul] at hmul
          have hst:=run_storeCells_at C.P l.blk (lo*ie.size) e' Z 0 cs w a5 (by rw [hZl]; omega) hone
          simp only [Nat.add_zero] at hst
          have hfit:lo*ie.size+Z.length≤cs.toList.length:=by rw [hZl,Array.length_toList]; omega
          refine ⟨w.setRow l.blk ⟨dI cs.toList (lo*ie.size) Z⟩,?_,m.rewrite (w':=w.setRow l.blk ⟨dI cs.toList (lo*ie.size) Z⟩) (by rw [hbn]; rfl) hL hn (.arr e' ie.size (xs.take lo++List.replicate len ds++xs.drop (lo+len)) false) (setRow_size _ _ _) (fun k hk=>setRow_other w l.blk k _ hk) (fun o v hv=>by rw [hmu] at hv; cases hv) rfl rfl rfl ?_⟩
          ·obtain ⟨len',rfl⟩:∃ len',len=len'+1:=⟨len - 1,by omega⟩
           simp only [Builtin.clear_,Sem.run_bind]
           simp [run_underlying h2,zeroValue,typeInfo,e1,hz1]
           rw [hsz]
           erw [hst]
           simp [dI]
          ·refine ⟨l,hL,a2,a3,?_⟩
           rw [hn]
           simp only [Bool.false_eq_true,if_false]
           refine ⟨_,setRow_heap w l.blk _ _ e' _ a5,?_,?_,?_,fun o v hv=>by rw [hmu] at hv; cases hv⟩
           ·have:=eN hfit; simp only [Array.length_toList] at this; rw [← a6]; simpa using this
           ·have hsl:=eN hfit
            simp only [Array.length_toList] at hsl
            simp only [List.length_append,List.length_take,List.length_replicate,List.length_drop]
            rw [show min lo xs.length+len+(xs.length - (lo+len))=xs.length from by omega]
            simpa [hsl] using a7
           ·intro i' x' hx'
            have hcell:∀ k,(⟨dI cs.toList (lo*ie.size) Z⟩:Array Value)[k]?=if lo*ie.size≤k∧k<lo*ie.size+len*ie.size then Z[k - lo*ie.size]? else cs[k]?:=fun k=>by
             have:=jH hfit k
             rw [hZl] at this
             simpa using this
            have hmid:(xs.take lo++List.replicate len ds++xs.drop (lo+len))[i']?=if lo≤i'∧i'<lo+len then some ds else xs[i']?:=by
             have:=jH (l:=xs) (j:=lo) (vs:=List.replicate len ds) (by simpa using c2) i'
             unfold dI at this
             rw [List.length_replicate] at this
             rw [this]
             by_cases hc:lo≤i'∧i'<lo+len
             ·rw [if_pos hc,if_pos hc,List.getElem?_replicate,if_pos (by omega)]
             ·rw [if_neg hc,if_neg hc]
            rw [hmid] at hx'
            by_cases hc:lo≤i'∧i'<lo+len
            ·rw [if_pos hc] at hx'
             cases hx'
             refine ⟨hdsl,fun j c hj=>?_⟩
             have hj':j<ie.size:=by have:=(List.getElem?_eq_some_iff.1 hj).1; omega
             have q1:lo*ie.size≤i'*ie.size:=Nat.mul_le_mul_right _ hc.1
             have q2:(i'+1)*ie.size≤(lo+len)*ie.size:=Nat.mul_le_mul_right _ (by omega)
             rw [Nat.add_mul,Nat.one_mul,Nat.add_mul] at q2
             obtain ⟨u,hu,hr⟩:=hzc j c hj
             refine ⟨u,?_,hr⟩
             rw [hcell,if_pos (by omega),hZg _ (by omega)]
             have q3:i'*ie.size+j - lo*ie.size=(i' - lo)*ie.size+j:=by rw [Nat.sub_mul]; omega
             rw [q3,Nat.mul_add_mod_of_lt hj',hu]
            ·rw [if_neg hc] at hx'
             obtain ⟨b1,b2⟩:=a8 i' x' hx'
             refine ⟨b1,fun j c hj=>?_⟩
             have hj':j<ie.size:=by have:=(List.getElem?_eq_some_iff.1 hj).1; omega
             rw [hcell,if_neg]
             ·exact b2 j c hj
             ·intro hcc
              rcases Nat.lt_or_ge i' lo with q | q
              ·have:(i'+1)*ie.size≤lo*ie.size:=Nat.mul_le_mul_right _ q
               rw [Nat.add_mul,Nat.one_mul] at this; omega
              ·have:(lo+len)*ie.size≤i'*ie.size:=Nat.mul_le_mul_right _ (by omega)
               rw [Nat.add_mul] at this; omega
       ·cases he
      ·cases he
     ·cases he
    ·cases he
   ·cases he
  ·cases he
 ·cases he
structure Src (h:Gh) (w:World) (sz:Nat) (ys:List (List D)) (xv:Value):Prop where
 ex:∃ a c,xv=.slice a ys.length c∧(ys ≠ []→∃ (ad:Addr) (news:List Value),a=some ad∧news.length=ys.length*sz ∧
  (∀ (j:Nat) (u:Value),news[j]?=some u→w.cell? (ad.add j)=some u)∧(∀ u∈news,u.oneCell'=true) ∧
  ∀ (i:Nat) (y:List D),ys[i]?=some y→∀ (j:Nat) (c:D),y[j]?=some c→∃ u:Value,news[i*sz+j]?=some u∧aU h.μ u c)
theorem aCg {n sz k:Nat} (hk:k<n*sz):∃ i j,k=i*sz+j∧i<n∧j<sz:=by
 have hsz:0<sz:=by rcases Nat.eq_zero_or_pos sz with rfl | h
                   ·simp at hk
                   ·exact h
 refine ⟨k / sz,k % sz,?_,(Nat.div_lt_iff_lt_mul hsz).2 hk,Nat.mod_lt _ hsz⟩
 rw [Nat.mul_comm]; exact (Nat.div_add_mod k sz).symm
theorem yU {h:Gh} {w:World} {sz b o:Nat} {ys:List (List D)} (hy:∀ (i:Nat) (y:List D),ys[i]?=some y→y.length=sz∧∀ (j:Nat) (c:D),y[j]?=some c→∃ u:Value,w.cell? ⟨b,o+(i*sz+j),none⟩=some u∧aU h.μ u c) :
  ∃ news:List Value,news.length=ys.length*sz∧(∀ (j:Nat) (u:Value),news[j]?=some u→w.cell? ((⟨b,o,none⟩:Addr).add j)=some u)∧(∀ u∈news,u.oneCell'=true) ∧
    ∀ (i:Nat) (y:List D),ys[i]?=some y→∀ (j:Nat) (c:D),y[j]?=some c→∃ u:Value,news[i*sz+j]?=some u∧aU h.μ u c:=by
 have cell:∀ k,k<ys.length*sz→∃ u:Value,w.cell? ⟨b,o+k,none⟩=some u∧u.oneCell'=true:=by
  intro k hk
  obtain ⟨i,j,rfl,hi,hj⟩:=aCg hk
  obtain ⟨hl,hc⟩:=hy i _ (List.getElem?_eq_getElem hi)
  obtain ⟨u,hu,hr⟩:=hc j _ (List.getElem?_eq_getElem (by omega))
  exact ⟨u,hu,tJ hr⟩
 have get:∀ k,k<ys.length*sz→((List.range (ys.length*sz)).map fun k=>(w.cell? ⟨b,o+k,none⟩).getD undef)[k]?=w.cell? ⟨b,o+k,none⟩:=by
  intro k hk
  obtain ⟨u,hu,_⟩:=cell k hk
  rw [List.getElem?_map,List.getElem?_range hk]
  simp [hu]
 refine ⟨(List.range (ys.length*sz)).map fun k=>(w.cell? ⟨b,o+k,none⟩).getD undef,by simp,fun j u hj=>?_,fun u hu=>?_,fun i y hi j c hj=>?_⟩
 ·have hlt:j<ys.length*sz:=by have:=(List.getElem?_eq_some_iff.1 hj).1; simpa using this
  rw [get j hlt] at hj
  rw [Addr.add_lit]; exact hj
 ·simp only [List.mem_map,List.mem_range] at hu
  obtain ⟨k,hk,rfl⟩:=hu
  obtain ⟨u,hu,h1⟩:=cell k hk
  simpa [hu] using h1
 ·obtain ⟨hl,hc⟩:=hy i y hi
  obtain ⟨u,hu,hr⟩:=hc j c hj
  have hi':i<ys.length:=(List.getElem?_eq_some_iff.1 hi).1
  have hj':j<sz:=by have:=(List.getElem?_eq_some_iff.1 hj).1; omega
  have hrow:(i+1)*sz≤ys.length*sz:=Nat.mul_le_mul_right _ hi'
  rw [Nat.add_mul,Nat.one_mul] at hrow
  exact ⟨u,by rw [get _ (by omega)]; exact hu,hr⟩
theorem DK {C:kD} {bl:Nat→Blk} {w:World} {h:Gh} (m:Mem C bl w h) {tl:List Nat} {x:AV} {ys:List (List D)} {xv:Value} {sz:Nat} (hx:aG h xv x) (hl:zC (bM tl bl) x=some ys)
  (hsz:ys.all (·.length==sz)=true):Src h w sz ys xv:=by
 rw [List.all_eq_true] at hsz
 cases x <;> simp only [zC] at hl <;> first | (cases hl; done) | skip
 case d y =>
  cases y <;> simp only at hl <;> first | (cases hl; done) | skip
  rename_i xs
  simp only [Option.some.injEq] at hl
  subst hl
  simp only [aG,aU] at hx
  obtain ⟨a,cap,rfl,hcap,hels⟩:=hx
  refine ⟨a,cap,rfl,fun hne=>?_⟩
  rcases hels with e | ⟨b,o,s,rfl,hels⟩
  ·exact absurd e hne
  ·rw [gW] at hels
   obtain ⟨y0,ys0,rfl⟩:=List.exists_cons_of_ne_nil hne
   have hs:s=sz:=by
    have:=(hels 0 y0 rfl).1
    have h2:=hsz y0 List.mem_cons_self
    simp only [beq_iff_eq] at h2; omega
   subst hs
   obtain ⟨news,n1,n2,n3,n4⟩:=yU (h:=h) (w:=w) (b:=b) (o:=o) (ys:=y0::ys0) (sz:=s) (fun i y hi=>by
    obtain ⟨a1,a2⟩:=hels i y hi
    refine ⟨a1,fun j c hj=>?_⟩
    rw [iG] at a2
    obtain ⟨v,b1,b2⟩:=a2 j c hj
    exact ⟨v,by rw [← Nat.add_assoc]; exact m.con _ _ _ b1,b2⟩)
   exact ⟨_,news,rfl,n1,n2,n3,n4⟩
 case nils =>
  simp only [Option.some.injEq] at hl
  subst hl
  simp only [aG] at hx
  subst hx
  exact ⟨none,0,rfl,fun hne=>absurd rfl hne⟩
 case ref n lo len s =>
  split at hl
  ·rename_i e s' xs f hbl
   have hbl':=cN hbl (by simp)
   split at hl <;> simp only [Option.some.injEq,reduceCtorEq] at hl
   rename_i hle
   subst hl
   have hlen:((xs.drop lo).take len).length=len:=by simp; omega
   have hb:=m.blks n
   rw [hbl'] at hb
   obtain ⟨l,hL,hs,hpos,hb⟩:=hb
   simp only [aG] at hx
   obtain ⟨l',hL',hs',hx⟩:=hx
   rw [hL] at hL'; cases hL'
   split at hx
   ·obtain ⟨rfl,rfl,rfl⟩:=hx
    exact ⟨none,0,by simp,fun hne=>absurd (by simp) hne⟩
   ·rename_i hn
    obtain ⟨cap,rfl,hc,hm,hz⟩:=hx
    rw [if_neg hn] at hb
    obtain ⟨cs,b1,b2,b3,b4,b5⟩:=hb
    refine ⟨_,cap,by rw [hlen],fun hne=>?_⟩
    have hlen0:0<len:=by
     rcases Nat.eq_zero_or_pos len with e | e
     ·exact absurd (by simp [e]) hne
     ·exact e
    have hss:l.sz=sz:=by
     have hlo:lo<xs.length:=by omega
     have a1:=(b4 lo xs[lo] (List.getElem?_eq_getElem hlo)).1
     have a2:=hsz xs[lo] (List.mem_iff_getElem?.2 ⟨0,by rw [List.getElem?_take,if_pos hlen0,List.getElem?_drop]; simp⟩)
     simp only [beq_iff_eq] at a2
     omega
    subst hss
    obtain ⟨news,n1,n2,n3,n4⟩:=yU (h:=h) (w:=w) (b:=l.blk) (o:=lo*l.sz) (ys:=(xs.drop lo).take len) (sz:=l.sz) (fun i y hi=>by
     rw [List.getElem?_take] at hi
     split at hi
     ·rw [List.getElem?_drop] at hi
      obtain ⟨a1,a2⟩:=b4 _ y hi
      refine ⟨by omega,fun j c hj=>?_⟩
      obtain ⟨v,c1,c2⟩:=a2 j c hj
      refine ⟨v,?_,c2⟩
      rw [cell_of_row w l.blk _ cs e (0,0) b1]
      rw [← c1,← hs]
      congr 1
      rw [Nat.add_mul]; omega
     ·cases hi)
    exact ⟨_,news,rfl,n1,n2,n3,n4⟩
  ·cases hl
theorem uA {P:Program} {w:World} {t ty e:TypeId} {i:TypeInfo} (ht:P.underlying t=some (.slice e)) (hi:P.info? e=some i) (base:Option Addr) (n cap:Nat) (hn:n≤cap) (a:Option Addr) (c:Nat) :
  (Builtin.append_ #[t,t] ty #[.slice base n cap,.slice a 0 c]).run P w=.ok (.slice base n cap) w:=by
 cases a <;> cases base <;> simp [Builtin.append_,run_underlying ht,dM hi,Builtin.lenOf,hn,Builtin.firstCells,loadCells,loadCellsFrom,storeCells]
def uL (P:Program) (dst:Option Tmp) (e:TypeId) (bl:Nat→Blk) (s x:AV):BL :=
 match cV P e,zC bl x,dst with
 | some te,some ys,some n=>if ys.all (·.length==te.size)=true∧0<te.size∧te.zero.map List.length=some te.size then
   match s with
   | .nils=>if ys.length*te.bytes≤140737488355328∧ys.length≤9223372036854775807 then
     match bl n with
     | .free=>some (.ref n 0 ys.length te.size,[(n,.arr e te.size ys false)])
     | _=>none
     else none
   | .ref m 0 len _=>match bl m with
     | .arr e' sz xs frz=>if e'=e∧sz=te.size∧len=xs.length∧(xs.length+ys.length)*te.bytes≤140737488355328∧xs.length+ys.length≤9223372036854775807∧n ≠ m then
       match bl n with
       | .free=>some (.ref n 0 (xs.length+ys.length) te.size,[(m,.dead),(n,.arr e sz (xs++ys) frz)])
       | _=>none
       else none
     | _=>none
   | _=>none
   else none
 | _,_,_=>none
theorem uM {C:kD} {bl:Nat→Blk} {w:World} {h:Gh} (m:Mem C bl w h) {dst:Option Tmp} (hdst:∀ n,dst=some n→n<aB) {tl:List Nat} {t ty e:TypeId} (ht:C.P.underlying t=some (.slice e)) {s x v:AV} {wr:List (Nat×Blk)} {sv xv:Value}
  (hs:aG h sv s) (hx:aG h xv x) (he:uL C.P dst e (bM tl bl) s x=some (v,wr)) :
  Good C bl h wr v ((Builtin.append_ #[t,t] ty #[sv,xv]).run C.P w):=by
 unfold uL at he
 split at he
 ·rename_i te ys n hte hys
  obtain ⟨ie,de,e1,e2,rfl⟩:=bO hte
  split at he
  ·rename_i hc
   obtain ⟨hall,hpos,hzero⟩:=hc
   simp only at hall hpos hzero
   obtain ⟨a,c,rfl,hsrc⟩:=(DK m hx hys hall).ex
   have hz:∃ z,ie.zero=some z∧z.cells.size=ie.size:=by
    cases e0:ie.zero with
    | none=>rw [e0] at hzero; simp at hzero
    | some z=>rw [e0] at hzero; exact ⟨z,rfl,by simpa using hzero⟩
   obtain ⟨z,hz,hzs⟩:=hz
   have hys_len:∀ y∈ys,y.length=ie.size:=fun y hy=>by
    rw [List.all_eq_true] at hall; simpa using hall y hy
   split at he
   ·-- onto nil
    simp only [aG] at hs
    subst hs
    split at he
    ·rename_i hb
     obtain ⟨hb1,hb2⟩:=hb
     simp only at hb1
     split at he
     ·rename_i hfree
      simp only [Option.some.injEq,Prod.mk.injEq] at he
      obtain ⟨rfl,rfl⟩:=he
      have hfree:=cN hfree (by simp)
      by_cases hne:ys=[]
      ·subst hne
       have hL:h.L n=none:=by have:=m.blks n; rw [hfree] at this; exact this
       rw [List.length_nil,uA ht e1 none 0 0 (Nat.le_refl _) a c]
       have le:=Gh.le_add (l:=⟨0,0,ie.size,true⟩) hL
       refine ⟨_,_,h.add n ⟨0,0,ie.size,true⟩,rfl,le,?_,?_⟩
       ·have view:∀ (k:Nat) (l:Loc),(h.add n ⟨0,0,ie.size,true⟩).L k=some l→l.nul=false→k ≠ n∧h.L k=some l:=fun k l e5 e6=>by
         by_cases ek:k=n
         ·subst ek; simp only [Gh.add,if_true,Option.some.injEq] at e5; rw [← e5] at e6; cases e6
         ·simp only [Gh.add,if_neg ek] at e5; exact ⟨ek,e5⟩
        refine ⟨fun k=>?_,m.con,m.glob,?_,?_,m.size,m.frame,m.mext,m.mold,?_,m.os,m.tape,m.output,m.know⟩
        ·by_cases ek:k=n
         ·subst ek
          simp only [bW,dQ,if_true]
          exact ⟨⟨0,0,ie.size,true⟩,by simp [Gh.add],rfl,hpos,by simp⟩
         ·simp only [bW,dQ,if_neg ek]
          exact iE (m.blks k) le (fun e0=>by simp [Gh.add,ek,e0]) (fun _ _ _ _=>rfl) (fun _ _ _ _ _ _ e=>e)
        ·intro i j l1 l2 hij a1 a2 a3 a4 a5 a6
         obtain ⟨b1,b2⟩:=view i l1 a3 a5
         obtain ⟨b3,b4⟩:=view j l2 a4 a6
         simp only [bW,dQ,if_neg b1] at a1
         simp only [bW,dQ,if_neg b3] at a2
         exact m.apart i j l1 l2 hij a1 a2 b2 b4 a5 a6
        ·intro i l1 a1 a3 a5
         obtain ⟨b1,b2⟩:=view i l1 a3 a5
         simp only [bW,dQ,if_neg b1] at a1
         exact m.own i l1 a1 b2 a5
        ·intro i l1 hi hl
         have:i ≠ n:=Nat.ne_of_gt (Nat.lt_of_lt_of_le (hdst n rfl) hi)
         simp only [Gh.add,if_neg this]
         exact m.lkeep i l1 hi hl
       ·simp only [aG]
        exact ⟨⟨0,0,ie.size,true⟩,by simp [Gh.add],rfl,by simp⟩
      ·obtain ⟨ad,news,rfl,n1,n2,n3,n4⟩:=hsrc hne
       have hpl:0<ys.length:=List.length_pos_iff.2 hne
       have hrun:=run_append_nil (P:=C.P) w t ty e ie z ht e1 hz ad ys.length c news n1 n2 hpl (by omega) (by omega)
       rw [hrun]
       have hge:=grownCap_ge w ys.length 0 e
       have hcm:=grownCap_le_maxLen w ys.length 0 e (by simp only [maxLen]; omega)
       obtain ⟨h',le,m',r'⟩:=kP (ety:=e) m.drew (hdst n rfl) hfree hpos (cs:=news.toArray++Builtin.zeroCells z.cells (grownCap w ys.length 0 e - ys.length)) (xs:=ys) (cap:=grownCap w ys.length 0 e) (len:=ys.length) false
        (by simp only [Array.size_append,List.size_toArray,size_zeroCells,hzs,n1,← Nat.add_mul]; congr 1; omega) hge hcm rfl (fun i y hi=>by
         refine ⟨hys_len y (List.mem_of_getElem? hi),fun j d hj=>?_⟩
         obtain ⟨u,hu,hr⟩:=n4 i y hi j d hj
         refine ⟨u,?_,hr⟩
         have hlt:=(List.getElem?_eq_some_iff.1 hu).1
         rw [Array.getElem?_append_left (by simpa using hlt)]
         simpa using hu)
       exact ⟨_,_,h',rfl,le,m',r'⟩
     ·cases he
    ·cases he
   ·-- onto a slice of the function's own
    rename_i m0 len0 sz0
    split at he
    ·rename_i e' sz xs frz hbl
     have hbl':=cN hbl (by simp)
     split at he
     ·rename_i hcond
      obtain ⟨rfl,rfl,rfl,hb1,hb2,hnm⟩:=hcond
      simp only at hb1
      split at he
      ·rename_i hfree
       have hfree:=cN hfree (by simp)
       simp only [Option.some.injEq,Prod.mk.injEq] at he
       obtain ⟨rfl,rfl⟩:=he
       have hb:=m.blks m0
       rw [hbl'] at hb
       obtain ⟨l,hL,hls,hpos',hb⟩:=hb
       simp only at hls hpos' hb
       simp only [aG] at hs
       obtain ⟨l',hL',hls',hs⟩:=hs
       rw [hL] at hL'; cases hL'
       have hlive:(bl m0).live=true:=by rw [hbl']; rfl
       have mv:=m.move hnm hlive hL hfree (hdst n rfl)
       have hLn:(h.add n l).L n=some l:=by simp [Gh.add]
       have le:=Gh.le_add (l:=l) (show h.L n=none from by have:=m.blks n; rw [hfree] at this; exact this)
       rw [hbl'] at mv
       by_cases hne:ys=[]
       ·-- nothing is added
        subst hne
        have hrun:∃ cap,sv=.slice (if l.nul then none else some ⟨l.blk,0,none⟩) xs.length cap∧xs.length≤cap∧cap≤maxLen∧(l.nul=false→cap*l.sz=l.asz)∧(l.nul=true→cap=0∧xs=[]):=by
         split at hs
         ·rename_i hn
          obtain ⟨rfl,_,hl0⟩:=hs
          rw [if_pos hn] at hb
          subst hb
          exact ⟨0,by simp [hn],by simp,by simp [maxLen],(fun e=>by rw [hn] at e; cases e),by simp⟩
         ·rename_i hn
          obtain ⟨cap,rfl,a1,a2,a3⟩:=hs
          exact ⟨cap,by simp [hn],a1,a2,fun _=>by simpa using a3,fun e=>absurd e hn⟩
        obtain ⟨cap,rfl,a1,a2,a3,a4⟩:=hrun
        rw [List.length_nil,uA ht e1 _ _ _ a1 a c]
        refine ⟨_,_,_,rfl,le,by simpa [bW] using mv,?_⟩
        simp only [aG]
        refine ⟨l,hLn,hls,?_⟩
        split
        ·rename_i hn
         obtain ⟨c1,c2⟩:=a4 hn
         subst c1 c2
         simp
        ·rename_i hn
         exact ⟨cap,by simp,a1,a2,by simpa using a3 (by simpa using hn)⟩
       ·obtain ⟨ad,news,rfl,n1,n2,n3,n4⟩:=hsrc hne
        have hpl:0<ys.length:=List.length_pos_iff.2 hne
        split at hs
        ·-- it is nil all the same
         rename_i hn
         obtain ⟨rfl,_,hl0⟩:=hs
         rw [if_pos hn] at hb
         subst hb
         simp only [List.length_nil,Nat.zero_add,List.nil_append] at *
         have hrun:=run_append_nil (P:=C.P) w t ty e' ie z ht e1 hz ad ys.length c news n1 n2 hpl (by omega) (by omega)
         rw [hrun]
         have hge:=grownCap_ge w ys.length 0 e'
         have hcm:=grownCap_le_maxLen w ys.length 0 e' (by simp only [maxLen]; omega)
         have mk:=m.drew.kill hlive
         have hfree2:dQ bl m0 .dead n=.free:=by simp [dQ,hnm,hfree]
         obtain ⟨h',le',m',r'⟩:=kP (ety:=e') mk (hdst n rfl) hfree2 hpos (cs:=news.toArray++Builtin.zeroCells z.cells (grownCap w ys.length 0 e' - ys.length)) (xs:=ys) (cap:=grownCap w ys.length 0 e') (len:=ys.length) frz
          (by simp only [Array.size_append,List.size_toArray,size_zeroCells,hzs,n1,← Nat.add_mul]; congr 1; omega) hge hcm rfl (fun i y hi=>by
           refine ⟨hys_len y (List.mem_of_getElem? hi),fun j d hj=>?_⟩
           obtain ⟨u,hu,hr⟩:=n4 i y hi j d hj
           refine ⟨u,?_,hr⟩
           have hlt:=(List.getElem?_eq_some_iff.1 hu).1
           rw [Array.getElem?_append_left (by simpa using hlt)]
           simpa using hu)
         exact ⟨_,_,h',rfl,le',m',r'⟩
        ·rename_i hn
         obtain ⟨cap,rfl,a1,a2,a3⟩:=hs
         rw [if_neg hn] at hb
         obtain ⟨cs,b1,b2,b3,b4,b5⟩:=hb
         simp only [Nat.zero_mul,Nat.zero_add] at a3 ⊢
         have hcs:cs.size=cap*ie.size:=by rw [b2,← a3,hls]
         have hx2:∀ (cur:Array Value),(∀ k,k<xs.length*ie.size→cur[k]?=cs[k]?)→(∀ k,k<news.length→cur[xs.length*ie.size+k]?=news[k]?) →
           ∀ (i:Nat) (y:List D),(xs++ys)[i]?=some y→y.length=ie.size∧∀ (j:Nat) (d:D),y[j]?=some d→∃ u:Value,cur[i*ie.size+j]?=some u∧aU h.μ u d:=by
          intro cur hc1 hc2 i y hi
          rw [List.getElem?_append] at hi
          split at hi
          ·rename_i hlt
           obtain ⟨d1,d2⟩:=b4 i y hi
           refine ⟨d1,fun j d hj=>?_⟩
           obtain ⟨u,hu,hr⟩:=d2 j d hj
           have hj':j<ie.size:=by have:=(List.getElem?_eq_some_iff.1 hj).1; omega
           have hrow:(i+1)*ie.size≤xs.length*ie.size:=Nat.mul_le_mul_right _ hlt
           rw [Nat.add_mul,Nat.one_mul] at hrow
           exact ⟨u,by rw [hc1 _ (by omega)]; exact hu,hr⟩
          ·rename_i hge
           refine ⟨hys_len y (List.mem_of_getElem? hi),fun j d hj=>?_⟩
           obtain ⟨u,hu,hr⟩:=n4 _ y hi j d hj
           have hlt:=(List.getElem?_eq_some_iff.1 hu).1
           refine ⟨u,?_,hr⟩
           have:i*ie.size+j=xs.length*ie.size+((i - xs.length)*ie.size+j):=by
            have:i*ie.size=xs.length*ie.size+(i - xs.length)*ie.size:=by rw [← Nat.add_mul]; congr 1; omega
            omega
           rw [this,hc2 _ hlt]; exact hu
         by_cases hroom:xs.length+ys.length≤cap
         ·-- there is room
          have hfit:xs.length*ie.size+news.length≤cs.size:=by rw [n1,hcs,← Nat.add_mul]; exact Nat.mul_le_mul_right _ hroom
          have hrun:=run_append_room (P:=C.P) w t ty e' ie ht e1 l.blk xs.length cap cs b1 ad ys.length c news n1 n2 n3 hroom hfit
          rw [hrun]
          have hcur:∀ k,(⟨dI cs.toList (xs.length*ie.size) news⟩:Array Value)[k]?=if xs.length*ie.size≤k∧k<xs.length*ie.size+news.length then news[k - xs.length*ie.size]? else cs[k]?:=fun k=>by
           have:=jH (l:=cs.toList) (j:=xs.length*ie.size) (vs:=news) (by simpa using hfit) k
           simpa using this
          have hlv2:(dQ (dQ bl m0 .dead) n (.arr e' ie.size xs frz) n).live=true:=by simp [dQ,Blk.live]
          have hmu5:∀ (o:Nat) (v:Value),h.μ l.blk o=some v→frz=true∧o<xs.length*ie.size:=b5
          have m2:=mv.rewrite (w':=w.setRow l.blk ⟨dI cs.toList (xs.length*ie.size) news⟩) hlv2 hLn (by simpa using hn) (.arr e' ie.size (xs++ys) frz) (setRow_size _ _ _) (fun k hk=>setRow_other w l.blk k _ hk) (fun o v hv=>by
            rw [cell_setRow_same w l.blk o _ _ e' (0,0) b1,hcur,if_neg (by have:=(hmu5 o v hv).2; omega),← cell_of_row w l.blk o cs e' (0,0) b1]
            exact m.con _ _ _ hv) rfl rfl rfl (by
            refine ⟨l,hLn,hls,hpos,?_⟩
            rw [if_neg hn]
            have hsl:=eN (l:=cs.toList) (j:=xs.length*ie.size) (vs:=news) (by simpa using hfit)
            refine ⟨_,setRow_heap w l.blk _ _ e' _ b1,by rw [← b2]; simpa using hsl,?_,?_,fun o v hv=>?_⟩
            ·rw [show (⟨dI cs.toList (xs.length*ie.size) news⟩:Array Value).size=cs.size from by simpa using hsl,List.length_append,Nat.add_mul,← n1]; exact hfit
            ·intro i y hi
             exact hx2 _ (fun k hk=>by rw [hcur,if_neg (by omega)]) (fun k hk=>by rw [hcur,if_pos (by omega)]; congr 1; omega) i y hi
            ·have:=hmu5 o v hv
             refine ⟨this.1,?_⟩
             rw [List.length_append,Nat.add_mul]; omega)
          refine ⟨_,_,_,rfl,le,?_,?_⟩
          ·have:dQ (dQ (dQ bl m0 .dead) n (.arr e' ie.size xs frz)) n (.arr e' ie.size (xs++ys) frz)=bW bl [(m0,.dead),(n,.arr e' ie.size (xs++ys) frz)]:=by
            funext k; simp only [bW,dQ]; split <;> rfl
           rw [← this]; exact m2
          ·simp only [aG]
           refine ⟨l,hLn,hls,?_⟩
           rw [if_neg hn]
           exact ⟨cap,by simp,hroom,a2,by simpa using a3⟩
         ·-- a new block
          have holds:∀ (j:Nat) (u:Value),(cs.toList.take (xs.length*ie.size))[j]?=some u→w.cell? ((⟨l.blk,0,none⟩:Addr).add j)=some u:=fun j u hj=>by
           rw [List.getElem?_take] at hj
           split at hj
           ·rw [Addr.add_lit,Nat.zero_add,cell_of_row w l.blk j cs e' (0,0) b1]; simpa using hj
           ·cases hj
          have hol:(cs.toList.take (xs.length*ie.size)).length=xs.length*ie.size:=by
           rw [List.length_take,Array.length_toList]; exact Nat.min_eq_left b3
          have hrun:=run_append_grow (P:=C.P) w t ty e' ie z ht e1 hz ⟨l.blk,0,none⟩ xs.length cap _ hol holds ad ys.length c news n1 n2 (by omega) (by omega) (growslice_fits (by omega) hb1)
          rw [hrun]
          have hge:=grownCap_ge w (xs.length+ys.length) cap e'
          have hcm:=grownCap_le_maxLen w (xs.length+ys.length) cap e' (by simp only [maxLen]; omega)
          have mk:=m.drew.kill hlive
          have hfree2:dQ bl m0 .dead n=.free:=by simp [dQ,hnm,hfree]
          obtain ⟨h',le',m',r'⟩:=kP (ety:=e') mk (hdst n rfl) hfree2 hpos (cs:=(cs.toList.take (xs.length*ie.size)).toArray++news.toArray++Builtin.zeroCells z.cells (grownCap w (xs.length+ys.length) cap e' - (xs.length+ys.length))) (xs:=xs++ys) (cap:=grownCap w (xs.length+ys.length) cap e') (len:=xs.length+ys.length) frz
           (by simp only [Array.size_append,List.size_toArray,size_zeroCells,hzs,n1,hol,← Nat.add_mul]; congr 1; omega) (by simpa using hge) hcm (by simp) (fun i y hi=>hx2 _ (fun k hk=>by
            rw [Array.getElem?_append_left (by simp only [Array.size_append,List.size_toArray,hol]; omega),Array.getElem?_append_left (by simp only [List.size_toArray,hol]; omega)]
            simp [hk]) (fun k hk=>by
            rw [Array.getElem?_append_left (by simp only [Array.size_append,List.size_toArray,hol]; omega),Array.getElem?_append_right (by simp only [List.size_toArray,hol]; omega)]
            simp only [List.size_toArray,hol]
            rw [show xs.length*ie.size+k - xs.length*ie.size=k from by omega]
            simp) i y hi)
          exact ⟨_,_,h',rfl,le',m',r'⟩
      ·cases he
     ·cases he
    ·cases he
   ·cases he
  ·cases he
 ·cases he
theorem Mem.shrink {C:kD} {bl:Nat→Blk} {w:World} {h:Gh} (m:Mem C bl w h) {n e sz:Nat} {xs:List (List D)} (hb:bl n=.arr e sz xs false) (k:Nat):Mem C (dQ bl n (.arr e sz (xs.take k) false)) w h:=by
 have h0:=m.blks n
 rw [hb] at h0
 obtain ⟨l,hL,hsz,hpos,h0⟩:=h0
 have hlive:(bl n).live=true:=by rw [hb]; rfl
 by_cases hn:l.nul=true
 ·rw [if_pos hn] at h0
  subst h0
  have:dQ bl n (.arr e sz (List.take k []) false)=bl:=by
   funext i
   by_cases hi:i=n
   ·subst hi; simp [dQ,hb]
   ·simp [dQ,hi]
  rw [this]; exact m
 ·rw [if_neg hn] at h0
  obtain ⟨cs,b1,b2,b3,b4,b5⟩:=h0
  refine m.rewrite hlive hL (by simpa using hn) _ rfl (fun _ _=>rfl) (fun o v hv=>m.con _ _ _ hv) rfl rfl rfl ?_
  refine ⟨l,hL,hsz,hpos,?_⟩
  rw [if_neg hn]
  refine ⟨cs,b1,b2,Nat.le_trans (Nat.mul_le_mul_right _ (by rw [List.length_take]; omega)) b3,fun i x hi=>?_,fun o v hv=>absurd (b5 o v hv).1 (by simp)⟩
  rw [List.getElem?_take] at hi
  split at hi
  ·exact b4 i x hi
  ·cases hi
theorem GE {C:kD} {bl:Nat→Blk} {w:World} {h:Gh} (m:Mem C bl w h) {dst:Option Tmp} (hdst:∀ n,dst=some n→n<aB) {tl:List Nat} {t t' ty:TypeId} {s x v:AV} {wr:List (Nat×Blk)} {sv xv:Value}
  (hs:aG h sv s) (hx:aG h xv x) (he:zD C.P dst t t' (bM tl bl) s x=some (v,wr)) :
  Good C bl h wr v ((Builtin.append_ #[t,t'] ty #[sv,xv]).run C.P w):=by
 unfold zD at he
 split at he
 ·rename_i sz0 by0 z0 e sz1 by1 z1 ki k n hti hti'
  obtain ⟨i,d,h1,h2,h3⟩:=bO hti
  have hd:=dV (P:=C.P) (d:=d) (by injection h3 with _ _ _ h4; exact h4.symm)
  subst hd
  obtain ⟨i',d',h1',h2',h3'⟩:=bO hti'
  have hd':=uX (P:=C.P) (d:=d') (by injection h3' with _ _ _ h4; exact h4.symm)
  subst hd'
  simp only [aG,aU] at hs hx
  subst hs hx
  split at he
  ·rename_i te hte
   obtain ⟨ie,de,e1,e2,rfl⟩:=bO hte
   split at he
   ·rename_i z hz
    simp only [Option.map_eq_some_iff] at hz
    obtain ⟨zv,hz1,rfl⟩:=hz
    split at he
    ·rename_i hcond
     obtain ⟨c1,c3,c4,c5,c6⟩:=hcond
     simp only at c4 c5 c6
     split at he
     ·rename_i ds hds
      obtain ⟨b,rfl,hfree,rfl,rfl⟩:=pE he
      have hfree:=cN hfree (by simp)
      obtain ⟨N,rfl⟩:=Int.eq_ofNat_of_zero_le (Int.le_of_lt c1)
      simp only [Int.toNat_natCast]
      have hN:0<N:=by omega
      have hb48:N*ie.bytes≤281474976710656:=by
       have:((N*ie.bytes:Nat):Int)≤281474976710656:=by rw [Int.natCast_mul,Int.mul_comm]; exact c4
       omega
      have hrun:=Lib.run_append_nil_zeros (P:=C.P) w t t' ty e ie zv k ki h2 h2' e1 hz1 N hN c5 c3 hb48
      rw [hrun]
      have hge:=grownCap_ge w N 0 e
      have hcm:=grownCap_le_maxLen w N 0 e (by simp only [maxLen]; omega)
      obtain ⟨h0,le0,m0,hdl,hdg⟩:=mV (tl:=tl) (bl:=bl) [] (by simpa [eC,bW] using m.drew) (kC (h:=h) zv.cells.toList) hds
      have m0':Mem C bl w.drew h0:=by simpa [eC,bW] using m0
      have hdsl:ds.length=ie.size:=by rw [← hdl,c6]
      have hzs:zv.cells.size=ie.size:=by simpa using c6
      obtain ⟨h',le,m',r'⟩:=kP (ety:=e) m0' (hdst b rfl) hfree c5 (cs:=Builtin.zeroCells zv.cells N++Builtin.zeroCells zv.cells (grownCap w N 0 e - N)) (xs:=List.replicate N ds) (cap:=grownCap w N 0 e) (len:=N) false
       (by simp only [Array.size_append,size_zeroCells,hzs,← Nat.add_mul]; congr 1; omega) (by simpa using hge) hcm (by simp) (fun i x hx=>by
       rw [List.getElem?_replicate] at hx
       split at hx <;> simp only [Option.some.injEq,reduceCtorEq] at hx
       rename_i hi
       subst hx
       refine ⟨hdsl,fun j c hj=>?_⟩
       obtain ⟨u,hu,hr⟩:=hdg j c hj
       have hj':j<ie.size:=by have:=(List.getElem?_eq_some_iff.1 hj).1; omega
       have hrow:(i+1)*ie.size≤N*ie.size:=Nat.mul_le_mul_right _ hi
       rw [Nat.add_mul,Nat.one_mul] at hrow
       refine ⟨u,?_,hr⟩
       have hmod:(i*ie.size+j) % zv.cells.size=j:=by rw [hzs,Nat.mul_add_mod_of_lt hj']
       rw [Array.getElem?_append_left (by rw [size_zeroCells,hzs]; omega)]
       unfold Builtin.zeroCells
       rw [Array.getElem?_map,Array.getElem?_range,if_pos (by rw [hzs]; omega)]
       simp only [Option.map_some,hmod,Option.some.injEq]
       have hj2:j<zv.cells.size:=by omega
       have:zv.cells[j]?=some u:=by simpa using hu
       rw [getElem!_pos zv.cells j hj2]
       simpa [Array.getElem?_eq_getElem hj2] using this)
      exact ⟨_,_,h',rfl,le0.trans le,m',r'⟩
     ·cases he
    ·cases he
   ·cases he
  ·cases he
 ·cases he
theorem NX {bl:Nat→Blk} {tl:List Nat} {n e sz k:Nat} {xs:List (List D)} (hb:bl n=.arr e sz xs false) {x:AV} {ys:List (List D)} (hx:OI n x=true) (h:zC (bM tl bl) x=some ys) :
  zC (bM tl (dQ bl n (.arr e sz (xs.take k) false))) x=some ys:=by
 cases x with
 | ref m lo len s =>
   have hne:m ≠ n:=by simpa [OI] using hx
   have:bM tl (dQ bl n (.arr e sz (xs.take k) false)) m=bM tl bl m:=by simp [bM,dQ,hne]
   unfold zC at h ⊢
   simp only at h ⊢
   rw [this]; exact h
 | d y=>cases y <;> exact h
 | nils=>exact h
 | _=>exact h
theorem KU {C:kD} {bl:Nat→Blk} {w:World} {h:Gh} (m:Mem C bl w h) {dst:Option Tmp} (hdst:∀ n,dst=some n→n<aB) {tl:List Nat} {t ty e:TypeId} (ht:C.P.underlying t=some (.slice e)) {s x v:AV} {wr:List (Nat×Blk)} {sv xv:Value}
  (hs:aG h sv s) (hx:aG h xv x) (he:EV C.P dst e (bM tl bl) s x=some (v,wr)) :
  Good C bl h wr v ((Builtin.append_ #[t,t] ty #[sv,xv]).run C.P w):=by
 by_cases h0:uL C.P dst e (bM tl bl) s x=some (v,wr)
 ·exact uM m hdst ht hs hx h0
 ·unfold EV at he
  unfold uL at h0
  split at he
  ·rename_i te ys n hte hys
   rw [hte,hys] at h0
   simp only at h0
   split at he
   ·rename_i hc
    rw [if_pos hc] at h0
    split at he
    ·exact absurd he h0
    ·rename_i m0 len0 sz0
     simp only at h0
     split at he
     ·rename_i e' sz xs frz hbl
      rw [hbl] at h0
      simp only at h0
      split at he
      ·rename_i hcond
       rw [if_pos hcond] at h0
       exact absurd he h0
      ·split at he
       ·rename_i hcond
        obtain ⟨rfl,rfl,hlen,rfl,hb1,hb2,hnm,hown⟩:=hcond
        split at he
        ·rename_i hfree
         simp only [Option.some.injEq,Prod.mk.injEq] at he
         obtain ⟨rfl,rfl⟩:=he
         have hbl':=cN hbl (by simp)
         have hin:m0∈tl:=by
          unfold bM at hbl
          split at hbl
          ·assumption
          ·cases hbl
         have m2:=m.shrink hbl' len0
         have g:=uM (ty:=ty) (tl:=tl) (v:=.ref n 0 (len0+ys.length) te.size) (wr:=[(m0,.dead),(n,.arr e' te.size (xs.take len0++ys) false)]) m2 hdst ht hs hx (by
          unfold uL
          rw [hte,NX hbl' hown hys]
          simp only
          rw [if_pos hc]
          have:bM tl (dQ bl m0 (.arr e' te.size (xs.take len0) false)) m0=.arr e' te.size (xs.take len0) false:=by simp [bM,dQ,hin]
          rw [this]
          have hl:(xs.take len0).length=len0:=by rw [List.length_take]; omega
          simp only
          rw [hl,if_pos (by refine ⟨?_,?_,?_,hb1,hb2,hnm⟩ <;> first | rfl | trivial)]
          have:bM tl (dQ bl m0 (.arr e' te.size (xs.take len0) false)) n=bM tl bl n:=by simp [bM,dQ,hnm]
          rw [this,hfree])
         obtain ⟨u,w',h',hr,le,mm,ru⟩:=g
         refine ⟨u,w',h',hr,le,?_,ru⟩
         have:bW (dQ bl m0 (.arr e' te.size (xs.take len0) false)) [(m0,.dead),(n,.arr e' te.size (xs.take len0++ys) false)]=bW bl [(m0,.dead),(n,.arr e' te.size (xs.take len0++ys) false)]:=by
          funext k
          simp only [bW,dQ]
          split
          ·rfl
          ·split <;> rfl
         rw [this] at mm
         exact mm
        ·cases he
       ·cases he
     ·cases he
    ·cases he
   ·cases he
  ·cases he
end Go.Ab
