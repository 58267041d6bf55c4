import Derived.Test.YtckddobnichkhaaGreatDoorTy
import Derived.Lib.IndexMore
import Derived.Test.YtckddobnichkhaaGreatDoorQTxt
import Derived.Shelf.Strconv.Itoa3
import Derived.Test.YtckddobnichkhaaGreatDoorProg
import Derived.Shelf.Strings.Search3
import Derived.Shelf.Small.Strs
set_option linter.all false
/- Names: the reserved words, found within a text of them or one by one. No program in sight. -/
namespace Go.Proofs.Tryz
open Go.Ab
/-- Words, each behind a space, and a space at the end. -/
def spaced:List (List UInt8)→List UInt8
 | []=>[32]
 | w::ws=>32::(w++spaced ws)
/-- Whether a text begins with another somewhere. -/
def within (sub:List UInt8):List UInt8→Bool
 | []=>sub.isEmpty
 | b::l=>sub.isPrefixOf (b::l)||within sub l
theorem within_index (sub:List UInt8):∀ l:List UInt8,decide (0≤Lib.index l sub)=within sub l
 | []=>by unfold Lib.index within; cases sub <;> simp
 | b::l=>by
   have ih:=within_index sub l
   have hge:=Lib.index_ge l sub
   unfold Lib.index within
   cases h:sub.isPrefixOf (b::l) with
   | true=>simp
   | false =>
     rw [← ih]
     simp only [Bool.false_or,Bool.false_eq_true,if_false]
     by_cases h1:Lib.index l sub=-1
     ·simp [h1]
     ·have:(Lib.index l sub==-1)=false:=by simpa using h1
      rw [this]
      simp
      omega
def plainW (w:List UInt8):Bool:=w.all (· != 32)
theorem within_skip (s:List UInt8):∀ (w l:List UInt8),plainW w=true→within (32::(s++[32])) (w++l)=within (32::(s++[32])) l
 | [],l,_=>rfl
 | b::w,l,h=>by
   simp only [plainW,List.all_cons,Bool.and_eq_true,bne_iff_ne,ne_eq] at h
   have h2:plainW w=true:=h.2
   rw [List.cons_append,within,within_skip s w l h2]
   have:((32:UInt8)==b)=false:=by simpa using fun e=>h.1 e.symm
   simp [List.isPrefixOf,this]
theorem spaced_head (ws:List (List UInt8)):∃ l,spaced ws=32::l:=by cases ws <;> exact ⟨_,rfl⟩
theorem prefix_word:∀ (s w l:List UInt8),plainW s=true→plainW w=true→(s++[32]).isPrefixOf (w++32::l)=(s==w)
 | [],[],l,_,_=>by simp [List.isPrefixOf]
 | [],b::w,l,_,h=>by
   simp only [plainW,List.all_cons,Bool.and_eq_true,bne_iff_ne,ne_eq] at h
   have:((32:UInt8)==b)=false:=by simpa using fun e=>h.1 e.symm
   simp [List.isPrefixOf,this]
 | a::s,[],l,h,_=>by
   simp only [plainW,List.all_cons,Bool.and_eq_true,bne_iff_ne,ne_eq] at h
   have:(a==(32:UInt8))=false:=by simpa using h.1
   simp [List.isPrefixOf,this]
 | a::s,b::w,l,h1,h2=>by
   simp only [plainW,List.all_cons,Bool.and_eq_true] at h1 h2
   have ih:=prefix_word s w l h1.2 h2.2
   simp only [List.cons_append,List.isPrefixOf]
   rw [ih]
   rfl
theorem within_spaced (s:List UInt8) (hs:plainW s=true):∀ ws:List (List UInt8),ws.all plainW=true→within (32::(s++[32])) (spaced ws)=ws.contains s
 | [],_=>by cases s <;> simp [spaced,within,List.isPrefixOf]
 | w::ws,h=>by
   simp only [List.all_cons,Bool.and_eq_true] at h
   rw [spaced,within,within_skip s w _ h.1,within_spaced s hs ws h.2]
   obtain ⟨l,hl⟩:=spaced_head ws
   simp only [List.isPrefixOf,BEq.rfl,Bool.true_and]
   rw [hl,prefix_word s w l hs h.1,Bool.eq_iff_iff]
   simp
def lowr (c:UInt8):Bool:=decide (97≤c.toNat)&&decide (c.toNat≤122)
def nameB (c:UInt8):Bool:=lowr c||(decide (48≤c.toNat)&&decide (c.toNat≤57)||c.toNat==95)
theorem nameB_plain {c:UInt8} (h:nameB c=true):(c != 32)=true:=by
 have:c ≠ 32:=by rintro rfl; revert h; decide
 simpa using this
theorem plain_of_name {s:List UInt8} (h:s.all nameB=true):plainW s=true:=by
 rw [List.all_eq_true] at h
 exact List.all_eq_true.2 fun x hx=>nameB_plain (h x hx)
def headLow:List UInt8→Bool
 | []=>false
 | c::_=>lowr c
/-- A name, where some words are reserved. -/
def nameOk (ws:List (List UInt8)) (s:List UInt8):Bool:=decide (s.length≤16)&&(headLow s&&(s.all nameB&&!ws.contains s))
end Go.Proofs.Tryz
/- The first of a list that has a property. -/
namespace Go.Proofs.Tryz
def fidx {α:Type} (p:α→Bool):List α→Nat→Int
 | [],_=>-1
 | x::l,i=>if p x=true then i else fidx p l (i+1)
theorem fidx_drop {α:Type} {p:α→Bool} {l:List α} {i k:Nat} (h:i<l.length):fidx p (l.drop i) k=if p l[i]=true then (k:Int) else fidx p (l.drop (i+1)) (k+1):=by
 rw [List.drop_eq_getElem_cons h,fidx]
end Go.Proofs.Tryz
/- The reference's Valid. -/
namespace Go.Proofs.Tryz
open Go.Ab
theorem badB_def (b:UInt8):badB b=(decide ((b.toNat:Int)<32)||(decide (126<(b.toNat:Int))||decide ((b.toNat:Int)=39))):=by
 unfold badB badN
 rw [Bool.eq_iff_iff]
 simp
 omega
theorem r_valid (v:V):Cf En 51 [v.a] [] (.d (.bool v.valid)) []:=by
 refine cf_intro mix (fn:=Tryz.f51) (by kernel_rfl) rfl (by kernel_rfl) (by decide) (by simp) ?_
 obtain ⟨k,n,t⟩:=v
 unfold V.valid V.a
 simp
 repeat' (first | exact .of (by kernel_rfl) | refine And.intro ?_ ?_ | intro _)
 all_goals try (refine agrd_cases (fun h=>?_) (fun h=>?_) <;> (have h':=h; (try simp at h'); simp [h,h']))
 repeat' (first | exact .of (by kernel_rfl) | refine And.intro ?_ ?_ | intro _)
 all_goals try (refine agrd_cases (fun h=>?_) (fun h=>?_) <;> (have h':=h; (try simp at h'); simp [h,h']))
 repeat' (first | exact .of (by kernel_rfl) | refine And.intro ?_ ?_ | intro _)
 all_goals try (refine agrd_cases (fun h=>?_) (fun h=>?_) <;> (have h':=h; (try simp at h'); simp [h,h']))
 repeat' (first | exact .of (by kernel_rfl) | refine And.intro ?_ ?_ | intro _)
 all_goals try (simp_all; done)
 ·simp_all [textOk]; omega
 ·have hl:t.length≤24:=by omega
  refine aloopT mix (by decide) (fun i:Nat=>{ s:=mkS [(1,.ptr 1 0 0),(3,.d (.int .i64 i))],b:=mkB [(1,1,.var [.d (.int .i64 k),.d (.int .i64 0),.d (.str t)])] }) (fun i:Nat=>i≤t.length∧∀ j (h:j<t.length),j<i→badB t[j]=false) (fun i=>t.length - i) 0 (by simp) (sub_mk _ _ ⟨by simp,by simp,by simp [renOf,Blk.live],by simp⟩ (by simp [renOf])) ?_
  rintro i ⟨hi,ho⟩
  by_cases hlt:i<t.length
  ·have hg:t[i]?=some t[i]:=List.getElem?_eq_getElem hlt
   have hbd:=badB_def t[i]
   simp [hlt,hg]
   have hbad:badB t[i]=true→textOk t=false:=fun h=>by
    unfold textOk
    rw [List.any_eq_true.2 ⟨_,List.getElem_mem hlt,h⟩]
    simp
   refine ⟨.of (by kernel_rfl),?_⟩
   refine agrd_cases (fun h=>?_) (fun h=>?_) <;> (have h':=h; (try simp at h'); simp [h,h',hg])
   ·refine agrd_cases (fun h=>?_) (fun h=>?_) <;> (have h':=h; (try simp at h'); simp [h,h',hg])
    ·refine ⟨.of (by kernel_rfl),fun h3=>⟨.of (by kernel_rfl),?_⟩,fun h3=>⟨.of (by kernel_rfl),i+1,⟨hlt,?_⟩,?_,?_⟩⟩
     ·simp_all
     ·intro j hj hji
      rcases Nat.lt_or_ge j i with c | c
      ·exact ho j hj c
      ·have:j=i:=by omega
       subst this
       rw [hbd]; simp; omega
     ·refine sub_mk _ [(1,1,_)] ⟨by simp,by simp,by simp [renOf,Blk.live],by simp⟩ ?_
      simp [renOf]
      exact wrap_in (by omega) (by omega)
     ·simp; omega
    ·refine ⟨.of (by kernel_rfl),.of (by kernel_rfl),?_⟩
     simp_all
   ·refine ⟨.of (by kernel_rfl),.of (by kernel_rfl),?_⟩
    simp_all
  ·simp [hlt]
   refine ⟨.of (by kernel_rfl),.of (by kernel_rfl),?_⟩
   have:textOk t=true:=by
    unfold textOk
    simp [hl]
    intro x hx
    obtain ⟨j,hj,rfl⟩:=List.getElem_of_mem hx
    exact ho j hj (by omega)
   simp_all
end Go.Proofs.Tryz
/- Contracts of the library's functions at this program: printed by the kit's tools (lay-shelf, lay-plain), cut to what is used. -/
namespace Go.Proofs
open Go.Shelf
def Tryz.laysM246_ren:Go.Shelf.Ren:=⟨fun | 246=>77 | 283=>88 | 284=>89 | 285=>90 | 286=>91 | 129=>101 | 317=>100 | 318=>102 | 319=>103 | 320=>104 | 337=>110 | 338=>111 | n=>n,fun | 2=>2 | 3=>3 | 9=>9 | 4=>4 | 171=>104 | 0=>0 | 53=>94 | 37=>107 | 5=>5 | 173=>108 | 212=>117 | 51=>118 | 20=>20 | 213=>119 | 46=>97 | 232=>131 | 233=>132 | n=>n,fun | 17=>4 | 18=>5 | 19=>6 | n=>n⟩
theorem Tryz.laysM246:Go.Proofs.LaysM.n246 Tryz.prog Tryz.laysM246_ren:={
 mixed:=by kernel_rfl
 f129:=Tryz.func101.trans (congrArg some (by kernel_rfl))
 f246:=Tryz.func77.trans (congrArg some (by kernel_rfl))
 f283:=Tryz.func88.trans (congrArg some (by kernel_rfl))
 f284:=Tryz.func89.trans (congrArg some (by kernel_rfl))
 f285:=Tryz.func90.trans (congrArg some (by kernel_rfl))
 f286:=Tryz.func91.trans (congrArg some (by kernel_rfl))
 f317:=Tryz.func100.trans (congrArg some (by kernel_rfl))
 f318:=Tryz.func102.trans (congrArg some (by kernel_rfl))
 f319:=Tryz.func103.trans (congrArg some (by kernel_rfl))
 f320:=Tryz.func104.trans (congrArg some (by kernel_rfl))
 f337:=Tryz.func110.trans (congrArg some (by kernel_rfl))
 f338:=Tryz.func111.trans (congrArg some (by kernel_rfl))
 t0:=Tryz.underlying0
 a0:=Tryz.isAgg0
 z0:=Tryz.sizeOf0
 v0:=Tryz.zeroValue0
 t2:=Tryz.underlying2
 a2:=Tryz.isAgg2
 z2:=Tryz.sizeOf2
 v2:=Tryz.zeroValue2
 t3:=Tryz.underlying3
 a3:=Tryz.isAgg3
 z3:=Tryz.sizeOf3
 v3:=Tryz.zeroValue3
 t4:=Tryz.underlying4
 a4:=Tryz.isAgg4
 z4:=Tryz.sizeOf4
 v4:=Tryz.zeroValue4
 t5:=Tryz.underlying5
 a5:=Tryz.isAgg5
 z5:=Tryz.sizeOf5
 v5:=Tryz.zeroValue5
 t9:=Tryz.underlying9
 a9:=Tryz.isAgg9
 z9:=Tryz.sizeOf9
 v9:=Tryz.zeroValue9
 t20:=Tryz.underlying20
 a20:=Tryz.isAgg20
 z20:=Tryz.sizeOf20
 v20:=Tryz.zeroValue20
 t37:=Tryz.underlying107
 a37:=Tryz.isAgg107
 z37:=Tryz.sizeOf107
 v37:=Tryz.zeroValue107
 t46:=Tryz.underlying97
 a46:=Tryz.isAgg97
 z46:=Tryz.sizeOf97
 v46:=Tryz.zeroValue97
 t51:=Tryz.underlying118
 a51:=Tryz.isAgg118
 z51:=Tryz.sizeOf118
 v51:=Tryz.zeroValue118
 t53:=Tryz.underlying94
 a53:=Tryz.isAgg94
 z53:=Tryz.sizeOf94
 v53:=Tryz.zeroValue94
 t171:=Tryz.underlying104
 a171:=Tryz.isAgg104
 z171:=Tryz.sizeOf104
 v171:=Tryz.zeroValue104
 t173:=Tryz.underlying108
 a173:=Tryz.isAgg108
 z173:=Tryz.sizeOf108
 v173:=Tryz.zeroValue108
 t212:=Tryz.underlying117
 a212:=Tryz.isAgg117
 z212:=Tryz.sizeOf117
 v212:=Tryz.zeroValue117
 t213:=Tryz.underlying119
 a213:=Tryz.isAgg119
 z213:=Tryz.sizeOf119
 t232:=Tryz.underlying131
 a232:=Tryz.isAgg131
 z232:=Tryz.sizeOf131
 v232:=Tryz.zeroValue131
 t233:=Tryz.underlying132
 a233:=Tryz.isAgg132
 z233:=Tryz.sizeOf132
 v233:=Tryz.zeroValue132
 g17:=by kernel_rfl
 g18:=by kernel_rfl
 g19:=by kernel_rfl
 i0:=by kernel_rfl
 i2:=by kernel_rfl
 i3:=by kernel_rfl
 i4:=by kernel_rfl
 i5:=by kernel_rfl
 i9:=by kernel_rfl
 i20:=by kernel_rfl
 i37:=by kernel_rfl
 i46:=by kernel_rfl
 i51:=by kernel_rfl
 i53:=by kernel_rfl
 i171:=by kernel_rfl
 i173:=by kernel_rfl
 i212:=by kernel_rfl
 i232:=by kernel_rfl
 i233:=by kernel_rfl
 m17:=by kernel_rfl
 m18:=by kernel_rfl
 m19:=by kernel_rfl }
open Go.RowKit Go.Sort Go.Lib in
theorem Tryz.internal_strconv_FormatInt_10 (n : Int) (h0 : -9223372036854775808 ≤ n) (h1 : n ≤ 9223372036854775807) (w : World) (htab : Lib.TabIs Tryz.prog w "internal/strconv.uint64pow10" .u64 Lib.pow10Tab) :
  Calls Tryz.prog 77 #[.int .i64 n,.int .i64 10] w fun e w'=>e=.returned (.string ⟨(Lib.itoa n).toArray⟩)∧∃ k os,w'=grow (w.drewN k) os:=Any.internal_strconv_FormatInt_10 Tryz.laysM246 n h0 h1 w htab
end Go.Proofs
/- Contracts of the library's functions at this program: printed by the kit's tools (lay-shelf, lay-plain), cut to what is used. -/
namespace Go.Proofs
open Go.Shelf
def Tryz.lays144_ren:Go.Shelf.Ren:=⟨fun | 144=>120 | 143=>122 | 219=>123 | 217=>61 | 225=>124 | 224=>125 | 267=>126 | 266=>75 | 314=>127 | n=>n,fun | 9=>9 | 4=>4 | 3=>3 | 5=>5 | 46=>97 | 146=>134 | 51=>118 | n=>n,fun | 1=>1 | n=>n⟩
theorem Tryz.lays144:Go.Proofs.Lays.n144 Tryz.prog Tryz.lays144_ren:={
 mixed:=by kernel_rfl
 f143:=Tryz.func122.trans (congrArg some (by kernel_rfl))
 f144:=Tryz.func120.trans (congrArg some (by kernel_rfl))
 f217:=Tryz.func61.trans (congrArg some (by kernel_rfl))
 f219:=Tryz.func123.trans (congrArg some (by kernel_rfl))
 f224:=Tryz.func125.trans (congrArg some (by kernel_rfl))
 f225:=Tryz.func124.trans (congrArg some (by kernel_rfl))
 f266:=Tryz.func75.trans (congrArg some (by kernel_rfl))
 f267:=Tryz.func126.trans (congrArg some (by kernel_rfl))
 f314:=Tryz.func127.trans (congrArg some (by kernel_rfl))
 t3:=Tryz.underlying3
 a3:=Tryz.isAgg3
 z3:=Tryz.sizeOf3
 v3:=Tryz.zeroValue3
 t4:=Tryz.underlying4
 a4:=Tryz.isAgg4
 z4:=Tryz.sizeOf4
 v4:=Tryz.zeroValue4
 t5:=Tryz.underlying5
 a5:=Tryz.isAgg5
 z5:=Tryz.sizeOf5
 v5:=Tryz.zeroValue5
 t9:=Tryz.underlying9
 a9:=Tryz.isAgg9
 z9:=Tryz.sizeOf9
 v9:=Tryz.zeroValue9
 t46:=Tryz.underlying97
 a46:=Tryz.isAgg97
 z46:=Tryz.sizeOf97
 v46:=Tryz.zeroValue97
 t51:=Tryz.underlying118
 a51:=Tryz.isAgg118
 z51:=Tryz.sizeOf118
 v51:=Tryz.zeroValue118
 t146:=Tryz.underlying134
 a146:=Tryz.isAgg134
 z146:=Tryz.sizeOf134
 v146:=Tryz.zeroValue134
 g1:=by kernel_rfl }
open Go.RowKit Go.Lib in
theorem Tryz.strings_Contains (s sub:ByteArray) (m:Int) (w:World) (hs:s.size<4294967281) (hm:w.cell? ⟨1,0,none⟩=some (.int .i64 m)) :
  Calls Tryz.prog 120 #[.string s,.string sub] w fun e w'=>e=.returned (.bool (Lib.contains s.data.toList sub.data.toList))∧w'=w:=Any.strings_Contains Tryz.lays144 s sub m w hs hm
end Go.Proofs
/- Contracts of the library's functions at this program: printed by the kit's tools (lay-shelf, lay-plain), cut to what is used. -/
namespace Go.Proofs
open Go.Shelf
def Tryz.lays137_ren:Go.Shelf.Ren:=⟨fun | 137=>45 | 217=>61 | 266=>75 | n=>n,fun | 9=>9 | 5=>5 | 3=>3 | n=>n,fun | n=>n⟩
theorem Tryz.lays137:Go.Proofs.Lays.n137 Tryz.prog Tryz.lays137_ren:={
 mixed:=by kernel_rfl
 f137:=Tryz.func45.trans (congrArg some (by kernel_rfl))
 f217:=Tryz.func61.trans (congrArg some (by kernel_rfl))
 f266:=Tryz.func75.trans (congrArg some (by kernel_rfl))
 t3:=Tryz.underlying3
 a3:=Tryz.isAgg3
 z3:=Tryz.sizeOf3
 v3:=Tryz.zeroValue3
 t5:=Tryz.underlying5
 a5:=Tryz.isAgg5
 z5:=Tryz.sizeOf5
 v5:=Tryz.zeroValue5
 t9:=Tryz.underlying9
 a9:=Tryz.isAgg9
 z9:=Tryz.sizeOf9
 v9:=Tryz.zeroValue9 }
open Go.RowKit in
theorem Tryz.strings_IndexByte (s:ByteArray) (c:Int) (w:World) :
  Calls Tryz.prog 45 #[.string s,.int .u8 c] w fun e w'=>e=.returned (.int .i64 (Lib.indexByte s.data.toList c.toNat.toUInt8))∧w'=w:=Any.strings_IndexByte Tryz.lays137 s c w
end Go.Proofs
/- Lists of data as cells. -/
namespace Go.Proofs.Tryz
open Go.Ab
@[simp] theorem cvAs_d (r:Nat→Option Nat) (bl:Nat→Blk) (kn:Bool):∀ l:List D,cvAs r bl kn (l.map AV.d)=(l.map AV.d,[])
  | []=>rfl
  | x::l=>by rw [List.map_cons,cvAs,cvAs_d r bl kn l]; rfl
@[simp] theorem toDs_d (bl:Nat→Blk):∀ l:List D,toDs bl (l.map AV.d)=some (l,[])
  | []=>rfl
  | x::l=>by rw [List.map_cons,toDs,toDs_d bl l]; rfl
@[simp] theorem names_d:∀ l:List D,List.flatMap AV.names (l.map AV.d)=[]
  | []=>rfl
  | x::l=>by rw [List.map_cons,List.flatMap_cons,names_d l]; rfl
end Go.Proofs.Tryz
