import Derived.Test.YtklnfckiabhceaaGreatDoorKTxt
import Derived.Shelf.Sort.Plain
import Derived.Shelf.Slices.CompactI
import Derived.Shelf.Slices.In.SortNone
import Derived.Test.YtklnfckiabhceaaGreatDoorProg
import Derived.Shelf.Strings.Search3
set_option linter.all false
namespace Go.Proofs.Tryz
open Go.Ab
theorem badB_def (b:UInt8):badB b=(decide ((b.toNat:Int)<32)||(decide (126<(b.toNat:Int))||decide ((b.toNat:Int)=39))):=by
 unfold badB badN
 rw [Bool.eq_iff_iff]
 simp
 omega
theorem r_valid (v:V):Cf En 156 [v.a] [] (.d (.bool v.valid)) []:=by
 refine cf_intro mix (fn:=Tryz.f156) (by kernel_rfl) rfl (by kernel_rfl) (by decide) (by simp) ?_
 obtain ⟨k,n,t⟩:=v
 unfold V.valid V.a
 simp
 repeat' (first | exact .of (by kernel_rfl) | refine And.intro ?_ ?_ | intro _)
 all_goals try (refine agrd_cases (fun h=>?_) (fun h=>?_) <;> (have h':=h; (try simp at h'); simp [h,h']))
 repeat' (first | exact .of (by kernel_rfl) | refine And.intro ?_ ?_ | intro _)
 all_goals try (refine agrd_cases (fun h=>?_) (fun h=>?_) <;> (have h':=h; (try simp at h'); simp [h,h']))
 repeat' (first | exact .of (by kernel_rfl) | refine And.intro ?_ ?_ | intro _)
 all_goals try (refine agrd_cases (fun h=>?_) (fun h=>?_) <;> (have h':=h; (try simp at h'); simp [h,h']))
 repeat' (first | exact .of (by kernel_rfl) | refine And.intro ?_ ?_ | intro _)
 all_goals try (simp_all; done)
 ·simp_all [textOk]; omega
 ·have hl:t.length≤24:=by omega
  refine aloopT mix (by decide) (fun i:Nat=>{ s:=mkS [(1,.ptr 1 0 0),(3,.d (.int .i64 i))],b:=mkB [(1,1,.var [.d (.int .i64 k),.d (.int .i64 0),.d (.str t)])] }) (fun i:Nat=>i≤t.length∧∀ j (h:j<t.length),j<i→badB t[j]=false) (fun i=>t.length - i) 0 (by simp) (sub_mk _ _ ⟨by simp,by simp,by simp [renOf,Blk.live],by simp⟩ (by simp [renOf])) ?_
  rintro i ⟨hi,ho⟩
  by_cases hlt:i<t.length
  ·have hg:t[i]?=some t[i]:=List.getElem?_eq_getElem hlt
   have hbd:=badB_def t[i]
   simp [hlt,hg]
   have hbad:badB t[i]=true→textOk t=false:=fun h=>by
    unfold textOk
    rw [List.any_eq_true.2 ⟨_,List.getElem_mem hlt,h⟩]
    simp
   refine ⟨.of (by kernel_rfl),?_⟩
   refine agrd_cases (fun h=>?_) (fun h=>?_) <;> (have h':=h; (try simp at h'); simp [h,h',hg])
   ·refine agrd_cases (fun h=>?_) (fun h=>?_) <;> (have h':=h; (try simp at h'); simp [h,h',hg])
    ·refine ⟨.of (by kernel_rfl),fun h3=>⟨.of (by kernel_rfl),?_⟩,fun h3=>⟨.of (by kernel_rfl),i+1,⟨hlt,?_⟩,?_,?_⟩⟩
     ·simp_all
     ·intro j hj hji
      rcases Nat.lt_or_ge j i with c | c
      ·exact ho j hj c
      ·have:j=i:=by omega
       subst this
       rw [hbd]; simp; omega
     ·refine sub_mk _ [(1,1,_)] ⟨by simp,by simp,by simp [renOf,Blk.live],by simp⟩ ?_
      simp [renOf]
      exact wrap_in (by omega) (by omega)
     ·simp; omega
    ·refine ⟨.of (by kernel_rfl),.of (by kernel_rfl),?_⟩
     simp_all
   ·refine ⟨.of (by kernel_rfl),.of (by kernel_rfl),?_⟩
    simp_all
  ·simp [hlt]
   refine ⟨.of (by kernel_rfl),.of (by kernel_rfl),?_⟩
   have:textOk t=true:=by
    unfold textOk
    simp [hl]
    intro x hx
    obtain ⟨j,hj,rfl⟩:=List.getElem_of_mem hx
    exact ho j hj (by omega)
   simp_all
end Go.Proofs.Tryz
namespace Go.Proofs.Tryz
open Go.Ab
@[simp] theorem cvAs_d (r:Nat→Option Nat) (bl:Nat→Blk) (kn:Bool):∀ l:List D,cvAs r bl kn (l.map AV.d)=(l.map AV.d,[])
  | []=>rfl
  | x::l=>by rw [List.map_cons,cvAs,cvAs_d r bl kn l]; rfl
@[simp] theorem toDs_d (bl:Nat→Blk):∀ l:List D,toDs bl (l.map AV.d)=some (l,[])
  | []=>rfl
  | x::l=>by rw [List.map_cons,toDs,toDs_d bl l]; rfl
@[simp] theorem names_d:∀ l:List D,List.flatMap AV.names (l.map AV.d)=[]
  | []=>rfl
  | x::l=>by rw [List.map_cons,List.flatMap_cons,names_d l]; rfl
end Go.Proofs.Tryz
namespace Go.Proofs.Tryz
open Go.Ab
inductive Ex where
 | mk (o c n:Int) (t:List UInt8) (g:Int) (kids:List Ex)
def Ex.kids:Ex→List Ex | .mk _ _ _ _ _ ks=>ks
mutual
def Ex.c:Ex→List D
 | .mk o c n t g ks=>[.int .i64 o,.int .i64 c,.int .i64 n,.str t,.int .i64 g,.sl (kidsC ks)]
def kidsC:List Ex→List (List D)
 | []=>[]
 | e::es=>e.c::kidsC es
end
theorem kidsC_map:∀ l:List Ex,kidsC l=l.map Ex.c
 | []=>rfl
 | e::es=>by rw [kidsC,kidsC_map es]; rfl
def Ex.a (e:Ex):AV:=.agg (e.c.map AV.d)
theorem Ex.kid_lt {e k:Ex} (h:k∈e.kids):SizeOf.sizeOf k<SizeOf.sizeOf e:=by
 cases e
 have:=List.sizeOf_lt_of_mem h
 simp only [Ex.kids] at this
 simp only [Ex.mk.sizeOf_spec]
 omega
theorem Ex.clen (e:Ex):e.c.length=6:=by cases e; rfl
theorem Ex.ctake (e:Ex):List.take 6 (e.c.map AV.d)=e.c.map AV.d:=List.take_of_length_le (by simp [Ex.clen])
theorem Ex.ctake' (e:Ex):List.take 6 e.c=e.c:=List.take_of_length_le (by simp [Ex.clen])
end Go.Proofs.Tryz
namespace Go.Proofs
open Go.Shelf
def Tryz.lays189_ren:Go.Shelf.Ren:=⟨fun | 189=>126 | 125=>170 | 257=>169 | 128=>199 | 129=>200 | 294=>190 | 295=>191 | 296=>192 | 297=>193 | 298=>194 | 299=>195 | 216=>196 | 300=>197 | 301=>198 | 328=>216 | 329=>217 | 330=>218 | 331=>219 | 332=>220 | 215=>175 | 343=>237 | n=>n,fun | 28=>22 | 3=>3 | 46=>192 | 0=>0 | 51=>209 | 53=>211 | 4=>4 | 183=>203 | 182=>202 | 131=>54 | 5=>5 | 9=>9 | 218=>221 | 222=>225 | 228=>239 | 229=>240 | n=>n,fun | n=>n⟩
theorem Tryz.lays189:Go.Proofs.Lays.n189 Tryz.prog Tryz.lays189_ren:={
 mixed:=by kernel_rfl
 f125:=Tryz.func170.trans (congrArg some (by kernel_rfl))
 f128:=Tryz.func199.trans (congrArg some (by kernel_rfl))
 f129:=Tryz.func200.trans (congrArg some (by kernel_rfl))
 f189:=Tryz.func126.trans (congrArg some (by kernel_rfl))
 f215:=Tryz.func175.trans (congrArg some (by kernel_rfl))
 f216:=Tryz.func196.trans (congrArg some (by kernel_rfl))
 f257:=Tryz.func169.trans (congrArg some (by kernel_rfl))
 f294:=Tryz.func190.trans (congrArg some (by kernel_rfl))
 f295:=Tryz.func191.trans (congrArg some (by kernel_rfl))
 f296:=Tryz.func192.trans (congrArg some (by kernel_rfl))
 f297:=Tryz.func193.trans (congrArg some (by kernel_rfl))
 f298:=Tryz.func194.trans (congrArg some (by kernel_rfl))
 f299:=Tryz.func195.trans (congrArg some (by kernel_rfl))
 f300:=Tryz.func197.trans (congrArg some (by kernel_rfl))
 f301:=Tryz.func198.trans (congrArg some (by kernel_rfl))
 f328:=Tryz.func216.trans (congrArg some (by kernel_rfl))
 f329:=Tryz.func217.trans (congrArg some (by kernel_rfl))
 f330:=Tryz.func218.trans (congrArg some (by kernel_rfl))
 f331:=Tryz.func219.trans (congrArg some (by kernel_rfl))
 f332:=Tryz.func220.trans (congrArg some (by kernel_rfl))
 f343:=Tryz.func237.trans (congrArg some (by kernel_rfl))
 t0:=Tryz.underlying0
 a0:=Tryz.isAgg0
 z0:=Tryz.sizeOf0
 v0:=Tryz.zeroValue0
 t3:=Tryz.underlying3
 a3:=Tryz.isAgg3
 z3:=Tryz.sizeOf3
 v3:=Tryz.zeroValue3
 t4:=Tryz.underlying4
 a4:=Tryz.isAgg4
 z4:=Tryz.sizeOf4
 v4:=Tryz.zeroValue4
 t5:=Tryz.underlying5
 a5:=Tryz.isAgg5
 z5:=Tryz.sizeOf5
 v5:=Tryz.zeroValue5
 t9:=Tryz.underlying9
 a9:=Tryz.isAgg9
 z9:=Tryz.sizeOf9
 v9:=Tryz.zeroValue9
 t28:=Tryz.underlying22
 a28:=Tryz.isAgg22
 z28:=Tryz.sizeOf22
 v28:=Tryz.zeroValue22
 t46:=Tryz.underlying192
 a46:=Tryz.isAgg192
 z46:=Tryz.sizeOf192
 v46:=Tryz.zeroValue192
 t51:=Tryz.underlying209
 a51:=Tryz.isAgg209
 z51:=Tryz.sizeOf209
 v51:=Tryz.zeroValue209
 t53:=Tryz.underlying211
 a53:=Tryz.isAgg211
 z53:=Tryz.sizeOf211
 v53:=Tryz.zeroValue211
 t131:=Tryz.underlying54
 a131:=Tryz.isAgg54
 z131:=Tryz.sizeOf54
 v131:=Tryz.zeroValue54
 t182:=Tryz.underlying202
 a182:=Tryz.isAgg202
 z182:=Tryz.sizeOf202
 v182:=Tryz.zeroValue202
 t183:=Tryz.underlying203
 a183:=Tryz.isAgg203
 z183:=Tryz.sizeOf203
 v183:=Tryz.zeroValue203
 t218:=Tryz.underlying221
 a218:=Tryz.isAgg221
 z218:=Tryz.sizeOf221
 v218:=Tryz.zeroValue221
 t222:=Tryz.underlying225
 a222:=Tryz.isAgg225
 z222:=Tryz.sizeOf225
 v222:=Tryz.zeroValue225
 t228:=Tryz.underlying239
 a228:=Tryz.isAgg239
 z228:=Tryz.sizeOf239
 v228:=Tryz.zeroValue239
 t229:=Tryz.underlying240
 a229:=Tryz.isAgg240
 z229:=Tryz.sizeOf240
 v229:=Tryz.zeroValue240 }
open Go.Sort Go.RowKit in
theorem Tryz.slices_Sort_int (blk off cap:Nat) (zs:List Int) (w:World) (hH:Holds (Value.int .i64) w blk off zs.toArray) (hblk:blk<w.heap.size) (hsz:zs.length<4611686018427387904) :
  Calls Tryz.prog 126 #[.slice (some ⟨blk,off,none⟩) zs.length cap] w fun e w' =>
   e=.returned (.tuple #[])∧∃ n os,w'=grow (putRow (Value.int .i64) (Sort.ahead w n) blk off (zs.mergeSort fun x y=>decide (x≤y)).toArray) os:=Any.slices_Sort_int Tryz.lays189 blk off cap zs w hH hblk hsz
def Tryz.laysNm220_ren:Go.Shelf.Ren:=⟨fun | 20=>127 | n=>n,fun | 22=>22 | 3=>3 | 4=>4 | 0=>0 | n=>n,fun | n=>n⟩
theorem Tryz.laysNm220:Go.Proofs.Lays2.n20 Tryz.prog Tryz.laysNm220_ren:={
 mixed:=by kernel_rfl
 f20:=Tryz.func127.trans (congrArg some (by kernel_rfl))
 t0:=Tryz.underlying0
 a0:=Tryz.isAgg0
 z0:=Tryz.sizeOf0
 v0:=Tryz.zeroValue0
 t3:=Tryz.underlying3
 a3:=Tryz.isAgg3
 z3:=Tryz.sizeOf3
 v3:=Tryz.zeroValue3
 t4:=Tryz.underlying4
 a4:=Tryz.isAgg4
 z4:=Tryz.sizeOf4
 v4:=Tryz.zeroValue4
 t22:=Tryz.underlying22
 a22:=Tryz.isAgg22
 z22:=Tryz.sizeOf22
 v22:=Tryz.zeroValue22
 i3:=by kernel_rfl }
open Go.RowKit Go.Lib Go.Sort in
theorem Tryz.slices_Compact_int (blk off cap:Nat) (zs:List Int) (w:World) (hH:Holds (Value.int .i64) w blk off zs.toArray) (hsz:zs.length≤9223372036854775807) (hcap:zs.length≤cap) :
  Calls Tryz.prog 127 #[.slice (some ⟨blk,off,none⟩) zs.length cap] w fun e w'=>e=.returned (.slice (some ⟨blk,off,none⟩) (Lib.compact zs).length cap)∧∃ q,w'=putRow (Value.int .i64) (Sort.ahead w q) blk off (Lib.compact zs++List.replicate (zs.length - (Lib.compact zs).length) 0).toArray:=Any.slices_Compact_int Tryz.laysNm220 blk off cap zs w hH hsz hcap
open Go.RowKit Go.Lib Go.Sort in
theorem Tryz.slices_Compact_int_empty (a:Option Addr) (cap:Nat) (w:World) :
  Calls Tryz.prog 127 #[.slice a 0 cap] w fun e w'=>e=.returned (.slice a 0 cap)∧w'=w:=Any.slices_Compact_int_empty Tryz.laysNm220 a cap w
open Go.RowKit Go.Sort in
theorem Tryz.slices_Sort_int_none (p:Option Addr) (cap:Nat) (w:World) :
  Calls Tryz.prog 126 #[.slice p 0 cap] w fun e w'=>e=.returned (.tuple #[])∧w'=w:=Any.slices_Sort_int_none Tryz.lays189 p cap w
end Go.Proofs
namespace Go.Proofs
open Go.Shelf
def Tryz.lays144_ren:Go.Shelf.Ren:=⟨fun | 144=>114 | 143=>160 | 219=>186 | 217=>210 | 225=>211 | 224=>212 | 267=>213 | 266=>235 | 314=>236 | n=>n,fun | 9=>9 | 4=>4 | 3=>3 | 5=>5 | 46=>192 | 146=>237 | 51=>209 | n=>n,fun | 1=>2 | n=>n⟩
theorem Tryz.lays144:Go.Proofs.Lays.n144 Tryz.prog Tryz.lays144_ren:={
 mixed:=by kernel_rfl
 f143:=Tryz.func160.trans (congrArg some (by kernel_rfl))
 f144:=Tryz.func114.trans (congrArg some (by kernel_rfl))
 f217:=Tryz.func210.trans (congrArg some (by kernel_rfl))
 f219:=Tryz.func186.trans (congrArg some (by kernel_rfl))
 f224:=Tryz.func212.trans (congrArg some (by kernel_rfl))
 f225:=Tryz.func211.trans (congrArg some (by kernel_rfl))
 f266:=Tryz.func235.trans (congrArg some (by kernel_rfl))
 f267:=Tryz.func213.trans (congrArg some (by kernel_rfl))
 f314:=Tryz.func236.trans (congrArg some (by kernel_rfl))
 t3:=Tryz.underlying3
 a3:=Tryz.isAgg3
 z3:=Tryz.sizeOf3
 v3:=Tryz.zeroValue3
 t4:=Tryz.underlying4
 a4:=Tryz.isAgg4
 z4:=Tryz.sizeOf4
 v4:=Tryz.zeroValue4
 t5:=Tryz.underlying5
 a5:=Tryz.isAgg5
 z5:=Tryz.sizeOf5
 v5:=Tryz.zeroValue5
 t9:=Tryz.underlying9
 a9:=Tryz.isAgg9
 z9:=Tryz.sizeOf9
 v9:=Tryz.zeroValue9
 t46:=Tryz.underlying192
 a46:=Tryz.isAgg192
 z46:=Tryz.sizeOf192
 v46:=Tryz.zeroValue192
 t51:=Tryz.underlying209
 a51:=Tryz.isAgg209
 z51:=Tryz.sizeOf209
 v51:=Tryz.zeroValue209
 t146:=Tryz.underlying237
 a146:=Tryz.isAgg237
 z146:=Tryz.sizeOf237
 v146:=Tryz.zeroValue237
 g1:=by kernel_rfl }
open Go.RowKit Go.Lib in
theorem Tryz.strings_Contains (s sub:ByteArray) (m:Int) (w:World) (hs:s.size<4294967281) (hm:w.cell? ⟨2,0,none⟩=some (.int .i64 m)) :
  Calls Tryz.prog 114 #[.string s,.string sub] w fun e w'=>e=.returned (.bool (Lib.contains s.data.toList sub.data.toList))∧w'=w:=Any.strings_Contains Tryz.lays144 s sub m w hs hm
end Go.Proofs
