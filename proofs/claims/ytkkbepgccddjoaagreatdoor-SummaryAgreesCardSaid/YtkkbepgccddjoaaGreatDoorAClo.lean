import Derived.Test.YtkkbepgccddjoaaGreatDoorOrs
import Derived.Test.YtkkbepgccddjoaaGreatDoorAShy
import Derived.Test.YtkkbepgccddjoaaGreatDoorARe0
import Derived.Test.YtkkbepgccddjoaaGreatDoorAExp
import Derived.Shelf.Sort.Plain
import Derived.Shelf.Slices.CompactI
import Derived.Shelf.Slices.In.SortNone
import Derived.Test.YtkkbepgccddjoaaGreatDoorProg
import Derived.Test.YtkkbepgccddjoaaGreatDoorANamp
import Derived.Test.YtkkbepgccddjoaaGreatDoorAbB
set_option linter.all false
namespace Go.Proofs.Tryz
open Go.Ab
set_option maxRecDepth 100000
set_option maxHeartbeats 1000000
def fkO (S:List Tb) (k:Nat):List Fk:=match S[k]? with | some x=>x.fk | none=>[]
theorem keyO_eq (S:List Tb) (k:Nat):keyO S k=keysT S (fkO S k) []:=by
 unfold keyO fkO
 cases S[k]? <;> rfl
theorem keyO_mem {S:List Tb} {k:Nat} {z:Int}:z∈keyO S k↔∃ f∈fkO S k,tgt S f=z:=by
 rw [keyO_eq,keysT_mem]
 simp
theorem keyO_nodup {S:List Tb} {k:Nat}:(keyO S k).Nodup:=by
 rw [keyO_eq]
 exact keysT_nodup List.nodup_nil
def rdyO (S:List Tb) (done:Nat→Bool) (k:Nat):Bool:=!done k&&(fkO S k).all fun f=>done (tgt S f).toNat
def nextR (S:List Tb) (done:Nat→Bool):Int:=fidx (rdyO S done) (seqF (fun k=>k) S.length) 0
def dnO (done:Nat→Bool) (z:Int) (k:Nat):Bool:=done k||decide ((k:Int)=z)
def loopR (S:List Tb):Nat→(Nat→Bool)→List Int→List Int×Int
 | 0,_,out=>(out,0)
 | n+1,done,out=>if nextR S done<0 then ([],7) else loopR S n (dnO done (nextR S done)) (out++[nextR S done])
theorem fidx_congr {α:Type} {p q:α→Bool}:∀ {l:List α} {i:Nat},(∀ x∈l,p x=q x)→fidx p l i=fidx q l i
 | [],_,_=>rfl
 | x::l,i,h=>by
   rw [fidx,fidx,h x List.mem_cons_self,fidx_congr fun y hy=>h y (List.mem_cons_of_mem _ hy)]
structure OkO (S:List Tb) (al:Nat→Bool) (es:Nat→List Int) (done:Nat→Bool):Prop where
 ha:∀ k,k<S.length→al k=!done k
 nd:∀ k,k<S.length→(es k).Nodup
 mem:∀ k,k<S.length→al k=true→∀ z,z∈es k↔(∃ f∈fkO S k,tgt S f=z)∧done z.toNat=false
theorem next_eq {S:List Tb} {al:Nat→Bool} {es:Nat→List Int} {done:Nat→Bool} (h:OkO S al es done):nextO S.length al es=nextR S done:=by
 unfold nextO nextR
 refine fidx_congr fun k hk=>?_
 obtain ⟨j,hj,hkj⟩:=seqF_mem.1 hk
 subst hkj
 unfold rdyO
 rw [← h.ha k hj]
 cases ha:al k
 ·rfl
 ·rw [Bool.true_and,Bool.true_and,Bool.eq_iff_iff,beq_iff_eq,List.length_eq_zero_iff,List.all_eq_true,List.eq_nil_iff_forall_not_mem]
  constructor
  ·intro h1 f hf
   cases hd:done (tgt S f).toNat
   ·exact absurd ((h.mem k hj ha _).2 ⟨⟨f,hf,rfl⟩,hd⟩) (h1 _)
   ·rfl
  ·intro h1 z hz
   obtain ⟨⟨f,hf,rfl⟩,hd⟩:=(h.mem k hj ha _).1 hz
   rw [h1 f hf] at hd
   cases hd
theorem okO_step {S:List Tb} {al:Nat→Bool} {es:Nat→List Int} {done:Nat→Bool} (hT:∀ k,∀ f∈fkO S k,0≤tgt S f) (h:OkO S al es done) {z:Int} (hz:0≤z):OkO S (alO al z) (esO al es z) (dnO done z):=by
 refine ⟨fun k hk=>?_,fun k hk=>?_,fun k hk ha y=>?_⟩
 ·unfold alO dnO
  rw [h.ha k hk,Bool.not_or]
  congr 1
 ·unfold esO
  split
  ·exact (h.nd k hk).erase z
  ·exact h.nd k hk
 ·unfold esO
  rw [if_pos ha,(h.nd k hk).mem_erase_iff,h.mem k hk (by unfold alO at ha; rw [Bool.and_eq_true] at ha; exact ha.1)]
  unfold dnO
  rw [Bool.or_eq_false_iff,decide_eq_false_iff_not]
  constructor
  ·rintro ⟨h1,⟨f,hf,rfl⟩,h2⟩
   have:=hT k f hf
   exact ⟨⟨f,hf,rfl⟩,h2,by omega⟩
  ·rintro ⟨⟨f,hf,rfl⟩,h2,h3⟩
   have:=hT k f hf
   exact ⟨by omega,⟨f,hf,rfl⟩,h2⟩
theorem loop_eq {S:List Tb} (hT:∀ k,∀ f∈fkO S k,0≤tgt S f):∀ (n:Nat) {al:Nat→Bool} {es:Nat→List Int} {done:Nat→Bool} {out:List Int},OkO S al es done→loopO S.length n al es out=loopR S n done out
 | 0,_,_,_,_,_=>rfl
 | n+1,al,es,done,out,h=>by
   rw [loopO,loopR,next_eq h]
   split
   ·rfl
   ·rename_i hz
    exact loop_eq hT n (okO_step hT h (by omega))
theorem fkO_mem {S:List Tb} {k:Nat} {f:Fk} (h:f∈fkO S k):∃ x∈S,f∈x.fk:=by
 unfold fkO at h
 split at h
 ·rename_i x hx
  exact ⟨x,List.mem_of_getElem? hx,h⟩
 ·cases h
theorem miss_all {S:List Tb} (h:missT S=false) (k:Nat):∀ f∈fkO S k,0≤tgt S f:=by
 intro f hf
 obtain ⟨x,hx,hfx⟩:=fkO_mem hf
 unfold missT at h
 rw [List.any_eq_false] at h
 have:=h x hx
 rw [List.any_eq_true] at this
 by_cases h0:0≤tgt S f
 ·exact h0
 ·exact absurd ⟨f,hfx,by simp; omega⟩ this
theorem ordS_ref (S:List Tb):ordS S=if missT S=true then ([],11) else loopR S S.length (fun _=>false) []:=by
 unfold ordS
 split
 ·rfl
 ·rename_i h
  have hm:missT S=false:=by simpa using h
  refine loop_eq (fun k=>miss_all hm k) _ ⟨fun _ _=>rfl,fun k _=>keyO_nodup,fun k _ _ z=>?_⟩
  rw [keyO_mem]
  simp
end Go.Proofs.Tryz
namespace Go.Proofs.Tryz
open Go.Ab
set_option maxRecDepth 100000
set_option maxHeartbeats 2000000
instance V.dec:DecidableEq V:=fun a b =>
 if h:a.k=b.k∧a.n=b.n∧a.t=b.t then .isTrue (by cases a; cases b; simp only at h; obtain ⟨rfl,rfl,rfl⟩:=h; rfl) else .isFalse fun e=>by subst e; exact h ⟨rfl,rfl,rfl⟩
theorem cmpI_eq {a b:Int} (h:cmpI a b=0):a=b:=by
 rcases cmpI_cases a b with ⟨_,h1,_⟩ | ⟨h1,_,_⟩ | ⟨_,h1,_⟩
 ·omega
 ·exact h1
 ·omega
def V.lt (v u:V):Prop:=v.cmp u<0
def V.le (v u:V):Prop:=v.cmp u≤0
theorem V.le_trans {a b c:V} (h1:a.le b) (h2:b.le c):a.le c:=V.cmp_trans h1 h2
theorem V.le_refl (v:V):v.le v:=by unfold V.le; rw [V.cmp_self]; omega
structure At where
 col:Int
 op:Int
 v:V
def At.c (x:At):List D:=[.int .i64 x.col,.int .i64 x.op,.int .i64 x.v.k,.int .i64 x.v.n,.str x.v.t]
def At.a (x:At):AV:=.agg (x.c.map AV.d)
def colX (c:Int):Ex:=.mk 5 0 0 [] c []
def At.ex (x:At):Ex:=if x.op=5 then colX x.col else if x.op=21 then .mk 21 0 0 [] 0 [colX x.col] else .mk x.op 0 0 [] 0 [colX x.col,constOf x.v 0]
def At.zero (x:At):At:=⟨0,x.op,x.v⟩
end Go.Proofs.Tryz
namespace Go.Proofs
open Go.Shelf
def Tryz.lays189_ren:Go.Shelf.Ren:=⟨fun | 189=>179 | 125=>224 | 257=>223 | 128=>252 | 129=>253 | 294=>244 | 295=>245 | 296=>246 | 297=>247 | 298=>248 | 299=>249 | 216=>173 | 300=>250 | 301=>251 | 328=>266 | 329=>267 | 330=>268 | 331=>269 | 332=>270 | 215=>220 | 343=>280 | n=>n,fun | 28=>22 | 3=>3 | 46=>203 | 0=>0 | 51=>76 | 53=>253 | 4=>4 | 183=>246 | 182=>245 | 131=>101 | 5=>5 | 9=>9 | 218=>260 | 222=>264 | 228=>270 | 229=>271 | n=>n,fun | n=>n⟩
theorem Tryz.lays189:Go.Proofs.Lays.n189 Tryz.prog Tryz.lays189_ren:={
 mixed:=by kernel_rfl
 f125:=Tryz.func224.trans (congrArg some (by kernel_rfl))
 f128:=Tryz.func252.trans (congrArg some (by kernel_rfl))
 f129:=Tryz.func253.trans (congrArg some (by kernel_rfl))
 f189:=Tryz.func179.trans (congrArg some (by kernel_rfl))
 f215:=Tryz.func220.trans (congrArg some (by kernel_rfl))
 f216:=Tryz.func173.trans (congrArg some (by kernel_rfl))
 f257:=Tryz.func223.trans (congrArg some (by kernel_rfl))
 f294:=Tryz.func244.trans (congrArg some (by kernel_rfl))
 f295:=Tryz.func245.trans (congrArg some (by kernel_rfl))
 f296:=Tryz.func246.trans (congrArg some (by kernel_rfl))
 f297:=Tryz.func247.trans (congrArg some (by kernel_rfl))
 f298:=Tryz.func248.trans (congrArg some (by kernel_rfl))
 f299:=Tryz.func249.trans (congrArg some (by kernel_rfl))
 f300:=Tryz.func250.trans (congrArg some (by kernel_rfl))
 f301:=Tryz.func251.trans (congrArg some (by kernel_rfl))
 f328:=Tryz.func266.trans (congrArg some (by kernel_rfl))
 f329:=Tryz.func267.trans (congrArg some (by kernel_rfl))
 f330:=Tryz.func268.trans (congrArg some (by kernel_rfl))
 f331:=Tryz.func269.trans (congrArg some (by kernel_rfl))
 f332:=Tryz.func270.trans (congrArg some (by kernel_rfl))
 f343:=Tryz.func280.trans (congrArg some (by kernel_rfl))
 t0:=Tryz.underlying0
 a0:=Tryz.isAgg0
 z0:=Tryz.sizeOf0
 v0:=Tryz.zeroValue0
 t3:=Tryz.underlying3
 a3:=Tryz.isAgg3
 z3:=Tryz.sizeOf3
 v3:=Tryz.zeroValue3
 t4:=Tryz.underlying4
 a4:=Tryz.isAgg4
 z4:=Tryz.sizeOf4
 v4:=Tryz.zeroValue4
 t5:=Tryz.underlying5
 a5:=Tryz.isAgg5
 z5:=Tryz.sizeOf5
 v5:=Tryz.zeroValue5
 t9:=Tryz.underlying9
 a9:=Tryz.isAgg9
 z9:=Tryz.sizeOf9
 v9:=Tryz.zeroValue9
 t28:=Tryz.underlying22
 a28:=Tryz.isAgg22
 z28:=Tryz.sizeOf22
 v28:=Tryz.zeroValue22
 t46:=Tryz.underlying203
 a46:=Tryz.isAgg203
 z46:=Tryz.sizeOf203
 v46:=Tryz.zeroValue203
 t51:=Tryz.underlying76
 a51:=Tryz.isAgg76
 z51:=Tryz.sizeOf76
 v51:=Tryz.zeroValue76
 t53:=Tryz.underlying253
 a53:=Tryz.isAgg253
 z53:=Tryz.sizeOf253
 v53:=Tryz.zeroValue253
 t131:=Tryz.underlying101
 a131:=Tryz.isAgg101
 z131:=Tryz.sizeOf101
 v131:=Tryz.zeroValue101
 t182:=Tryz.underlying245
 a182:=Tryz.isAgg245
 z182:=Tryz.sizeOf245
 v182:=Tryz.zeroValue245
 t183:=Tryz.underlying246
 a183:=Tryz.isAgg246
 z183:=Tryz.sizeOf246
 v183:=Tryz.zeroValue246
 t218:=Tryz.underlying260
 a218:=Tryz.isAgg260
 z218:=Tryz.sizeOf260
 v218:=Tryz.zeroValue260
 t222:=Tryz.underlying264
 a222:=Tryz.isAgg264
 z222:=Tryz.sizeOf264
 v222:=Tryz.zeroValue264
 t228:=Tryz.underlying270
 a228:=Tryz.isAgg270
 z228:=Tryz.sizeOf270
 v228:=Tryz.zeroValue270
 t229:=Tryz.underlying271
 a229:=Tryz.isAgg271
 z229:=Tryz.sizeOf271
 v229:=Tryz.zeroValue271 }
open Go.Sort Go.RowKit in
theorem Tryz.slices_Sort_int (blk off cap:Nat) (zs:List Int) (w:World) (hH:Holds (Value.int .i64) w blk off zs.toArray) (hblk:blk<w.heap.size) (hsz:zs.length<4611686018427387904) :
  Calls Tryz.prog 179 #[.slice (some ⟨blk,off,none⟩) zs.length cap] w fun e w' =>
   e=.returned (.tuple #[])∧∃ n os,w'=grow (putRow (Value.int .i64) (Sort.ahead w n) blk off (zs.mergeSort fun x y=>decide (x≤y)).toArray) os:=Any.slices_Sort_int Tryz.lays189 blk off cap zs w hH hblk hsz
def Tryz.laysNm220_ren:Go.Shelf.Ren:=⟨fun | 20=>180 | n=>n,fun | 22=>22 | 3=>3 | 4=>4 | 0=>0 | n=>n,fun | n=>n⟩
theorem Tryz.laysNm220:Go.Proofs.Lays2.n20 Tryz.prog Tryz.laysNm220_ren:={
 mixed:=by kernel_rfl
 f20:=Tryz.func180.trans (congrArg some (by kernel_rfl))
 t0:=Tryz.underlying0
 a0:=Tryz.isAgg0
 z0:=Tryz.sizeOf0
 v0:=Tryz.zeroValue0
 t3:=Tryz.underlying3
 a3:=Tryz.isAgg3
 z3:=Tryz.sizeOf3
 v3:=Tryz.zeroValue3
 t4:=Tryz.underlying4
 a4:=Tryz.isAgg4
 z4:=Tryz.sizeOf4
 v4:=Tryz.zeroValue4
 t22:=Tryz.underlying22
 a22:=Tryz.isAgg22
 z22:=Tryz.sizeOf22
 v22:=Tryz.zeroValue22
 i3:=by kernel_rfl }
open Go.RowKit Go.Lib Go.Sort in
theorem Tryz.slices_Compact_int (blk off cap:Nat) (zs:List Int) (w:World) (hH:Holds (Value.int .i64) w blk off zs.toArray) (hsz:zs.length≤9223372036854775807) (hcap:zs.length≤cap) :
  Calls Tryz.prog 180 #[.slice (some ⟨blk,off,none⟩) zs.length cap] w fun e w'=>e=.returned (.slice (some ⟨blk,off,none⟩) (Lib.compact zs).length cap)∧∃ q,w'=putRow (Value.int .i64) (Sort.ahead w q) blk off (Lib.compact zs++List.replicate (zs.length - (Lib.compact zs).length) 0).toArray:=Any.slices_Compact_int Tryz.laysNm220 blk off cap zs w hH hsz hcap
open Go.RowKit Go.Lib Go.Sort in
theorem Tryz.slices_Compact_int_empty (a:Option Addr) (cap:Nat) (w:World) :
  Calls Tryz.prog 180 #[.slice a 0 cap] w fun e w'=>e=.returned (.slice a 0 cap)∧w'=w:=Any.slices_Compact_int_empty Tryz.laysNm220 a cap w
open Go.RowKit Go.Sort in
theorem Tryz.slices_Sort_int_none (p:Option Addr) (cap:Nat) (w:World) :
  Calls Tryz.prog 179 #[.slice p 0 cap] w fun e w'=>e=.returned (.tuple #[])∧w'=w:=Any.slices_Sort_int_none Tryz.lays189 p cap w
end Go.Proofs
namespace Go.Proofs.Tryz
open Go.Ab
def srt (l:List Int):List Int:=l.mergeSort fun x y=>decide (x≤y)
theorem srt_len (l:List Int):(srt l).length=l.length:=List.length_mergeSort _
def insAt (l:List Int) (n:Int):Nat:=(l.takeWhile fun x=>decide (x<n)).length
def ins (l:List Int) (n:Int):List Int:=if l[insAt l n]?=some n then l else l.take (insAt l n)++n::l.drop (insAt l n)
mutual
def Ex.cols:Ex→List Int
 | .mk o _ _ _ g ks=>Go.Lib.compact (srt ((if o=5 then [g] else [])++colsAll ks))
def colsAll:List Ex→List Int
 | []=>[]
 | e::es=>e.cols++colsAll es
end
end Go.Proofs.Tryz
namespace Go.Proofs.Tryz
open Go.Ab
set_option maxRecDepth 100000
def isI64 (v:Value):Prop:=∃ m,v=.int .i64 m
def esG (g:Nat):Option (List D):=if g=1 then some [.int .i64 0,.int .i64 0,.str []] else if g=0 then some opsC else if g=2 then some [.any isI64] else none
noncomputable def Es:Env:=⟨Tryz.prog,esG⟩
@[simp] theorem Es_P:Es.P=Tryz.prog:=id rfl
@[simp] theorem Es_G (g:Nat):Es.G g=esG g:=rfl
theorem mixs:Es.P.follows .mixedOrders=true:=by kernel_rfl
theorem upo {f:FuncId} {xs:List AV} {B:List Blk} {y:AV} {B':List Blk} (h:Cf Eo f xs B y B'):Cf Es f xs B y B' :=
 Cf.more (E:=Eo) (E':=Es) rfl (fun g cs e=>by
  rw [Eo_G] at e
  rw [Es_G,esG]
  split at e
  ·rename_i h0; rw [if_pos h0]; exact e
  ·rename_i h0
   split at e
   ·rename_i h1; rw [if_neg h0,if_pos h1]; exact e
   ·cases e) h
theorem ups {f:FuncId} {xs:List AV} {B:List Blk} {y:AV} {B':List Blk} (h:Cf En f xs B y B'):Cf Es f xs B y B':=upo (up h)
def words:List (List UInt8):=[[115,101,108,101,99,116],[100,105,115,116,105,110,99,116],[97,108,108],[102,114,111,109],[119,104,101,114,101],[103,114,111,117,112],[98,121],[104,97,118,105,110,103],[97,115],[111,110],[117,110,105,111,110],[101,120,99,101,112,116],[105,110,116,101,114,115,101,99,116],[106,111,105,110],[105,110,110,101,114],[108,101,102,116],[114,105,103,104,116],[102,117,108,108],[99,114,111,115,115],[115,101,109,105],[97,110,116,105],[97,110,100],[111,114],[110,111,116],[105,115],[110,117,108,108],[116,114,117,101],[102,97,108,115,101],[105,110],[99,97,115,101],[119,104,101,110],[116,104,101,110],[101,108,115,101],[101,110,100],[118,97,108,117,101,115],[116,97,98,108,101],[112,114,105,109,97,114,121],[117,110,105,113,117,101],[102,111,114,101,105,103,110],[114,101,102,101,114,101,110,99,101,115],[99,104,101,99,107],[105,110,116],[98,111,111,108],[116,101,120,116],[99,111,117,110,116],[115,117,109],[109,105,110],[109,97,120],[99,111,97,108,101,115,99,101],[108,101,110,103,116,104],[115,97,109,101],[109,111,100]]
theorem rest_cell {w:World} {g:Gh} {B:List Blk} {bl:Nat→Blk} (m:Mem (ctxOf Es w g B) bl w g):∃ n,w.cell? ⟨2,0,none⟩=some (.int .i64 n):=by
 have hc:=m.glob 2 [.any isI64] (by simp [ctxOf,esG])
 simp only [RepCells,RepD] at hc
 obtain ⟨⟨v,hv,⟨n,rfl⟩,_⟩,_⟩:=hc
 exact ⟨n,m.con _ _ _ hv⟩
theorem c_contains (s sub:List UInt8) (hs:s.length<4294967281):Cf Es 207 [.d (.str s),.d (.str sub)] [] (.d (.bool (within sub s))) []:=by
 refine cf_of_calls (by kernel_rfl) fun w g vs hr m=>?_
 obtain ⟨_,_,rfl,r1,_,_,rfl,r2,r3⟩:=hr
 simp only [RepAs] at r3
 subst r3
 simp only [RepA,RepD] at r1 r2
 subst r1 r2
 obtain ⟨n,hn⟩:=rest_cell m
 refine (Tryz.strings_Contains _ _ n w (by simpa [ByteArray.size_mk'] using hs) hn).mono ?_
 rintro e w' ⟨rfl,rfl⟩
 refine ⟨_,rfl,?_,.refl _ _⟩
 simp only [RepA,RepD,Lib.contains,within_index]
end Go.Proofs.Tryz
namespace Go.Proofs.Tryz
open Go.Ab
set_option maxRecDepth 100000
set_option maxHeartbeats 4000000
theorem fidx_any {α:Type} {p:α→Bool}:∀ {l:List α} {i:Nat},decide (0≤fidx p l i)=l.any p
 | [],i=>by simp [fidx]
 | x::l,i=>by
   rw [fidx,List.any_cons]
   split
   ·rename_i h; rw [h]; simp
   ·rename_i h
    have h':p x=false:=by simpa using h
    rw [fidx_any,h',Bool.false_or]
theorem ints_one (l:List Int):∀ x∈ints l,x.length=1:=by
 intro x hx
 obtain ⟨n,_,rfl⟩:=List.mem_map.1 hx
 rfl
theorem i_index (l:List Int) (hl:l.length≤1000) (z:Int):Cf En 215 [.d (.sl (ints l)),.d (.int .i64 z)] [] (.d (.int .i64 (fidx (fun x=>z==x) l 0))) []:=by
 refine cf_intro mix (fn:=Tryz.f215) (by kernel_rfl) rfl (by kernel_rfl) (by decide) (by simp) ?_
 simp
 (repeat' (first|contradiction|exact .ok|apply And.intro|intro _|(refine gc (fun h=>?_) (fun h=>?_)<;>(have h':=h;(try simp at h');first|done|simp[h,h']|simp))))
 refine aloopT mix (by decide) (fun i:Nat=>{ s:=mkS [(0,.d (.sl (ints l))),(1,.d (.int .i64 z)),(7,.d (.int .i64 l.length)),(8,.d (.int .i64 i))],b:=mkB [] }) (fun i=>i≤l.length∧fidx (fun x=>z==x) (l.drop i) i=fidx (fun x=>z==x) l 0) (fun i=>l.length - i) 0 (by simp) (sub_mk _ [] .nil (by simp)) ?_
 rintro i ⟨hi,hf⟩
 by_cases hlt:i<l.length
 ·rw [fidx_drop hlt] at hf
  have hw:=wrap_in (n:=(i:Int)+1) (by omega) (by omega)
  obtain ⟨u,hu⟩:∃ u,u=l[i]:=⟨_,rfl⟩
  have hgi:∀ h,l[i]'h=u:=fun _=>hu.symm
  have hg:=ints_get hlt
  rw [← hu] at hf hg
  by_cases he:z=u
  ·subst he
   rw [if_pos (by simp)] at hf
   simp [hlt,hgi,hg,← hf]
   all_goals exact gz
  ·rw [if_neg (by simpa using he)] at hf
   simp [hlt,hgi,hg,he]
   (repeat' (first|contradiction|exact .ok|apply And.intro|intro _|(refine gc (fun h=>?_) (fun h=>?_)<;>(have h':=h;(try simp at h');first|done|simp[h,h',he]|simp[he]))))
   refine ⟨i+1,⟨by omega,by simpa using hf⟩,?_,by simp; omega⟩
   exact sub_mk _ [] .nil (by simp [hw])
 obtain rfl:i=l.length:=by omega
 rw [List.drop_length,fidx] at hf
 simp [← hf]
 all_goals exact gz
theorem i_contains (l:List Int) (hl:l.length≤1000) (z:Int):Cf En 161 [.d (.sl (ints l)),.d (.int .i64 z)] [] (.d (.bool (l.contains z))) []:=by
 refine cf_intro mix (fn:=Tryz.f161) (by kernel_rfl) rfl (by kernel_rfl) (by decide) (by simp) ?_
 have h:=fidx_any (p:=fun x=>z==x) (l:=l) (i:=0)
 have hc:l.contains z=l.any fun x=>z==x:=by rw [List.contains_eq_any_beq]
 rw [hc]
 simp
 (repeat' (first|contradiction|exact .ok|apply And.intro|intro _|(refine gc (fun h=>?_) (fun h=>?_)<;>(have h':=h;(try simp at h');first|done|simp[h,h']|simp))))
 refine acallT_plain (i_index l hl z) (by simp) ?_
 simp [h]
 all_goals exact gz
end Go.Proofs.Tryz
namespace Go.Proofs.Tryz
open Go.Ab
set_option maxRecDepth 100000
set_option maxHeartbeats 4000000
theorem s_cloneV (l:List V) (hl:l.length≤1000):Cf En 69 [.d (.sl (l.map V.c))] [] (.ref 1000000 0 l.length 3) [.arr 92 3 (l.map V.c) false]:=by
 refine cf_introS mix (fn:=Tryz.f69) (by kernel_rfl) rfl (by kernel_rfl) (by decide) (by simp) ?_
 cases l with
 | nil =>
   simp
   (repeat' (first|contradiction|exact .ok|apply And.intro|intro _|(refine gc (fun h=>?_) (fun h=>?_)<;>(have h':=h;(try simp at h');first|done|simp[h,h']|simp))))
   ·refine EndsS.mk _ (sub_nil (i:=2) (m:=9) (ety:=92) (sz:=3) (by simp) ?_ (by decide) (by decide)) ?_
    ·simp
    ·exact ⟨_,[(1000000,9,.arr 92 3 [] false)],by simp; rfl,⟨by simp,by simp,by simp [renOf,Blk.live],by simp⟩,by simp [List.zipIdx,firstName_eq],by simp [renOf]⟩
   ·refine EndsS.mk _ (.refl _ _ _ _) ?_
    exact ⟨_,[(1000000,7,.arr 92 3 [] false)],by simp; rfl,⟨by simp,by simp,by simp [renOf,Blk.live],by simp⟩,by simp [List.zipIdx,firstName_eq],by simp [renOf]⟩
 | cons a l =>
   have hs:=szs (l.length+1) (by simp at hl; omega) 32 (by decide)
   have hs2:=szs l.length (by simp at hl; omega) 32 (by decide)
   simp [hs,hs2,V.c]
   (repeat' (first|contradiction|exact .ok|apply And.intro|intro _|(refine gc (fun h=>?_) (fun h=>?_)<;>(have h':=h;(try simp at h');first|done|simp[h,h']|simp))))
   refine EndsS.mk _ (.refl _ _ _ _) ?_
   exact ⟨_,[(1000000,7,.arr 92 3 ((a::l).map V.c) false)],by simp; rfl,⟨by simp,by simp,by simp [renOf,Blk.live,V.c],by simp⟩,by simp [List.zipIdx,firstName_eq]; rfl,by simp [renOf]⟩
end Go.Proofs.Tryz
