import Derived.Test.YtckddobnichkhaaGreatDoorLif
import Derived.Test.YtckddobnichkhaaGreatDoorQVpa
import Derived.Test.YtckddobnichkhaaGreatDoorFue
import Derived.Test.YtckddobnichkhaaGreatDoorPru
import Derived.Test.YtckddobnichkhaaGreatDoorTy
import Derived.Test.YtckddobnichkhaaGreatDoorAbB
import Derived.Lib.ItoaNum
import Derived.Test.YtckddobnichkhaaGreatDoorQExc0
import Derived.Test.YtckddobnichkhaaGreatDoorPre
set_option linter.all false
/- What is read does not hang on where the tokens lie; the place of an error moves with them: statements. No program in sight. -/
namespace Go.Proofs.Tryz
open Go.Ab
set_option maxRecDepth 100000
set_option maxHeartbeats 8000000
section
variable {f:Tk→Tk} {g:Nat→Nat} (hf:∀ t,(f t).kd=t.kd∧(f t).rw=t.rw∧(f t).tx=t.tx∧(f t).n=t.n∧(f t).fr=g t.fr)
variable {tm tm':List Tk→Res Tm} {st st':List Tk→Res Sm}
variable (hT:∀ l,okE l→Sim f g (tm l) (tm' (l.map f))) (hS:∀ l,okE l→Sim f g (st l) (st' (l.map f)))
include hf
theorem opt_map (w:List UInt8) (l:List Tk):optW w (l.map f)=((optW w l).1,(optW w l).2.map f):=by
 unfold optW
 rw [isW_map hf]
 split
 ·rw [List.map_tail]
 ·rfl
omit hf in
theorem opt_ok {w:List UInt8} {l:List Tk} (h:okE l):okE (optW w l).2:=by
 unfold optW
 split
 ·rename_i hw; exact h.tl hw
 ·exact h
theorem sim_as {l:List Tk} (h:okE l):Sim f g (asS l) (asS (l.map f)):=by
 unfold asS
 rw [isW_map hf]
 split
 ·rename_i hw
  rw [← List.map_tail]
  exact sim_name hf (h.tl hw)
 ·exact .ok h
include hT in
theorem sim_item {l:List Tk} (h:okE l):Sim f g (itemS tm l) (itemS tm' (l.map f)) :=
 sim2 (hT l h) fun t m hm=>sim2 (sim_as hf hm) fun n m2 h2=>.ok h2
include hT in
theorem sim_items:∀ (k:Nat) (is:List It) (l:List Tk),okE l→Sim f g (itemsS tm k is l) (itemsS tm' k is (l.map f))
 | 0,is,l,h=>.ok h
 | k+1,is,l,h=>by
   rw [itemsS,itemsS,isW_map hf]
   split
   ·rename_i hw
    rw [← List.map_tail]
    exact sim2 (sim_item hf hT (h.tl hw)) fun i m hm=>sim_items k _ m hm
   ·exact .ok h
include hS in
theorem sim_source {l:List Tk} (h:okE l):Sim f g (sourceS st l) (sourceS st' (l.map f)):=by
 unfold sourceS
 rw [isW_map hf]
 split
 ·rename_i hw
  rw [← List.map_tail]
  exact sim2 (hS _ (h.tl hw)) fun x m hm=>sim1 hf _ hm fun m2 h2=>sim2 (sim_name hf h2) fun n m3 h3=>.ok h3
 ·exact sim2 (sim_name hf h) fun t m hm=>sim2 (sim_as hf hm) fun n m2 h2=>.ok h2
include hT hS in
theorem sim_join (k:Nat) {l:List Tk} (h:okE l):Sim f g (joinS tm st k l) (joinS tm' st' k (l.map f)):=by
 unfold joinS
 refine sim1 hf _ h fun m hm=>sim2 (sim_source hf hS hm) fun s m2 h2=>?_
 split
 ·exact .ok h2
 ·exact sim1 hf _ h2 fun m3 h3=>sim2 (hT m3 h3) fun t m4 h4=>.ok h4
include hT hS in
theorem sim_joins:∀ (k:Nat) (js:List Jo) (l:List Tk),okE l→Sim f g (joinsS tm st k js l) (joinsS tm' st' k js (l.map f))
 | 0,js,l,h=>.ok h
 | k+1,js,l,h=>by
   rw [joinsS,joinsS,one_map hf]
   cases ho:oneOf joiW l with
   | some i =>
     simp only
     rw [← List.map_tail]
     exact sim2 (sim_join hf hT hS _ (h.tl1 ho)) fun j m hm=>sim_joins k _ m hm
   | none =>
     simp only
     rw [isW_map hf]
     split
     ·exact sim2 (sim_join hf hT hS _ h) fun j m hm=>sim_joins k _ m hm
     ·exact .ok h
include hT in
theorem sim_one (w:List UInt8) {l:List Tk} (h:okE l):Sim f g (oneS tm w l) (oneS tm' w (l.map f)):=by
 unfold oneS
 rw [isW_map hf]
 split
 ·rename_i hw
  rw [← List.map_tail]
  exact sim2 (hT _ (h.tl hw)) fun t m hm=>.ok hm
 ·exact .ok h
include hT in
theorem sim_group {l:List Tk} (h:okE l):Sim f g (groupS tm l) (groupS tm' (l.map f)):=by
 unfold groupS
 rw [isW_map hf]
 split
 ·rename_i hw
  rw [← List.map_tail]
  exact sim1 hf _ (h.tl hw) fun m hm=>sim2 (hT m hm) fun t m2 h2=>by
   rw [List.length_map]
   exact sim_more hf hT _ _ m2 h2
 ·exact .ok h
include hT in
theorem sim_star {l:List Tk} (h:okE l):Sim f g (starS tm l) (starS tm' (l.map f)):=by
 unfold starS
 rw [isW_map hf]
 split
 ·rename_i hw
  rw [← List.map_tail]
  exact .ok (h.tl hw)
 ·exact sim2 (sim_item hf hT h) fun i m hm=>by
   rw [List.length_map]
   exact sim_items hf hT _ _ m hm
include hT hS in
theorem sim_sel {l:List Tk} (h:okE l):Sim f g (selS tm st l) (selS tm' st' (l.map f)):=by
 unfold selS
 refine sim1 hf _ h fun m hm=>?_
 rw [opt_map hf]
 simp only
 rw [isW_map hf]
 exact sim2 (sim_star hf hT (opt_ok hm)) fun is m2 h2=>sim1 hf _ h2 fun m3 h3=>sim2 (sim_source hf hS h3) fun s m4 h4=>by
  rw [List.length_map]
  exact sim2 (sim_joins hf hT hS _ _ m4 h4) fun js m5 h5=>sim2 (sim_one hf hT _ h5) fun w m6 h6=>sim2 (sim_group hf hT h6) fun gr m7 h7=>sim2 (sim_one hf hT _ h7) fun hv m8 h8=>.ok h8
include hT hS in
theorem sim_core {l:List Tk} (h:okE l):Sim f g (coreS tm st l) (coreS tm' st' (l.map f)):=by
 unfold coreS
 rw [isW_map hf]
 split
 ·rename_i hw
  rw [← List.map_tail]
  exact sim2 (hS _ (h.tl hw)) fun x m hm=>sim1 hf _ hm fun m2 h2=>.ok h2
 ·exact sim_sel hf hT hS h
include hT hS in
theorem sim_stmt:∀ (k:Nat) (x:Sm) (l:List Tk),okE l→Sim f g (stmtS tm st k x l) (stmtS tm' st' k x (l.map f))
 | 0,x,l,h=>.ok h
 | k+1,x,l,h=>by
   rw [stmtS,stmtS,one_map hf]
   cases ho:oneOf setW l with
   | none=>exact .ok h
   | some i =>
     simp only
     rw [← List.map_tail,opt_map hf]
     exact sim2 (sim_core hf hT hS (opt_ok (h.tl1 ho))) fun y m hm=>sim_stmt k _ m hm
end
section
variable {f:Tk→Tk} {g:Nat→Nat} (hf:∀ t,(f t).kd=t.kd∧(f t).rw=t.rw∧(f t).tx=t.tx∧(f t).n=t.n∧(f t).fr=g t.fr)
include hf
theorem stmtP_sim (N:Nat):∀ (n:Nat) (l:List Tk),okE l→Sim f g (stmtP N n l) (stmtP N n (l.map f))
 | 0,l,h=>by
   rw [stmtP,stmtP,pos_map hf h]
   exact rfl
 | n+1,l,h=>by
   rw [stmtP,stmtP]
   exact sim2 (sim_core hf (par_sim hf N 0) (stmtP_sim N n) h) fun x m hm=>by
    rw [List.length_map]
    exact sim_stmt hf (par_sim hf N 0) (stmtP_sim N n) _ _ m hm
end
end Go.Proofs.Tryz
/- Enough fuel is enough for statements, too. No program in sight. -/
namespace Go.Proofs.Tryz
open Go.Ab
set_option maxRecDepth 100000
set_option maxHeartbeats 4000000
theorem bindE {α β:Type} {r r':Res α} {l:List Tk} (h:r=r') (hs:SfxOk r l) {f g:α→List Tk→Res β} (hf:∀ t l',l'.length≤l.length→f t l'=g t l'):bind2 r f=bind2 r' g:=by
 subst h
 cases hr:r with
 | error e=>rfl
 | ok x=>exact hf x.1 x.2 (sfx_len hs hr)
theorem opt_len (w:List UInt8) (l:List Tk):(optW w l).2.length≤l.length:=(opt_sfx w l).length_le
section
variable {L:Nat} {tm tm2:List Tk→Res Tm} {st st2:List Tk→Res Sm}
variable (hA:∀ l,l.length≤L→tm l=tm2 l) (hT:∀ l,SfxOk (tm l) l) (hB:∀ l:List Tk,l.length+1≤L→st l=st2 l) (hS:∀ l,SfxOk (st l) l)
include hA hT in
theorem item_agr {l:List Tk} (hl:l.length≤L):itemS tm l=itemS tm2 l:=bindE (hA l hl) (hT l) fun _ _ _=>rfl
include hA hT in
theorem items_agr:∀ (k:Nat) (is:List It) (l:List Tk),l.length≤L→itemsS tm k is l=itemsS tm2 k is l
 | 0,is,l,hl=>rfl
 | k+1,is,l,hl=>by
   rw [itemsS,itemsS]
   split
   ·rename_i hw
    have:=isW_len hw
    exact bindE (item_agr hA hT (by omega)) (item_sfx hT _) fun i l' h=>items_agr k _ l' (by omega)
   ·rfl
include hB hS in
theorem source_agr {l:List Tk} (hl:l.length≤L):sourceS st l=sourceS st2 l:=by
 unfold sourceS
 split
 ·rename_i hw
  have:=isW_len hw
  exact bindE (hB _ (by omega)) (hS _) fun _ _ _=>rfl
 ·rfl
include hA hT hB hS in
theorem join_agr (k:Nat) {l:List Tk} (hl:l.length≤L):joinS tm st k l=joinS tm2 st2 k l:=by
 unfold joinS
 refine bind1_agr fun l1 h1=>bindE (source_agr hB hS (by omega)) (source_sfx hS _) fun s l2 h2=>?_
 split
 ·rfl
 ·exact bind1_agr fun l3 h3=>bindE (hA _ (by omega)) (hT _) fun _ _ _=>rfl
include hA hT hB hS in
theorem joins_agr:∀ (k:Nat) (js:List Jo) (l:List Tk),l.length≤L→joinsS tm st k js l=joinsS tm2 st2 k js l
 | 0,js,l,hl=>rfl
 | k+1,js,l,hl=>by
   rw [joinsS,joinsS]
   cases ho:oneOf joiW l with
   | some i =>
     have:=one_len ho
     exact bindE (join_agr hA hT hB hS _ (by omega)) (join_sfx hT hS _ _) fun j l' h=>joins_agr k _ l' (by omega)
   | none =>
     simp only
     split
     ·exact bindE (join_agr hA hT hB hS _ hl) (join_sfx hT hS _ _) fun j l' h=>joins_agr k _ l' (by omega)
     ·rfl
include hA hT in
theorem one_agr (w:List UInt8) {l:List Tk} (hl:l.length≤L):oneS tm w l=oneS tm2 w l:=by
 unfold oneS
 split
 ·rename_i hw
  have:=isW_len hw
  exact bindE (hA _ (by omega)) (hT _) fun _ _ _=>rfl
 ·rfl
include hA hT in
theorem group_agr {l:List Tk} (hl:l.length≤L):groupS tm l=groupS tm2 l:=by
 unfold groupS
 split
 ·rename_i hw
  have:=isW_len hw
  exact bind1_agr fun l1 h1=>bindE (hA _ (by omega)) (hT _) fun t l2 h2=>more_agr (L:=L) hA hT _ _ l2 (by omega)
 ·rfl
include hA hT in
theorem star_agr {l:List Tk} (hl:l.length≤L):starS tm l=starS tm2 l:=by
 unfold starS
 split
 ·rfl
 ·exact bindE (item_agr hA hT hl) (item_sfx hT _) fun i l' h=>items_agr hA hT _ _ l' (by omega)
include hA hT hB hS in
theorem sel_agr {l:List Tk} (hl:l.length≤L):selS tm st l=selS tm2 st2 l:=by
 unfold selS
 refine bind1_agr fun l1 h1=>?_
 have ho:=opt_len wDistinct l1
 exact bindE (star_agr hA hT (by omega)) (star_sfx hT _) fun is l2 h2=>bind1_agr fun l3 h3=>bindE (source_agr hB hS (by omega)) (source_sfx hS _) fun s l4 h4 =>
  bindE (joins_agr hA hT hB hS _ _ l4 (by omega)) (joins_sfx hT hS _ _ _) fun js l5 h5=>bindE (one_agr hA hT _ (by omega)) (one_sfx hT _ _) fun w l6 h6 =>
  bindE (group_agr hA hT (by omega)) (group_sfx hT _) fun g l7 h7=>bindE (one_agr hA hT _ (by omega)) (one_sfx hT _ _) fun _ _ _=>rfl
include hA hT hB hS in
theorem core_agr {l:List Tk} (hl:l.length≤L):coreS tm st l=coreS tm2 st2 l:=by
 unfold coreS
 split
 ·rename_i hw
  have:=isW_len hw
  exact bindE (hB _ (by omega)) (hS _) fun _ _ _=>rfl
 ·exact sel_agr hA hT hB hS hl
include hA hT hB hS in
theorem stmt_agr:∀ (k:Nat) (x:Sm) (l:List Tk),l.length≤L→stmtS tm st k x l=stmtS tm2 st2 k x l
 | 0,x,l,hl=>rfl
 | k+1,x,l,hl=>by
   rw [stmtS,stmtS]
   cases ho:oneOf setW l with
   | none=>rfl
   | some i =>
     have h1:=one_len ho
     have h2:=opt_len wAll l.tail
     exact bindE (core_agr hA hT hB hS (by omega)) (core_sfx hT hS _) fun y l' h=>stmt_agr k _ l' (by omega)
end
theorem stmt_fuel (N M:Nat):∀ (n m:Nat) (l:List Tk),l.length<n→l.length<m→9*l.length+8≤N→9*l.length+8≤M→stmtP N n l=stmtP M m l
 | 0,m,l,h,_,_,_=>by omega
 | n+1,0,l,_,h,_,_=>by omega
 | n+1,m+1,l,h1,h2,h3,h4=>by
   have hA:∀ l',l'.length≤l.length→parP N 0 l'=parP M 0 l':=fun l' hl'=>par_fuel N M 0 l' (by omega) (by unfold need; omega) (by unfold need; omega)
   have hB:∀ l':List Tk,l'.length+1≤l.length→stmtP N n l'=stmtP M m l':=fun l' hl'=>stmt_fuel N M n m l' (by omega) (by omega) (by omega) (by omega)
   rw [stmtP,stmtP]
   exact bindE (core_agr hA (par_sfx N 0) hB (stmtP_sfx N n) (Nat.le_refl _)) (core_sfx (par_sfx N 0) (stmtP_sfx N n) _) fun x l' h=>stmt_agr hA (par_sfx N 0) hB (stmtP_sfx N n) _ _ l' h
end Go.Proofs.Tryz
/- What the listed variables hold, in seat S: those of the texts of values, and the length that the library's search looks up. -/
namespace Go.Proofs.Tryz
open Go.Ab
set_option maxRecDepth 100000
def isI64 (v:Value):Prop:=∃ m,v=.int .i64 m
def isErrS (v:Value):Prop:=∃ t x,v=.iface t x
def esG (g:Nat):Option (List D):=if g=0 then some [.int .i64 0,.int .i64 0,.str []] else if g=2∨g=3 then some [.any isErrS] else if g=4 then some (Lib.pow10Tab.map fun z=>D.int .u64 z) else if g=1 then some [.any isI64] else none
noncomputable def Es:Env:=⟨Tryz.prog,esG⟩
@[simp] theorem Es_P:Es.P=Tryz.prog:=id rfl
@[simp] theorem Es_G (g:Nat):Es.G g=esG g:=rfl
theorem mixs:Es.P.follows .mixedOrders=true:=by kernel_rfl
theorem ups_g (g:Nat) (cs:List D) (e:En.G g=some cs):Es.G g=some cs:=by rw [En_G] at e; cases e
theorem ups {f:FuncId} {xs:List AV} {B:List Blk} {y:AV} {B':List Blk} (h:Cf En f xs B y B'):Cf Es f xs B y B':=Cf.more (E:=En) (E':=Es) rfl ups_g h
end Go.Proofs.Tryz
/- The environment of seat S over that of the texts of values; the library's search. -/
namespace Go.Proofs.Tryz
open Go.Ab
set_option maxRecDepth 100000
theorem upw_g (g:Nat) (cs:List D) (e:Ev.G g=some cs):Es.G g=some cs:=by
 rw [Ev_G] at e
 rw [Es_G,esG]
 split at e
 ·rename_i h; rw [if_pos h]; exact e
 ·rename_i h0
  rw [if_neg h0]
  split at e
  ·rename_i h; rw [if_pos h]; exact e
  ·rename_i h1
   rw [if_neg h1]
   split at e
   ·rename_i h; rw [if_pos h]; exact e
   ·cases e
theorem upw {f:FuncId} {xs:List AV} {B:List Blk} {y:AV} {B':List Blk} (h:Cf Ev f xs B y B'):Cf Es f xs B y B':=Cf.more (E:=Ev) (E':=Es) rfl upw_g h
/-- The reserved words. -/
def words:List (List UInt8):=[[115,101,108,101,99,116],[100,105,115,116,105,110,99,116],[97,108,108],[102,114,111,109],[119,104,101,114,101],[103,114,111,117,112],[98,121],[104,97,118,105,110,103],[97,115],[111,110],[117,110,105,111,110],[101,120,99,101,112,116],[105,110,116,101,114,115,101,99,116],[106,111,105,110],[105,110,110,101,114],[108,101,102,116],[114,105,103,104,116],[102,117,108,108],[99,114,111,115,115],[115,101,109,105],[97,110,116,105],[97,110,100],[111,114],[110,111,116],[105,115],[110,117,108,108],[116,114,117,101],[102,97,108,115,101],[105,110],[99,97,115,101],[119,104,101,110],[116,104,101,110],[101,108,115,101],[101,110,100],[118,97,108,117,101,115],[116,97,98,108,101],[112,114,105,109,97,114,121],[117,110,105,113,117,101],[102,111,114,101,105,103,110],[114,101,102,101,114,101,110,99,101,115],[99,104,101,99,107],[105,110,116],[98,111,111,108],[116,101,120,116],[99,111,117,110,116],[115,117,109],[109,105,110],[109,97,120],[99,111,97,108,101,115,99,101],[108,101,110,103,116,104],[115,97,109,101],[109,111,100]]
theorem rest_cell {w:World} {g:Gh} {B:List Blk} {bl:Nat→Blk} (m:Mem (ctxOf Es w g B) bl w g):∃ n,w.cell? ⟨1,0,none⟩=some (.int .i64 n):=by
 have hc:=m.glob 1 [.any isI64] (by simp [ctxOf,esG])
 simp only [RepCells,RepD] at hc
 obtain ⟨⟨v,hv,⟨n,rfl⟩,_⟩,_⟩:=hc
 exact ⟨n,m.con _ _ _ hv⟩
theorem c_contains (s sub:List UInt8) (hs:s.length<4294967281):Cf Es 120 [.d (.str s),.d (.str sub)] [] (.d (.bool (within sub s))) []:=by
 refine cf_of_calls (by kernel_rfl) fun w g vs hr m=>?_
 obtain ⟨_,_,rfl,r1,_,_,rfl,r2,r3⟩:=hr
 simp only [RepAs] at r3
 subst r3
 simp only [RepA,RepD] at r1 r2
 subst r1 r2
 obtain ⟨n,hn⟩:=rest_cell m
 refine (Tryz.strings_Contains _ _ n w (by simpa [ByteArray.size_mk'] using hs) hn).mono ?_
 rintro e w' ⟨rfl,rfl⟩
 refine ⟨_,rfl,?_,.refl _ _⟩
 simp only [RepA,RepD,Lib.contains,within_index]
end Go.Proofs.Tryz
/- Where the reference's rules leave the tokens. No program in sight. -/
namespace Go.Proofs.Tryz
open Go.Ab
set_option maxRecDepth 100000
def Kp (st st':RS):Prop:=st'.1 <:+ st.1∧(okE st.1→okE st'.1)
theorem Kp.refl (st:RS):Kp st st:=⟨List.suffix_refl _,id⟩
theorem Kp.trans {a b c:RS} (h:Kp a b) (h':Kp b c):Kp a c:=⟨h'.1.trans h.1,fun e=>h'.2 (h.2 e)⟩
theorem okE.tlE {l:List Tk} (h:okE l) (he:(hdT l).ends=false):okE l.tail:=by
 cases l with
 | nil=>exact absurd rfl h.ne
 | cons t r=>exact h.cons he
theorem kp_next {st:RS} (he:(hdT st.1).ends=false):Kp st (rNext st):=by
 unfold rNext
 split
 ·exact ⟨tail_sfx _,fun h=>h.tlE he⟩
 ·exact .refl st
theorem kp_fail (st:RS):Kp st (rFail st):=by
 unfold rFail
 split <;> exact .refl _
theorem isW_end {w:List UInt8} {l:List Tk} (h:isW w l=true):(hdT l).ends=false:=by
 cases l with
 | nil=>cases h
 | cons t r =>
   simp only [isW,Bool.and_eq_true,Bool.or_eq_true,beq_iff_eq] at h
   exact ends_kd (by simp only [hdT]; omega) (by simp only [hdT]; omega)
theorem rIs_W {w:List UInt8} {st:RS} (h:rIs w st=true):st.2<0∧isW w st.1=true:=by
 unfold rIs at h
 simpa using h
theorem kp_is {w:List UInt8} {st:RS} (h:rIs w st=true):Kp st (rNext st):=kp_next (isW_end (rIs_W h).2)
theorem kp_want (w:List UInt8) (st:RS):Kp st (rWant w st):=by
 unfold rWant
 split
 ·rename_i h; exact kp_is h
 ·exact kp_fail st
theorem rOne_W {ws:List (List UInt8)} {st:RS} {i:Nat} (h:rOne ws st=some i):st.2<0∧oneOf ws st.1=some i:=by
 unfold rOne at h
 split at h
 ·rename_i hb; exact ⟨hb,h⟩
 ·cases h
theorem kp_one {ws:List (List UInt8)} {st:RS} {i:Nat} (h:rOne ws st=some i):Kp st (rNext st):=by
 obtain ⟨w,hw⟩:=one_w (rOne_W h).2
 exact kp_next (isW_end hw)
theorem rNamed_kd {st:RS} (h:rNamed st=true):st.2<0∧(hdT st.1).kd=1:=by
 unfold rNamed at h
 simp only [Bool.and_eq_true,decide_eq_true_eq,beq_iff_eq] at h
 exact ⟨h.1,h.2.1⟩
theorem kp_name (st:RS):Kp st (rName st).2:=by
 unfold rName
 split
 ·rename_i h
  have:=(rNamed_kd h).2
  exact kp_next (ends_kd (by omega) (by omega))
 ·exact kp_fail st
theorem kp_chain {q:RS→Tm×RS} (hq:∀ st,Kp st (q st).2) (sg:List (List UInt8)) (ops:List Int):∀ (k:Nat) (out:Tm) (st:RS),Kp st (chainR q sg ops k out st).2
 | 0,out,st=>.refl st
 | k+1,out,st=>by
   rw [chainR]
   split
   ·exact .refl st
   ·rename_i h
    exact (kp_one h).trans ((hq _).trans (kp_chain hq sg ops k _ _))
theorem kp_more {q:RS→Tm×RS} (hq:∀ st,Kp st (q st).2):∀ (k:Nat) (ks:List Tm) (st:RS),Kp st (moreR q k ks st).2
 | 0,ks,st=>.refl st
 | k+1,ks,st=>by
   rw [moreR]
   split
   ·rename_i h
    exact (kp_is h).trans ((hq _).trans (kp_more hq k _ _))
   ·exact .refl st
theorem kp_agg {q:RS→Tm×RS} (hq:∀ st,Kp st (q st).2) (st:RS):Kp st (aggR q st).2:=by
 unfold aggR
 split
 ·exact kp_fail st
 ·rename_i h
  have h1:=(kp_one h).trans (kp_want wOpen _)
  simp only
  split
  ·rename_i h2; exact h1.trans ((kp_is h2.2).trans (kp_want _ _))
  ·split
   ·rename_i h2; exact h1.trans ((kp_is h2.2).trans ((hq _).trans (kp_want _ _)))
   ·exact h1.trans ((hq _).trans (kp_want _ _))
theorem kp_null (st:RS):Kp st (nullR st).2:=by
 unfold nullR
 split
 ·rename_i h; exact kp_one h
 ·exact kp_fail st
theorem kp_case {q:RS→Tm×RS} (hq:∀ st,Kp st (q st).2) (st:RS):Kp st (caseR q st).2 :=
 (kp_want _ _).trans ((hq _).trans ((kp_want _ _).trans ((hq _).trans ((kp_want _ _).trans ((hq _).trans (kp_want _ _))))))
theorem kp_par:∀ (n lvl:Nat) (st:RS),Kp st (parR n lvl st).2
 | 0,lvl,st=>kp_fail st
 | n+1,0,st=>by rw [parR]; exact (kp_par n 1 st).trans (kp_chain (kp_par n 1) _ _ _ _ _)
 | n+1,1,st=>by rw [parR]; exact (kp_par n 2 st).trans (kp_chain (kp_par n 2) _ _ _ _ _)
 | n+1,2,st=>by
   rw [parR]
   split
   ·rename_i h; exact (kp_is h).trans (kp_par n 2 _)
   ·exact kp_par n 3 st
 | n+1,3,st=>by
   rw [parR]
   have h1:=kp_par n 4 st
   simp only
   split
   ·rename_i h; exact h1.trans ((kp_one h).trans (kp_par n 4 _))
   ·split
    ·rename_i h; exact h1.trans ((kp_is h).trans ((kp_want _ _).trans ((kp_par n 0 _).trans ((kp_more (kp_par n 0) _ _ _).trans (kp_want _ _)))))
    ·split
     ·rename_i h
      have h2:=h1.trans (kp_is h)
      split
      ·rename_i h3; exact h2.trans (kp_is h3)
      ·split
       ·rename_i h3; exact h2.trans (kp_is h3)
       ·split
        ·rename_i h3; exact h2.trans ((kp_is h3).trans (kp_want _ _))
        ·exact h2.trans (kp_fail _)
     ·exact h1
 | n+1,4,st=>by rw [parR]; exact (kp_par n 5 st).trans (kp_chain (kp_par n 5) _ _ _ _ _)
 | n+1,5,st=>by rw [parR]; exact (kp_par n 6 st).trans (kp_chain (kp_par n 6) _ _ _ _ _)
 | n+1,6,st=>by
   rw [parR]
   split
   ·rename_i h
    simp only
    split
    ·rename_i h2; exact (kp_is h).trans (kp_next (ends_kd (by omega) (by omega)))
    ·exact (kp_is h).trans (kp_par n 6 _)
   ·exact kp_par n 7 st
 | n+1,m+7,st=>by
   rw [parR]
   by_cases h:0≤st.2
   ·rw [if_pos h]; exact .refl st
   rw [if_neg h]
   by_cases h:(hdT st.1).kd=2
   ·rw [if_pos h]; exact kp_next (ends_kd (by omega) (by omega))
   rw [if_neg h]
   by_cases h:(hdT st.1).kd=3
   ·rw [if_pos h]; exact kp_next (ends_kd (by omega) (by omega))
   rw [if_neg h]
   by_cases h:rNamed st=true
   ·rw [if_pos h]
    by_cases h:rIs wDot (rName st).2=true
    ·simp only [h,if_true]; exact (kp_name st).trans ((kp_is h).trans (kp_name _))
    ·simp only [h,if_false]; exact kp_name st
   rw [if_neg h]
   by_cases h:rIs wOpen st=true
   ·rw [if_pos h]; exact (kp_is h).trans ((kp_par n 0 _).trans (kp_want _ _))
   rw [if_neg h]
   by_cases h:rIs wTrue st=true
   ·rw [if_pos h]; exact kp_is h
   rw [if_neg h]
   by_cases h:rIs wFalse st=true
   ·rw [if_pos h]; exact kp_is h
   rw [if_neg h]
   by_cases h:rIs wNull st=true
   ·rw [if_pos h]; exact (kp_is h).trans (kp_null _)
   rw [if_neg h]
   by_cases h:rIs wLength st=true
   ·rw [if_pos h]; exact (kp_is h).trans ((kp_want _ _).trans ((kp_par n 0 _).trans (kp_want _ _)))
   rw [if_neg h]
   by_cases h:rIs wCoalesce st=true
   ·rw [if_pos h]; exact (kp_is h).trans ((kp_want _ _).trans ((kp_par n 0 _).trans ((kp_want _ _).trans ((kp_par n 0 _).trans (kp_want _ _)))))
   rw [if_neg h]
   by_cases h:rIs wCase st=true
   ·rw [if_pos h]; exact (kp_is h).trans (kp_case (kp_par n 0) _)
   rw [if_neg h]
   exact kp_agg (kp_par n 0) st
end Go.Proofs.Tryz
