import Derived.Test.YtlimkhfjidcelaaDoorKE11
import Derived.Test.YtlimkhfjidcelaaDoorTrm
set_option linter.all false
/- The term of an expression over columns with names. -/
namespace Go.Proofs.Tryd
open Go.Ab
set_option maxRecDepth 100000
set_option maxHeartbeats 4000000

def nsL (ns : List (List UInt8)) : List (List D) := ns.map fun n => [.str n]
def ndF (ns : List (List UInt8)) (o c n g : Int) (t : List UInt8) (ks : List Ex) : Nat → St
  | 0 => { s := mkS [(0, .d (.sl (nsL ns))), (3, .ptr 3 0 0), (4, .ptr 4 0 0), (5, .ptr 5 0 0), (6, .d (.int .i64 0))], b := mkB [(3, 3, .var [.d (.int .i64 o), .d (.int .i64 c), .d (.int .i64 n), .d (.str t), .d (.int .i64 g), .d (.sl (ks.map Ex.c))]), (4, 4, .var zT), (5, 5, .var [.d (.int .i64 o), .d (.int .i64 c), .d (.int .i64 n), .d (.str t), .d (.str []), .nils])] }
  | i + 1 => { s := mkS [(0, .d (.sl (nsL ns))), (3, .ptr 3 0 0), (4, .ptr 4 0 0), (5, .ptr 5 0 0), (6, .d (.int .i64 (i + 1 : Nat)))], b := mkB [(3, 3, .var [.d (.int .i64 o), .d (.int .i64 c), .d (.int .i64 n), .d (.str t), .d (.int .i64 g), .d (.sl (ks.map Ex.c))]), (4, 4, .var zT), (5, 5, .var [.d (.int .i64 o), .d (.int .i64 c), .d (.int .i64 n), .d (.str t), .d (.str []), .ref 900 0 (i + 1) 6]), (900, 900, .arr 31 6 ((ks.take (i + 1)).map fun z => (z.named ns).c) false)] }
theorem nm_node (ns : List (List UInt8)) (o c n g : Int) (t : List UInt8) (ks : List Ex) (ho : o ≠ 5) (hk : ks.length ≤ 12)
    (hrec : ∀ z ∈ ks, Cf En 25 [.d (.sl (nsL ns)), z.a] [] (z.named ns).a []) :
    Cf En 25 [.d (.sl (nsL ns)), (Ex.mk o c n t g ks).a] [] ((Ex.mk o c n t g ks).named ns).a [] := by
  refine cf_intro mix (fn := Tryd.f25) (by kernel_rfl) rfl (by kernel_rfl) (by decide) (by simp) ?_
  rw [Ex.named, if_neg ho, namedAll_map]
  simp [Ex.a, Ex.c, kidsC_map, ho]
  (repeat' (first | contradiction | exact .of (by kernel_rfl) | refine And.intro ?_ ?_ | intro _ | (refine agrd_cases (fun h => ?_) (fun h => ?_) <;> (have h' := h; (try simp at h'); first | done | simp [h, h', ho] | simp [ho]))))
  refine aloopT mix (by decide) (ndF ns o c n g t ks) (fun i : Nat => i ≤ ks.length) (fun i => ks.length - i) 0 (by simp) (sub_mk [(0, _), (3, _), (4, _), (5, _), (6, _)] [(3, 3, _), (4, 4, _), (5, 5, _)] ⟨by simp, by simp, by simp [renOf, Blk.live, zT], by simp⟩ (by simp [renOf])) ?_
  intro i hi
  by_cases hlt : i < ks.length
  · have hg : ks[i]? = some ks[i] := List.getElem?_eq_getElem hlt
    obtain ⟨z, hz⟩ : ∃ z, z = ks[i] := ⟨_, rfl⟩
    have hzm : z ∈ ks := by rw [hz]; exact List.getElem_mem hlt
    have hr := hrec z hzm
    have hgi : ∀ h, ks[i]'h = z := fun _ => hz.symm
    rw [← hz] at hg
    have htk : (ks.take (i + 1)).map (fun z => (z.named ns).c) = (ks.take i).map (fun z => (z.named ns).c) ++ [(z.named ns).c] := by rw [List.take_add_one, hg]; simp
    have c1 := Ex.clen z
    have k1 := Ex.ctake z
    have k1' := Ex.ctake' z
    have c2 := (z.named ns).clen
    have k2 := (z.named ns).ctake
    have k2' := (z.named ns).ctake'
    cases i with
    | zero =>
      have hlt2 : (0 : Int) < ks.length := by omega
      simp [ndF, hlt, hlt2, hg, hgi, c1, k1, k1']
      (repeat' (first | contradiction | exact .of (by kernel_rfl) | refine And.intro ?_ ?_ | intro _ | (refine agrd_cases (fun h => ?_) (fun h => ?_) <;> (have h' := h; (try simp at h'); first | done | simp [h, h'] | simp))))
      refine acallT_plain hr (by simp [Ex.a]) ?_
      simp [Tm.a, c2, k2, k2']
      (repeat' (first | contradiction | exact .of (by kernel_rfl) | refine And.intro ?_ ?_ | intro _ | (refine agrd_cases (fun h => ?_) (fun h => ?_) <;> (have h' := h; (try simp at h'); first | done | simp [h, h'] | simp))))
      refine ⟨1, hlt, ?_, ?_⟩
      · refine sub_mk [(0, _), (3, _), (4, _), (5, _), (6, _)] [(3, 3, _), (4, 4, _), (5, 5, _), (900, 42, _)] ⟨by simp, by simp, ?_, by simp⟩ ?_
        · simp only [Nat.zero_add, List.take_zero, List.nil_append, List.map_nil] at htk
          simp [renOf, Blk.live, htk, zT]
        · simp [renOf]
          exact wrap_in (by omega) (by omega)
      · simp; omega
    | succ i =>
      have hlt2 : (i : Int) + 1 < ks.length := by omega
      have hp : (0 : Int) ≤ (i : Int) + 1 := by omega
      have hmin : min (i + 1) ks.length = i + 1 := by omega
      have s1 : (i + 1 + 1) * 80 ≤ 140737488355328 := by omega
      have s2 : i ≤ 9223372036854775805 := by omega
      simp [ndF, hlt, hlt2, hp, hg, hgi, c1, k1, k1']
      (repeat' (first | contradiction | exact .of (by kernel_rfl) | refine And.intro ?_ ?_ | intro _ | (refine agrd_cases (fun h => ?_) (fun h => ?_) <;> (have h' := h; (try simp at h'); first | done | simp [h, h'] | simp))))
      refine acallT_plain hr (by simp [Ex.a]) ?_
      simp [Tm.a, c2, k2, k2', hmin, s1, s2]
      (repeat' (first | contradiction | exact .of (by kernel_rfl) | refine And.intro ?_ ?_ | intro _ | (refine agrd_cases (fun h => ?_) (fun h => ?_) <;> (have h' := h; (try simp at h'); first | done | simp [h, h'] | simp))))
      refine ⟨i + 2, by omega, ?_, ?_⟩
      · refine sub_mk [(0, _), (3, _), (4, _), (5, _), (6, _)] [(3, 3, _), (4, 4, _), (5, 5, _), (900, 42, _)] ⟨by simp, by simp, ?_, by simp⟩ ?_
        · simp [renOf, Blk.live, htk, zT]
        · simp [renOf]
          rw [wrap_in (by omega) (by omega)]
      · simp; omega
  · have hie : i = ks.length := by omega
    subst hie
    cases hkl : ks.length with
    | zero =>
      have : ks = [] := List.eq_nil_of_length_eq_zero hkl
      subst this
      simp [ndF]
      (repeat' (first | contradiction | exact .of (by kernel_rfl) | refine And.intro ?_ ?_ | intro _ | (refine agrd_cases (fun h => ?_) (fun h => ?_) <;> (have h' := h; (try simp at h'); first | done | simp [h, h'] | simp))))
      all_goals simp [Tm.a, Tm.c, tmsC, zT]
    | succ i =>
      have htl : ks.take (i + 1) = ks := List.take_of_length_le (by omega)
      simp [ndF, hkl, htl]
      (repeat' (first | contradiction | exact .of (by kernel_rfl) | refine And.intro ?_ ?_ | intro _ | (refine agrd_cases (fun h => ?_) (fun h => ?_) <;> (have h' := h; (try simp at h'); first | done | simp [h, h'] | simp))))
      all_goals (simp [Tm.a, Tm.c, tmsC_map, zT, htl, hkl])
      all_goals (rw [List.take_of_length_le (by simp [hkl])]; rfl)
theorem nm_col (ns : List (List UInt8)) (hl : ns.length ≤ 1000) (g : Int) (h0 : 0 ≤ g) (h1 : g < ns.length) :
    Cf En 25 [.d (.sl (nsL ns)), (Ex.mk 5 0 0 [] g []).a] [] ((Ex.mk 5 0 0 [] g []).named ns).a [] := by
  have hlt : g.toNat < ns.length := by omega
  have hg : ns[g.toNat]? = some ns[g.toNat] := List.getElem?_eq_getElem hlt
  obtain ⟨z, hz⟩ : ∃ z, z = ns[g.toNat] := ⟨_, rfl⟩
  have hgi : ∀ h, ns[g.toNat]'h = z := fun _ => hz.symm
  rw [← hz] at hg
  refine cf_intro mix (fn := Tryd.f25) (by kernel_rfl) rfl (by kernel_rfl) (by decide) (by simp) ?_
  rw [Ex.named, if_pos rfl, hg]
  simp [Ex.a, Ex.c, kidsC_map, nsL, h0, hlt, hg, hgi]
  (repeat' (first | contradiction | exact .of (by kernel_rfl) | refine And.intro ?_ ?_ | intro _ | (refine agrd_cases (fun h => ?_) (fun h => ?_) <;> (have h' := h; (try simp at h'); first | done | simp [h, h', h0, hlt, hg, hgi] | simp [h0, hlt, hg, hgi]))))
  all_goals simp [Tm.a, Tm.c, tmsC]
theorem r_named (ns : List (List UInt8)) (hl : ns.length ≤ 1000) : ∀ {e : Ex}, XOk ns.length e → ∀ q, e.few q = true → Cf En 25 [.d (.sl (nsL ns)), e.a] [] (e.named ns).a [] := by
  intro e h
  induction h with
  | nul c h1 h2 => intro q hq; exact nm_node ns 1 c 0 0 [] [] (by decide) (by simp) (fun z hz => by cases hz)
  | int v hv => intro q hq; exact nm_node ns 2 0 v 0 [] [] (by decide) (by simp) (fun z hz => by cases hz)
  | bool v hv => intro q hq; exact nm_node ns 3 0 v 0 [] [] (by decide) (by simp) (fun z hz => by cases hz)
  | text t hv => intro q hq; exact nm_node ns 4 0 0 0 t [] (by decide) (by simp) (fun z hz => by cases hz)
  | col g h1 h2 => intro q hq; exact nm_col ns hl g h1 h2
  | node o ks h1 h2 hc hk ih =>
    intro q hq
    obtain ⟨hkl, _, hfew⟩ := few_kids hq
    exact nm_node ns o 0 0 0 [] ks (by omega) hkl (fun z hz => ih z hz (q + 1) (hfew z hz))
end Go.Proofs.Tryd
/- BindBack. -/
namespace Go.Proofs.Tryd
open Go.Ab
set_option maxRecDepth 100000
set_option maxHeartbeats 4000000

def bkF (L : List Int) (i : Nat) (x : Tb) (e : Ex) : Nat → St
  | 0 => { s := mkS [(2, .d (.bool false)), (3, .ptr 13 0 0), (5, .ptr 5 0 0), (6, .ptr 6 0 0), (7, .nils), (8, .d (.int .i64 0))], b := mkB [(13, 13, tapB L i), (5, 5, .var (x.c.map AV.d)), (6, 6, .var (e.c.map AV.d))] }
  | j + 1 => { s := mkS [(2, .d (.bool false)), (3, .ptr 13 0 0), (5, .ptr 5 0 0), (6, .ptr 6 0 0), (7, .ref 900 0 (j + 1) 1), (8, .d (.int .i64 (j + 1 : Nat)))], b := mkB [(13, 13, tapB L i), (5, 5, .var (x.c.map AV.d)), (6, 6, .var (e.c.map AV.d)), (900, 900, .arr 9 1 (nsL ((x.cols.map Col.n).take (j + 1))) false)] }
theorem nsL_len (l : List (List UInt8)) : (nsL l).length = l.length := List.length_map _
theorem nsL_succ {ns : List (List UInt8)} {i : Nat} {u : List UInt8} (h : ns[i]? = some u) : nsL (ns.take (i + 1)) = nsL (ns.take i) ++ [[.str u]] := by
  unfold nsL; rw [List.take_add_one, h]; simp
theorem gb4' : gb 4 = 2810 := by decide
theorem bind_back (L : List Int) : Cf Et 5 [.d (.sl (ints L))] [] (.d (.bool true)) [] := by
  refine cf_intro mixt (fn := Tryd.f5) (by kernel_rfl) rfl (by kernel_rfl) (by decide) (by simp) ?_
  have hsch := upn (t_schema L 0 (by omega))
  have hfr := free_in L 0
  have htl := tabs_le L (0 + 1) (freeG L 0) (by omega)
  have hln := tabsG_len L (0 + 1) (freeG L 0)
  have hmem := tabsG_mem L (0 + 1) (freeG L 0)
  generalize tabsG L (0 + 1) (freeG L 0) = S at *
  generalize freeG L 0 = N at *
  obtain ⟨tabs, i1⟩ := S
  simp only at *
  have hi1 : i1 ≤ 3000 := by omega
  have hu := nextV_in L i1 (n := N) (by omega)
  have hnx := upn (t_nx L i1 (by omega) N (by omega) (by omega))
  generalize nextV L i1 N = u at *
  have hult : u.toNat < tabs.length := by omega
  have hg : tabs[u.toNat]? = some tabs[u.toNat] := List.getElem?_eq_getElem hult
  obtain ⟨x, hx⟩ : ∃ x, x = tabs[u.toNat] := ⟨_, rfl⟩
  have hgi : ∀ h, tabs[u.toNat]'h = x := fun _ => hx.symm
  rw [← hx] at hg
  obtain ⟨j, b, htab⟩ := hmem x (by rw [hx]; exact List.getElem_mem hult)
  obtain ⟨m, k2, hm1, hm3, hk2, hnm, hcl⟩ := tab_cols L j b
  have htr := tab_types L j b
  rw [← htab] at hnm hcl htr
  have hok := names_ok hm1 hm3 hk2
  rw [← hnm] at hok
  clear hmem htab hnm hx
  have hcl6 : x.cols.length ≤ 6 := by omega
  have hc0 : 1 ≤ x.cols.length := by omega
  have hty := upn (r_types x (by omega))
  have hn3 := nextV_in L (i1 + 1) (n := 3) (by omega)
  have hnk := upn (t_nx L (i1 + 1) (by omega) 3 (by omega) (by omega))
  obtain ⟨k, hk⟩ : ∃ k, k = 1 + nextV L (i1 + 1) 3 := ⟨_, rfl⟩
  have hwk := wrap_in (n := 1 + nextV L (i1 + 1) 3) (by omega) (by omega)
  rw [← hk] at hwk
  have g4 := gb4'
  have htsl : (x.cols.map Col.t).length ≤ 1000 := by simp; omega
  obtain ⟨hle, hex⟩ := t_expr L (x.cols.map Col.t) htsl 4 (by omega) k (i1 + 2) (by omega)
  have hw := expr_w L (x.cols.map Col.t) 4 k (i1 + 2) (by omega) (by omega)
  generalize exprG L (x.cols.map Col.t) 4 k (i1 + 2) = ex at *
  obtain ⟨e, i2⟩ := ex
  simp only at *
  have hex := upn hex
  have hfew := w_few hw 0 (by omega)
  have hnsl : (x.cols.map Col.n).length = (x.cols.map Col.t).length := by simp
  have hnl : ∀ y ∈ x.cols.map Col.n, y.length ≤ 100 := fun y hy => by
    obtain ⟨q, hq, hqe⟩ := List.getElem_of_mem hy
    exact (hok q y (by rw [List.getElem?_eq_getElem hq, hqe])).2.1
  have hxok := w_ok hw
  rw [← hnsl] at hxok
  have hnmd := upn (r_named (x.cols.map Col.n) (by simp; omega) hxok 0 hfew)
  have hnf := named_few (x.cols.map Col.n) hnl hw 0 (by omega)
  have hbt := b_Term x.cols (by omega) (e.named (x.cols.map Col.n)) hnf (fits_of_few _ _ (Nat.lt_succ_self _) 0 hnf)
  rw [back_law hnsl hok htr hw] at hbt
  have hsz := upn (size_cf (SizeOf.sizeOf e + 1) e (by omega) (fits_few _ e (Nat.lt_succ_self _) 0 hfew))
  have hsm := same_self e (fits_few _ e (Nat.lt_succ_self _) 0 hfew)
  clear hok hxok hnf hw hfew htr hnl
  have m1 := (e.named (x.cols.map Col.n)).clen
  have m2 := (e.named (x.cols.map Col.n)).ctake
  have m2' := (e.named (x.cols.map Col.n)).ctake'
  have u1 := e.clen
  have u2 := e.ctake
  have u2' := e.ctake'
  have hu0 := hu.1
  simp [ints]
  (repeat' (first | contradiction | exact .of (by kernel_rfl) | refine And.intro ?_ ?_ | intro _ | (refine agrd_cases (fun h => ?_) (fun h => ?_) <;> (have h' := h; (try simp at h'); first | done | simp [h, h'] | simp))))
  refine acallT_hand [13] hsch (by simp) (by simp) (by simp) (by simp [tapB]) (by simp) ?_
  simp [tapB, hln]
  (repeat' (first | contradiction | exact .of (by kernel_rfl) | refine And.intro ?_ ?_ | intro _ | (refine agrd_cases (fun h => ?_) (fun h => ?_) <;> (have h' := h; (try simp at h'); first | done | simp [h, h'] | simp))))
  refine acallT_hand [13] hnx (by simp) (by simp) (by simp) (by simp [tapB]) (by simp) ?_
  simp [tapB, hu0, hult, hg, hgi, Tb.c]
  (repeat' (first | contradiction | exact .of (by kernel_rfl) | refine And.intro ?_ ?_ | intro _ | (refine agrd_cases (fun h => ?_) (fun h => ?_) <;> (have h' := h; (try simp at h'); first | done | simp [h, h', hu0, hult, hg, hgi] | simp [hu0, hult, hg, hgi]))))
  refine acallT_plain hty (by simp [Tb.a, Tb.c]) ?_
  simp [tapB]
  refine acallT_hand [13] hnk (by simp) (by simp) (by simp) (by simp [tapB]) (by simp) ?_
  simp [tapB, ← hk, hwk]
  refine acallT_hand [13] hex (by simp) (by simp) (by simp) (by simp [tapB]; try omega) (by simp) ?_
  simp [tapB, Ex.a, u1, u2, u2']
  (repeat' (first | contradiction | exact .of (by kernel_rfl) | refine And.intro ?_ ?_ | intro _ | (refine agrd_cases (fun h => ?_) (fun h => ?_) <;> (have h' := h; (try simp at h'); first | done | simp [h, h'] | simp))))
  refine aloopT mixt (by decide) (bkF L i2 x e) (fun j : Nat => j ≤ x.cols.length) (fun j => x.cols.length - j) 0 (by simp) (sub_mk [(2, _), (3, _), (5, _), (6, _), (7, _), (8, _)] [(13, 13, _), (5, 5, _), (6, 6, _)] ⟨by simp, by simp, by simp [renOf, Blk.live, tapB, Tb.c], by simp⟩ (by simp [renOf])) ?_
  clear hsch hnx hty hnk hex
  intro j hj
  by_cases hlt : j < x.cols.length
  · have hgj : x.cols[j]? = some x.cols[j] := List.getElem?_eq_getElem hlt
    obtain ⟨v, hv⟩ : ∃ v, v = x.cols[j] := ⟨_, rfl⟩
    have hgv : ∀ h, x.cols[j]'h = v := fun _ => hv.symm
    rw [← hv] at hgj
    have hgn : (x.cols.map Col.n)[j]? = some v.n := by rw [List.getElem?_map, hgj]; rfl
    have hs := nsL_succ hgn
    have hl := nsL_len ((x.cols.map Col.n).take j)
    rw [List.length_take, List.length_map] at hl
    clear hbt hnmd hsz hsm
    cases j with
    | zero =>
      have hlt2 : (0 : Int) < x.cols.length := by omega
      simp [bkF, tapB, Tb.c, hlt, hlt2, hgj, hgv, Col.c]
      (repeat' (first | contradiction | exact .of (by kernel_rfl) | refine And.intro ?_ ?_ | intro _ | (refine agrd_cases (fun h => ?_) (fun h => ?_) <;> (have h' := h; (try simp at h'); first | done | simp [h, h'] | simp))))
      refine ⟨1, hlt, ?_, ?_⟩
      · refine sub_mk [(2, _), (3, _), (5, _), (6, _), (7, _), (8, _)] [(13, 13, _), (5, 5, _), (6, 6, _), (900, 47, _)] ⟨by simp, by simp, ?_, by simp⟩ ?_
        · simp [renOf, Blk.live, hs, tapB, Tb.c]
          simp [nsL]
        · simp [renOf]
          exact wrap_in (by omega) (by omega)
      · simp; omega
    | succ j =>
      have hlt2 : (j : Int) + 1 < x.cols.length := by omega
      have hp : (0 : Int) ≤ (j : Int) + 1 := by omega
      have e1 : (nsL ((x.cols.map Col.n).take (j + 1))).length = j + 1 := by omega
      have s1 : (j + 1 + 1) * 16 ≤ 140737488355328 := by omega
      have s1' : (j + 1 + 1) * 24 ≤ 140737488355328 := by omega
      have s2 : j ≤ 9223372036854775805 := by omega
      simp [bkF, tapB, Tb.c, hlt, hlt2, hp, hgj, hgv, Col.c, e1, s1, s1', s2]
      (repeat' (first | contradiction | exact .of (by kernel_rfl) | refine And.intro ?_ ?_ | intro _ | (refine agrd_cases (fun h => ?_) (fun h => ?_) <;> (have h' := h; (try simp at h'); first | done | simp [h, h'] | simp))))
      refine ⟨j + 2, by omega, ?_, ?_⟩
      · refine sub_mk [(2, _), (3, _), (5, _), (6, _), (7, _), (8, _)] [(13, 13, _), (5, 5, _), (6, 6, _), (900, 47, _)] ⟨by simp, by simp, ?_, by simp⟩ ?_
        · simp [renOf, Blk.live, hs, tapB, Tb.c]
        · simp [renOf]
          rw [wrap_in (by omega) (by omega)]
      · simp; omega
  have hje : j = x.cols.length := by omega
  subst hje
  cases hkl : x.cols.length with
  | zero => omega
  | succ j =>
    have htk : (x.cols.map Col.n).take (j + 1) = x.cols.map Col.n := List.take_of_length_le (by simp [hkl])
    have hl := nsL_len (x.cols.map Col.n)
    rw [List.length_map, hkl] at hl
    have t1 : List.take (j + 1) (nsL (x.cols.map Col.n)) = nsL (x.cols.map Col.n) := List.take_of_length_le (by omega)
    simp only [bkF, htk]
    simp [tapB, Tb.c, hkl, u1, u2, u2']
    (repeat' (first | contradiction | exact .of (by kernel_rfl) | refine And.intro ?_ ?_ | intro _ | (refine agrd_cases (fun h => ?_) (fun h => ?_) <;> (have h' := h; (try simp at h'); first | done | simp [h, h'] | simp))))
    refine acallT_plain hnmd (by simp [Ex.a, hl, t1]) ?_
    simp [Tm.a, m1, m2, m2', Tb.c, hl, t1]
    refine acallT_plain hbt (by simp [Tm.a]) ?_
    by_cases h2 : 200 < e.size
    · simp [h2, zEx, Ex.a, Ex.c, kidsC, hl, t1, u1, u2, u2']
      (repeat' (first | contradiction | exact .of (by kernel_rfl) | refine And.intro ?_ ?_ | intro _ | (refine agrd_cases (fun h => ?_) (fun h => ?_) <;> (have h' := h; (try simp at h'); first | done | simp [h, h', h2] | simp [h2]))))
      refine acallT_plain hsz (by simp [Ex.a]) ?_
      simp [h2]
      (repeat' (first | contradiction | exact .of (by kernel_rfl) | refine And.intro ?_ ?_ | intro _ | (refine agrd_cases (fun h => ?_) (fun h => ?_) <;> (have h' := h; (try simp at h'); first | done | simp [h, h', h2] | simp [h2]))))
    · simp [h2, Ex.a, hl, t1, u1, u2, u2']
      (repeat' (first | contradiction | exact .of (by kernel_rfl) | refine And.intro ?_ ?_ | intro _ | (refine agrd_cases (fun h => ?_) (fun h => ?_) <;> (have h' := h; (try simp at h'); first | done | simp [h, h', h2] | simp [h2]))))
      refine acallT_plain hsz (by simp [Ex.a]) ?_
      simp [h2, hl, t1, u1, u2, u2']
      (repeat' (first | contradiction | exact .of (by kernel_rfl) | refine And.intro ?_ ?_ | intro _ | (refine agrd_cases (fun h => ?_) (fun h => ?_) <;> (have h' := h; (try simp at h'); first | done | simp [h, h', h2] | simp [h2]))))
      refine acallT_plain hsm (by simp [Ex.a]) ?_
      simp
      (repeat' (first | contradiction | exact .of (by kernel_rfl) | refine And.intro ?_ ?_ | intro _ | (refine agrd_cases (fun h => ?_) (fun h => ?_) <;> (have h' := h; (try simp at h'); first | done | simp [h, h'] | simp))))
end Go.Proofs.Tryd
