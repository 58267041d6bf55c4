import Derived.Test.YtlimkhfjidcelaaDoorKE3
import Derived.Test.YtlimkhfjidcelaaDoorKE1
import Derived.Test.YtlimkhfjidcelaaDoorKE2
set_option linter.all false
/- Depths of statements: the program's. -/
namespace Go.Proofs.Tryd
open Go.Ab
set_option maxHeartbeats 2000000
set_option maxRecDepth 100000

def Jo.on : Jo → List Tm | .mk _ _ _ _ o => o
abbrev S3 := List UInt8 × List Sm × List UInt8
def Jo.so : Jo → S3 | .mk _ t q n _ => (t, q, n)
def S3.c (s : S3) : List D := soC s.1 s.2.1 s.2.2
theorem S3.clen (s : S3) : (S3.c s).length = 3 := rfl
def S3.dep (s : S3) : Int := smsDep s.2.1

mutual
/-- As few elements as the law looks at. -/
def Sm.small : Sm → Prop
  | .mk _ _ _ _ is _ fq _ js w g h ks => is.length ≤ 10 ∧ js.length ≤ 8 ∧ w.length ≤ 10 ∧ g.length ≤ 10 ∧ h.length ≤ 10 ∧ smsSmall fq ∧ josSmall js ∧ smsSmall ks
def Jo.small : Jo → Prop
  | .mk _ _ q _ o => o.length ≤ 10 ∧ smsSmall q
def smsSmall : List Sm → Prop
  | [] => True
  | e :: es => e.small ∧ smsSmall es
def josSmall : List Jo → Prop
  | [] => True
  | e :: es => e.small ∧ josSmall es
end
theorem smsSmall_get : ∀ l : List Sm, smsSmall l → ∀ e ∈ l, e.small
  | x :: xs, h, e, he => by
    rw [smsSmall] at h
    rcases List.mem_cons.1 he with rfl | he
    · exact h.1
    · exact smsSmall_get xs h.2 e he
theorem josSmall_get : ∀ l : List Jo, josSmall l → ∀ e ∈ l, e.small
  | x :: xs, h, e, he => by
    rw [josSmall] at h
    rcases List.mem_cons.1 he with rfl | he
    · exact h.1
    · exact josSmall_get xs h.2 e he
theorem josDep_split : ∀ js : List Jo, josDep js = max (most ((js.map Jo.so).map S3.dep)) (tmsDep (js.flatMap Jo.on))
  | [] => by rw [josDep]; rfl
  | .mk k t q n o :: js => by
    rw [josDep, josDep_split js, Jo.dep, List.flatMap_cons, tmsDep_most (_ ++ _), List.map_append, most_append, ← tmsDep_most, ← tmsDep_most]
    simp only [List.map_cons, most, Jo.so, S3.dep, Jo.on]
    omega
theorem dep_all (ks : List Sm) (t : List UInt8) (fq : List Sm) (n : List UInt8) (js : List Jo) (w g h : List Tm) (is : List It) :
    max (max (smsDep ks) (tmsDep (w ++ g ++ h ++ is.map It.t ++ js.flatMap Jo.on))) (most (((t, fq, n) :: js.map Jo.so).map S3.dep)) =
      max (smsDep ks) (max (smsDep fq) (max (tmsDep w) (max (tmsDep g) (max (tmsDep h) (max (itsDep is) (josDep js)))))) := by
  rw [josDep_split, itsDep, tmsDep_most (w ++ g ++ h ++ is.map It.t ++ js.flatMap Jo.on)]
  simp only [List.map_append, most_append, List.map_cons, most]
  rw [← tmsDep_most w, ← tmsDep_most g, ← tmsDep_most h, tmsDep_most (is.map It.t), tmsDep_most (js.flatMap Jo.on), S3.dep]
  simp only
  generalize smsDep ks = a
  generalize smsDep fq = b
  generalize tmsDep w = c
  generalize tmsDep g = d
  generalize tmsDep h = e
  generalize most ((is.map It.t).map Tm.dep) = f
  generalize most ((js.flatMap Jo.on).map Tm.dep) = g'
  generalize most ((js.map Jo.so).map S3.dep) = h'
  simp only [Int.max_def]
  grind

theorem tmsFits_app : ∀ a b : List Tm, tmsFits a → tmsFits b → tmsFits (a ++ b)
  | [], b, _, h => h
  | x :: xs, b, h, h' => by
    rw [tmsFits] at h
    rw [List.cons_append, tmsFits]
    exact ⟨h.1, tmsFits_app xs b h.2 h'⟩
theorem s_depth : ∀ (m : Nat) (x : Sm), SizeOf.sizeOf x < m → x.fits → x.small → Cf En 34 [x.a] [] (.d (.int .i64 x.dep)) []
  | 0, _, h, _, _ => absurd h (by omega)
  | m + 1, x, hm, hfit, hsm => by
    refine cf_intro mix (fn := Tryd.f34) (by kernel_rfl) rfl (by kernel_rfl) (by decide) (by simp) ?_
    have hq := fun (a : Sm) (ha : SizeOf.sizeOf a < m) (fa : a.fits) (sa : a.small) => s_depth m a ha fa sa
    obtain ⟨f, al, d, s, is, ft, fq, fn, js, w, g, h, ks⟩ := x
    have hfq : ∀ a ∈ fq, SizeOf.sizeOf a < m := fun a ha => by
      have := Sm.q_lt (e := .mk f al d s is ft fq fn js w g h ks) ha
      omega
    have hks : ∀ a ∈ ks, SizeOf.sizeOf a < m := fun a ha => by
      have := Sm.kid_lt (e := .mk f al d s is ft fq fn js w g h ks) ha
      omega
    have hjs : ∀ j ∈ js, ∀ a ∈ j.qs, SizeOf.sizeOf a < m := fun j hj a ha => by
      have := Sm.j_lt (e := .mk f al d s is ft fq fn js w g h ks) hj
      have := Jo.q_lt ha
      omega
    rw [Sm.fits] at hfit
    obtain ⟨⟨fi1, fi2⟩, ⟨fq1, fq2⟩, ⟨fj1, fj2⟩, ⟨fw1, fw2⟩, ⟨fg1, fg2⟩, ⟨fh1, fh2⟩, fk1, fk2⟩ := hfit
    rw [Sm.small] at hsm
    obtain ⟨si, sj, sw, sg, sh, sq, sj2, sk⟩ := hsm
    rw [Sm.dep, ← dep_all ks ft fq fn js w g h is]
    have hkids := fun (a : Sm) (ha : a ∈ ks) => hq a (hks a ha) (smsFits_get _ fk2 a ha) (smsSmall_get _ sk a ha)
    simp [Sm.a, Sm.c, smsC_map, josC_map]
    refine ⟨.of (by kernel_rfl), .of (by kernel_rfl), .of (by kernel_rfl), ?_⟩
    refine aloopT mix (by decide) (fun i : Nat => { s := mkS [(1, .ptr 1 0 0), (3, .d (.int .i64 (most ((ks.map Sm.dep).take i)))), (19, .d (.sl (ks.map Sm.c))), (20, .d (.int .i64 ks.length)), (21, .d (.int .i64 i))], b := mkB [(1, 1, .var (Sm.a (.mk f al d s is ft fq fn js w g h ks)).cells)] }) (fun i : Nat => i ≤ ks.length) (fun i => ks.length - i) 0 (by simp) (sub_mk _ _ ⟨by simp, by simp, by simp [renOf, Blk.live, Sm.a, Sm.c, smsC_map, josC_map], by simp⟩ (by simp [renOf, most])) ?_
    rintro i hi
    by_cases hlt : i < ks.length
    · have hlt' : (i : Int) < ks.length := by omega
      have hg : ks[i]? = some ks[i] := List.getElem?_eq_getElem hlt
      have hk := most_step (l := ks.map Sm.dep) (i := i) (x := ks[i].dep) (by rw [List.getElem?_map, hg]; rfl)
      have c1 := Sm.clen ks[i]
      have k1 := Sm.ctake ks[i]
      simp [Sm.a, Sm.c, smsC_map, josC_map, hlt, hlt', hg, c1, k1]
      refine ⟨.of (by kernel_rfl), .of (by kernel_rfl), ?_⟩
      refine acallT_plain (hkids ks[i] (List.getElem_mem hlt)) (by simp [Sm.a]) ?_
      simp
      refine ⟨.of (by kernel_rfl), .of (by kernel_rfl), i + 1, hlt, ?_, ?_⟩
      · refine sub_mk _ [(1, 1, _)] ⟨by simp, by simp, by simp [renOf, Blk.live, Sm.a, Sm.c, smsC_map, josC_map], by simp⟩ ?_
        simp [renOf]
        exact ⟨hk, wrap_in (by omega) (by omega)⟩
      · simp; omega
    · have hlt' : ¬ (i : Int) < ks.length := by omega
      have hall := most_all (l := ks.map Sm.dep) (i := i) (by simp; omega)
      have hcon := s_concat w g h (by omega) (by omega) (by omega)
      obtain ⟨A, hA⟩ : ∃ A, A = w ++ g ++ h := ⟨_, rfl⟩
      have hAl : A.length ≤ 30 := by rw [hA]; simp; omega
      have hA2 : w.length + g.length + h.length = A.length := by rw [hA]; simp [Nat.add_assoc]
      rw [hA2, ← hA] at hcon
      have hAf : tmsFits A := by rw [hA]; exact tmsFits_app _ _ (tmsFits_app _ _ fw2 fg2) fh2
      simp [Sm.a, Sm.c, smsC_map, josC_map, hlt, hlt', hall]
      refine ⟨.of (by kernel_rfl), ?_⟩
      refine acallT_new [] hcon (by simp) (by simp) (by simp) (by decide) (by simp) (by simp) (by simp) ?_
      simp [smsC_map, josC_map]
      refine ⟨.of (by kernel_rfl), .of (by kernel_rfl), .of (by kernel_rfl), ?_⟩
      obtain ⟨K, hK⟩ : ∃ K, K = smsDep ks := ⟨_, rfl⟩
      rw [← smsDep_most, ← hK]
      -- the items
      obtain ⟨TI, hTI⟩ : ∃ TI : Nat → List Tm, TI = fun i => A ++ (is.take i).map It.t := ⟨_, rfl⟩
      have hTIl : ∀ i, (TI i).length ≤ 40 := fun i => by rw [hTI]; simp; omega
      refine aloopT mix (by decide) (fun i : Nat => { s := mkS [(1, .ptr 1 0 0), (3, .d (.int .i64 K)), (6, .ref 6 0 (TI i).length 6), (7, .ref 7 0 1 3), (42, .d (.sl (is.map It.c))), (43, .d (.int .i64 is.length)), (44, .d (.int .i64 i))], b := mkB [(1, 1, .var (Sm.a (.mk f al d s is ft fq fn js w g h ks)).cells), (6, 6, .arr 31 6 ((TI i).map Tm.c) false), (7, 7, .arr 25 3 [S3.c (ft, fq, fn)] false)] }) (fun i : Nat => i ≤ is.length) (fun i => is.length - i) 0 (by simp) (sub_mk _ [(1, 1, _), (6, 38000, _), (7, 40, _)] ⟨by simp, by simp, by simp [renOf, Blk.live, Sm.a, Sm.c, smsC_map, josC_map, hTI, S3.c, soC], by simp⟩ (by simp [renOf, hTI])) ?_
      clear hi hlt hlt' hall i
      rintro i hi
      by_cases hlt : i < is.length
      · have hlt' : (i : Int) < is.length := by omega
        obtain ⟨x, hg⟩ : ∃ x, is[i]? = some x := ⟨_, List.getElem?_eq_getElem hlt⟩
        have hgi : ∀ h, is[i]'h = _ := fun h => (List.getElem?_eq_some_iff.1 hg).2
        have hnext : TI (i + 1) = TI i ++ [x.t] := by
          rw [hTI]
          simp only [List.take_add_one, hg, Option.toList_some, List.map_append, List.map_cons, List.map_nil, List.append_assoc]
        obtain ⟨⟨o0, y0, n0, t0, q0, ks0⟩, nm⟩ := x
        have b1 : ((TI i).length + 1) * 80 ≤ 140737488355328 := by have := hTIl i; omega
        have b2 : (TI i).length + 1 ≤ 9223372036854775807 := by have := hTIl i; omega
        simp [Sm.a, Sm.c, smsC_map, josC_map, hlt, hlt', hg, hgi, It.c, Tm.c, tmsC_map, b1, b2]
        refine ⟨.of (by kernel_rfl), .of (by kernel_rfl), .of (by kernel_rfl), .of (by kernel_rfl), i + 1, hlt, ?_, by simp; omega⟩
        refine sub_mk _ [(1, 1, _), (6, 52, _), (7, 7, _)] ⟨by simp, by simp, by simp [renOf, Blk.live, Sm.a, Sm.c, smsC_map, josC_map, hnext, S3.c, soC, Tm.c, tmsC_map], by simp⟩ ?_
        simp [renOf, hnext]
        exact wrap_in (by omega) (by omega)
      · have hlt' : ¬ (i : Int) < is.length := by omega
        have hend : TI i = A ++ is.map It.t := by rw [hTI]; simp only; rw [List.take_of_length_le (by omega)]
        obtain ⟨B, hB⟩ : ∃ B, B = A ++ is.map It.t := ⟨_, rfl⟩
        rw [← hB] at hend
        have hBl : B.length ≤ 40 := by rw [hB]; simp; omega
        have hBf : tmsFits B := by rw [hB]; exact tmsFits_app _ _ hAf fi2
        simp [Sm.a, Sm.c, smsC_map, josC_map, hlt, hlt', hend]
        refine ⟨.of (by kernel_rfl), .of (by kernel_rfl), ?_⟩
        -- the joins
        obtain ⟨TJ, hTJ⟩ : ∃ TJ : Nat → List Tm, TJ = fun i => B ++ (js.take i).flatMap Jo.on := ⟨_, rfl⟩
        obtain ⟨SJ, hSJ⟩ : ∃ SJ : Nat → List S3, SJ = fun i => (ft, fq, fn) :: (js.take i).map Jo.so := ⟨_, rfl⟩
        have hon : ∀ l : List Jo, (∀ j ∈ l, j.on.length ≤ 10) → (l.flatMap Jo.on).length ≤ 10 * l.length := fun l => by
          induction l with
          | nil => intro _; simp
          | cons j l ih =>
            intro hj
            have h1 := hj j List.mem_cons_self
            have h2 := ih fun x hx => hj x (List.mem_cons_of_mem _ hx)
            rw [List.flatMap_cons, List.length_append, List.length_cons]
            omega
        have honj : ∀ j ∈ js, j.on.length ≤ 10 := fun j hj => by
          have := josSmall_get _ sj2 j hj
          obtain ⟨k, t, q, n, o⟩ := j
          rw [Jo.small] at this
          exact this.1
        have hTJl : ∀ i, (TJ i).length ≤ 120 := fun i => by
          rw [hTJ]
          have := hon (js.take i) fun j hj => honj j (List.mem_of_mem_take hj)
          rw [List.length_append]
          have hl : (js.take i).length ≤ 8 := by rw [List.length_take]; omega
          omega
        have hSJl : ∀ i, (SJ i).length ≤ 9 := fun i => by
          rw [hSJ]
          simp
          omega
        refine aloopT mix (by decide) (fun i : Nat => { s := mkS [(1, .ptr 1 0 0), (3, .d (.int .i64 K)), (6, .ref 6 0 (TJ i).length 6), (7, .ref 7 0 (SJ i).length 3), (55, .d (.sl (js.map Jo.c))), (56, .d (.int .i64 js.length)), (57, .d (.int .i64 i))], b := mkB [(1, 1, .var (Sm.a (.mk f al d s is ft fq fn js w g h ks)).cells), (6, 6, .arr 31 6 ((TJ i).map Tm.c) false), (7, 7, .arr 25 3 ((SJ i).map S3.c) false)] }) (fun i : Nat => i ≤ js.length) (fun i => js.length - i) 0 (by simp) (sub_mk _ [(1, 1, _), (6, 6, _), (7, 7, _)] ⟨by simp, by simp, by simp [renOf, Blk.live, Sm.a, Sm.c, smsC_map, josC_map, hTJ, hSJ, hend, S3.c, soC], by simp⟩ (by simp [renOf, hTJ, hSJ])) ?_
        clear hi hlt hlt' hend i
        rintro i hi
        by_cases hlt : i < js.length
        · have hlt' : (i : Int) < js.length := by omega
          obtain ⟨x, hg⟩ : ∃ x, js[i]? = some x := ⟨_, List.getElem?_eq_getElem hlt⟩
          have hgi : ∀ h, js[i]'h = _ := fun h => (List.getElem?_eq_some_iff.1 hg).2
          have hnext : TJ (i + 1) = TJ i ++ x.on := by
            rw [hTJ]
            simp only [List.take_add_one, hg, Option.toList_some, List.flatMap_append, List.flatMap_cons, List.flatMap_nil, List.append_nil, List.append_assoc]
          have hnext2 : SJ (i + 1) = SJ i ++ [x.so] := by
            rw [hSJ]
            simp only [List.take_add_one, hg, Option.toList_some, List.map_append, List.map_cons, List.map_nil, List.cons_append]
          have hol := honj x (List.mem_of_getElem? hg)
          obtain ⟨k0, t0, q0, n0, o0⟩ := x
          simp only [Jo.on, Jo.so] at hnext hnext2 hol
          have b1 : ((TJ i).length + o0.length) * 80 ≤ 140737488355328 := by have := hTJl i; omega
          have b2 : (TJ i).length + o0.length ≤ 9223372036854775807 := by have := hTJl i; omega
          have b3 : ((SJ i).length + 1) * 56 ≤ 140737488355328 := by have := hSJl i; omega
          have b4 : (SJ i).length + 1 ≤ 9223372036854775807 := by have := hSJl i; omega
          simp [Sm.a, Sm.c, smsC_map, josC_map, hlt, hlt', hg, hgi, Jo.c, b1, b2, b3, b4, Tm.clen]
          refine ⟨.of (by kernel_rfl), .of (by kernel_rfl), .of (by kernel_rfl), .of (by kernel_rfl), i + 1, hlt, ?_, by simp; omega⟩
          refine sub_mk _ [(1, 1, _), (6, 64, _), (7, 69, _)] ⟨by simp, by simp, by simp [renOf, Blk.live, Sm.a, Sm.c, smsC_map, josC_map, hnext, hnext2, S3.c, soC], by simp⟩ ?_
          simp [renOf, hnext, hnext2]
          exact wrap_in (by omega) (by omega)
        · have hlt' : ¬ (i : Int) < js.length := by omega
          have hend : TJ i = B ++ js.flatMap Jo.on := by rw [hTJ]; simp only; rw [List.take_of_length_le (by omega)]
          have hend2 : SJ i = (ft, fq, fn) :: js.map Jo.so := by rw [hSJ]; simp only; rw [List.take_of_length_le (by omega)]
          have hTl := hTJl i
          have hSl := hSJl i
          rw [hend] at hTl
          rw [hend2] at hSl
          have hjf : ∀ l : List Jo, josFits l → tmsFits (l.flatMap Jo.on) := fun l => by
            induction l with
            | nil => intro _; rw [List.flatMap_nil, tmsFits]; trivial
            | cons j l ih =>
              intro hj
              rw [josFits] at hj
              rw [List.flatMap_cons]
              obtain ⟨k, t, q, n, o⟩ := j
              have h1 := hj.1
              rw [Jo.fits] at h1
              exact tmsFits_app _ _ h1.2.2 (ih hj.2)
          have hTf : tmsFits (B ++ js.flatMap Jo.on) := tmsFits_app _ _ hBf (hjf js fj2)
          have hSq : ∀ u ∈ (ft, fq, fn) :: js.map Jo.so, u.2.1.length ≤ 9223372036854775807 ∧ ∀ a ∈ u.2.1, Cf En 34 [a.a] [] (.d (.int .i64 a.dep)) [] := fun u hu => by
            rcases List.mem_cons.1 hu with rfl | hu
            · exact ⟨fq1, fun a ha => hq a (hfq a ha) (smsFits_get _ fq2 a ha) (smsSmall_get _ sq a ha)⟩
            · obtain ⟨j, hj, rfl⟩ := List.mem_map.1 hu
              have h1 := josFits_get _ fj2 j hj
              have h2 := josSmall_get _ sj2 j hj
              have h3 := hjs j hj
              obtain ⟨k, t, q, n, o⟩ := j
              rw [Jo.fits] at h1
              rw [Jo.small] at h2
              exact ⟨h1.1.1, fun a ha => hq a (h3 a ha) (smsFits_get _ h1.1.2 a ha) (smsSmall_get _ h2.2 a ha)⟩
          have hres : w ++ g ++ h ++ is.map It.t ++ js.flatMap Jo.on = B ++ js.flatMap Jo.on := by rw [hB, hA]
          rw [hres]
          obtain ⟨T, hT⟩ : ∃ T, T = B ++ js.flatMap Jo.on := ⟨_, rfl⟩
          obtain ⟨S, hS⟩ : ∃ S, S = (ft, fq, fn) :: js.map Jo.so := ⟨_, rfl⟩
          rw [← hT] at hend hTl hTf ⊢
          rw [← hS] at hend2 hSl hSq ⊢
          have hK0 : 0 ≤ K := by rw [hK, smsDep_most]; exact most_nonneg _
          clear hon honj hTJl hSJl hjf hres hB hBl hBf hA hAl hAf hA2 hcon hkids hq hfq hks hjs
          simp [Sm.a, Sm.c, smsC_map, josC_map, hlt, hlt', hend, hend2]
          refine ⟨.of (by kernel_rfl), .of (by kernel_rfl), ?_⟩
          -- the terms
          refine aloopT mix (by decide) (fun i : Nat => { s := mkS [(3, .d (.int .i64 (max K (most ((T.map Tm.dep).take i))))), (7, .ref 7 0 S.length 3), (71, .ref 71 0 T.length 6), (72, .d (.int .i64 T.length)), (73, .d (.int .i64 i))], b := mkB [(7, 7, .arr 25 3 (S.map S3.c) false), (71, 71, .arr 31 6 (T.map Tm.c) false)] }) (fun i : Nat => i ≤ T.length) (fun i => T.length - i) 0 (by simp) (sub_mk _ [(7, 7, _), (71, 6, _)] ⟨by simp, by simp, by simp [renOf, Blk.live], by simp⟩ (by simp [renOf, most]; omega)) ?_
          clear hi hlt hlt' hend hend2 i
          rintro i hi
          by_cases hlt : i < T.length
          · have hlt' : (i : Int) < T.length := by omega
            obtain ⟨x, hg⟩ : ∃ x, T[i]? = some x := ⟨_, List.getElem?_eq_getElem hlt⟩
            have hgi : ∀ h, T[i]'h = _ := fun h => (List.getElem?_eq_some_iff.1 hg).2
            have hk := most_take (l := T.map Tm.dep) (i := i) (x := x.dep) (by rw [List.getElem?_map, hg]; rfl)
            have hcall := s_termDepth _ x (Nat.lt_succ_self _) (tmsFits_get _ hTf x (List.mem_of_getElem? hg))
            have c1 := x.clen
            have k1 := x.ctake
            simp [hlt, hlt', hg, hgi, c1, k1]
            refine ⟨.of (by kernel_rfl), .of (by kernel_rfl), ?_⟩
            refine acallT_plain hcall (by simp [Tm.a]) ?_
            simp [mxi]
            refine ⟨.of (by kernel_rfl), .of (by kernel_rfl), i + 1, hlt, ?_, by simp; omega⟩
            refine sub_mk _ [(7, 7, _), (71, 71, _)] ⟨by simp, by simp, by simp [renOf, Blk.live], by simp⟩ ?_
            simp [renOf]
            refine ⟨?_, wrap_in (by omega) (by omega)⟩
            try simp at hk
            rw [hk]
            try omega
          · have hlt' : ¬ (i : Int) < T.length := by omega
            have hall := most_all (l := T.map Tm.dep) (i := i) (by simp; omega)
            obtain ⟨N, hN⟩ : ∃ N, N = max K (tmsDep T) := ⟨_, rfl⟩
            have hall' : max K (most ((T.map Tm.dep).take i)) = N := by rw [hall, hN, tmsDep_most]
            rw [← hN]
            have hN0 : 0 ≤ N := by omega
            simp [hlt, hlt', hall']
            refine ⟨.of (by kernel_rfl), .of (by kernel_rfl), ?_⟩
            -- the sources
            refine aloopT mix (by decide) (fun i : Nat => { s := mkS [(3, .d (.int .i64 (max N (most ((S.map S3.dep).take i))))), (82, .ref 82 0 S.length 3), (83, .d (.int .i64 S.length)), (84, .d (.int .i64 i))], b := mkB [(82, 82, .arr 25 3 (S.map S3.c) false)] }) (fun i : Nat => i ≤ S.length) (fun i => S.length - i) 0 (by simp) (sub_mk _ [(82, 7, _)] ⟨by simp, by simp, by simp [renOf, Blk.live], by simp⟩ (by simp [renOf, most]; omega)) ?_
            clear hi hlt hlt' hall hall' i
            rintro i hi
            by_cases hlt : i < S.length
            · have hlt' : (i : Int) < S.length := by omega
              obtain ⟨x, hg⟩ : ∃ x, S[i]? = some x := ⟨_, List.getElem?_eq_getElem hlt⟩
              have hgi : ∀ h, S[i]'h = _ := fun h => (List.getElem?_eq_some_iff.1 hg).2
              have hk := most_take (l := S.map S3.dep) (i := i) (x := S3.dep x) (by rw [List.getElem?_map, hg]; rfl)
              have hcall := hSq x (List.mem_of_getElem? hg)
              obtain ⟨t0, q0, n0⟩ := x
              simp only [S3.dep] at hk
              obtain ⟨M, hM⟩ : ∃ M, M = max N (most ((S.map S3.dep).take i)) := ⟨_, rfl⟩
              have hM0 : 0 ≤ M := by omega
              rw [← hM]
              simp [hlt, hlt', hg, hgi, S3.c, soC]
              refine ⟨.of (by kernel_rfl), .of (by kernel_rfl), .of (by kernel_rfl), ?_⟩
              refine aloopT mix (by decide) (fun j : Nat => { s := mkS [(3, .d (.int .i64 (max M (most ((q0.map Sm.dep).take j))))), (82, .ref 82 0 S.length 3), (83, .d (.int .i64 S.length)), (84, .d (.int .i64 i)), (89, .d (.sl (q0.map Sm.c))), (90, .d (.int .i64 q0.length)), (91, .d (.int .i64 j))], b := mkB [(82, 82, .arr 25 3 (S.map S3.c) false)] }) (fun j : Nat => j ≤ q0.length) (fun j => q0.length - j) 0 (by simp) (sub_mk _ [(82, 82, _)] ⟨by simp, by simp, by simp [renOf, Blk.live], by simp⟩ (by simp [renOf, most, smsC_map]; omega)) ?_
              rintro j hj
              by_cases hjl : j < q0.length
              · have hjl' : (j : Int) < q0.length := by omega
                obtain ⟨y, hy⟩ : ∃ y, q0[j]? = some y := ⟨_, List.getElem?_eq_getElem hjl⟩
                have hyi : ∀ h, q0[j]'h = _ := fun h => (List.getElem?_eq_some_iff.1 hy).2
                have hk2 := most_take (l := q0.map Sm.dep) (i := j) (x := y.dep) (by rw [List.getElem?_map, hy]; rfl)
                have hc2 := hcall.2 y (List.mem_of_getElem? hy)
                have hql := hcall.1
                simp only at hql
                have c1 := y.clen
                have k1 := y.ctake
                simp [hjl, hjl', hy, hyi, c1, k1]
                refine ⟨.of (by kernel_rfl), .of (by kernel_rfl), ?_⟩
                refine acallT_plain hc2 (by simp [Sm.a]) ?_
                simp [mxi]
                refine ⟨.of (by kernel_rfl), .of (by kernel_rfl), j + 1, hjl, ?_, by simp; omega⟩
                refine sub_mk _ [(82, 82, _)] ⟨by simp, by simp, by simp [renOf, Blk.live], by simp⟩ ?_
                simp [renOf]
                refine ⟨?_, wrap_in (by omega) (by omega)⟩
                try simp at hk2
                rw [hk2]
                try omega
              · have hjl' : ¬ (j : Int) < q0.length := by omega
                have hall := most_all (l := q0.map Sm.dep) (i := j) (by simp; omega)
                simp [hjl, hjl', hall]
                refine ⟨.of (by kernel_rfl), .of (by kernel_rfl), i + 1, hlt, ?_, by simp; omega⟩
                refine sub_mk _ [(82, 82, _)] ⟨by simp, by simp, by simp [renOf, Blk.live], by simp⟩ ?_
                simp [renOf]
                refine ⟨?_, wrap_in (by omega) (by omega)⟩
                try simp at hk
                rw [hk, smsDep_most, hM]
                omega
            · have hlt' : ¬ (i : Int) < S.length := by omega
              have hall := most_all (l := S.map S3.dep) (i := i) (by simp; omega)
              simp [hlt, hlt', hall, up1]
              exact ⟨.of (by kernel_rfl), .of (by kernel_rfl)⟩
end Go.Proofs.Tryd
/- Which terms and statements the law looks at. -/
namespace Go.Proofs.Tryd
open Go.Ab
set_option maxRecDepth 100000
set_option maxHeartbeats 2000000

mutual
def Tm.few (d : Int) : Tm → Bool
  | .mk _ _ _ t q ks => decide (d ≤ 40) && (decide (ks.length ≤ 8) && (decide (t.length ≤ 100) && (decide (q.length ≤ 100) && tmsFew (up1 d) ks)))
def tmsFew (d : Int) : List Tm → Bool
  | [] => true
  | e :: es => e.few d && tmsFew d es
end
theorem tmsFew_all (d : Int) : ∀ l : List Tm, tmsFew d l = l.all fun e => e.few d
  | [] => by rw [tmsFew]; rfl
  | e :: es => by rw [tmsFew, tmsFew_all d es]; rfl
def tsFew (l : List Tm) : Bool := decide (l.length ≤ 10) && tmsFew 0 l
mutual
def Sm.few (d : Int) : Sm → Bool
  | .mk _ _ _ _ is ft fq fn js w g h ks => decide (d ≤ 30) && (decide (is.length ≤ 10) && (decide (js.length ≤ 8) && (decide (ks.length ≤ 6) && (tsFew w && (tsFew g && (tsFew h &&
      ((decide (fq.length ≤ 6) && (decide (fn.length ≤ 100) && (decide (ft.length ≤ 100) && smsFew (up1 d) fq))) && ((is.all fun i => i.t.few 0) && (josFew d js && smsFew (up1 d) ks)))))))))
def Jo.few (d : Int) : Jo → Bool
  | .mk _ t q n o => tsFew o && (decide (q.length ≤ 6) && (decide (n.length ≤ 100) && (decide (t.length ≤ 100) && smsFew (up1 d) q)))
def smsFew (d : Int) : List Sm → Bool
  | [] => true
  | e :: es => e.few d && smsFew d es
def josFew (d : Int) : List Jo → Bool
  | [] => true
  | e :: es => e.few d && josFew d es
end
theorem smsFew_all (d : Int) : ∀ l : List Sm, smsFew d l = l.all fun e => e.few d
  | [] => by rw [smsFew]; rfl
  | e :: es => by rw [smsFew, smsFew_all d es]; rfl
theorem josFew_all (d : Int) : ∀ l : List Jo, josFew d l = l.all fun e => e.few d
  | [] => by rw [josFew]; rfl
  | e :: es => by rw [josFew, josFew_all d es]; rfl
def soFew (d : Int) (t : List UInt8) (q : List Sm) (n : List UInt8) : Bool := decide (q.length ≤ 6) && (decide (n.length ≤ 100) && (decide (t.length ≤ 100) && smsFew (up1 d) q))
theorem tsFew_len {l : List Tm} (h : tsFew l = true) : l.length ≤ 10 := by
  unfold tsFew at h
  simp only [Bool.and_eq_true, decide_eq_true_eq] at h
  exact h.1
mutual
theorem small_of_few (d : Int) : ∀ x : Sm, x.few d = true → x.small
  | .mk f a dd s is ft fq fn js w g h ks, hx => by
    rw [Sm.few] at hx
    simp only [Bool.and_eq_true, decide_eq_true_eq] at hx
    obtain ⟨_, hi, hj, _, hw, hg, hh, ⟨_, _, _, hq⟩, _, hjs, hks⟩ := hx
    rw [Sm.small]
    exact ⟨hi, hj, tsFew_len hw, tsFew_len hg, tsFew_len hh, smalls_of_few _ fq hq, smallj_of_few _ js hjs, smalls_of_few _ ks hks⟩
theorem smallJ_of_few (d : Int) : ∀ x : Jo, x.few d = true → x.small
  | .mk k t q n o, hx => by
    rw [Jo.few] at hx
    simp only [Bool.and_eq_true, decide_eq_true_eq] at hx
    rw [Jo.small]
    exact ⟨tsFew_len hx.1, smalls_of_few _ q hx.2.2.2.2⟩
theorem smalls_of_few (d : Int) : ∀ l : List Sm, smsFew d l = true → smsSmall l
  | [], _ => by rw [smsSmall]; trivial
  | e :: es, h => by
    rw [smsFew, Bool.and_eq_true] at h
    rw [smsSmall]
    exact ⟨small_of_few d e h.1, smalls_of_few d es h.2⟩
theorem smallj_of_few (d : Int) : ∀ l : List Jo, josFew d l = true → josSmall l
  | [], _ => by rw [josSmall]; trivial
  | e :: es, h => by
    rw [josFew, Bool.and_eq_true] at h
    rw [josSmall]
    exact ⟨smallJ_of_few d e h.1, smallj_of_few d es h.2⟩
end

theorem l_termFew : ∀ (m : Nat) (x : Tm) (d : Int), SizeOf.sizeOf x < m → Cf En 33 [x.a, .d (.int .i64 d)] [] (.d (.bool (x.few d))) []
  | 0, _, _, h => absurd h (by omega)
  | m + 1, .mk o y n t q ks, d, hm => by
    refine cf_intro mix (fn := Tryd.f33) (by kernel_rfl) rfl (by kernel_rfl) (by decide) (by simp) ?_
    have hq := fun (x : Tm) (hx : x ∈ ks) => l_termFew m x (up1 d) (by
      have := Tm.kid_lt (e := .mk o y n t q ks) (k := x) hx
      omega)
    rw [Tm.few, tmsFew_all]
    generalize hR : (ks.all fun e => e.few (up1 d)) = R
    by_cases hA : d ≤ 40 ∧ ks.length ≤ 8 ∧ t.length ≤ 100 ∧ q.length ≤ 100
    · obtain ⟨a1, a2, a3, a4⟩ := hA
      have b1 : ¬ (40 : Int) < d := by omega
      have b2 : ¬ (8 : Int) < ks.length := by omega
      have b3 : ¬ (100 : Int) < t.length := by omega
      have b4 : ¬ (100 : Int) < q.length := by omega
      rw [show (decide (d ≤ 40) && (decide (ks.length ≤ 8) && (decide (t.length ≤ 100) && (decide (q.length ≤ 100) && R)))) = R by simp [a1, a2, a3, a4]]
      simp [Tm.a, Tm.c, tmsC_map, a1, a2, a3, a4, b1, b2, b3, b4]
      (repeat refine ⟨.of (by kernel_rfl), ?_⟩)
      refine aloopT mix (by decide) (fun i : Nat => { s := mkS [(1, .d (.int .i64 d)), (2, .ptr 2 0 0), (5, .d (.int .i64 i))], b := mkB [(2, 2, .var (Tm.a (.mk o y n t q ks)).cells)] }) (fun i : Nat => i ≤ ks.length ∧ ((ks.drop i).all fun e => e.few (up1 d)) = R) (fun i => ks.length - i) 0 (by simp [hR]) (sub_mk _ _ ⟨by simp, by simp, by simp [renOf, Blk.live, Tm.a, Tm.c, tmsC_map], by simp⟩ (by simp [renOf])) ?_
      rintro i ⟨hi, ho⟩
      by_cases hlt : i < ks.length
      · have hlt' : (i : Int) < ks.length := by omega
        obtain ⟨x, hg⟩ : ∃ x, ks[i]? = some x := ⟨_, List.getElem?_eq_getElem hlt⟩
        have hgi : ∀ h, ks[i]'h = x := fun h => (List.getElem?_eq_some_iff.1 hg).2
        rw [all_drop hg] at ho
        have hx := hq x (List.mem_of_getElem? hg)
        have c1 := x.clen
        have k1 := x.ctake
        generalize x.few (up1 d) = X at *
        have hu : up1 d = IntKind.i64.wrap (d + 1) := rfl
        simp [Tm.a, Tm.c, tmsC_map, hlt, hlt', hg, hgi, c1, k1]
        (repeat refine ⟨.of (by kernel_rfl), ?_⟩)
        refine acallT_plain hx (by simp [Tm.a, hu]) ?_
        simp
        refine ⟨.of (by kernel_rfl), fun h => ⟨.of (by kernel_rfl), ?_⟩, fun h => ⟨.of (by kernel_rfl), i + 1, ⟨hlt, ?_⟩, sub_mk _ [(2, 2, _)] ⟨by simp, by simp, by simp [renOf, Blk.live, Tm.a, Tm.c, tmsC_map], by simp⟩ ?_, ?_⟩⟩
        · rw [← ho, h]; rfl
        · rw [← ho, h]; rfl
        · simp [renOf]; exact wrap_in (by omega) (by omega)
        · simp; omega
      · have hlt' : ¬ (i : Int) < ks.length := by omega
        rw [all_end (by omega)] at ho
        simp [Tm.a, Tm.c, tmsC_map, hlt, hlt']
        (repeat refine ⟨.of (by kernel_rfl), ?_⟩)
        exact ho.symm
    · have hF : (decide (d ≤ 40) && (decide (ks.length ≤ 8) && (decide (t.length ≤ 100) && (decide (q.length ≤ 100) && R)))) = false := by
        cases hx : (decide (d ≤ 40) && (decide (ks.length ≤ 8) && (decide (t.length ≤ 100) && (decide (q.length ≤ 100) && R)))) with
        | false => rfl
        | true =>
          simp only [Bool.and_eq_true, decide_eq_true_eq] at hx
          exact absurd ⟨hx.1, hx.2.1, hx.2.2.1, hx.2.2.2.1⟩ hA
      rw [hF]
      clear hF hq hR
      simp [Tm.a, Tm.c, tmsC_map]
      (repeat' (first | contradiction | exact .of (by kernel_rfl) | refine And.intro ?_ ?_ | intro _ | (refine agrd_cases (fun h => ?_) (fun h => ?_) <;> (have h' := h; (try simp at h'); first | done | simp [h, h', tmsC_map] | simp [tmsC_map]))))
      all_goals (exfalso; apply hA; refine ⟨?_, ?_, ?_, ?_⟩ <;> omega)
theorem l_termsFew (l : List Tm) : Cf En 69 [.d (.sl (l.map Tm.c))] [] (.d (.bool (tsFew l))) [] := by
  refine cf_intro mix (fn := Tryd.f69) (by kernel_rfl) rfl (by kernel_rfl) (by decide) (by simp) ?_
  unfold tsFew
  rw [tmsFew_all]
  generalize hR : (l.all fun e => e.few 0) = R
  by_cases hA : l.length ≤ 10
  · have b1 : ¬ (10 : Int) < l.length := by omega
    rw [show (decide (l.length ≤ 10) && R) = R by simp [hA]]
    simp [hA, b1]
    (repeat refine ⟨.of (by kernel_rfl), ?_⟩)
    refine aloopT mix (by decide) (fun i : Nat => { s := mkS [(0, .d (.sl (l.map Tm.c))), (3, .d (.int .i64 i))], b := mkB [] }) (fun i : Nat => i ≤ l.length ∧ ((l.drop i).all fun e => e.few 0) = R) (fun i => l.length - i) 0 (by simp [hR]) (sub_mk _ [] .nil (by simp)) ?_
    rintro i ⟨hi, ho⟩
    by_cases hlt : i < l.length
    · have hlt' : (i : Int) < l.length := by omega
      obtain ⟨x, hg⟩ : ∃ x, l[i]? = some x := ⟨_, List.getElem?_eq_getElem hlt⟩
      have hgi : ∀ h, l[i]'h = x := fun h => (List.getElem?_eq_some_iff.1 hg).2
      rw [all_drop hg] at ho
      have hx := l_termFew _ x 0 (Nat.lt_succ_self _)
      have c1 := x.clen
      have k1 := x.ctake
      generalize x.few 0 = X at *
      simp [hlt, hlt', hg, hgi, c1, k1]
      (repeat refine ⟨.of (by kernel_rfl), ?_⟩)
      refine acallT_plain hx (by simp [Tm.a]) ?_
      simp
      refine ⟨.of (by kernel_rfl), fun h => ⟨.of (by kernel_rfl), ?_⟩, fun h => ⟨.of (by kernel_rfl), i + 1, ⟨hlt, ?_⟩, sub_mk _ [] .nil ?_, ?_⟩⟩
      · rw [← ho, h]; rfl
      · rw [← ho, h]; rfl
      · simp; exact wrap_in (by omega) (by omega)
      · simp; omega
    · have hlt' : ¬ (i : Int) < l.length := by omega
      rw [all_end (by omega)] at ho
      simp [hlt, hlt']
      (repeat refine ⟨.of (by kernel_rfl), ?_⟩)
      exact ho.symm
  · have b1 : (10 : Int) < l.length := by omega
    simp [hA, b1]
    (repeat' (first | contradiction | exact .of (by kernel_rfl) | refine And.intro ?_ ?_ | intro _ | (refine agrd_cases (fun h => ?_) (fun h => ?_) <;> (have h' := h; (try simp at h'); first | done | simp [h, h', b1] | simp [b1]))))
theorem l_sourceFew (t : List UInt8) (q : List Sm) (n : List UInt8) (d : Int) (h : ∀ x ∈ q, Cf En 32 [x.a, .d (.int .i64 (up1 d))] [] (.d (.bool (x.few (up1 d)))) []) :
    Cf En 70 [soA t q n, .d (.int .i64 d)] [] (.d (.bool (soFew d t q n))) [] := by
  refine cf_intro mix (fn := Tryd.f70) (by kernel_rfl) rfl (by kernel_rfl) (by decide) (by simp) ?_
  unfold soFew
  rw [smsFew_all]
  generalize hR : (q.all fun e => e.few (up1 d)) = R
  by_cases hA : q.length ≤ 6 ∧ n.length ≤ 100 ∧ t.length ≤ 100
  · obtain ⟨a1, a2, a3⟩ := hA
    have b1 : ¬ (6 : Int) < q.length := by omega
    have b2 : ¬ (100 : Int) < n.length := by omega
    have b3 : ¬ (100 : Int) < t.length := by omega
    rw [show (decide (q.length ≤ 6) && (decide (n.length ≤ 100) && (decide (t.length ≤ 100) && R))) = R by simp [a1, a2, a3]]
    simp [soA, soC, smsC_map, a1, a2, a3, b1, b2, b3]
    (repeat refine ⟨.of (by kernel_rfl), ?_⟩)
    refine aloopT mix (by decide) (fun i : Nat => { s := mkS [(1, .d (.int .i64 d)), (2, .ptr 2 0 0), (5, .d (.int .i64 i))], b := mkB [(2, 2, .var ((soC t q n).map AV.d))] }) (fun i : Nat => i ≤ q.length ∧ ((q.drop i).all fun e => e.few (up1 d)) = R) (fun i => q.length - i) 0 (by simp [hR]) (sub_mk _ _ ⟨by simp, by simp, by simp [renOf, Blk.live, soC, smsC_map], by simp⟩ (by simp [renOf])) ?_
    rintro i ⟨hi, ho⟩
    by_cases hlt : i < q.length
    · have hlt' : (i : Int) < q.length := by omega
      obtain ⟨x, hg⟩ : ∃ x, q[i]? = some x := ⟨_, List.getElem?_eq_getElem hlt⟩
      have hgi : ∀ h, q[i]'h = x := fun h => (List.getElem?_eq_some_iff.1 hg).2
      rw [all_drop hg] at ho
      have hx := h x (List.mem_of_getElem? hg)
      have c1 := x.clen
      have k1 := x.ctake
      generalize x.few (up1 d) = X at *
      have hu : up1 d = IntKind.i64.wrap (d + 1) := rfl
      simp [soC, smsC_map, hlt, hlt', hg, hgi, c1, k1]
      (repeat refine ⟨.of (by kernel_rfl), ?_⟩)
      refine acallT_plain hx (by simp [Sm.a, hu]) ?_
      simp
      refine ⟨.of (by kernel_rfl), fun h => ⟨.of (by kernel_rfl), ?_⟩, fun h => ⟨.of (by kernel_rfl), i + 1, ⟨hlt, ?_⟩, sub_mk _ [(2, 2, _)] ⟨by simp, by simp, by simp [renOf, Blk.live, soC, smsC_map], by simp⟩ ?_, ?_⟩⟩
      · rw [← ho, h]; rfl
      · rw [← ho, h]; rfl
      · simp [renOf]; exact wrap_in (by omega) (by omega)
      · simp; omega
    · have hlt' : ¬ (i : Int) < q.length := by omega
      rw [all_end (by omega)] at ho
      simp [soC, smsC_map, hlt, hlt']
      (repeat refine ⟨.of (by kernel_rfl), ?_⟩)
      exact ho.symm
  · have hF : (decide (q.length ≤ 6) && (decide (n.length ≤ 100) && (decide (t.length ≤ 100) && R))) = false := by
      cases hx : (decide (q.length ≤ 6) && (decide (n.length ≤ 100) && (decide (t.length ≤ 100) && R))) with
      | false => rfl
      | true =>
        simp only [Bool.and_eq_true, decide_eq_true_eq] at hx
        exact absurd ⟨hx.1, hx.2.1, hx.2.2.1⟩ hA
    rw [hF]
    clear hF h hR
    simp [soA, soC, smsC_map]
    (repeat' (first | contradiction | exact .of (by kernel_rfl) | refine And.intro ?_ ?_ | intro _ | (refine agrd_cases (fun h => ?_) (fun h => ?_) <;> (have h' := h; (try simp at h'); first | done | simp [h, h', smsC_map] | simp [smsC_map]))))
    all_goals (exfalso; apply hA; refine ⟨?_, ?_, ?_⟩ <;> omega)
theorem l_few : ∀ (m : Nat) (x : Sm) (d : Int), SizeOf.sizeOf x < m → Cf En 32 [x.a, .d (.int .i64 d)] [] (.d (.bool (x.few d))) []
  | 0, _, _, h => absurd h (by omega)
  | m + 1, x, d, hm => by
    refine cf_intro mix (fn := Tryd.f32) (by kernel_rfl) rfl (by kernel_rfl) (by decide) (by simp) ?_
    have hq := fun (a : Sm) (ha : SizeOf.sizeOf a < m) (e : Int) => l_few m a e ha
    obtain ⟨f, al, dd, s, is, ft, fq, fn, js, w, g, h, ks⟩ := x
    have hfq : ∀ a ∈ fq, SizeOf.sizeOf a < m := fun a ha => by
      have := Sm.q_lt (e := .mk f al dd s is ft fq fn js w g h ks) ha
      omega
    have hks : ∀ a ∈ ks, SizeOf.sizeOf a < m := fun a ha => by
      have := Sm.kid_lt (e := .mk f al dd s is ft fq fn js w g h ks) ha
      omega
    have hjs : ∀ j ∈ js, ∀ a ∈ j.qs, SizeOf.sizeOf a < m := fun j hj a ha => by
      have := Sm.j_lt (e := .mk f al dd s is ft fq fn js w g h ks) hj
      have := Jo.q_lt ha
      omega
    have e1 := l_sourceFew ft fq fn d fun a ha => hq a (hfq a ha) (up1 d)
    have e4 := l_termsFew w
    have e5 := l_termsFew g
    have e6 := l_termsFew h
    have ek := fun (a : Sm) (ha : a ∈ ks) => hq a (hks a ha) (up1 d)
    rw [Sm.few, ← soFew, josFew_all, smsFew_all _ ks]
    generalize hS : soFew d ft fq fn = S at *
    generalize hW : tsFew w = W at *
    generalize hG : tsFew g = G at *
    generalize hH : tsFew h = H at *
    generalize hI : (is.all fun i => i.t.few 0) = I
    generalize hJ : (js.all fun e => e.few d) = J
    generalize hK : (ks.all fun e => e.few (up1 d)) = K
    generalize hR : (decide (d ≤ 30) && (decide (is.length ≤ 10) && (decide (js.length ≤ 8) && (decide (ks.length ≤ 6) && (W && (G && (H && (S && (I && (J && K)))))))))) = R
    by_cases hA : d ≤ 30 ∧ is.length ≤ 10 ∧ js.length ≤ 8 ∧ ks.length ≤ 6 ∧ W = true ∧ G = true ∧ H = true ∧ S = true
    · obtain ⟨a1, a2, a3, a4, rfl, rfl, rfl, rfl⟩ := hA
      have hR' : (I && (J && K)) = R := by rw [← hR]; simp [a1, a2, a3, a4]
      have b1 : ¬ (30 : Int) < d := by omega
      have b2 : ¬ (10 : Int) < is.length := by omega
      have b3 : ¬ (8 : Int) < js.length := by omega
      have b4 : ¬ (6 : Int) < ks.length := by omega
      clear hR
      simp [Sm.a, Sm.c, smsC_map, josC_map, b1, b2, b3, b4]
      (repeat refine ⟨.of (by kernel_rfl), ?_⟩)
      refine acallT_plain e4 (by simp) ?_
      simp [smsC_map, josC_map, b1, b2, b3, b4]
      refine acallT_plain e5 (by simp) ?_
      simp [smsC_map, josC_map, b1, b2, b3, b4]
      refine acallT_plain e6 (by simp) ?_
      simp [smsC_map, josC_map, b1, b2, b3, b4]
      refine acallT_plain e1 (by simp [soA, soC, smsC_map]) ?_
      simp [smsC_map, josC_map, b1, b2, b3, b4]
      (repeat refine ⟨.of (by kernel_rfl), ?_⟩)
      refine aloopT mix (by decide) (fun i : Nat => { s := mkS [(1, .d (.int .i64 d)), (2, .ptr 2 0 0), (5, .d (.int .i64 i))], b := mkB [(2, 2, .var (Sm.a (.mk f al dd s is ft fq fn js w g h ks)).cells)] }) (fun i : Nat => i ≤ is.length ∧ ((is.drop i).all fun i => i.t.few 0) = I) (fun i => is.length - i) 0 (by simp [hI]) (sub_mk _ _ ⟨by simp, by simp, by simp [renOf, Blk.live, Sm.a, Sm.c, smsC_map, josC_map], by simp⟩ (by simp [renOf])) ?_
      rintro i ⟨hi, ho⟩
      by_cases hlt : i < is.length
      · have hlt' : (i : Int) < is.length := by omega
        obtain ⟨x, hg⟩ : ∃ x, is[i]? = some x := ⟨_, List.getElem?_eq_getElem hlt⟩
        have hgi : ∀ h, is[i]'h = x := fun h => (List.getElem?_eq_some_iff.1 hg).2
        rw [all_drop hg] at ho
        have q1 := l_termFew _ x.t 0 (Nat.lt_succ_self _)
        obtain ⟨⟨o0, y0, n0, t0, q0, ks0⟩, nm⟩ := x
        simp only at q1 ho
        generalize (Tm.mk o0 y0 n0 t0 q0 ks0).few 0 = X at *
        simp [Sm.a, Sm.c, smsC_map, josC_map, hlt, hlt', hg, hgi, It.c, Tm.c, tmsC_map]
        (repeat refine ⟨.of (by kernel_rfl), ?_⟩)
        refine acallT_plain q1 (by simp [Tm.a, Tm.c, tmsC_map]) ?_
        simp
        refine ⟨.of (by kernel_rfl), fun h => ⟨.of (by kernel_rfl), ?_⟩, fun h => ⟨.of (by kernel_rfl), i + 1, ⟨hlt, ?_⟩, sub_mk _ [(2, 2, _)] ⟨by simp, by simp, by simp [renOf, Blk.live, Sm.a, Sm.c, smsC_map, josC_map], by simp⟩ ?_, ?_⟩⟩
        · rw [← hR', ← ho, h]; rfl
        · rw [← ho, h]; rfl
        · simp [renOf]; exact wrap_in (by omega) (by omega)
        · simp; omega
      · have hlt' : ¬ (i : Int) < is.length := by omega
        rw [all_end (by omega)] at ho
        rw [← ho, Bool.true_and] at hR'
        simp [Sm.a, Sm.c, smsC_map, josC_map, hlt']
        (repeat refine ⟨.of (by kernel_rfl), ?_⟩)
        refine aloopT mix (by decide) (fun i : Nat => { s := mkS [(1, .d (.int .i64 d)), (2, .ptr 2 0 0), (6, .d (.int .i64 i))], b := mkB [(2, 2, .var (Sm.a (.mk f al dd s is ft fq fn js w g h ks)).cells)] }) (fun i : Nat => i ≤ js.length ∧ ((js.drop i).all fun e => e.few d) = J) (fun i => js.length - i) 0 (by simp [hJ]) (sub_mk _ [(2, 2, _)] ⟨by simp, by simp, by simp [renOf, Blk.live, Sm.a, Sm.c, smsC_map, josC_map], by simp⟩ (by simp [renOf])) ?_
        clear hi ho hlt hlt' i
        rintro i ⟨hi, ho⟩
        by_cases hlt : i < js.length
        · have hlt' : (i : Int) < js.length := by omega
          obtain ⟨x, hg⟩ : ∃ x, js[i]? = some x := ⟨_, List.getElem?_eq_getElem hlt⟩
          have hgi : ∀ h, js[i]'h = x := fun h => (List.getElem?_eq_some_iff.1 hg).2
          rw [all_drop hg] at ho
          have hxq := hjs x (List.mem_of_getElem? hg)
          obtain ⟨k0, t0, q0, n0, o0⟩ := x
          have q1 := l_sourceFew t0 q0 n0 d fun a ha => hq a (hxq a ha) (up1 d)
          have q2 := l_termsFew o0
          rw [Jo.few, ← soFew] at ho
          generalize soFew d t0 q0 n0 = X at *
          generalize tsFew o0 = Y at *
          simp [Sm.a, Sm.c, smsC_map, josC_map, hlt, hlt', hg, hgi, Jo.c]
          (repeat refine ⟨.of (by kernel_rfl), ?_⟩)
          refine acallT_plain q2 (by simp) ?_
          simp [hlt, hlt', hg, hgi, Jo.c, smsC_map, josC_map]
          (repeat' (first | contradiction | exact .of (by kernel_rfl) | refine And.intro ?_ ?_ | intro _ | (refine agrd_cases (fun h => ?_) (fun h => ?_) <;> (have h' := h; (try simp at h'); first | done | simp [h, h', hlt, hlt', hg, hgi, Jo.c, smsC_map, josC_map] | simp [hlt, hlt', hg, hgi, Jo.c, smsC_map, josC_map]))))
          all_goals first | (refine acallT_plain q1 (by simp [soA, soC, smsC_map]) ?_; simp [hlt, hlt', hg, hgi, Jo.c, smsC_map, josC_map]; (repeat' (first | contradiction | exact .of (by kernel_rfl) | refine And.intro ?_ ?_ | intro _ | (refine agrd_cases (fun h => ?_) (fun h => ?_) <;> (have h' := h; (try simp at h'); first | done | simp [h, h', hlt, hlt', hg, hgi, Jo.c, smsC_map, josC_map] | simp [hlt, hlt', hg, hgi, Jo.c, smsC_map, josC_map]))))) | skip
          clear q1 q2 hxq hg hgi hq hfq hks hjs hm
          all_goals first
            | (refine ⟨i + 1, ⟨hlt, ?_⟩, sub_mk _ [(2, 2, _)] ⟨by simp, by simp, by simp [renOf, Blk.live, Sm.a, Sm.c, smsC_map, josC_map], by simp⟩ ?_, ?_⟩
               · rw [← ho]; clear hR' ho; simp_all
               · simp [renOf]; exact wrap_in (by omega) (by omega)
               · simp; omega)
            | (rw [← hR', ← ho]; clear hR' ho; simp_all; done)
        · have hlt' : ¬ (i : Int) < js.length := by omega
          rw [all_end (by omega)] at ho
          rw [← ho, Bool.true_and] at hR'
          simp [Sm.a, Sm.c, smsC_map, josC_map, hlt']
          (repeat refine ⟨.of (by kernel_rfl), ?_⟩)
          refine aloopT mix (by decide) (fun i : Nat => { s := mkS [(1, .d (.int .i64 d)), (2, .ptr 2 0 0), (7, .d (.int .i64 i))], b := mkB [(2, 2, .var (Sm.a (.mk f al dd s is ft fq fn js w g h ks)).cells)] }) (fun i : Nat => i ≤ ks.length ∧ ((ks.drop i).all fun e => e.few (up1 d)) = K) (fun i => ks.length - i) 0 (by simp [hK]) (sub_mk _ [(2, 2, _)] ⟨by simp, by simp, by simp [renOf, Blk.live, Sm.a, Sm.c, smsC_map, josC_map], by simp⟩ (by simp [renOf])) ?_
          clear hi ho hlt hlt' i
          rintro i ⟨hi, ho⟩
          by_cases hlt : i < ks.length
          · have hlt' : (i : Int) < ks.length := by omega
            obtain ⟨x, hg⟩ : ∃ x, ks[i]? = some x := ⟨_, List.getElem?_eq_getElem hlt⟩
            have hgi : ∀ h, ks[i]'h = x := fun h => (List.getElem?_eq_some_iff.1 hg).2
            rw [all_drop hg] at ho
            have hx := ek x (List.mem_of_getElem? hg)
            have c1 := x.clen
            have k1 := x.ctake
            generalize x.few (up1 d) = X at *
            have hu : up1 d = IntKind.i64.wrap (d + 1) := rfl
            simp [Sm.a, Sm.c, smsC_map, josC_map, hlt, hlt', hg, hgi, c1, k1]
            (repeat refine ⟨.of (by kernel_rfl), ?_⟩)
            refine acallT_plain hx (by simp [Sm.a, hu]) ?_
            simp
            refine ⟨.of (by kernel_rfl), fun h => ⟨.of (by kernel_rfl), ?_⟩, fun h => ⟨.of (by kernel_rfl), i + 1, ⟨hlt, ?_⟩, sub_mk _ [(2, 2, _)] ⟨by simp, by simp, by simp [renOf, Blk.live, Sm.a, Sm.c, smsC_map, josC_map], by simp⟩ ?_, ?_⟩⟩
            · rw [← hR', ← ho, h]; rfl
            · rw [← ho, h]; rfl
            · simp [renOf]; exact wrap_in (by omega) (by omega)
            · simp; omega
          · have hlt' : ¬ (i : Int) < ks.length := by omega
            rw [all_end (by omega)] at ho
            simp [Sm.a, Sm.c, smsC_map, josC_map, hlt, hlt']
            (repeat refine ⟨.of (by kernel_rfl), ?_⟩)
            rw [← hR', ← ho]
    · have hF : R = false := by
        rw [← hR]
        cases hx : (decide (d ≤ 30) && (decide (is.length ≤ 10) && (decide (js.length ≤ 8) && (decide (ks.length ≤ 6) && (W && (G && (H && (S && (I && (J && K)))))))))) with
        | false => rfl
        | true =>
          simp only [Bool.and_eq_true, decide_eq_true_eq] at hx
          exact absurd ⟨hx.1, hx.2.1, hx.2.2.1, hx.2.2.2.1, hx.2.2.2.2.1, hx.2.2.2.2.2.1, hx.2.2.2.2.2.2.1, hx.2.2.2.2.2.2.2.1⟩ hA
      rw [hF]
      clear hF hR hI hJ hK hq hfq hks hjs hm ek
      simp [Sm.a, Sm.c, smsC_map, josC_map]
      (repeat' (first | contradiction | exact .of (by kernel_rfl) | refine And.intro ?_ ?_ | intro _ | (refine agrd_cases (fun h => ?_) (fun h => ?_) <;> (have h' := h; (try simp at h'); first | done | simp [h, h', smsC_map, josC_map] | simp [smsC_map, josC_map]))))
      all_goals first | (refine acallT_plain e4 (by simp) ?_; simp [smsC_map, josC_map]; (repeat' (first | contradiction | exact .of (by kernel_rfl) | refine And.intro ?_ ?_ | intro _ | (refine agrd_cases (fun h => ?_) (fun h => ?_) <;> (have h' := h; (try simp at h'); first | done | simp [h, h', smsC_map, josC_map] | simp [smsC_map, josC_map]))))) | skip
      all_goals first | (refine acallT_plain e5 (by simp) ?_; simp [smsC_map, josC_map]; (repeat' (first | contradiction | exact .of (by kernel_rfl) | refine And.intro ?_ ?_ | intro _ | (refine agrd_cases (fun h => ?_) (fun h => ?_) <;> (have h' := h; (try simp at h'); first | done | simp [h, h', smsC_map, josC_map] | simp [smsC_map, josC_map]))))) | skip
      all_goals first | (refine acallT_plain e6 (by simp) ?_; simp [smsC_map, josC_map]; (repeat' (first | contradiction | exact .of (by kernel_rfl) | refine And.intro ?_ ?_ | intro _ | (refine agrd_cases (fun h => ?_) (fun h => ?_) <;> (have h' := h; (try simp at h'); first | done | simp [h, h', smsC_map, josC_map] | simp [smsC_map, josC_map]))))) | skip
      all_goals first | (refine acallT_plain e1 (by simp [soA, soC, smsC_map]) ?_; simp [smsC_map, josC_map]; (repeat' (first | contradiction | exact .of (by kernel_rfl) | refine And.intro ?_ ?_ | intro _ | (refine agrd_cases (fun h => ?_) (fun h => ?_) <;> (have h' := h; (try simp at h'); first | done | simp [h, h', smsC_map, josC_map] | simp [smsC_map, josC_map]))))) | skip
      all_goals first | (exfalso; apply hA; simp_all; done) | (exfalso; apply hA; simp_all; omega)
end Go.Proofs.Tryd
/- Binding of terms: the plain law. -/
namespace Go.Proofs.Tryd
open Go.Ab
set_option maxRecDepth 100000
set_option maxHeartbeats 2000000

def zEx : Ex := .mk 0 0 0 [] 0 []
/-- Each of a list, or the first error. -/
def eachG {α β : Type} (f : α → β × Int) : List α → List β × Int
  | [] => ([], 0)
  | x :: xs => if (f x).2 = 0 then (if (eachG f xs).2 = 0 then ((f x).1 :: (eachG f xs).1, 0) else ([], (eachG f xs).2)) else ([], (f x).2)
theorem eachG_ok {α β : Type} {f : α → β × Int} : ∀ {l : List α}, (∀ x ∈ l, (f x).2 = 0) → eachG f l = (l.map fun x => (f x).1, 0)
  | [], _ => rfl
  | x :: xs, h => by
    rw [eachG, if_pos (h x List.mem_cons_self), eachG_ok fun y hy => h y (List.mem_cons_of_mem _ hy), if_pos rfl]; rfl
theorem eachG_bad {α β : Type} {f : α → β × Int} : ∀ {l : List α} {i : Nat} {x : α}, (∀ j y, j < i → l[j]? = some y → (f y).2 = 0) → l[i]? = some x → (f x).2 ≠ 0 → eachG f l = ([], (f x).2)
  | [], i, x, _, h, _ => by simp at h
  | y :: ys, 0, x, _, h, hn => by
    have : y = x := by simpa using h
    subst this
    rw [eachG, if_neg hn]
  | y :: ys, i + 1, x, ho, h, hn => by
    have h0 := ho 0 y (by omega) rfl
    have h1 := eachG_bad (l := ys) (i := i) (x := x) (fun j z hj hz => ho (j + 1) z (by omega) (by simpa using hz)) (by simpa using h) hn
    rw [eachG, if_pos h0, h1, if_neg hn]
theorem eachG_len {α β : Type} {f : α → β × Int} : ∀ (l : List α), (eachG f l).2 = 0 → (eachG f l).1.length = l.length
  | [], _ => rfl
  | x :: xs, h => by
    rw [eachG] at h ⊢
    split at h
    · rename_i h1
      split at h
      · rename_i h2
        rw [if_pos h1, if_pos h2]
        simp [eachG_len xs h2]
      · exact absurd h (by assumption)
    · exact absurd h (by assumption)
theorem eachG_all {α β : Type} {f : α → β × Int} : ∀ (l : List α), (eachG f l).2 = 0 → ∀ x ∈ l, (f x).2 = 0
  | [], _, x, hx => by cases hx
  | y :: ys, h, x, hx => by
    rw [eachG] at h
    split at h
    · rename_i h1
      split at h
      · rename_i h2
        rcases List.mem_cons.1 hx with rfl | hx
        · exact h1
        · exact eachG_all ys h2 x hx
      · exact absurd h (by assumption)
    · exact absurd h (by assumption)
theorem eachG_mem {α β : Type} {f : α → β × Int} (l : List α) (y : β) (hy : y ∈ (eachG f l).1) : ∃ x ∈ l, y = (f x).1 := by
  by_cases h : (eachG f l).2 = 0
  · rw [eachG_ok (eachG_all l h)] at hy
    obtain ⟨x, hx, rfl⟩ := List.mem_map.1 hy
    exact ⟨x, hx, rfl⟩
  · have : ∀ l : List α, (eachG f l).2 ≠ 0 → (eachG f l).1 = [] := by
      intro l
      induction l with
      | nil => intro h; exact absurd rfl h
      | cons z zs ih =>
        intro h
        rw [eachG] at h ⊢
        split
        · rename_i h1
          rw [if_pos h1] at h
          split
          · rename_i h2
            rw [if_pos h2] at h
            exact absurd rfl h
          · rfl
        · rfl
    rw [this l h] at hy
    cases hy

/-! Names. -/
def hitsG (t : List UInt8) : Nat → List (List UInt8) → List Nat
  | _, [] => []
  | i, n :: ns => if n = t then i :: hitsG t (i + 1) ns else hitsG t (i + 1) ns
theorem hitsG_app (t : List UInt8) : ∀ (i : Nat) (a b : List (List UInt8)), hitsG t i (a ++ b) = hitsG t i a ++ hitsG t (i + a.length) b
  | i, [], b => by simp [hitsG]
  | i, n :: a, b => by
    simp only [List.cons_append, hitsG, hitsG_app t (i + 1) a b, List.length_cons]
    rw [show i + 1 + a.length = i + (a.length + 1) from by omega]
    split <;> rfl
theorem hitsG_lt (t : List UInt8) : ∀ (i : Nat) (ns : List (List UInt8)), ∀ k ∈ hitsG t i ns, i ≤ k ∧ k < i + ns.length
  | i, [], k, h => by simp [hitsG] at h
  | i, n :: ns, k, h => by
    rw [hitsG] at h
    have := hitsG_lt t (i + 1) ns k
    simp only [List.length_cons]
    split at h
    · rcases List.mem_cons.1 h with rfl | h
      · omega
      · have := this h; omega
    · have := this h; omega
theorem hitsG_len (t : List UInt8) : ∀ (i : Nat) (ns : List (List UInt8)), (hitsG t i ns).length ≤ ns.length
  | i, [] => by simp [hitsG]
  | i, n :: ns => by
    have := hitsG_len t (i + 1) ns
    rw [hitsG]
    split <;> simp <;> omega
/-- The place of a name, or the error: the columns have no qualifiers. -/
def hitQ (ns : List (List UInt8)) (q t : List UInt8) : List Nat := if q = [] then hitsG t 0 ns else []
def placeG : List Nat → Int × Int
  | [] => (0, 3)
  | [k] => ((k : Int), 0)
  | _ => (0, 5)
def lookG (ns : List (List UInt8)) (q t : List UInt8) : Int × Int := placeG (hitQ ns q t)
theorem lookG_in (ns : List (List UInt8)) (q t : List UInt8) (h : (lookG ns q t).2 = 0) : 0 ≤ (lookG ns q t).1 ∧ (lookG ns q t).1 < ns.length := by
  have hh : ∀ k ∈ hitQ ns q t, k < ns.length := by
    intro k hk
    unfold hitQ at hk
    split at hk
    · have := hitsG_lt t 0 ns k hk; omega
    · cases hk
  unfold lookG at h ⊢
  match hl : hitQ ns q t with
  | [] => rw [hl] at h; simp [placeG] at h
  | [k] =>
    have := hh k (by rw [hl]; simp)
    simp [placeG]; omega
  | a :: b :: l => rw [hl] at h; simp [placeG] at h

/-! Terms. -/
mutual
def bndG (ns : List (List UInt8)) : Tm → Ex × Int
  | .mk o y n t q ks =>
    if o = 40 then (if (lookG ns q t).2 = 0 then (.mk 5 0 0 [] (lookG ns q t).1 [], 0) else (zEx, (lookG ns q t).2))
    else if o = 41 then (zEx, 1)
    else if (bndAll ns ks).2 = 0 then (.mk o y n t 0 (bndAll ns ks).1, 0) else (zEx, (bndAll ns ks).2)
def bndAll (ns : List (List UInt8)) : List Tm → List Ex × Int
  | [] => ([], 0)
  | x :: xs => if (bndG ns x).2 = 0 then (if (bndAll ns xs).2 = 0 then ((bndG ns x).1 :: (bndAll ns xs).1, 0) else ([], (bndAll ns xs).2)) else ([], (bndG ns x).2)
end
theorem bndAll_each (ns : List (List UInt8)) : ∀ l : List Tm, bndAll ns l = eachG (bndG ns) l
  | [] => by rw [bndAll, eachG]
  | x :: xs => by rw [bndAll, eachG, bndAll_each ns xs]
theorem up1_nat {d : Nat} (h : d ≤ 100000) : up1 (d : Int) = ((d + 1 : Nat) : Int) := by unfold up1; rw [wrap_in (by omega) (by omega)]; omega
theorem tm_few {o y n : Int} {t q : List UInt8} {ks : List Tm} {d : Nat} (h : (Tm.mk o y n t q ks).few d = true) : d ≤ 40 ∧ ks.length ≤ 8 ∧ t.length ≤ 100 ∧ ∀ x ∈ ks, x.few ((d + 1 : Nat) : Int) = true := by
  rw [Tm.few] at h
  simp only [Bool.and_eq_true, decide_eq_true_eq] at h
  obtain ⟨hd, hk, ht, _, hl⟩ := h
  have hd' : d ≤ 40 := by omega
  rw [tmsFew_all, List.all_eq_true, up1_nat (by omega)] at hl
  exact ⟨hd', hk, ht, hl⟩
theorem bnd_few (ns : List (List UInt8)) : ∀ (m : Nat) (x : Tm), SizeOf.sizeOf x < m → ∀ d : Nat, x.few d = true → (bndG ns x).1.few d = true
  | 0, _, h, _, _ => absurd h (by omega)
  | m + 1, .mk o y n t q ks, hm, d, h => by
    obtain ⟨hd, hk, ht, hl⟩ := tm_few h
    have hz : zEx.few d = true := by simp [zEx, Ex.few, fewAll]; omega
    rw [bndG]
    split
    · split
      · simp [Ex.few, fewAll]; omega
      · exact hz
    split
    · exact hz
    split
    · rename_i h0
      have hlen : (bndAll ns ks).1.length = ks.length := by rw [bndAll_each] at h0 ⊢; exact eachG_len ks h0
      simp only [Ex.few]
      rw [if_neg (by omega), if_neg (by omega), if_neg (by omega), fewAll_all, List.all_eq_true]
      intro e he
      rw [bndAll_each] at he
      obtain ⟨x, hx, rfl⟩ := eachG_mem ks e he
      exact bnd_few ns m x (by have := Tm.kid_lt (e := .mk o y n t q ks) (k := x) hx; omega) (d + 1) (hl x hx)
    · exact hz

/-! Expressions that are as their operations permit. -/
inductive XOk (n : Nat) : Ex → Prop where
  | nul (c : Int) : 1 ≤ c → c ≤ 3 → XOk n (.mk 1 c 0 [] 0 [])
  | int (v : Int) : V.valid ⟨1, v, []⟩ = true → XOk n (.mk 2 0 v [] 0 [])
  | bool (v : Int) : V.valid ⟨2, v, []⟩ = true → XOk n (.mk 3 0 v [] 0 [])
  | text (t : List UInt8) : V.valid ⟨3, 0, t⟩ = true → XOk n (.mk 4 0 0 t 0 [])
  | col (g : Int) : 0 ≤ g → g < n → XOk n (.mk 5 0 0 [] g [])
  | node (o : Int) (ks : List Ex) : 6 ≤ o → o ≤ 28 → cntd o ks.length = true → (∀ k ∈ ks, XOk n k) → XOk n (.mk o 0 0 [] 0 ks)
theorem arity_in {o : Int} {k : Nat} (h : arity o k = true) : 6 ≤ o ∧ o ≤ 28 := by
  unfold arity at h
  split at h
  · omega
  split at h
  · omega
  split at h
  · omega
  · simp only [Bool.and_eq_true, decide_eq_true_eq] at h; omega
theorem op_cases {o : Int} (h1 : 6 ≤ o) (h2 : o ≤ 28) : o = 6 ∨ o = 7 ∨ o = 8 ∨ o = 9 ∨ o = 10 ∨ o = 11 ∨ o = 12 ∨ o = 13 ∨ o = 14 ∨ o = 15 ∨ o = 16 ∨ o = 17 ∨ o = 18 ∨ o = 19 ∨ o = 20 ∨ o = 21 ∨ o = 22 ∨ o = 23 ∨ o = 24 ∨ o = 25 ∨ o = 26 ∨ o = 27 ∨ o = 28 := by omega
theorem arity_cntd {o : Int} {k : Nat} (h : arity o k = true) : cntd o k = true := by
  obtain ⟨h1, h2⟩ := arity_in h
  rcases op_cases h1 h2 with rfl | rfl | rfl | rfl | rfl | rfl | rfl | rfl | rfl | rfl | rfl | rfl | rfl | rfl | rfl | rfl | rfl | rfl | rfl | rfl | rfl | rfl | rfl <;> simp [arity] at h <;> simp [cntd, isOp, opOf, ops] <;> omega
theorem bnd_ok (ns : List (List UInt8)) : ∀ (m : Nat) (x : Tm), SizeOf.sizeOf x < m → x.right = true → (bndG ns x).2 = 0 → XOk ns.length (bndG ns x).1
  | 0, _, h, _, _ => absurd h (by omega)
  | m + 1, .mk o y n t q ks, hm, hr, h0 => by
    rw [Tm.right, Bool.and_eq_true] at hr
    obtain ⟨hk, hl⟩ := hr
    rw [tmsRight_all, List.all_eq_true] at hl
    rw [bndG] at h0 ⊢
    by_cases c40 : o = 40
    · rw [if_pos c40] at h0 ⊢
      by_cases hlk : (lookG ns q t).2 = 0
      · rw [if_pos hlk]
        obtain ⟨a, b⟩ := lookG_in ns q t hlk
        exact .col _ a b
      · rw [if_neg hlk] at h0; exact absurd h0 hlk
    rw [if_neg c40] at h0 ⊢
    by_cases c41 : o = 41
    · rw [if_pos c41] at h0; exact absurd h0 (by decide)
    rw [if_neg c41] at h0 ⊢
    by_cases hka : (bndAll ns ks).2 = 0
    · rw [if_pos hka]
      rw [bndAll_each] at hka ⊢
      have hlen := eachG_len ks hka
      unfold okK at hk
      by_cases c1 : o = 1
      · rw [if_pos c1] at hk
        simp only [Bool.and_eq_true, decide_eq_true_eq, beq_iff_eq] at hk
        obtain ⟨a, b, c, d, e, f⟩ := hk
        have : ks = [] := List.eq_nil_of_length_eq_zero c
        subst this c1 d e
        exact .nul y a b
      rw [if_neg c1] at hk
      by_cases c2 : o = 2
      · rw [if_pos c2] at hk
        simp only [Bool.and_eq_true, decide_eq_true_eq, beq_iff_eq] at hk
        obtain ⟨a, c, d, e, f⟩ := hk
        have : ks = [] := List.eq_nil_of_length_eq_zero c
        subst this c2 d e
        exact .int n a
      rw [if_neg c2] at hk
      by_cases c3 : o = 3
      · rw [if_pos c3] at hk
        simp only [Bool.and_eq_true, Bool.or_eq_true, decide_eq_true_eq, beq_iff_eq] at hk
        obtain ⟨a, c, d, e, f⟩ := hk
        have : ks = [] := List.eq_nil_of_length_eq_zero c
        subst this c3 d e
        exact .bool n (by rcases a with rfl | rfl <;> decide)
      rw [if_neg c3] at hk
      by_cases c4 : o = 4
      · rw [if_pos c4] at hk
        simp only [Bool.and_eq_true, decide_eq_true_eq, beq_iff_eq] at hk
        obtain ⟨a, c, d, e, f⟩ := hk
        have : ks = [] := List.eq_nil_of_length_eq_zero c
        subst this c4 d e
        exact .text t a
      rw [if_neg c4, if_neg c40, if_neg c41] at hk
      simp only [Bool.and_eq_true, decide_eq_true_eq, beq_iff_eq] at hk
      obtain ⟨a, d, e, f, _⟩ := hk
      subst d e f
      obtain ⟨b1, b2⟩ := arity_in a
      refine .node o _ b1 b2 (by rw [hlen]; exact arity_cntd a) ?_
      intro k hkm
      have hal := eachG_all ks hka
      obtain ⟨x, hx, rfl⟩ := eachG_mem ks k hkm
      exact bnd_ok ns m x (by have := Tm.kid_lt (e := .mk o 0 0 [] q ks) (k := x) hx; omega) (hl x hx) (hal x hx)
    · rw [if_neg hka] at h0; exact absurd h0 hka

/-! Types. -/
def tyRes (ts : List Int) (o c g : Int) (kts : List Int) : Int :=
  if o = 5 then (ts[g.toNat]?).getD 0 else if o = 1 then c else if (opOf o).2.2.2 = 0 then (kts[kts.length - 1]?).getD 0 else (opOf o).2.2.2
def nodeTy (ts : List Int) (o c g : Int) (kts : List Int) : Int × Int :=
  if o = 5 then (if 1 ≤ (ts[g.toNat]?).getD 0 ∧ (ts[g.toNat]?).getD 0 ≤ 3 then ((ts[g.toNat]?).getD 0, 0) else (0, 4))
  else if fitOk (opOf o).2.2.1 kts = true then (tyRes ts o c g kts, 0) else (0, 4)
mutual
def tyG (ts : List Int) : Ex → Int × Int
  | .mk o c _ _ g ks => if (tysG ts ks).2 = 0 then nodeTy ts o c g (tysG ts ks).1 else (0, (tysG ts ks).2)
def tysG (ts : List Int) : List Ex → List Int × Int
  | [] => ([], 0)
  | x :: xs => if (tyG ts x).2 = 0 then (if (tysG ts xs).2 = 0 then ((tyG ts x).1 :: (tysG ts xs).1, 0) else ([], (tysG ts xs).2)) else ([], (tyG ts x).2)
end
theorem tysG_each (ts : List Int) : ∀ l : List Ex, tysG ts l = eachG (tyG ts) l
  | [] => by rw [tysG, eachG]
  | x :: xs => by rw [tysG, eachG, tysG_each ts xs]
/-- The reference's form of the type of a node. -/
def resG (ts : List Int) (o c g : Int) (k : List Int) : Int :=
  if o = 1 then c else if o = 2 then 1 else if o = 3 then 2 else if o = 4 then 3 else if o = 5 then (ts[g.toNat]?).getD 0
  else if o ≤ 11 then (if k.all (· == 1) = true then 1 else 0)
  else if o = 12 then (if k.all (· == 3) = true then 3 else 0)
  else if o = 13 then (if k.all (· == 3) = true then 1 else 0)
  else if o = 21 then 2
  else if o = 22 ∨ o = 23 ∨ o = 24 ∨ o = 25 then (if k.all (· == 2) = true then 2 else 0)
  else if o = 26 then (if (k[0]?).getD 0 = 2 ∧ (k[1]?).getD 0 = (k[2]?).getD 0 then (k[1]?).getD 0 else 0)
  else if o = 27 then (if (k[0]?).getD 0 = (k[1]?).getD 0 then (k[0]?).getD 0 else 0)
  else (if k.all (· == (k[0]?).getD 0) = true then 2 else 0)
theorem cnt_of {o : Int} {k : Nat} (h : cntd o k = true) (h1 : 6 ≤ o) : if o = 11 ∨ o = 13 ∨ o = 21 ∨ o = 24 ∨ o = 25 then k = 1 else if o = 26 then k = 3 else if o = 28 then 2 ≤ k else k = 2 := by
  have h2 : o ≤ 28 := by
    unfold cntd isOp at h
    simp only [Bool.and_eq_true, decide_eq_true_eq] at h
    omega
  rcases op_cases h1 h2 with rfl | rfl | rfl | rfl | rfl | rfl | rfl | rfl | rfl | rfl | rfl | rfl | rfl | rfl | rfl | rfl | rfl | rfl | rfl | rfl | rfl | rfl | rfl <;> simp [cntd, isOp, opOf, ops] at h <;> simp <;> omega
theorem res_node (ts : List Int) (o c g : Int) (k : List Int) (h1 : 6 ≤ o) (h2 : o ≤ 28) (hc : cntd o k.length = true) (hk : ∀ x ∈ k, 1 ≤ x ∧ x ≤ 3) :
    nodeTy ts o c g k = if resG ts o c g k < 1 ∨ 3 < resG ts o c g k then (0, 4) else (resG ts o c g k, 0) := by
  have hcn := cnt_of hc h1
  rcases op_cases h1 h2 with rfl | rfl | rfl | rfl | rfl | rfl | rfl | rfl | rfl | rfl | rfl | rfl | rfl | rfl | rfl | rfl | rfl | rfl | rfl | rfl | rfl | rfl | rfl
  case inr.inr.inr.inr.inr.inr.inr.inr.inr.inr.inr.inr.inr.inr.inr.inr.inr.inr.inr.inr.inr.inr =>
    simp only [nodeTy, resG, fitOk, tyRes, opOf, ops]
    simp
    split <;> simp_all
  case inr.inr.inr.inr.inr.inr.inr.inr.inr.inr.inr.inr.inr.inr.inr.inr.inr.inr.inr.inr.inl =>
    have h3 : k.length = 3 := by simpa using hcn
    match k, h3 with
    | [a, b, d], _ =>
      have ha := hk a (by simp)
      have hb := hk b (by simp)
      have hd := hk d (by simp)
      simp [nodeTy, resG, fitOk, tyRes, opOf, ops]
      by_cases e1 : a = 2 <;> by_cases e2 : b = d <;> simp_all
      try omega
  case inr.inr.inr.inr.inr.inr.inr.inr.inr.inr.inr.inr.inr.inr.inr.inr.inr.inr.inr.inr.inr.inl =>
    have h3 : k.length = 2 := by simpa using hcn
    match k, h3 with
    | [a, b], _ =>
      have ha := hk a (by simp)
      have hb := hk b (by simp)
      simp [nodeTy, resG, fitOk, tyRes, opOf, ops]
      by_cases e1 : a = b
      · subst e1
        simp
        omega
      · simp [e1, Ne.symm e1]
        try exact fun h => absurd h.symm e1
  all_goals
    simp [nodeTy, resG, fitOk, tyRes, opOf, ops]
    try (split <;> simp_all)
theorem res_leaf (ts : List Int) (o c g : Int) (h1 : 1 ≤ o) (h2 : o ≤ 5) (hc : o = 1 → 1 ≤ c ∧ c ≤ 3) :
    nodeTy ts o c g [] = if resG ts o c g [] < 1 ∨ 3 < resG ts o c g [] then (0, 4) else (resG ts o c g [], 0) := by
  have ho : o = 1 ∨ o = 2 ∨ o = 3 ∨ o = 4 ∨ o = 5 := by omega
  rcases ho with rfl | rfl | rfl | rfl | rfl
  · have := hc rfl
    simp [nodeTy, resG, fitOk, tyRes, opOf, ops]
    omega
  · simp [nodeTy, resG, fitOk, tyRes, opOf, ops]
  · simp [nodeTy, resG, fitOk, tyRes, opOf, ops]
  · simp [nodeTy, resG, fitOk, tyRes, opOf, ops]
  · simp only [nodeTy, resG]
    simp
    split <;> split <;> first | rfl | omega
theorem node_in (ts : List Int) (o c g : Int) (k : List Int) (h : nodeTy ts o c g k = if resG ts o c g k < 1 ∨ 3 < resG ts o c g k then (0, 4) else (resG ts o c g k, 0)) (h0 : (nodeTy ts o c g k).2 = 0) : 1 ≤ (nodeTy ts o c g k).1 ∧ (nodeTy ts o c g k).1 ≤ 3 := by
  rw [h] at h0 ⊢
  split at h0
  · exact absurd h0 (by decide)
  · rename_i h1
    rw [if_neg h1]
    simp only
    omega
theorem ty_in {ts : List Int} {n : Nat} : ∀ {e : Ex}, XOk n e → (tyG ts e).2 = 0 → 1 ≤ (tyG ts e).1 ∧ (tyG ts e).1 ≤ 3 := by
  intro e h
  induction h with
  | nul c h1 h2 => rw [tyG, tysG, if_pos rfl]; exact node_in ts 1 c 0 [] (res_leaf ts 1 c 0 (by omega) (by omega) (fun _ => ⟨h1, h2⟩))
  | int v hv => rw [tyG, tysG, if_pos rfl]; exact node_in ts 2 0 0 [] (res_leaf ts 2 0 0 (by omega) (by omega) (fun h => absurd h (by decide)))
  | bool v hv => rw [tyG, tysG, if_pos rfl]; exact node_in ts 3 0 0 [] (res_leaf ts 3 0 0 (by omega) (by omega) (fun h => absurd h (by decide)))
  | text v hv => rw [tyG, tysG, if_pos rfl]; exact node_in ts 4 0 0 [] (res_leaf ts 4 0 0 (by omega) (by omega) (fun h => absurd h (by decide)))
  | col g h1 h2 => rw [tyG, tysG, if_pos rfl]; exact node_in ts 5 0 g [] (res_leaf ts 5 0 g (by omega) (by omega) (fun h => absurd h (by decide)))
  | node o ks h1 h2 hc hk ih =>
    rw [tyG]
    by_cases h0 : (tysG ts ks).2 = 0
    · rw [if_pos h0]
      rw [tysG_each] at h0 ⊢
      refine node_in ts _ _ _ _ (res_node ts _ _ _ _ h1 h2 (by rw [eachG_len ks h0]; exact hc) ?_)
      intro x hx
      obtain ⟨k, hkm, rfl⟩ := eachG_mem ks x hx
      exact ih k hkm (eachG_all ks h0 k hkm)
    · rw [if_neg h0]
      intro h; exact absurd h h0
/-- The type of an expression, or the error. -/
def typeG (ts : List Int) (e : Ex) : Int × Int := if 200 < e.size then (0, 8) else if 24 < (e.dep : Int) then (0, 13) else tyG ts e
/-- What a term over columns is bound to. -/
def bindT (ns : List (List UInt8)) (ts : List Int) (x : Tm) : Ex × Int :=
  if (decide (x.dep ≤ 24) && x.right) = true then
    (if (bndG ns x).2 = 0 then (if (typeG ts (bndG ns x).1).2 = 0 then ((bndG ns x).1, 0) else (zEx, (typeG ts (bndG ns x).1).2)) else (zEx, (bndG ns x).2))
  else (zEx, 1)
end Go.Proofs.Tryd
