import Derived.Test.YtlimkhfjidcelaaDoorKE0
set_option linter.all false
/- Names: the program's and the reference's. -/
namespace Go.Proofs.Tryd
open Go.Ab
set_option maxRecDepth 100000
set_option maxHeartbeats 1000000

theorem s_letter (c : UInt8) : Cf Es 117 [.d (.int .u8 c.toNat)] [] (.d (.bool (lowr c))) [] := by
  refine cf_intro mixs (fn := Tryd.f117) (by kernel_rfl) rfl (by kernel_rfl) (by decide) (by simp) ?_
  unfold lowr
  simp
  (repeat' (first | contradiction | exact .of (by kernel_rfl) | refine And.intro ?_ ?_ | intro _ | (refine agrd_cases (fun h => ?_) (fun h => ?_) <;> (have h' := h; (try simp at h'); first | done | simp [h, h'] | simp))))
  all_goals (first | (rw [Bool.eq_iff_iff]; simp; omega) | (simp; omega) | (simp_all; omega))

theorem words_plain : words.all plainW = true := by decide
theorem nameOk_eq {c : UInt8} {s : List UInt8} (hl : s.length ≤ 15) (hc : lowr c = true) :
    nameOk words (c :: s) = (!within (32 :: (c :: (s ++ [32]))) (spaced words) && (c :: s).all nameB) := by
  have h := fun hp => within_spaced (c :: s) hp words words_plain
  rw [List.cons_append] at h
  unfold nameOk headLow
  cases ha : (c :: s).all nameB with
  | false => simp
  | true =>
    rw [h (plain_of_name ha)]
    simp [hc]
    omega
theorem s_name (s : List UInt8) : Cf Es 86 [.d (.str s)] [] (.d (.bool (nameOk words s))) [] := by
  refine cf_intro mixs (fn := Tryd.f86) (by kernel_rfl) rfl (by kernel_rfl) (by decide) (by simp) ?_
  cases s with
  | nil =>
    simp [nameOk, headLow]
    (repeat' (first | contradiction | exact .of (by kernel_rfl) | refine And.intro ?_ ?_ | intro _ | (refine agrd_cases (fun h => ?_) (fun h => ?_) <;> (have h' := h; (try simp at h'); first | done | simp [h, h'] | simp))))
  | cons c s =>
    by_cases hl : s.length ≤ 15
    · have hl' : ¬ (16 : Int) < (s.length : Int) + 1 := by omega
      have hl3 : ¬ (16 : Int) < (s.length : Int) := by omega
      simp [hl, hl']
      refine ⟨.of (by kernel_rfl), ?_⟩
      refine acallT_plain (s_letter c) (by simp) ?_
      simp [hl, hl']
      refine agrd_cases (fun h => ?_) (fun h => ?_)
      · have h' : lowr c = true := by simpa using h
        have b1 : 1 + (s.length + 1) ≤ 9223372036854775807 := by omega
        have b2 : s.length + 1 + 1 ≤ 9223372036854775807 := by omega
        have b3 : s.length + 1 + 1 + 1 ≤ 9223372036854775807 := by omega
        have b4 : 1 + (s.length + 1) + 1 ≤ 9223372036854775807 := by omega
        simp [h, h', b1, b2, b3, b4]
        refine acallT_plain (c_contains (spaced words) (32 :: ((c :: s) ++ [32])) (by decide)) (by simp [spaced, words]) ?_
        rw [nameOk_eq hl h']
        generalize hW : within (32 :: (c :: (s ++ [32]))) (spaced words) = W
        generalize hA : (c :: s).all nameB = A
        cases W with
        | true =>
          simp [h, h', hW]
          (repeat' (first | contradiction | exact .of (by kernel_rfl) | refine And.intro ?_ ?_ | intro _ | (refine agrd_cases (fun h => ?_) (fun h => ?_) <;> (have h' := h; (try simp at h'); first | done | simp [h, h'] | simp))))
        | false =>
          simp [h, h', hW]
          obtain ⟨t, ht⟩ : ∃ t, t = c :: s := ⟨_, rfl⟩
          have htl : (s.length : Int) + 1 = t.length := by rw [ht]; simp
          have htn : t.length ≤ 16 := by rw [ht]; simp; omega
          rw [← ht] at hA ⊢
          rw [htl]
          refine ⟨.of (by kernel_rfl), .of (by kernel_rfl), ?_⟩
          refine aloopT mixs (by decide) (fun i : Nat => { s := mkS [(0, .d (.str t)), (25, .d (.int .i64 t.length)), (26, .d (.int .i64 i))], b := mkB [] }) (fun i : Nat => i ≤ t.length ∧ ∀ j (h : j < t.length), j < i → nameB t[j] = true) (fun i => t.length - i) 0 (by simp) (sub_mk _ [] .nil (by simp)) ?_
          clear ht htl hl hl' hl3 h h' hW b1 b2 b3 b4
          rintro i ⟨hi, ho⟩
          by_cases hlt : i < t.length
          · have hlt' : (i : Int) < t.length := by omega
            have hg : t[i]? = some t[i] := List.getElem?_eq_getElem hlt
            simp [hlt, hlt', hg]
            refine ⟨.of (by kernel_rfl), .of (by kernel_rfl), .of (by kernel_rfl), ?_⟩
            refine acallT_plain (s_letter t[i]) (by simp) ?_
            simp
            have hbad : nameB t[i] = false → A = false := fun h => by
              rw [← hA]
              cases hx : t.all nameB with
              | false => rfl
              | true => rw [List.all_eq_true.1 hx _ (List.getElem_mem hlt)] at h; cases h
            have hgood : nameB t[i] = true → ∀ j (h : j < t.length), j < i + 1 → nameB t[j] = true := fun h j hj hji => by
              rcases Nat.lt_or_ge j i with c | c
              · exact ho j hj c
              · have : j = i := by omega
                subst this
                exact h
            generalize hb : t[i] = b at *
            have hnb : nameB b = (lowr b || (decide (48 ≤ b.toNat) && decide (b.toNat ≤ 57) || b.toNat == 95)) := rfl
            clear ho hA hg
            (repeat' (first | contradiction | exact .of (by kernel_rfl) | refine And.intro ?_ ?_ | intro _ | (refine agrd_cases (fun h => ?_) (fun h => ?_) <;> (have h' := h; (try simp at h'); first | done | simp [h, h'] | simp))))
            all_goals first
              | (refine ⟨i + 1, ⟨hlt, hgood ?_⟩, sub_mk _ [] .nil ?_, ?_⟩
                 · clear hbad hgood hb; first | (rw [hnb]; simp_all; done) | (rw [hnb]; simp_all; omega)
                 · simp; exact wrap_in (by omega) (by omega)
                 · simp; omega)
              | (apply hbad; clear hbad hgood hb; rw [hnb]; simp_all; done)
              | (apply hbad; clear hbad hgood hb; rw [hnb]; simp_all; omega)
          · have hlt' : ¬ (i : Int) < t.length := by omega
            have : A = true := by
              rw [← hA, List.all_eq_true]
              intro x hx
              obtain ⟨j, hj, rfl⟩ := List.getElem_of_mem hx
              exact ho j hj (by omega)
            simp [hlt, hlt', this]
            exact ⟨.of (by kernel_rfl), .of (by kernel_rfl)⟩
      · have h' : lowr c = false := by simpa using h
        simp [h, h', nameOk, headLow]
        (repeat' (first | contradiction | exact .of (by kernel_rfl) | refine And.intro ?_ ?_ | intro _ | (refine agrd_cases (fun h => ?_) (fun h => ?_) <;> (have h' := h; (try simp at h'); first | done | simp [h, h'] | simp))))
    · have hn : nameOk words (c :: s) = false := by unfold nameOk; simp; intro h; omega
      rw [hn]
      have hl' : (16 : Int) < (s.length : Int) + 1 := by omega
      simp [hl, hl']
      (repeat' (first | contradiction | exact .of (by kernel_rfl) | refine And.intro ?_ ?_ | intro _ | (refine agrd_cases (fun h => ?_) (fun h => ?_) <;> (have h' := h; (try simp at h'); first | done | simp [h, h', hl'] | simp [hl']))))
      all_goals simp_all

theorem r_reserved : Cf Es 114 [] [] (.d (.sl (words.map fun w => [.str w]))) [] := by
  refine cf_intro mixs (fn := Tryd.f114) (by kernel_rfl) rfl (by kernel_rfl) (by decide) (by simp) ?_
  simp [words]
  (repeat' (first | contradiction | exact .of (by kernel_rfl) | refine And.intro ?_ ?_ | intro _ | (refine agrd_cases (fun h => ?_) (fun h => ?_) <;> (have h' := h; (try simp at h'); first | done | simp [h, h'] | simp))))
theorem r_name (s : List UInt8) : Cf Es 80 [.d (.str s)] [] (.d (.bool (nameOk words s))) [] := by
  refine cf_intro mixs (fn := Tryd.f80) (by kernel_rfl) rfl (by kernel_rfl) (by decide) (by simp) ?_
  cases s with
  | nil =>
    simp [nameOk, headLow]
    (repeat' (first | contradiction | exact .of (by kernel_rfl) | refine And.intro ?_ ?_ | intro _ | (refine agrd_cases (fun h => ?_) (fun h => ?_) <;> (have h' := h; (try simp at h'); first | done | simp [h, h'] | simp))))
  | cons c s =>
    by_cases hl : s.length ≤ 15
    · have hl' : ¬ (16 : Int) < (s.length : Int) + 1 := by omega
      have hl3 : ¬ (s.length : Int) + 1 < 1 := by omega
      have hN : nameOk words (c :: s) = (lowr c && ((c :: s).all nameB && !words.contains (c :: s))) := by
        unfold nameOk headLow
        simp
        omega
      rw [hN]
      generalize hA : (c :: s).all nameB = A
      generalize hW : words.contains (c :: s) = W
      generalize hR : (lowr c && (A && !W)) = R
      by_cases hc : lowr c = true
      · have h1 : ¬ (c.toNat : Int) < 97 := by unfold lowr at hc; simp at hc; omega
        have h2 : ¬ (122 : Int) < c.toNat := by unfold lowr at hc; simp at hc; omega
        simp [hl, hl', hl3, h1, h2, hc]
        obtain ⟨t, ht⟩ : ∃ t, t = c :: s := ⟨_, rfl⟩
        have htl : (s.length : Int) + 1 = t.length := by rw [ht]; simp
        have htn : t.length ≤ 16 := by rw [ht]; simp; omega
        rw [← ht] at hA hW ⊢
        refine ⟨.of (by kernel_rfl), .of (by kernel_rfl), .of (by kernel_rfl), ?_⟩
        refine aloopT mixs (by decide) (fun i : Nat => { s := mkS [(0, .d (.str t)), (3, .d (.int .i64 i))], b := mkB [] }) (fun i : Nat => i ≤ t.length ∧ ∀ j (h : j < t.length), j < i → nameB t[j] = true) (fun i => t.length - i) 0 (by simp) (sub_mk _ [] .nil (by simp)) ?_
        clear ht htl hl hl' hl3 h1 h2
        rintro i ⟨hi, ho⟩
        by_cases hlt : i < t.length
        · have hlt' : (i : Int) < t.length := by omega
          have hg : t[i]? = some t[i] := List.getElem?_eq_getElem hlt
          simp [hlt, hlt', hg]
          refine ⟨.of (by kernel_rfl), ?_⟩
          have hbad : nameB t[i] = false → A = false := fun h => by
            rw [← hA]
            cases hx : t.all nameB with
            | false => rfl
            | true => rw [List.all_eq_true.1 hx _ (List.getElem_mem hlt)] at h; cases h
          have hgood : nameB t[i] = true → ∀ j (h : j < t.length), j < i + 1 → nameB t[j] = true := fun h j hj hji => by
            rcases Nat.lt_or_ge j i with c | c
            · exact ho j hj c
            · have : j = i := by omega
              subst this
              exact h
          generalize hb : t[i] = b at *
          have hgi : ∀ h, t[i]'h = b := fun _ => hb
          have hnb : nameB b = (decide (97 ≤ b.toNat) && decide (b.toNat ≤ 122) || (decide (48 ≤ b.toNat) && decide (b.toNat ≤ 57) || b.toNat == 95)) := rfl
          clear ho hA
          (repeat' (first | contradiction | exact .of (by kernel_rfl) | refine And.intro ?_ ?_ | intro _ | (refine agrd_cases (fun h => ?_) (fun h => ?_) <;> (have h' := h; (try simp at h'); first | done | simp [h, h', hg, hlt, hgi] | simp [hg, hlt, hgi]))))
          all_goals first
            | (refine ⟨i + 1, ⟨hlt, hgood ?_⟩, sub_mk _ [] .nil ?_, ?_⟩
               · clear hbad hgood hb hgi hR; first | (rw [hnb]; simp_all; done) | (rw [hnb]; simp_all; omega)
               · simp; exact wrap_in (by omega) (by omega)
               · simp; omega)
            | (rw [← hR, show A = false by (apply hbad; clear hbad hgood hb hgi hR; first | (rw [hnb]; simp_all; done) | (rw [hnb]; simp_all; omega))]; simp)
        · have hlt' : ¬ (i : Int) < t.length := by omega
          have : A = true := by
            rw [← hA, List.all_eq_true]
            intro x hx
            obtain ⟨j, hj, rfl⟩ := List.getElem_of_mem hx
            exact ho j hj (by omega)
          subst this
          clear ho hA hi
          simp [hlt, hlt']
          refine ⟨.of (by kernel_rfl), ?_⟩
          refine acallT_plain r_reserved (by simp) ?_
          simp
          (repeat refine ⟨.of (by kernel_rfl), ?_⟩)
          refine aloopT mixs (by decide) (fun i : Nat => { s := mkS [(0, .d (.str t)), (4, .d (.sl (words.map fun w => [.str w]))), (5, .d (.int .i64 i))], b := mkB [] }) (fun i : Nat => i ≤ words.length ∧ (words.drop i).contains t = W) (fun i => words.length - i) 0 (by simp [← hW]) (sub_mk _ [] .nil (by simp)) ?_
          clear hlt hlt' i
          rintro i ⟨hi, ho⟩
          by_cases hlt : i < words.length
          · have hlt' : (i : Int) < words.length := by omega
            obtain ⟨v, hg⟩ : ∃ v, words[i]? = some v := ⟨_, List.getElem?_eq_getElem hlt⟩
            have hgi : ∀ h, words[i]'h = v := fun h => (List.getElem?_eq_some_iff.1 hg).2
            have hd : words.drop i = v :: words.drop (i + 1) := by rw [List.drop_eq_getElem_cons hlt, hgi]
            rw [hd] at ho
            simp [hlt, hlt', hg, hgi]
            refine ⟨.of (by kernel_rfl), .of (by kernel_rfl), fun h => ⟨.of (by kernel_rfl), ?_⟩, fun h => ⟨.of (by kernel_rfl), i + 1, ⟨hlt, ?_⟩, sub_mk _ [] .nil ?_, ?_⟩⟩
            · subst h
              simp at ho
              rw [← hR, ← ho]; simp
            · rw [← ho]
              simp
              intro e
              exact absurd e.symm h
            · simp
              have : words.length = 52 := rfl
              exact wrap_in (by omega) (by omega)
            · simp; omega
          · have hlt' : ¬ (i : Int) < words.length := by omega
            have hWf : W = false := by
              rw [← ho, List.drop_eq_nil_of_le (by omega)]; rfl
            simp [hlt, hlt']
            refine ⟨.of (by kernel_rfl), .of (by kernel_rfl), ?_⟩
            rw [← hR, hWf, hc]; rfl
      · have hc' : lowr c = false := by simpa using hc
        have hRf : R = false := by rw [← hR, hc']; rfl
        subst hRf
        clear hR
        unfold lowr at hc'
        simp [hl, hl', hl3]
        (repeat' (first | contradiction | exact .of (by kernel_rfl) | refine And.intro ?_ ?_ | intro _ | (refine agrd_cases (fun h => ?_) (fun h => ?_) <;> (have h' := h; (try simp at h'); first | done | simp [h, h', hl3] | simp [hl3]))))
        all_goals first | (simp_all; done) | (simp_all; omega)
    · have hn : nameOk words (c :: s) = false := by unfold nameOk; simp; intro h; omega
      rw [hn]
      have hl' : (16 : Int) < (s.length : Int) + 1 := by omega
      have hl3 : ¬ (s.length : Int) + 1 < 1 := by omega
      have hl4 : (1 : Int) ≤ (s.length : Int) + 1 := by omega
      simp [hl, hl', hl3, hl4]
      (repeat' (first | contradiction | exact .of (by kernel_rfl) | refine And.intro ?_ ?_ | intro _ | (refine agrd_cases (fun h => ?_) (fun h => ?_) <;> (have h' := h; (try simp at h'); first | done | simp [h, h', hl', hl3, hl4] | simp [hl', hl3, hl4]))))
      all_goals simp_all
end Go.Proofs.Tryd
/- Values: their cells. -/
namespace Go.Proofs.Tryd
open Go.Ab

structure V where
  k : Int
  n : Int
  t : List UInt8
def V.a (v : V) : AV := .agg [.d (.int .i64 v.k), .d (.int .i64 v.n), .d (.str v.t)]
def V.c (v : V) : List D := [.int .i64 v.k, .int .i64 v.n, .str v.t]
end Go.Proofs.Tryd
/- Texts of values: the bytes that may stand in them. -/
namespace Go.Proofs.Tryd
open Go.Ab

def badN (c : Nat) : Bool := decide (c < 32) || (decide (126 < c) || c == 39)
def badB (b : UInt8) : Bool := badN b.toNat
def firstBad (s : List UInt8) : Int := match s.findIdx? badB with
  | some i => i
  | none => -1
def textOk (s : List UInt8) : Bool := decide (s.length ≤ 24) && !s.any badB

theorem get_byte (s : List UInt8) (i : Nat) (h : i < s.length) : (ByteArray.get! ⟨s.toArray⟩ i) = s[i] := by
  simp [ByteArray.get!, h]
theorem dec_low {s : List UInt8} {i : Nat} (h : i < s.length) (hb : s[i].toNat < 128) : Utf8.decode ⟨s.toArray⟩ i = (s[i].toNat, 1) := by
  unfold Utf8.decode
  simp only [Nat.add_zero, get_byte s i h, hb, if_true]
theorem dec_high {s : List UInt8} {i : Nat} (h : i < s.length) (hb : 128 ≤ s[i].toNat) : 128 ≤ (Utf8.decode ⟨s.toArray⟩ i).1 := by
  unfold Utf8.decode
  simp only [Nat.add_zero, get_byte s i h, show ¬ s[i].toNat < 128 from by omega, if_false]
  repeat' split
  all_goals first | (simp [Utf8.runeError]; done) | skip
  all_goals simp_all
  all_goals omega
theorem dec_bad {s : List UInt8} {i : Nat} (h : i < s.length) : badN (Utf8.decode ⟨s.toArray⟩ i).1 = badB s[i] := by
  unfold badB
  by_cases hb : s[i].toNat < 128
  · rw [dec_low h hb]
  · have := dec_high h (by omega)
    have h1 : badN (Utf8.decode ⟨s.toArray⟩ i).1 = true := by unfold badN; simp; omega
    have h2 : badN s[i].toNat = true := by unfold badN; simp; omega
    rw [h1, h2]
theorem dec_ok {s : List UInt8} {i : Nat} (h : i < s.length) (hb : badB s[i] = false) : (Utf8.decode ⟨s.toArray⟩ i).2 = 1 := by
  have : s[i].toNat < 128 := by unfold badB badN at hb; simp at hb; omega
  rw [dec_low h this]

theorem text_fun (c : Nat) : Cf En 132 [.d (.int .i32 c)] [] (.d (.bool (badN c))) [] := by
  refine cf_intro mix (fn := Tryd.f132) (by kernel_rfl) rfl (by kernel_rfl) (by decide) (by simp) ?_
  unfold badN
  by_cases h1 : c < 32
  · have h1' : (c : Int) < 32 := by omega
    simp [h1, h1']
    exact ⟨.of (by kernel_rfl), .of (by kernel_rfl)⟩
  · have h1' : ¬ (c : Int) < 32 := by omega
    by_cases h2 : 126 < c
    · have h2' : (126 : Int) < c := by omega
      simp [h1, h1', h2, h2']
      exact ⟨.of (by kernel_rfl), .of (by kernel_rfl)⟩
    · have h2' : ¬ (126 : Int) < c := by omega
      simp [h1, h1', h2, h2']
      exact ⟨.of (by kernel_rfl), .of (by kernel_rfl), by rw [Bool.eq_iff_iff]; simp; omega⟩

theorem index_func (s : List UInt8) (hl : s.length ≤ 1000000) : Cf En 152 [.d (.str s), .clo 132 [], .d (.bool true)] [] (.d (.int .i64 (firstBad s))) [] := by
  refine cf_intro mix (fn := Tryd.f152) (by kernel_rfl) rfl (by kernel_rfl) (by decide) (by simp) ?_
  simp
  refine ⟨.of (by kernel_rfl), .of (by kernel_rfl), ?_⟩
  refine aloopT mix (by decide) (fun i : Nat => { s := mkS [(0, .d (.str s)), (1, .clo 132 []), (2, .d (.bool true)), (10, .ptr 10 0 0)], b := mkB [(10, 10, .iter s i)] }) (fun i : Nat => i ≤ s.length ∧ ∀ j (h : j < s.length), j < i → badB s[j] = false) (fun i => s.length - i) 0 (by simp) (sub_mk _ _ ⟨by simp, by simp, by simp [renOf, Blk.live], by simp⟩ (by simp [renOf])) ?_
  rintro i ⟨hi, ho⟩
  by_cases hlt : i < s.length
  · simp [hlt]
    refine ⟨.of (by kernel_rfl), .of (by kernel_rfl), acallT_plain (text_fun (Utf8.decode ⟨s.toArray⟩ i).1) (by simp) ?_⟩
    simp
    have hb := dec_bad hlt
    refine ⟨.of (by kernel_rfl), fun h => ⟨.of (by kernel_rfl), ?_⟩, fun h => ⟨i + 1, ⟨hlt, ?_⟩, ?_, ?_⟩⟩
    · rw [hb] at h
      unfold firstBad
      have : s.findIdx? badB = some i := by
        rw [List.findIdx?_eq_some_iff_getElem]
        exact ⟨hlt, h, fun j hj => by simp [ho j (by omega) hj]⟩
      rw [this]
    · intro j hj hji
      rcases Nat.lt_or_ge j i with c | c
      · exact ho j hj c
      · have : j = i := by omega
        subst this
        rw [← hb]; exact h
    · refine sub_mk _ [(10, 10, .iter s (i + 1))] ⟨by simp, by simp, ?_, by simp⟩ (by simp [renOf])
      rw [hb] at h
      simp [renOf, Blk.live, dec_ok hlt h]
    · simp; omega
  · simp [hlt]
    refine ⟨.of (by kernel_rfl), .of (by kernel_rfl), ?_⟩
    unfold firstBad
    have : s.findIdx? badB = none := by
      rw [List.findIdx?_eq_none_iff]
      intro b hb
      obtain ⟨j, hj, rfl⟩ := List.getElem_of_mem hb
      exact ho j hj (by omega)
    rw [this]

theorem index_func2 (s : List UInt8) (hl : s.length ≤ 1000000) : Cf En 131 [.d (.str s), .clo 132 []] [] (.d (.int .i64 (firstBad s))) [] := by
  refine cf_intro mix (fn := Tryd.f131) (by kernel_rfl) rfl (by kernel_rfl) (by decide) (by simp) ?_
  simp
  refine ⟨.of (by kernel_rfl), acallT_plain (index_func s hl) (by simp) ?_⟩
  simp
  exact .of (by kernel_rfl)

theorem firstBad_neg (s : List UInt8) : decide (firstBad s < 0) = !s.any badB := by
  unfold firstBad
  cases h : s.findIdx? badB with
  | none =>
    rw [List.findIdx?_eq_none_iff] at h
    have : s.any badB = false := by rw [List.any_eq_false]; intro x hx; simp [h x hx]
    simp [this]
  | some i =>
    rw [List.findIdx?_eq_some_iff_getElem] at h
    obtain ⟨hi, h, _⟩ := h
    have : s.any badB = true := List.any_eq_true.2 ⟨_, List.getElem_mem hi, h⟩
    simp [this]

theorem v_text (s : List UInt8) : Cf En 102 [.d (.str s)] [] (.d (.bool (textOk s))) [] := by
  refine cf_intro mix (fn := Tryd.f102) (by kernel_rfl) rfl (by kernel_rfl) (by decide) (by simp) ?_
  have hn := firstBad_neg s
  unfold textOk
  by_cases h : s.length ≤ 24
  · have h' : (s.length : Int) ≤ 24 := by omega
    simp [h, h']
    refine ⟨.of (by kernel_rfl), acallT_plain (index_func2 s (by omega)) (by simp) ?_⟩
    simp [h']
    exact ⟨.of (by kernel_rfl), by rw [hn]; simp [h]⟩
  · have h' : ¬ (s.length : Int) ≤ 24 := by omega
    simp [h, h']
    exact ⟨.of (by kernel_rfl), .of (by kernel_rfl)⟩

def V.valid (v : V) : Bool :=
  if v.k = 0 then v.n == 0 && v.t == []
  else if v.k = 1 then decide (-1000000000000 ≤ v.n) && (decide (v.n ≤ 1000000000000) && v.t == [])
  else if v.k = 2 then (v.n == 0 || v.n == 1) && v.t == []
  else if v.k = 3 then v.n == 0 && textOk v.t
  else false

theorem v_valid (v : V) : Cf En 65 [v.a] [] (.d (.bool v.valid)) [] := by
  refine cf_intro mix (fn := Tryd.f65) (by kernel_rfl) rfl (by kernel_rfl) (by decide) (by simp) ?_
  obtain ⟨k, n, t⟩ := v
  unfold V.valid V.a
  simp
  repeat' (first | exact .of (by kernel_rfl) | refine And.intro ?_ ?_ | intro _)
  all_goals try (refine agrd_cases (fun h => ?_) (fun h => ?_) <;> (have h' := h; (try simp at h'); simp [h, h']))
  repeat' (first | exact .of (by kernel_rfl) | refine And.intro ?_ ?_ | intro _)
  all_goals try (refine agrd_cases (fun h => ?_) (fun h => ?_) <;> (have h' := h; (try simp at h'); simp [h, h']))
  repeat' (first | exact .of (by kernel_rfl) | refine And.intro ?_ ?_ | intro _)
  all_goals try (refine agrd_cases (fun h => ?_) (fun h => ?_) <;> (have h' := h; (try simp at h'); simp [h, h']))
  repeat' (first | exact .of (by kernel_rfl) | refine And.intro ?_ ?_ | intro _)
  all_goals try (refine acallT_plain (v_text t) (by simp) ?_; simp)
  repeat' (first | exact .of (by kernel_rfl) | refine And.intro ?_ ?_ | intro _)
  all_goals try (simp_all; done)
end Go.Proofs.Tryd
/- The reference's Valid. -/
namespace Go.Proofs.Tryd
open Go.Ab

theorem badB_def (b : UInt8) : badB b = (decide ((b.toNat : Int) < 32) || (decide (126 < (b.toNat : Int)) || decide ((b.toNat : Int) = 39))) := by
  unfold badB badN
  rw [Bool.eq_iff_iff]
  simp
  omega

theorem r_valid (v : V) : Cf En 31 [v.a] [] (.d (.bool v.valid)) [] := by
  refine cf_intro mix (fn := Tryd.f31) (by kernel_rfl) rfl (by kernel_rfl) (by decide) (by simp) ?_
  obtain ⟨k, n, t⟩ := v
  unfold V.valid V.a
  simp
  repeat' (first | exact .of (by kernel_rfl) | refine And.intro ?_ ?_ | intro _)
  all_goals try (refine agrd_cases (fun h => ?_) (fun h => ?_) <;> (have h' := h; (try simp at h'); simp [h, h']))
  repeat' (first | exact .of (by kernel_rfl) | refine And.intro ?_ ?_ | intro _)
  all_goals try (refine agrd_cases (fun h => ?_) (fun h => ?_) <;> (have h' := h; (try simp at h'); simp [h, h']))
  repeat' (first | exact .of (by kernel_rfl) | refine And.intro ?_ ?_ | intro _)
  all_goals try (refine agrd_cases (fun h => ?_) (fun h => ?_) <;> (have h' := h; (try simp at h'); simp [h, h']))
  repeat' (first | exact .of (by kernel_rfl) | refine And.intro ?_ ?_ | intro _)
  all_goals try (simp_all; done)
  · simp_all [textOk]; omega
  · have hl : t.length ≤ 24 := by omega
    refine aloopT mix (by decide) (fun i : Nat => { s := mkS [(1, .ptr 1 0 0), (3, .d (.int .i64 i))], b := mkB [(1, 1, .var [.d (.int .i64 k), .d (.int .i64 0), .d (.str t)])] }) (fun i : Nat => i ≤ t.length ∧ ∀ j (h : j < t.length), j < i → badB t[j] = false) (fun i => t.length - i) 0 (by simp) (sub_mk _ _ ⟨by simp, by simp, by simp [renOf, Blk.live], by simp⟩ (by simp [renOf])) ?_
    rintro i ⟨hi, ho⟩
    by_cases hlt : i < t.length
    · have hg : t[i]? = some t[i] := List.getElem?_eq_getElem hlt
      have hbd := badB_def t[i]
      simp [hlt, hg]
      have hbad : badB t[i] = true → textOk t = false := fun h => by
        unfold textOk
        rw [List.any_eq_true.2 ⟨_, List.getElem_mem hlt, h⟩]
        simp
      refine ⟨.of (by kernel_rfl), ?_⟩
      refine agrd_cases (fun h => ?_) (fun h => ?_) <;> (have h' := h; (try simp at h'); simp [h, h', hg])
      · refine agrd_cases (fun h => ?_) (fun h => ?_) <;> (have h' := h; (try simp at h'); simp [h, h', hg])
        · refine ⟨.of (by kernel_rfl), fun h3 => ⟨.of (by kernel_rfl), ?_⟩, fun h3 => ⟨.of (by kernel_rfl), i + 1, ⟨hlt, ?_⟩, ?_, ?_⟩⟩
          · simp_all
          · intro j hj hji
            rcases Nat.lt_or_ge j i with c | c
            · exact ho j hj c
            · have : j = i := by omega
              subst this
              rw [hbd]; simp; omega
          · refine sub_mk _ [(1, 1, _)] ⟨by simp, by simp, by simp [renOf, Blk.live], by simp⟩ ?_
            simp [renOf]
            exact wrap_in (by omega) (by omega)
          · simp; omega
        · refine ⟨.of (by kernel_rfl), .of (by kernel_rfl), ?_⟩
          simp_all
      · refine ⟨.of (by kernel_rfl), .of (by kernel_rfl), ?_⟩
        simp_all
    · simp [hlt]
      refine ⟨.of (by kernel_rfl), .of (by kernel_rfl), ?_⟩
      have : textOk t = true := by
        unfold textOk
        simp [hl]
        intro x hx
        obtain ⟨j, hj, rfl⟩ := List.getElem_of_mem hx
        exact ho j hj (by omega)
      simp_all
end Go.Proofs.Tryd
/- Terms and statements of the query language: their cells, when two are equal, how deep they are. -/
namespace Go.Proofs.Tryd
open Go.Ab

inductive Tm where
  | mk (o y n : Int) (t q : List UInt8) (kids : List Tm)
mutual
def Tm.c : Tm → List D
  | .mk o y n t q ks => [.int .i64 o, .int .i64 y, .int .i64 n, .str t, .str q, .sl (tmsC ks)]
def tmsC : List Tm → List (List D)
  | [] => []
  | e :: es => e.c :: tmsC es
end
theorem tmsC_map : ∀ l : List Tm, tmsC l = l.map Tm.c
  | [] => rfl
  | e :: es => by rw [tmsC, tmsC_map es]; rfl
def Tm.a (e : Tm) : AV := .agg (e.c.map AV.d)
def Tm.kids : Tm → List Tm | .mk _ _ _ _ _ ks => ks
theorem Tm.kid_lt {e k : Tm} (h : k ∈ e.kids) : SizeOf.sizeOf k < SizeOf.sizeOf e := by
  cases e
  have := List.sizeOf_lt_of_mem h
  simp only [Tm.kids] at this
  simp only [Tm.mk.sizeOf_spec]
  omega
theorem Tm.clen (e : Tm) : e.c.length = 6 := by cases e; rfl
theorem Tm.ctake (e : Tm) : List.take 6 (e.c.map AV.d) = e.c.map AV.d := List.take_of_length_le (by simp [Tm.clen])
theorem Tm.ctake' (e : Tm) : List.take 6 e.c = e.c := List.take_of_length_le (by simp [Tm.clen])

/-- A column of a result: a term and its name. -/
structure It where
  t : Tm
  n : List UInt8
def It.c (i : It) : List D := i.t.c ++ [.str i.n]
def It.a (e : It) : AV := .agg (e.c.map AV.d)
theorem It.clen (e : It) : e.c.length = 7 := by simp [It.c, Tm.clen]
theorem It.ctake (e : It) : List.take 7 (e.c.map AV.d) = e.c.map AV.d := List.take_of_length_le (by simp [It.clen])

mutual
inductive Sm where
  | mk (f : Int) (a d s : Bool) (is : List It) (ft : List UInt8) (fq : List Sm) (fn : List UInt8) (js : List Jo) (w g h : List Tm) (ks : List Sm)
inductive Jo where
  | mk (k : Int) (t : List UInt8) (q : List Sm) (n : List UInt8) (o : List Tm)
end
mutual
def Sm.c : Sm → List D
  | .mk f a d s is ft fq fn js w g h ks => [.int .i64 f, .bool a, .bool d, .bool s, .sl (is.map It.c), .str ft, .sl (smsC fq), .str fn, .sl (josC js), .sl (w.map Tm.c), .sl (g.map Tm.c), .sl (h.map Tm.c), .sl (smsC ks)]
def Jo.c : Jo → List D
  | .mk k t q n o => [.int .i64 k, .str t, .sl (smsC q), .str n, .sl (o.map Tm.c)]
def smsC : List Sm → List (List D)
  | [] => []
  | e :: es => e.c :: smsC es
def josC : List Jo → List (List D)
  | [] => []
  | e :: es => e.c :: josC es
end
theorem smsC_map : ∀ l : List Sm, smsC l = l.map Sm.c
  | [] => rfl
  | e :: es => by rw [smsC, smsC_map es]; rfl
theorem josC_map : ∀ l : List Jo, josC l = l.map Jo.c
  | [] => rfl
  | e :: es => by rw [josC, josC_map es]; rfl
def Sm.a (e : Sm) : AV := .agg (e.c.map AV.d)
def Jo.a (e : Jo) : AV := .agg (e.c.map AV.d)
theorem Sm.clen (e : Sm) : e.c.length = 13 := by cases e; rfl
theorem Sm.ctake (e : Sm) : List.take 13 (e.c.map AV.d) = e.c.map AV.d := List.take_of_length_le (by simp [Sm.clen])
theorem Jo.clen (e : Jo) : e.c.length = 5 := by cases e; rfl
theorem Jo.ctake (e : Jo) : List.take 5 (e.c.map AV.d) = e.c.map AV.d := List.take_of_length_le (by simp [Jo.clen])
/-- A source: a table or a query, and its name. -/
def soC (t : List UInt8) (q : List Sm) (n : List UInt8) : List D := [.str t, .sl (smsC q), .str n]
def soA (t : List UInt8) (q : List Sm) (n : List UInt8) : AV := .agg ((soC t q n).map AV.d)
def Sm.kids : Sm → List Sm | .mk _ _ _ _ _ _ _ _ _ _ _ _ ks => ks
def Sm.qs : Sm → List Sm | .mk _ _ _ _ _ _ q _ _ _ _ _ _ => q
def Sm.js : Sm → List Jo | .mk _ _ _ _ _ _ _ _ js _ _ _ _ => js
def Jo.qs : Jo → List Sm | .mk _ _ q _ _ => q
theorem Sm.kid_lt {e k : Sm} (h : k ∈ e.kids) : SizeOf.sizeOf k < SizeOf.sizeOf e := by
  cases e
  have := List.sizeOf_lt_of_mem h
  simp only [Sm.kids] at this
  simp only [Sm.mk.sizeOf_spec]
  omega
theorem Sm.q_lt {e k : Sm} (h : k ∈ e.qs) : SizeOf.sizeOf k < SizeOf.sizeOf e := by
  cases e
  have := List.sizeOf_lt_of_mem h
  simp only [Sm.qs] at this
  simp only [Sm.mk.sizeOf_spec]
  omega
theorem Sm.j_lt {e : Sm} {j : Jo} (h : j ∈ e.js) : SizeOf.sizeOf j < SizeOf.sizeOf e := by
  cases e
  have := List.sizeOf_lt_of_mem h
  simp only [Sm.js] at this
  simp only [Sm.mk.sizeOf_spec]
  omega
theorem Jo.q_lt {j : Jo} {k : Sm} (h : k ∈ j.qs) : SizeOf.sizeOf k < SizeOf.sizeOf j := by
  cases j
  have := List.sizeOf_lt_of_mem h
  simp only [Jo.qs] at this
  simp only [Jo.mk.sizeOf_spec]
  omega

/-! Two lists that agree, element by element. -/
def agree {α : Type} (f : α → α → Bool) : List α → List α → Bool
  | [], [] => true
  | x :: xs, y :: ys => f x y && agree f xs ys
  | [], _ :: _ => false
  | _ :: _, [] => false
theorem agree_len {α : Type} {f : α → α → Bool} : ∀ (a b : List α), a.length ≠ b.length → agree f a b = false
  | [], [], h => absurd rfl h
  | [], _ :: _, _ => rfl
  | _ :: _, [], _ => rfl
  | e :: es, f' :: fs, h => by rw [agree, agree_len es fs (by simpa using h)]; simp
theorem agree_drop {α : Type} {f : α → α → Bool} {a b : List α} {i : Nat} {x y : α} (h1 : a[i]? = some x) (h2 : b[i]? = some y) : agree f (a.drop i) (b.drop i) = (f x y && agree f (a.drop (i + 1)) (b.drop (i + 1))) := by
  obtain ⟨hi, rfl⟩ := List.getElem?_eq_some_iff.1 h1
  obtain ⟨hj, rfl⟩ := List.getElem?_eq_some_iff.1 h2
  rw [List.drop_eq_getElem_cons hi, List.drop_eq_getElem_cons hj, agree]
theorem agree_end {α : Type} {f : α → α → Bool} {a b : List α} {i : Nat} (h1 : a.length ≤ i) (h2 : b.length ≤ i) : agree f (a.drop i) (b.drop i) = true := by
  rw [List.drop_eq_nil_of_le h1, List.drop_eq_nil_of_le h2, agree]
theorem agree_self {α : Type} {f : α → α → Bool} : ∀ (l : List α), (∀ x ∈ l, f x x = true) → agree f l l = true
  | [], _ => rfl
  | x :: xs, h => by rw [agree, h x List.mem_cons_self, agree_self xs fun y hy => h y (List.mem_cons_of_mem _ hy)]; rfl

mutual
def Tm.eq : Tm → Tm → Bool
  | .mk o y n t q ks, .mk o' y' n' t' q' ks' => o == o' && (y == y' && (n == n' && (t == t' && (q == q' && tmsEq ks ks'))))
def tmsEq : List Tm → List Tm → Bool
  | [], [] => true
  | e :: es, f :: fs => e.eq f && tmsEq es fs
  | [], _ :: _ => false
  | _ :: _, [] => false
end
theorem tmsEq_agree : ∀ a b : List Tm, tmsEq a b = agree Tm.eq a b
  | [], [] => by rw [tmsEq, agree]
  | e :: es, f :: fs => by rw [tmsEq, agree, tmsEq_agree es fs]
  | [], _ :: _ => by rw [tmsEq, agree]
  | _ :: _, [] => by rw [tmsEq, agree]
def It.eq (a b : It) : Bool := a.n == b.n && a.t.eq b.t
mutual
def Sm.eq : Sm → Sm → Bool
  | .mk f a d s is ft fq fn js w g h ks, .mk f' a' d' s' is' ft' fq' fn' js' w' g' h' ks' => f == f' && (a == a' && (d == d' && (s == s' && ((ft == ft' && (fn == fn' && smsEq fq fq')) && (agree It.eq is is' && (josEq js js' && (agree Tm.eq w w' && (agree Tm.eq g g' && (agree Tm.eq h h' && smsEq ks ks')))))))))
def Jo.eq : Jo → Jo → Bool
  | .mk k t q n o, .mk k' t' q' n' o' => k == k' && ((t == t' && (n == n' && smsEq q q')) && agree Tm.eq o o')
def smsEq : List Sm → List Sm → Bool
  | [], [] => true
  | e :: es, f :: fs => e.eq f && smsEq es fs
  | [], _ :: _ => false
  | _ :: _, [] => false
def josEq : List Jo → List Jo → Bool
  | [], [] => true
  | e :: es, f :: fs => e.eq f && josEq es fs
  | [], _ :: _ => false
  | _ :: _, [] => false
end
theorem smsEq_agree : ∀ a b : List Sm, smsEq a b = agree Sm.eq a b
  | [], [] => by rw [smsEq, agree]
  | e :: es, f :: fs => by rw [smsEq, agree, smsEq_agree es fs]
  | [], _ :: _ => by rw [smsEq, agree]
  | _ :: _, [] => by rw [smsEq, agree]
theorem josEq_agree : ∀ a b : List Jo, josEq a b = agree Jo.eq a b
  | [], [] => by rw [josEq, agree]
  | e :: es, f :: fs => by rw [josEq, agree, josEq_agree es fs]
  | [], _ :: _ => by rw [josEq, agree]
  | _ :: _, [] => by rw [josEq, agree]
def soEq (t : List UInt8) (q : List Sm) (n : List UInt8) (t' : List UInt8) (q' : List Sm) (n' : List UInt8) : Bool := t == t' && (n == n' && smsEq q q')

mutual
theorem Tm.eq_self : ∀ e : Tm, e.eq e = true
  | .mk o y n t q ks => by rw [Tm.eq, tmsEq_self ks]; simp
theorem tmsEq_self : ∀ l : List Tm, tmsEq l l = true
  | [] => by rw [tmsEq]
  | e :: es => by rw [tmsEq, e.eq_self, tmsEq_self es]; rfl
end
mutual
theorem Sm.eq_self : ∀ e : Sm, e.eq e = true
  | .mk f a d s is ft fq fn js w g h ks => by
    rw [Sm.eq, smsEq_self fq, smsEq_self ks, josEq_self js, agree_self is fun x _ => by rw [It.eq, Tm.eq_self]; simp, agree_self w fun x _ => x.eq_self, agree_self g fun x _ => x.eq_self, agree_self h fun x _ => x.eq_self]
    simp
theorem Jo.eq_self : ∀ e : Jo, e.eq e = true
  | .mk k t q n o => by rw [Jo.eq, smsEq_self q, agree_self o fun x _ => x.eq_self]; simp
theorem smsEq_self : ∀ l : List Sm, smsEq l l = true
  | [] => by rw [smsEq]
  | e :: es => by rw [smsEq, e.eq_self, smsEq_self es]; rfl
theorem josEq_self : ∀ l : List Jo, josEq l l = true
  | [] => by rw [josEq]
  | e :: es => by rw [josEq, e.eq_self, josEq_self es]; rfl
end

/-! Depths. -/
def up1 (n : Int) : Int := IntKind.i64.wrap (n + 1)
def mx (a b : Int) : Int := if b > a then b else a
theorem mx_eq (a b : Int) : mx a b = max a b := by unfold mx; split <;> omega
mutual
def Tm.dep : Tm → Int
  | .mk _ _ _ _ _ ks => up1 (tmsDep ks)
def tmsDep : List Tm → Int
  | [] => 0
  | e :: es => max e.dep (tmsDep es)
end
def itsDep (l : List It) : Int := tmsDep (l.map It.t)
mutual
def Sm.dep : Sm → Int
  | .mk _ _ _ _ is _ fq _ js w g h ks => up1 (max (smsDep ks) (max (smsDep fq) (max (tmsDep w) (max (tmsDep g) (max (tmsDep h) (max (itsDep is) (josDep js)))))))
def josDep : List Jo → Int
  | [] => 0
  | e :: es => max (e.dep) (josDep es)
def Jo.dep : Jo → Int
  | .mk _ _ q _ o => max (smsDep q) (tmsDep o)
def smsDep : List Sm → Int
  | [] => 0
  | e :: es => max e.dep (smsDep es)
end
/-- The greatest of some numbers, and 0. -/
def most : List Int → Int
  | [] => 0
  | x :: xs => max x (most xs)
theorem tmsDep_most : ∀ l : List Tm, tmsDep l = most (l.map Tm.dep)
  | [] => by rw [tmsDep]; rfl
  | e :: es => by rw [tmsDep, tmsDep_most es]; rfl
theorem smsDep_most : ∀ l : List Sm, smsDep l = most (l.map Sm.dep)
  | [] => by rw [smsDep]; rfl
  | e :: es => by rw [smsDep, smsDep_most es]; rfl
theorem josDep_most : ∀ l : List Jo, josDep l = most (l.map Jo.dep)
  | [] => by rw [josDep]; rfl
  | e :: es => by rw [josDep, josDep_most es]; rfl
theorem most_nonneg : ∀ l : List Int, 0 ≤ most l
  | [] => by simp [most]
  | x :: xs => by have := most_nonneg xs; rw [most]; omega
theorem most_append : ∀ a b : List Int, most (a ++ b) = max (most a) (most b)
  | [], b => by have := most_nonneg b; simp only [List.nil_append, most]; omega
  | x :: xs, b => by rw [List.cons_append, most, most_append xs b, most]; omega
theorem most_take {l : List Int} {i : Nat} {x : Int} (h : l[i]? = some x) : most (l.take (i + 1)) = max (most (l.take i)) x := by
  rw [List.take_add_one, h, most_append]
  simp only [Option.toList_some, most]
  have := most_nonneg (l.take i)
  omega
end Go.Proofs.Tryd
/- Terms and statements: slices.EqualFunc, and the program's Same. -/
namespace Go.Proofs.Tryd
open Go.Ab

theorem equal_T (F : FuncId) (a b : List Tm) (hn : a.length ≤ 9223372036854775807) (h : ∀ x ∈ a, ∀ y ∈ b, Cf En F [x.a, y.a] [] (.d (.bool (x.eq y))) []) :
    Cf En 45 [.d (.sl (a.map Tm.c)), .d (.sl (b.map Tm.c)), .clo F []] [] (.d (.bool (agree Tm.eq a b))) [] := by
  refine cf_intro mix (fn := Tryd.f45) (by kernel_rfl) rfl (by kernel_rfl) (by decide) (by simp) ?_
  by_cases hl : a.length = b.length
  · have hl' : (a.length : Int) = b.length := by omega
    generalize hres : agree Tm.eq a b = res
    simp [hl, hl']
    refine ⟨.of (by kernel_rfl), .of (by kernel_rfl), .of (by kernel_rfl), ?_⟩
    refine aloopT mix (by decide) (fun i : Nat => { s := mkS [(1, .d (.sl (b.map Tm.c))), (2, .clo F []), (15, .d (.sl (a.map Tm.c))), (16, .d (.int .i64 b.length)), (17, .d (.int .i64 i))], b := mkB [] }) (fun i : Nat => i ≤ b.length ∧ agree Tm.eq (a.drop i) (b.drop i) = res) (fun i => b.length - i) 0 (by simp [hres]) (sub_mk _ [] .nil (by simp)) ?_
    rintro i ⟨hi, ho⟩
    by_cases hlt : i < b.length
    · have hlt' : (i : Int) < b.length := by omega
      have hla : i < a.length := by omega
      have hg : a[i]? = some a[i] := List.getElem?_eq_getElem hla
      have hg2 : b[i]? = some b[i] := List.getElem?_eq_getElem hlt
      have hd := agree_drop (f := Tm.eq) hg hg2
      have c1 := Tm.clen a[i]
      have c2 := Tm.clen b[i]
      have k1 := Tm.ctake a[i]
      have k2 := Tm.ctake b[i]
      simp [hlt, hlt', hla, hg, hg2, c1, c2, k1, k2]
      refine ⟨.of (by kernel_rfl), .of (by kernel_rfl), .of (by kernel_rfl), ?_⟩
      refine acallT_plain (h a[i] (List.getElem_mem hla) b[i] (List.getElem_mem hlt)) (by simp [Tm.a]) ?_
      simp
      refine ⟨.of (by kernel_rfl), fun h => ⟨.of (by kernel_rfl), ?_⟩, fun h => ⟨.of (by kernel_rfl), i + 1, ⟨hlt, ?_⟩, ?_, ?_⟩⟩
      · rw [← ho, hd, h]; rfl
      · rw [← ho, hd, h]; rfl
      · refine sub_mk _ [] .nil ?_
        simp
        exact wrap_in (by omega) (by omega)
      · simp; omega
    · have hlt' : ¬ (i : Int) < b.length := by omega
      simp [hlt, hlt']
      refine ⟨.of (by kernel_rfl), .of (by kernel_rfl), ?_⟩
      rw [← ho, agree_end (by omega) (by omega)]
  · have hl' : ¬ (a.length : Int) = b.length := by omega
    rw [agree_len a b hl]
    simp [hl, hl']
    exact ⟨.of (by kernel_rfl), .of (by kernel_rfl), .of (by kernel_rfl)⟩

theorem equal_I (F : FuncId) (a b : List It) (hn : a.length ≤ 9223372036854775807) (h : ∀ x ∈ a, ∀ y ∈ b, Cf En F [x.a, y.a] [] (.d (.bool (x.eq y))) []) :
    Cf En 46 [.d (.sl (a.map It.c)), .d (.sl (b.map It.c)), .clo F []] [] (.d (.bool (agree It.eq a b))) [] := by
  refine cf_intro mix (fn := Tryd.f46) (by kernel_rfl) rfl (by kernel_rfl) (by decide) (by simp) ?_
  by_cases hl : a.length = b.length
  · have hl' : (a.length : Int) = b.length := by omega
    generalize hres : agree It.eq a b = res
    simp [hl, hl']
    refine ⟨.of (by kernel_rfl), .of (by kernel_rfl), .of (by kernel_rfl), ?_⟩
    refine aloopT mix (by decide) (fun i : Nat => { s := mkS [(1, .d (.sl (b.map It.c))), (2, .clo F []), (15, .d (.sl (a.map It.c))), (16, .d (.int .i64 b.length)), (17, .d (.int .i64 i))], b := mkB [] }) (fun i : Nat => i ≤ b.length ∧ agree It.eq (a.drop i) (b.drop i) = res) (fun i => b.length - i) 0 (by simp [hres]) (sub_mk _ [] .nil (by simp)) ?_
    rintro i ⟨hi, ho⟩
    by_cases hlt : i < b.length
    · have hlt' : (i : Int) < b.length := by omega
      have hla : i < a.length := by omega
      have hg : a[i]? = some a[i] := List.getElem?_eq_getElem hla
      have hg2 : b[i]? = some b[i] := List.getElem?_eq_getElem hlt
      have hd := agree_drop (f := It.eq) hg hg2
      have c1 := It.clen a[i]
      have c2 := It.clen b[i]
      have k1 := It.ctake a[i]
      have k2 := It.ctake b[i]
      simp [hlt, hlt', hla, hg, hg2, c1, c2, k1, k2]
      refine ⟨.of (by kernel_rfl), .of (by kernel_rfl), .of (by kernel_rfl), ?_⟩
      refine acallT_plain (h a[i] (List.getElem_mem hla) b[i] (List.getElem_mem hlt)) (by simp [It.a]) ?_
      simp
      refine ⟨.of (by kernel_rfl), fun h => ⟨.of (by kernel_rfl), ?_⟩, fun h => ⟨.of (by kernel_rfl), i + 1, ⟨hlt, ?_⟩, ?_, ?_⟩⟩
      · rw [← ho, hd, h]; rfl
      · rw [← ho, hd, h]; rfl
      · refine sub_mk _ [] .nil ?_
        simp
        exact wrap_in (by omega) (by omega)
      · simp; omega
    · have hlt' : ¬ (i : Int) < b.length := by omega
      simp [hlt, hlt']
      refine ⟨.of (by kernel_rfl), .of (by kernel_rfl), ?_⟩
      rw [← ho, agree_end (by omega) (by omega)]
  · have hl' : ¬ (a.length : Int) = b.length := by omega
    rw [agree_len a b hl]
    simp [hl, hl']
    exact ⟨.of (by kernel_rfl), .of (by kernel_rfl), .of (by kernel_rfl)⟩

theorem equal_J (F : FuncId) (a b : List Jo) (hn : a.length ≤ 9223372036854775807) (h : ∀ x ∈ a, ∀ y ∈ b, Cf En F [x.a, y.a] [] (.d (.bool (x.eq y))) []) :
    Cf En 47 [.d (.sl (a.map Jo.c)), .d (.sl (b.map Jo.c)), .clo F []] [] (.d (.bool (agree Jo.eq a b))) [] := by
  refine cf_intro mix (fn := Tryd.f47) (by kernel_rfl) rfl (by kernel_rfl) (by decide) (by simp) ?_
  by_cases hl : a.length = b.length
  · have hl' : (a.length : Int) = b.length := by omega
    generalize hres : agree Jo.eq a b = res
    simp [hl, hl']
    refine ⟨.of (by kernel_rfl), .of (by kernel_rfl), .of (by kernel_rfl), ?_⟩
    refine aloopT mix (by decide) (fun i : Nat => { s := mkS [(1, .d (.sl (b.map Jo.c))), (2, .clo F []), (15, .d (.sl (a.map Jo.c))), (16, .d (.int .i64 b.length)), (17, .d (.int .i64 i))], b := mkB [] }) (fun i : Nat => i ≤ b.length ∧ agree Jo.eq (a.drop i) (b.drop i) = res) (fun i => b.length - i) 0 (by simp [hres]) (sub_mk _ [] .nil (by simp)) ?_
    rintro i ⟨hi, ho⟩
    by_cases hlt : i < b.length
    · have hlt' : (i : Int) < b.length := by omega
      have hla : i < a.length := by omega
      have hg : a[i]? = some a[i] := List.getElem?_eq_getElem hla
      have hg2 : b[i]? = some b[i] := List.getElem?_eq_getElem hlt
      have hd := agree_drop (f := Jo.eq) hg hg2
      have c1 := Jo.clen a[i]
      have c2 := Jo.clen b[i]
      have k1 := Jo.ctake a[i]
      have k2 := Jo.ctake b[i]
      simp [hlt, hlt', hla, hg, hg2, c1, c2, k1, k2]
      refine ⟨.of (by kernel_rfl), .of (by kernel_rfl), .of (by kernel_rfl), ?_⟩
      refine acallT_plain (h a[i] (List.getElem_mem hla) b[i] (List.getElem_mem hlt)) (by simp [Jo.a]) ?_
      simp
      refine ⟨.of (by kernel_rfl), fun h => ⟨.of (by kernel_rfl), ?_⟩, fun h => ⟨.of (by kernel_rfl), i + 1, ⟨hlt, ?_⟩, ?_, ?_⟩⟩
      · rw [← ho, hd, h]; rfl
      · rw [← ho, hd, h]; rfl
      · refine sub_mk _ [] .nil ?_
        simp
        exact wrap_in (by omega) (by omega)
      · simp; omega
    · have hlt' : ¬ (i : Int) < b.length := by omega
      simp [hlt, hlt']
      refine ⟨.of (by kernel_rfl), .of (by kernel_rfl), ?_⟩
      rw [← ho, agree_end (by omega) (by omega)]
  · have hl' : ¬ (a.length : Int) = b.length := by omega
    rw [agree_len a b hl]
    simp [hl, hl']
    exact ⟨.of (by kernel_rfl), .of (by kernel_rfl), .of (by kernel_rfl)⟩

theorem equal_S (F : FuncId) (a b : List Sm) (hn : a.length ≤ 9223372036854775807) (h : ∀ x ∈ a, ∀ y ∈ b, Cf En F [x.a, y.a] [] (.d (.bool (x.eq y))) []) :
    Cf En 48 [.d (.sl (a.map Sm.c)), .d (.sl (b.map Sm.c)), .clo F []] [] (.d (.bool (agree Sm.eq a b))) [] := by
  refine cf_intro mix (fn := Tryd.f48) (by kernel_rfl) rfl (by kernel_rfl) (by decide) (by simp) ?_
  by_cases hl : a.length = b.length
  · have hl' : (a.length : Int) = b.length := by omega
    generalize hres : agree Sm.eq a b = res
    simp [hl, hl']
    refine ⟨.of (by kernel_rfl), .of (by kernel_rfl), .of (by kernel_rfl), ?_⟩
    refine aloopT mix (by decide) (fun i : Nat => { s := mkS [(1, .d (.sl (b.map Sm.c))), (2, .clo F []), (15, .d (.sl (a.map Sm.c))), (16, .d (.int .i64 b.length)), (17, .d (.int .i64 i))], b := mkB [] }) (fun i : Nat => i ≤ b.length ∧ agree Sm.eq (a.drop i) (b.drop i) = res) (fun i => b.length - i) 0 (by simp [hres]) (sub_mk _ [] .nil (by simp)) ?_
    rintro i ⟨hi, ho⟩
    by_cases hlt : i < b.length
    · have hlt' : (i : Int) < b.length := by omega
      have hla : i < a.length := by omega
      have hg : a[i]? = some a[i] := List.getElem?_eq_getElem hla
      have hg2 : b[i]? = some b[i] := List.getElem?_eq_getElem hlt
      have hd := agree_drop (f := Sm.eq) hg hg2
      have c1 := Sm.clen a[i]
      have c2 := Sm.clen b[i]
      have k1 := Sm.ctake a[i]
      have k2 := Sm.ctake b[i]
      simp [hlt, hlt', hla, hg, hg2, c1, c2, k1, k2]
      refine ⟨.of (by kernel_rfl), .of (by kernel_rfl), .of (by kernel_rfl), ?_⟩
      refine acallT_plain (h a[i] (List.getElem_mem hla) b[i] (List.getElem_mem hlt)) (by simp [Sm.a]) ?_
      simp
      refine ⟨.of (by kernel_rfl), fun h => ⟨.of (by kernel_rfl), ?_⟩, fun h => ⟨.of (by kernel_rfl), i + 1, ⟨hlt, ?_⟩, ?_, ?_⟩⟩
      · rw [← ho, hd, h]; rfl
      · rw [← ho, hd, h]; rfl
      · refine sub_mk _ [] .nil ?_
        simp
        exact wrap_in (by omega) (by omega)
      · simp; omega
    · have hlt' : ¬ (i : Int) < b.length := by omega
      simp [hlt, hlt']
      refine ⟨.of (by kernel_rfl), .of (by kernel_rfl), ?_⟩
      rw [← ho, agree_end (by omega) (by omega)]
  · have hl' : ¬ (a.length : Int) = b.length := by omega
    rw [agree_len a b hl]
    simp [hl, hl']
    exact ⟨.of (by kernel_rfl), .of (by kernel_rfl), .of (by kernel_rfl)⟩
end Go.Proofs.Tryd
/- Terms and statements: the program's Same. -/
namespace Go.Proofs.Tryd
open Go.Ab

mutual
/-- Lists that a program can hold. -/
def Tm.fits : Tm → Prop
  | .mk _ _ _ _ _ ks => ks.length ≤ 9223372036854775807 ∧ tmsFits ks
def tmsFits : List Tm → Prop
  | [] => True
  | e :: es => e.fits ∧ tmsFits es
end
theorem tmsFits_get : ∀ l : List Tm, tmsFits l → ∀ e ∈ l, e.fits
  | x :: xs, h, e, he => by
    rw [tmsFits] at h
    rcases List.mem_cons.1 he with rfl | he
    · exact h.1
    · exact tmsFits_get xs h.2 e he

theorem s_sameTerm : ∀ (m : Nat) (x y : Tm), SizeOf.sizeOf x < m → x.fits → Cf En 15 [x.a, y.a] [] (.d (.bool (x.eq y))) []
  | 0, _, _, h, _ => absurd h (by omega)
  | m + 1, .mk o y n t q ks, .mk o' y' n' t' q' ks', hm, hfit => by
    refine cf_intro mix (fn := Tryd.f15) (by kernel_rfl) rfl (by kernel_rfl) (by decide) (by simp) ?_
    rw [Tm.fits] at hfit
    have hq := equal_T 15 ks ks' hfit.1 fun x hx z _ => s_sameTerm m x z (by
      have := Tm.kid_lt (e := .mk o y n t q ks) (k := x) hx
      omega) (tmsFits_get ks hfit.2 x hx)
    rw [Tm.eq, tmsEq_agree]
    simp [Tm.a, Tm.c, tmsC_map]
    (repeat' (first | contradiction | exact .of (by kernel_rfl) | refine And.intro ?_ ?_ | intro _ | (refine agrd_cases (fun h => ?_) (fun h => ?_) <;> (have h' := h; (try simp at h'); first | done | simp [h, h'] | simp))))
    all_goals first | (refine acallT_plain hq (by simp) ?_; simp; (repeat' (first | contradiction | exact .of (by kernel_rfl) | refine And.intro ?_ ?_ | intro _ | (refine agrd_cases (fun h => ?_) (fun h => ?_) <;> (have h' := h; (try simp at h'); first | done | simp [h, h'] | simp))))) | skip
    all_goals simp_all

mutual
def Sm.fits : Sm → Prop
  | .mk _ _ _ _ is _ fq _ js w g h ks => (is.length ≤ 9223372036854775807 ∧ tmsFits (is.map It.t)) ∧ (fq.length ≤ 9223372036854775807 ∧ smsFits fq) ∧ (js.length ≤ 9223372036854775807 ∧ josFits js) ∧ (w.length ≤ 9223372036854775807 ∧ tmsFits w) ∧ (g.length ≤ 9223372036854775807 ∧ tmsFits g) ∧ (h.length ≤ 9223372036854775807 ∧ tmsFits h) ∧ (ks.length ≤ 9223372036854775807 ∧ smsFits ks)
def Jo.fits : Jo → Prop
  | .mk _ _ q _ o => (q.length ≤ 9223372036854775807 ∧ smsFits q) ∧ (o.length ≤ 9223372036854775807 ∧ tmsFits o)
def smsFits : List Sm → Prop
  | [] => True
  | e :: es => e.fits ∧ smsFits es
def josFits : List Jo → Prop
  | [] => True
  | e :: es => e.fits ∧ josFits es
end
theorem smsFits_get : ∀ l : List Sm, smsFits l → ∀ e ∈ l, e.fits
  | x :: xs, h, e, he => by
    rw [smsFits] at h
    rcases List.mem_cons.1 he with rfl | he
    · exact h.1
    · exact smsFits_get xs h.2 e he
theorem josFits_get : ∀ l : List Jo, josFits l → ∀ e ∈ l, e.fits
  | x :: xs, h, e, he => by
    rw [josFits] at h
    rcases List.mem_cons.1 he with rfl | he
    · exact h.1
    · exact josFits_get xs h.2 e he
theorem itFits_get {l : List It} (h : tmsFits (l.map It.t)) {i : It} (hi : i ∈ l) : i.t.fits := tmsFits_get _ h _ (List.mem_map_of_mem hi)

theorem s_sameTerms (a b : List Tm) (hn : a.length ≤ 9223372036854775807) (h : tmsFits a) : Cf En 45 [.d (.sl (a.map Tm.c)), .d (.sl (b.map Tm.c)), .clo 15 []] [] (.d (.bool (agree Tm.eq a b))) [] :=
  equal_T _ a b hn fun x hx y _ => s_sameTerm _ x y (Nat.lt_succ_self _) (tmsFits_get a h x hx)

theorem s_sameItem (x y : It) (hx : x.t.fits) : Cf En 42 [x.a, y.a] [] (.d (.bool (x.eq y))) [] := by
  refine cf_intro mix (fn := Tryd.f42) (by kernel_rfl) rfl (by kernel_rfl) (by decide) (by simp) ?_
  have hq := s_sameTerm _ x.t y.t (Nat.lt_succ_self _) hx
  obtain ⟨t, n⟩ := x
  obtain ⟨t', n'⟩ := y
  have c1 := Tm.clen t
  have c2 := Tm.clen t'
  have k1 := Tm.ctake' t
  have k2 := Tm.ctake' t'
  have g1 : (t.c ++ [D.str n])[6]? = some (.str n) := by rw [List.getElem?_append_right (by omega), c1]; rfl
  have g2 : (t'.c ++ [D.str n'])[6]? = some (.str n') := by rw [List.getElem?_append_right (by omega), c2]; rfl
  unfold It.eq
  simp [It.a, It.c, c1, c2]
  (repeat' (first | contradiction | exact .of (by kernel_rfl) | refine And.intro ?_ ?_ | intro _ | (refine agrd_cases (fun h => ?_) (fun h => ?_) <;> (have h' := h; (try simp at h'); first | done | simp [h, h', c1, c2, It.c] | simp [c1, c2, It.c]))))
  all_goals first | (refine acallT_plain hq (by simp [Tm.a]) ?_; simp; (repeat' (first | contradiction | exact .of (by kernel_rfl) | refine And.intro ?_ ?_ | intro _ | (refine agrd_cases (fun h => ?_) (fun h => ?_) <;> (have h' := h; (try simp at h'); first | done | simp [h, h'] | simp))))) | skip
  all_goals simp_all
theorem s_sameSource (t : List UInt8) (q : List Sm) (n : List UInt8) (t' : List UInt8) (q' : List Sm) (n' : List UInt8) (hn : q.length ≤ 9223372036854775807) (h : ∀ x ∈ q, ∀ y ∈ q', Cf En 13 [x.a, y.a] [] (.d (.bool (x.eq y))) []) :
    Cf En 44 [soA t q n, soA t' q' n'] [] (.d (.bool (soEq t q n t' q' n'))) [] := by
  refine cf_intro mix (fn := Tryd.f44) (by kernel_rfl) rfl (by kernel_rfl) (by decide) (by simp) ?_
  have hq := equal_S 13 q q' hn h
  unfold soEq
  rw [smsEq_agree]
  simp [soA, soC, smsC_map]
  (repeat' (first | contradiction | exact .of (by kernel_rfl) | refine And.intro ?_ ?_ | intro _ | (refine agrd_cases (fun h => ?_) (fun h => ?_) <;> (have h' := h; (try simp at h'); first | done | simp [h, h'] | simp))))
  all_goals first | (refine acallT_plain hq (by simp) ?_; simp; (repeat' (first | contradiction | exact .of (by kernel_rfl) | refine And.intro ?_ ?_ | intro _ | (refine agrd_cases (fun h => ?_) (fun h => ?_) <;> (have h' := h; (try simp at h'); first | done | simp [h, h'] | simp))))) | skip
  all_goals simp_all
theorem s_sameJoin (x y : Jo) (hx : x.fits) (h : ∀ a ∈ x.qs, ∀ b ∈ y.qs, Cf En 13 [a.a, b.a] [] (.d (.bool (a.eq b))) []) : Cf En 43 [x.a, y.a] [] (.d (.bool (x.eq y))) [] := by
  refine cf_intro mix (fn := Tryd.f43) (by kernel_rfl) rfl (by kernel_rfl) (by decide) (by simp) ?_
  obtain ⟨k, t, q, n, o⟩ := x
  obtain ⟨k', t', q', n', o'⟩ := y
  rw [Jo.fits] at hx
  have hq := s_sameSource t q n t' q' n' hx.1.1 h
  have ho := s_sameTerms o o' hx.2.1 hx.2.2
  rw [Jo.eq]
  simp [Jo.a, Jo.c]
  (repeat' (first | contradiction | exact .of (by kernel_rfl) | refine And.intro ?_ ?_ | intro _ | (refine agrd_cases (fun h => ?_) (fun h => ?_) <;> (have h' := h; (try simp at h'); first | done | simp [h, h'] | simp))))
  all_goals first | (refine acallT_plain hq (by simp [soA, soC]) ?_; simp; (repeat' (first | contradiction | exact .of (by kernel_rfl) | refine And.intro ?_ ?_ | intro _ | (refine agrd_cases (fun h => ?_) (fun h => ?_) <;> (have h' := h; (try simp at h'); first | done | simp [h, h'] | simp))))) | skip
  all_goals first | (refine acallT_plain ho (by simp) ?_; simp; (repeat' (first | contradiction | exact .of (by kernel_rfl) | refine And.intro ?_ ?_ | intro _ | (refine agrd_cases (fun h => ?_) (fun h => ?_) <;> (have h' := h; (try simp at h'); first | done | simp [h, h'] | simp))))) | skip
  all_goals simp_all [soEq]
end Go.Proofs.Tryd
/- Which terms and statements are valid: the plain law, and the program's tables of operators. -/
namespace Go.Proofs.Tryd
open Go.Ab
set_option maxRecDepth 100000
set_option maxHeartbeats 1000000

/-- The number of operands of an operation without fields. -/
def arity (o : Int) (k : Nat) : Bool :=
  if o = 11 ∨ o = 13 ∨ o = 21 ∨ o = 24 ∨ o = 25 then k == 1
  else if o = 26 then k == 3
  else if o = 28 then decide (2 ≤ k)
  else decide (6 ≤ o) && (decide (o ≤ 28) && k == 2)
/-- A term's own fields are as they have to be, with so many operands. -/
def okK (o y n : Int) (t q : List UInt8) (k : Nat) : Bool :=
  if o = 1 then decide (1 ≤ y) && (decide (y ≤ 3) && (k == 0 && (n == 0 && (t == [] && q == []))))
  else if o = 2 then (V.mk 1 n []).valid && (k == 0 && (y == 0 && (t == [] && q == [])))
  else if o = 3 then (n == 0 || n == 1) && (k == 0 && (y == 0 && (t == [] && q == [])))
  else if o = 4 then (V.mk 3 0 t).valid && (k == 0 && (y == 0 && (n == 0 && q == [])))
  else if o = 40 then nameOk words t && ((q == [] || nameOk words q) && (k == 0 && (y == 0 && n == 0)))
  else if o = 41 then decide (1 ≤ n) && (decide (n ≤ 6) && ((if n = 1 then k == 0 else k == 1) && (y == 0 && (t == [] && q == []))))
  else arity o k && (y == 0 && (n == 0 && (t == [] && q == [])))
mutual
def Tm.right : Tm → Bool
  | .mk o y n t q ks => okK o y n t q ks.length && tmsRight ks
def tmsRight : List Tm → Bool
  | [] => true
  | e :: es => e.right && tmsRight es
end
theorem tmsRight_all : ∀ l : List Tm, tmsRight l = l.all Tm.right
  | [] => by rw [tmsRight]; rfl
  | e :: es => by rw [tmsRight, tmsRight_all es]; rfl
def nameOr (s : List UInt8) : Bool := s == [] || nameOk words s
def itRight (i : It) : Bool := i.t.right && nameOr i.n
mutual
def Sm.right : Sm → Bool
  | .mk f a d s is ft fq fn js w g h ks =>
    if f = 1 then !a && (ks.length == 0 && (s == (is.length == 0) && (decide (w.length ≤ 1) && (decide (h.length ≤ 1) &&
      ((if fq.length = 0 then nameOk words ft && nameOr fn else fq.length == 1 && (ft == [] && (nameOk words fn && smsRight fq))) &&
      (is.all itRight && (josRight js && (tmsRight w && (tmsRight g && tmsRight h)))))))))
    else if f = 2 ∨ f = 3 ∨ f = 4 then ks.length == 2 && (smsRight ks && (!d && (!s && (is.length == 0 && (ft == [] && (fq.length == 0 && (fn == [] && (js.length == 0 && (w.length == 0 && (g.length == 0 && h.length == 0))))))))))
    else false
def Jo.right : Jo → Bool
  | .mk k t q n o => decide (0 ≤ k) && (decide (k ≤ 6) && (o.length == (if k = 0 then 0 else 1) && (tmsRight o &&
      (if q.length = 0 then nameOk words t && nameOr n else q.length == 1 && (t == [] && (nameOk words n && smsRight q))))))
def smsRight : List Sm → Bool
  | [] => true
  | e :: es => e.right && smsRight es
def josRight : List Jo → Bool
  | [] => true
  | e :: es => e.right && josRight es
end
theorem smsRight_all : ∀ l : List Sm, smsRight l = l.all Sm.right
  | [] => by rw [smsRight]; rfl
  | e :: es => by rw [smsRight, smsRight_all es]; rfl
theorem josRight_all : ∀ l : List Jo, josRight l = l.all Jo.right
  | [] => by rw [josRight]; rfl
  | e :: es => by rw [josRight, josRight_all es]; rfl
def soRight (t : List UInt8) (q : List Sm) (n : List UInt8) : Bool := if q.length = 0 then nameOk words t && nameOr n else q.length == 1 && (t == [] && (nameOk words n && smsRight q))

theorem sops_len : sops.length = 24 := rfl
theorem sopsC_len : sopsC.length = 96 := by decide
theorem drop_sops : ∀ (l : List Sop) (o : Nat), (l.flatMap sopC).drop (o * 4) = (l.drop o).flatMap sopC
  | [], o => by simp
  | x :: l, 0 => by simp
  | x :: l, o + 1 => by
    rw [List.flatMap_cons, show (o + 1) * 4 = (sopC x).length + o * 4 from by simp [sopC]; omega, ← List.drop_drop, List.drop_left, drop_sops l o, List.drop_succ_cons]
def zsop : Sop := ([], 0, 0, 0)
def sopOf (o : Int) : Sop := (sops[o.toNat]?).getD zsop
theorem sops_row {o : Nat} (h : o < 24) : ∃ rest, sopsC.drop (o * 4) = .str (sopOf o).1 :: .int .i64 (sopOf o).2.1 :: .int .i64 (sopOf o).2.2.1 :: .int .i64 (sopOf o).2.2.2 :: rest := by
  have hl : o < sops.length := h
  refine ⟨(sops.drop (o + 1)).flatMap sopC, ?_⟩
  unfold sopsC
  rw [drop_sops, List.drop_eq_getElem_cons hl, List.flatMap_cons]
  unfold sopOf
  rw [Int.toNat_natCast, List.getElem?_eq_getElem hl]
  rfl
def isSop (o : Int) : Bool := decide (0 ≤ o) && (decide (o < 24) && !((sopOf o).1 == []))
def sopA (o : Sop) : AV := .agg [.d (.str o.1), .d (.int .i64 o.2.1), .d (.int .i64 o.2.2.1), .d (.int .i64 o.2.2.2)]
theorem isSop_iff : ∀ n : Nat, n < 24 → isSop n = (decide (6 ≤ n) && !(n == 11 || n == 13 || n == 21)) := by decide

theorem s_operatorOf (o : Int) : Cf Es 115 [.d (.int .i64 o)] [] (.tup [sopA (if isSop o = true then sopOf o else zsop), .d (.bool (isSop o))]) [] := by
  refine cf_intro mixs (fn := Tryd.f115) (by kernel_rfl) rfl (by kernel_rfl) (by decide) (by simp) ?_
  by_cases h1 : o < 0
  · have hi : isSop o = false := by unfold isSop; simp; omega
    simp [hi, sopA, zsop, h1]
    (repeat' (first | contradiction | exact .of (by kernel_rfl) | refine And.intro ?_ ?_ | intro _ | (refine agrd_cases (fun h => ?_) (fun h => ?_) <;> (have h' := h; (try simp at h'); first | done | simp [h, h', h1] | simp [h1]))))
  by_cases h2 : 24 ≤ o
  · have hi : isSop o = false := by unfold isSop; simp; omega
    simp [hi, sopA, zsop, h1, h2]
    (repeat' (first | contradiction | exact .of (by kernel_rfl) | refine And.intro ?_ ?_ | intro _ | (refine agrd_cases (fun h => ?_) (fun h => ?_) <;> (have h' := h; (try simp at h'); first | done | simp [h, h', h1, h2] | simp [h1, h2]))))
    all_goals omega
  obtain ⟨n, rfl⟩ : ∃ n : Nat, o = n := ⟨o.toNat, by omega⟩
  have hn : n < 24 := by omega
  obtain ⟨rest, hr⟩ := sops_row hn
  have hb : n * 4 ≤ 96 := by omega
  have hlt : (n : Int) < 24 := by omega
  have hnl : ¬ 24 ≤ n := by omega
  have h4 : n * 4 ≤ sopsC.length := by rw [sopsC_len]; omega
  by_cases h0 : (sopOf n).1 = []
  · have hi : isSop n = false := by unfold isSop; rw [h0]; simp
    simp [hi, sopA, zsop, sopsC_len, h1, hlt, hb, hr, hnl, h0]
    (repeat' (first | contradiction | exact .of (by kernel_rfl) | refine And.intro ?_ ?_ | intro _ | (refine agrd_cases (fun h => ?_) (fun h => ?_) <;> (have h' := h; (try simp at h'); first | done | simp [h, h', hr, h1, hlt, hb, sopsC_len, hnl, h0] | simp [hr, h1, hlt, hb, sopsC_len, hnl, h0]))))
    all_goals simp_all
  · have hi : isSop n = true := by unfold isSop; simp [h0]; omega
    simp [hi, sopA, sopsC_len, h1, hlt, hb, hr, hnl, h0]
    (repeat' (first | contradiction | exact .of (by kernel_rfl) | refine And.intro ?_ ?_ | intro _ | (refine agrd_cases (fun h => ?_) (fun h => ?_) <;> (have h' := h; (try simp at h'); first | done | simp [h, h', hr, h1, hlt, hb, sopsC_len, hnl, h0] | simp [hr, h1, hlt, hb, sopsC_len, hnl, h0]))))
    all_goals simp_all
def kidsN (o : Int) : Int × Bool :=
  if o = 1 ∨ o = 2 ∨ o = 3 ∨ o = 4 ∨ o = 40 then (0, true)
  else if o = 24 ∨ o = 21 ∨ o = 25 ∨ o = 11 ∨ o = 13 then (1, true)
  else if o = 27 then (2, true)
  else if o = 26 then (3, true)
  else (0, false)
theorem s_kids (o : Int) : Cf Es 116 [.d (.int .i64 o)] [] (.tup [.d (.int .i64 (kidsN o).1), .d (.bool (kidsN o).2)]) [] := by
  refine cf_intro mixs (fn := Tryd.f116) (by kernel_rfl) rfl (by kernel_rfl) (by decide) (by simp) ?_
  simp
  (repeat' (first | contradiction | exact .of (by kernel_rfl) | refine And.intro ?_ ?_ | intro _ | (refine agrd_cases (fun h => ?_) (fun h => ?_) <;> (have h' := h; (try simp at h'); first | done | simp [h, h'] | simp))))
  all_goals simp_all [kidsN]
end Go.Proofs.Tryd
/- Expressions: their cells. -/
namespace Go.Proofs.Tryd
open Go.Ab

inductive Ex where
  | mk (o c n : Int) (t : List UInt8) (g : Int) (kids : List Ex)
def Ex.kids : Ex → List Ex | .mk _ _ _ _ _ ks => ks
mutual
def Ex.c : Ex → List D
  | .mk o c n t g ks => [.int .i64 o, .int .i64 c, .int .i64 n, .str t, .int .i64 g, .sl (kidsC ks)]
def kidsC : List Ex → List (List D)
  | [] => []
  | e :: es => e.c :: kidsC es
end
theorem kidsC_map : ∀ l : List Ex, kidsC l = l.map Ex.c
  | [] => rfl
  | e :: es => by rw [kidsC, kidsC_map es]; rfl
def Ex.a (e : Ex) : AV := .agg (e.c.map AV.d)
theorem Ex.kid_lt {e k : Ex} (h : k ∈ e.kids) : SizeOf.sizeOf k < SizeOf.sizeOf e := by
  cases e
  have := List.sizeOf_lt_of_mem h
  simp only [Ex.kids] at this
  simp only [Ex.mk.sizeOf_spec]
  omega

theorem Ex.clen (e : Ex) : e.c.length = 6 := by cases e; rfl
theorem Ex.ctake (e : Ex) : List.take 6 (e.c.map AV.d) = e.c.map AV.d := List.take_of_length_le (by simp [Ex.clen])
theorem Ex.ctake' (e : Ex) : List.take 6 e.c = e.c := List.take_of_length_le (by simp [Ex.clen])

end Go.Proofs.Tryd
/- Expressions: Constant. -/
namespace Go.Proofs.Tryd
open Go.Ab

def constOf (v : V) (i : Int) : Ex :=
  if v.k = 1 then .mk 2 0 v.n [] 0 [] else if v.k = 2 then .mk 3 0 v.n [] 0 [] else if v.k = 3 then .mk 4 0 0 v.t 0 [] else .mk 1 i 0 [] 0 []

theorem r_const (v : V) (i : Int) : Cf En 97 [v.a, .d (.int .i64 i)] [] (constOf v i).a [] := by
  refine cf_intro mix (fn := Tryd.f97) (by kernel_rfl) rfl (by kernel_rfl) (by decide) (by simp) ?_
  unfold constOf
  by_cases h1 : v.k = 1
  · simp [V.a, h1, Ex.a, Ex.c, kidsC]
    repeat' (first | exact .of (by kernel_rfl) | refine And.intro ?_ ?_)
  by_cases h2 : v.k = 2
  · simp [V.a, h2, Ex.a, Ex.c, kidsC]
    repeat' (first | exact .of (by kernel_rfl) | refine And.intro ?_ ?_)
  by_cases h3 : v.k = 3
  · simp [V.a, h3, Ex.a, Ex.c, kidsC]
    repeat' (first | exact .of (by kernel_rfl) | refine And.intro ?_ ?_)
  · simp [V.a, h1, h2, h3, Ex.a, Ex.c, kidsC]
    repeat' (first | exact .of (by kernel_rfl) | refine And.intro ?_ ?_)
end Go.Proofs.Tryd
