/- Which terms and statements are valid: the plain law, and the program's tables of operators. -/
import Derived.Test.YtlimkhfjidcelaaDoorNam
import Derived.Test.YtlimkhfjidcelaaDoorRval
import Derived.Test.YtlimkhfjidcelaaDoorSqs
set_option linter.all false
namespace Go.Proofs.Tryd
open Go.Ab
set_option maxRecDepth 100000
set_option maxHeartbeats 1000000

/-- The number of operands of an operation without fields. -/
def arity (o : Int) (k : Nat) : Bool :=
  if o = 11 ∨ o = 13 ∨ o = 21 ∨ o = 24 ∨ o = 25 then k == 1
  else if o = 26 then k == 3
  else if o = 28 then decide (2 ≤ k)
  else decide (6 ≤ o) && (decide (o ≤ 28) && k == 2)
/-- A term's own fields are as they have to be, with so many operands. -/
def okK (o y n : Int) (t q : List UInt8) (k : Nat) : Bool :=
  if o = 1 then decide (1 ≤ y) && (decide (y ≤ 3) && (k == 0 && (n == 0 && (t == [] && q == []))))
  else if o = 2 then (V.mk 1 n []).valid && (k == 0 && (y == 0 && (t == [] && q == [])))
  else if o = 3 then (n == 0 || n == 1) && (k == 0 && (y == 0 && (t == [] && q == [])))
  else if o = 4 then (V.mk 3 0 t).valid && (k == 0 && (y == 0 && (n == 0 && q == [])))
  else if o = 40 then nameOk words t && ((q == [] || nameOk words q) && (k == 0 && (y == 0 && n == 0)))
  else if o = 41 then decide (1 ≤ n) && (decide (n ≤ 6) && ((if n = 1 then k == 0 else k == 1) && (y == 0 && (t == [] && q == []))))
  else arity o k && (y == 0 && (n == 0 && (t == [] && q == [])))
mutual
def Tm.right : Tm → Bool
  | .mk o y n t q ks => okK o y n t q ks.length && tmsRight ks
def tmsRight : List Tm → Bool
  | [] => true
  | e :: es => e.right && tmsRight es
end
theorem tmsRight_all : ∀ l : List Tm, tmsRight l = l.all Tm.right
  | [] => by rw [tmsRight]; rfl
  | e :: es => by rw [tmsRight, tmsRight_all es]; rfl
def nameOr (s : List UInt8) : Bool := s == [] || nameOk words s
def itRight (i : It) : Bool := i.t.right && nameOr i.n
mutual
def Sm.right : Sm → Bool
  | .mk f a d s is ft fq fn js w g h ks =>
    if f = 1 then !a && (ks.length == 0 && (s == (is.length == 0) && (decide (w.length ≤ 1) && (decide (h.length ≤ 1) &&
      ((if fq.length = 0 then nameOk words ft && nameOr fn else fq.length == 1 && (ft == [] && (nameOk words fn && smsRight fq))) &&
      (is.all itRight && (josRight js && (tmsRight w && (tmsRight g && tmsRight h)))))))))
    else if f = 2 ∨ f = 3 ∨ f = 4 then ks.length == 2 && (smsRight ks && (!d && (!s && (is.length == 0 && (ft == [] && (fq.length == 0 && (fn == [] && (js.length == 0 && (w.length == 0 && (g.length == 0 && h.length == 0))))))))))
    else false
def Jo.right : Jo → Bool
  | .mk k t q n o => decide (0 ≤ k) && (decide (k ≤ 6) && (o.length == (if k = 0 then 0 else 1) && (tmsRight o &&
      (if q.length = 0 then nameOk words t && nameOr n else q.length == 1 && (t == [] && (nameOk words n && smsRight q))))))
def smsRight : List Sm → Bool
  | [] => true
  | e :: es => e.right && smsRight es
def josRight : List Jo → Bool
  | [] => true
  | e :: es => e.right && josRight es
end
theorem smsRight_all : ∀ l : List Sm, smsRight l = l.all Sm.right
  | [] => by rw [smsRight]; rfl
  | e :: es => by rw [smsRight, smsRight_all es]; rfl
theorem josRight_all : ∀ l : List Jo, josRight l = l.all Jo.right
  | [] => by rw [josRight]; rfl
  | e :: es => by rw [josRight, josRight_all es]; rfl
def soRight (t : List UInt8) (q : List Sm) (n : List UInt8) : Bool := if q.length = 0 then nameOk words t && nameOr n else q.length == 1 && (t == [] && (nameOk words n && smsRight q))

theorem sops_len : sops.length = 24 := rfl
theorem sopsC_len : sopsC.length = 96 := by decide
theorem drop_sops : ∀ (l : List Sop) (o : Nat), (l.flatMap sopC).drop (o * 4) = (l.drop o).flatMap sopC
  | [], o => by simp
  | x :: l, 0 => by simp
  | x :: l, o + 1 => by
    rw [List.flatMap_cons, show (o + 1) * 4 = (sopC x).length + o * 4 from by simp [sopC]; omega, ← List.drop_drop, List.drop_left, drop_sops l o, List.drop_succ_cons]
def zsop : Sop := ([], 0, 0, 0)
def sopOf (o : Int) : Sop := (sops[o.toNat]?).getD zsop
theorem sops_row {o : Nat} (h : o < 24) : ∃ rest, sopsC.drop (o * 4) = .str (sopOf o).1 :: .int .i64 (sopOf o).2.1 :: .int .i64 (sopOf o).2.2.1 :: .int .i64 (sopOf o).2.2.2 :: rest := by
  have hl : o < sops.length := h
  refine ⟨(sops.drop (o + 1)).flatMap sopC, ?_⟩
  unfold sopsC
  rw [drop_sops, List.drop_eq_getElem_cons hl, List.flatMap_cons]
  unfold sopOf
  rw [Int.toNat_natCast, List.getElem?_eq_getElem hl]
  rfl
def isSop (o : Int) : Bool := decide (0 ≤ o) && (decide (o < 24) && !((sopOf o).1 == []))
def sopA (o : Sop) : AV := .agg [.d (.str o.1), .d (.int .i64 o.2.1), .d (.int .i64 o.2.2.1), .d (.int .i64 o.2.2.2)]
theorem isSop_iff : ∀ n : Nat, n < 24 → isSop n = (decide (6 ≤ n) && !(n == 11 || n == 13 || n == 21)) := by decide

theorem s_operatorOf (o : Int) : Cf Es 115 [.d (.int .i64 o)] [] (.tup [sopA (if isSop o = true then sopOf o else zsop), .d (.bool (isSop o))]) [] := by
  refine cf_intro mixs (fn := Tryd.f115) (by kernel_rfl) rfl (by kernel_rfl) (by decide) (by simp) ?_
  by_cases h1 : o < 0
  · have hi : isSop o = false := by unfold isSop; simp; omega
    simp [hi, sopA, zsop, h1]
    (repeat' (first | contradiction | exact .of (by kernel_rfl) | refine And.intro ?_ ?_ | intro _ | (refine agrd_cases (fun h => ?_) (fun h => ?_) <;> (have h' := h; (try simp at h'); first | done | simp [h, h', h1] | simp [h1]))))
  by_cases h2 : 24 ≤ o
  · have hi : isSop o = false := by unfold isSop; simp; omega
    simp [hi, sopA, zsop, h1, h2]
    (repeat' (first | contradiction | exact .of (by kernel_rfl) | refine And.intro ?_ ?_ | intro _ | (refine agrd_cases (fun h => ?_) (fun h => ?_) <;> (have h' := h; (try simp at h'); first | done | simp [h, h', h1, h2] | simp [h1, h2]))))
    all_goals omega
  obtain ⟨n, rfl⟩ : ∃ n : Nat, o = n := ⟨o.toNat, by omega⟩
  have hn : n < 24 := by omega
  obtain ⟨rest, hr⟩ := sops_row hn
  have hb : n * 4 ≤ 96 := by omega
  have hlt : (n : Int) < 24 := by omega
  have hnl : ¬ 24 ≤ n := by omega
  have h4 : n * 4 ≤ sopsC.length := by rw [sopsC_len]; omega
  by_cases h0 : (sopOf n).1 = []
  · have hi : isSop n = false := by unfold isSop; rw [h0]; simp
    simp [hi, sopA, zsop, sopsC_len, h1, hlt, hb, hr, hnl, h0]
    (repeat' (first | contradiction | exact .of (by kernel_rfl) | refine And.intro ?_ ?_ | intro _ | (refine agrd_cases (fun h => ?_) (fun h => ?_) <;> (have h' := h; (try simp at h'); first | done | simp [h, h', hr, h1, hlt, hb, sopsC_len, hnl, h0] | simp [hr, h1, hlt, hb, sopsC_len, hnl, h0]))))
    all_goals simp_all
  · have hi : isSop n = true := by unfold isSop; simp [h0]; omega
    simp [hi, sopA, sopsC_len, h1, hlt, hb, hr, hnl, h0]
    (repeat' (first | contradiction | exact .of (by kernel_rfl) | refine And.intro ?_ ?_ | intro _ | (refine agrd_cases (fun h => ?_) (fun h => ?_) <;> (have h' := h; (try simp at h'); first | done | simp [h, h', hr, h1, hlt, hb, sopsC_len, hnl, h0] | simp [hr, h1, hlt, hb, sopsC_len, hnl, h0]))))
    all_goals simp_all
def kidsN (o : Int) : Int × Bool :=
  if o = 1 ∨ o = 2 ∨ o = 3 ∨ o = 4 ∨ o = 40 then (0, true)
  else if o = 24 ∨ o = 21 ∨ o = 25 ∨ o = 11 ∨ o = 13 then (1, true)
  else if o = 27 then (2, true)
  else if o = 26 then (3, true)
  else (0, false)
theorem s_kids (o : Int) : Cf Es 116 [.d (.int .i64 o)] [] (.tup [.d (.int .i64 (kidsN o).1), .d (.bool (kidsN o).2)]) [] := by
  refine cf_intro mixs (fn := Tryd.f116) (by kernel_rfl) rfl (by kernel_rfl) (by decide) (by simp) ?_
  simp
  (repeat' (first | contradiction | exact .of (by kernel_rfl) | refine And.intro ?_ ?_ | intro _ | (refine agrd_cases (fun h => ?_) (fun h => ?_) <;> (have h' := h; (try simp at h'); first | done | simp [h, h'] | simp))))
  all_goals simp_all [kidsN]
end Go.Proofs.Tryd
