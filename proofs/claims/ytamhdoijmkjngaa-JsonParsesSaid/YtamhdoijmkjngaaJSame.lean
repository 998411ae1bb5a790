/- The reference's Same: are two trees of JSON alike? -/
import Derived.Test.YtamhdoijmkjngaaJBook
import Derived.Test.YtamhdoijmkjngaaLexO
namespace Go.Proofs.Ytamhdoijmkjngaa
open Go.RowKit
set_option linter.unusedVariables false
set_option linter.unusedSimpArgs false

mutual
def eqJ : J → J → Bool
  | .mk k t m, .mk k' t' m' => (k == k') && (t == t') && (m.len == m'.len) && eqM m m'
def eqM : M → M → Bool
  | .nil, .nil => true
  | .cons n v r, .cons n' v' r' => (n == n') && eqJ v v' && eqM r r'
  | .nil, .cons .. => false
  | .cons .., .nil => false
end

mutual
theorem eqJ_iff : ∀ a b : J, eqJ a b = true ↔ a = b
  | .mk k t m, .mk k' t' m' => by
    have h := eqM_iff m m'
    simp only [eqJ, Bool.and_eq_true, beq_iff_eq, h, J.mk.injEq]
    constructor
    · rintro ⟨⟨⟨h1, h2⟩, _⟩, h3⟩; exact ⟨h1, h2, h3⟩
    · rintro ⟨h1, h2, h3⟩; exact ⟨⟨⟨h1, h2⟩, by rw [h3]⟩, h3⟩
theorem eqM_iff : ∀ a b : M, eqM a b = true ↔ a = b
  | .nil, .nil => by simp [eqM]
  | .cons n v r, .cons n' v' r' => by
    have h1 := eqJ_iff v v'
    have h2 := eqM_iff r r'
    simp only [eqM, Bool.and_eq_true, beq_iff_eq, h1, h2, M.cons.injEq]
    constructor
    · rintro ⟨⟨h1, h2⟩, h3⟩; exact ⟨h1, h2, h3⟩
    · rintro ⟨h1, h2, h3⟩; exact ⟨⟨h1, h2⟩, h3⟩
  | .nil, .cons .. => by simp [eqM]
  | .cons .., .nil => by simp [eqM]
end

theorem eqM_get (a b : M) (j : Nat) (n n' : List UInt8) (v v' : J) (h : a.get? j = some (n, v)) (h' : b.get? j = some (n', v')) : eqM (a.drop j) (b.drop j) = ((n == n') && eqJ v v' && eqM (a.drop (j + 1)) (b.drop (j + 1))) := by
  rw [M.drop_get a j n v h, M.drop_get b j n' v' h']; rfl

def SameSaid (g : Nat) (d : Nat) : Prop := ∀ (a b : J), wtJ a ≤ d → ∀ (S S' : Nat → Prop) (w : World) (ca cb : Array Value), RdJ S w a ca → RdJ S' w b cb →
  Calls Try.prog g #[.agg ca, .agg cb] w fun e w' => e = .returned (.bool (eqJ a b)) ∧ Below w.heap.size w w'

def SamRel (w1 : World) (g : Nat) (a b : M) (i : Value) (wr : World) : Prop := ∃ j : Nat, i = .int .i64 j ∧ j ≤ a.len ∧ Hid (eqM a b = eqM (a.drop j) (b.drop j)) ∧ Below g w1 wr

theorem sl_beq (x y : ByteArray) : (x.toList == y.toList) = (sl x == sl y) := by rw [toList_sl, toList_sl]

set_option maxRecDepth 100000 in
set_option maxHeartbeats 16000000 in
theorem same_step (d : Nat) (hof : SameSaid 24 d) : SameSaid 24 (d + 1) := by
  intro a b hj S S' w ca cb ha hb
  obtain ⟨k, t, m⟩ := a
  obtain ⟨k2, t2, m2⟩ := b
  obtain ⟨x, ak, nk, ck, rfl, hxt, hxs, hkb, hml, hnk, hks⟩ := ha
  obtain ⟨x2, ak2, nk2, ck2, rfl, hxt2, hxs2, hkb2, hml2, hnk2, hks2⟩ := hb
  have hwt : wtJ (.mk k t m) = 2 + t.length + wtM m := rfl
  rw [hwt] at hj
  have hr : eqJ (.mk k t m) (.mk k2 t2 m2) = ((k == k2) && (x.toList == x2.toList) && (nk == nk2) && eqM m m2) := by
    rw [sl_beq, hxt, hxt2, ← hml, ← hml2]; rfl
  have HR := Lib.hid hr
  generalize eqJ (.mk k t m) (.mk k2 t2 m2) = r at HR
  have HOF := Lib.hid hof
  have HKA := Lib.hid hks
  have HKB := Lib.hid hks2
  have HML := Lib.hid hml
  have HML2 := Lib.hid hml2
  have hnk9 := hnk.1
  have hnk29 := hnk2.1
  have hbox : Below w.heap.size w ((w.alloc (.cells (jCells k x ak nk ck) 24)).alloc (.cells (jCells k2 x2 ak2 nk2 ck2) 24)) := ((Below.refl _ _).alloc (Nat.le_refl _) _).alloc (by simp) _
  have HBX := Lib.hid hbox
  clear hof hks hks2 hxt hxt2 hml hml2 hwt hnk hnk2 hr hbox
  by_cases q1 : k = k2
  case neg =>
    have e1 : (k == k2) = false := by simpa using q1
    have e1' : (k != k2) = true := by simpa using q1
    have HF : Hid (r = false) := by show _ = _; rw [HR.out, e1]; rfl
    clear HR
    go_enter Try.func24, Try.ntmps24
    go_wp2_with fail
    go_ret
    exact ⟨by rw [HF.out]; rfl, HBX.out⟩
  subst q1
  rw [show (k == k) = true by simp, Bool.true_and] at HR
  cases q2 : (x.toList == x2.toList) with
  | false =>
    have q2' : (x.toList != x2.toList) = true := by unfold bne; rw [q2]; rfl
    have HF : Hid (r = false) := by show _ = _; rw [HR.out, q2]; rfl
    clear HR
    go_enter Try.func24, Try.ntmps24
    go_wp2_with fail
    go_ret
    exact ⟨by rw [HF.out]; rfl, HBX.out⟩
  | true =>
  have q2' : (x.toList != x2.toList) = false := by unfold bne; rw [q2]; rfl
  rw [q2, Bool.true_and] at HR
  by_cases q3 : nk = nk2
  case neg =>
    have e1 : (nk == nk2) = false := by simpa using q3
    have e1' : ((nk : Int) != nk2) = true := by simp; omega
    have HF : Hid (r = false) := by show _ = _; rw [HR.out, e1]; rfl
    clear HR
    go_enter Try.func24, Try.ntmps24
    go_wp2_with fail
    go_ret
    exact ⟨by rw [HF.out]; rfl, HBX.out⟩
  subst q3
  rw [show (nk == nk) = true by simp, Bool.true_and] at HR
  go_enter Try.func24, Try.ntmps24
  go_wp2_with fail
  go_loopw [5] (fun i wr => SamRel ((w.alloc (.cells (jCells k x ak nk ck) 24)).alloc (.cells (jCells k x2 ak2 nk ck2) 24)) (w.heap.size + 2) m m2 i wr) (fun i _ => nk - (intOf i).toNat)
  case atStart => exact ⟨0, rfl, Nat.zero_le _, Lib.hid rfl, Below.refl _ _⟩
  case round =>
    obtain ⟨j, rfl, hjm, heq, hbl⟩ := hrel
    have fa : wr.cell? ⟨w.heap.size, 2, none⟩ = some (.slice ak nk ck) := below_cell2 hbl (by simp [go_sem]) (by simp)
    have fb : wr.cell? ⟨w.heap.size + 1, 2, none⟩ = some (.slice ak2 nk ck2) := below_cell2 hbl (by simp [go_sem]) (by simp)
    have hsz : w.heap.size + 2 ≤ wr.heap.size := by have := hbl.size; simpa using this
    have hBW := HBX.out.trans (hbl.mono (by omega))
    have HKW := Lib.hid (HKA.out.below hBW)
    have HKW2 := Lib.hid (HKB.out.below hBW)
    have HBW := Lib.hid hBW
    have HBL := Lib.hid hbl
    rw [HML.out] at hjm
    clear hbl hBW
    by_cases hlt : j < nk
    · obtain ⟨⟨n, vv⟩, hx⟩ := M.get_some m j (by rw [HML.out]; exact hlt)
      obtain ⟨⟨n2, vv2⟩, hx2⟩ := M.get_some m2 j (by rw [HML2.out]; exact hlt)
      have hwg := wtM_get m j n vv hx
      have hed := eqM_get m m2 j n n2 vv vv2 hx hx2
      obtain ⟨b0, o0, y, k', t', x', m', ak', nk', ck', rfl, rfl, e1, e2, e3, e4, e5, e6, e7, g0, g1, g2, g3⟩ := (HKW.out.at hx).cells
      obtain ⟨b1, o1, y2, k2', t2', x2', m2', ak2', nk2', ck2', rfl, rfl, d1, d2, d3, d4, d5, d6, d7, z0, z1, z2, z3⟩ := (HKW2.out.at hx2).cells
      have hj0 : (0 : Int) ≤ (j : Int) := by omega
      have hj1 : (j : Int) < (nk : Int) := by omega
      have HC := Lib.hid (fun S S' W ca cb => HOF.out (.mk k' t' m') (.mk k2' t2' m2') (show wtJ (.mk k' t' m') ≤ d by omega) S S' W ca cb)
      have E7 := Lib.hid e7
      have D7 := Lib.hid d7
      rw [← e1, ← d1, ← sl_beq] at hed
      obtain ⟨q, hq⟩ : ∃ q, q = eqJ (.mk k' t' m') (.mk k2' t2' m2') := ⟨_, rfl⟩
      rw [← hq] at HC hed
      cases hn : (y.toList == y2.toList) with
      | false =>
        have hn' : (y.toList != y2.toList) = true := by unfold bne; rw [hn]; rfl
        have HF : Hid (r = false) := by show _ = _; rw [HR.out, heq.out, hed, hn]; rfl
        clear hx hx2 hwg hed e1 d1 e3 d3 e7 d7 e4 e5 e6 d4 d5 d6 hq
        go_wp2_with fail
        go_quiet (fail)
        go_wp2_with fail
        go_ret
        exact ⟨by rw [HF.out]; rfl, HBW.out.trans (below_drewN _ _ _)⟩
      | true =>
        have hn' : (y.toList != y2.toList) = false := by unfold bne; rw [hn]; rfl
        rw [hn, Bool.true_and] at hed
        cases q with
        | false =>
          have HF : Hid (r = false) := by show _ = _; rw [HR.out, heq.out, hed]; rfl
          clear hx hx2 hwg hed e1 d1 e3 d3 e7 d7 e4 e5 e6 d4 d5 d6 hq
          go_wp2_with fail
          go_region_held3 (fun w' => w'.cell? ⟨w.heap.size, 2, none⟩ = some (.slice (some ⟨b0, o0, none⟩) nk ck) ∧ w'.cell? ⟨w.heap.size + 1, 2, none⟩ = some (.slice (some ⟨b1, o1, none⟩) nk ck2) ∧ w'.cell? ⟨b0, o0 + j * 4, none⟩ = some (.string y) ∧ w'.cell? ⟨b0, o0 + j * 4 + 1, none⟩ = some (.int .i64 k') ∧ w'.cell? ⟨b0, o0 + j * 4 + 2, none⟩ = some (.string x') ∧ w'.cell? ⟨b0, o0 + j * 4 + 3, none⟩ = some (.slice ak' nk' ck') ∧ w'.cell? ⟨b1, o1 + j * 4, none⟩ = some (.string y2) ∧ w'.cell? ⟨b1, o1 + j * 4 + 1, none⟩ = some (.int .i64 k2') ∧ w'.cell? ⟨b1, o1 + j * 4 + 2, none⟩ = some (.string x2') ∧ w'.cell? ⟨b1, o1 + j * 4 + 3, none⟩ = some (.slice ak2' nk2' ck2')) (first | go_keep | ((repeat' apply And.intro) <;> (refine below_cell ‹Below _ _ _› ?_; simp [*]))) ((go_at_call 24; refine (HC.out S S' _ _ _ ?_ ?_).mono ?_; (exact E7.out.below ((Below.refl _ _).drew)); (exact D7.out.below ((Below.refl _ _).drew)); rintro e w' ⟨rfl, hb⟩))
          go_wp2_with fail
          go_ret
          exact ⟨by rw [HF.out]; rfl, HBW.out.trans ((((Below.refl _ _).drew).trans hb).mono (by show _ ≤ wr.heap.size; omega))⟩
        | true =>
          have HN : Hid (eqM m m2 = eqM (m.drop (j + 1)) (m2.drop (j + 1))) := by show _ = _; rw [heq.out, hed]; rfl
          clear hx hx2 hwg hed e1 d1 e3 d3 e7 d7 e4 e5 e6 d4 d5 d6 hq
          go_wp2_with fail
          go_region_held3 (fun w' => w'.cell? ⟨w.heap.size, 2, none⟩ = some (.slice (some ⟨b0, o0, none⟩) nk ck) ∧ w'.cell? ⟨w.heap.size + 1, 2, none⟩ = some (.slice (some ⟨b1, o1, none⟩) nk ck2) ∧ w'.cell? ⟨b0, o0 + j * 4, none⟩ = some (.string y) ∧ w'.cell? ⟨b0, o0 + j * 4 + 1, none⟩ = some (.int .i64 k') ∧ w'.cell? ⟨b0, o0 + j * 4 + 2, none⟩ = some (.string x') ∧ w'.cell? ⟨b0, o0 + j * 4 + 3, none⟩ = some (.slice ak' nk' ck') ∧ w'.cell? ⟨b1, o1 + j * 4, none⟩ = some (.string y2) ∧ w'.cell? ⟨b1, o1 + j * 4 + 1, none⟩ = some (.int .i64 k2') ∧ w'.cell? ⟨b1, o1 + j * 4 + 2, none⟩ = some (.string x2') ∧ w'.cell? ⟨b1, o1 + j * 4 + 3, none⟩ = some (.slice ak2' nk2' ck2')) (first | go_keep | ((repeat' apply And.intro) <;> (refine below_cell ‹Below _ _ _› ?_; simp [*]))) ((go_at_call 24; refine (HC.out S S' _ _ _ ?_ ?_).mono ?_; (exact E7.out.below ((Below.refl _ _).drew)); (exact D7.out.below ((Below.refl _ _).drew)); rintro e w' ⟨rfl, hb⟩))
          go_wp2_with fail
          go_roundw
          case rel => exact ⟨j + 1, by simp, by rw [HML.out]; omega, HN, HBL.out.trans ((((Below.refl _ _).drew).trans hb).mono hsz)⟩
          case measure => simp [intOf]; omega
    · have HF : Hid (r = true) := by
        show _ = _
        rw [HR.out, heq.out, M.drop_len m j (by rw [HML.out]; omega), M.drop_len m2 j (by rw [HML2.out]; omega)]
        rfl
      go_wp2_with fail
      go_ret
      exact ⟨by rw [HF.out]; rfl, HBW.out⟩

theorem same_all : ∀ d, SameSaid 24 d
  | 0 => fun a b hj => by cases a; simp [wtJ] at hj
  | d + 1 => same_step d (same_all d)

end Go.Proofs.Ytamhdoijmkjngaa
