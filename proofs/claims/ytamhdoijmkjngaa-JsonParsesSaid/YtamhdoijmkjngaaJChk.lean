/- jout.Check. -/
import Derived.Test.YtamhdoijmkjngaaJLay
import Derived.Test.YtamhdoijmkjngaaLexO
namespace Go.Proofs.Ytamhdoijmkjngaa
open Go.RowKit
set_option linter.unusedVariables false
set_option linter.unusedSimpArgs false

theorem lay_all : ∀ d, LaySaid d
  | 0 => fun j hj => by cases j; simp [wtJ] at hj
  | d + 1 => lay_step d (lay_all d)

theorem below_cellB {W w' : World} {B : Nat} {p : Addr} {v : Value} (hb : Below B W w') (h : W.cell? p = some v) (hB : p.block < B) : w'.cell? p = some v := (hb.cell hB).trans h

def ChkSaid (g : Nat) (d : Nat) : Prop := ∀ (j : J), wtJ j ≤ d → ∀ (S : Nat → Prop) (w : World) (c : Array Value), RdJ S w j c → wtJ j ≤ 100000 →
  Calls Try.prog g #[.agg c] w fun e w' => e = .returned (.int .i64 (checkJ j : Nat)) ∧ Below w.heap.size w w'

/-- What stands at the head of each round. -/
def NamRel (w1 : World) (g : Nat) (m : M) (i : Value) (wr : World) : Prop := ∃ j : Nat, i = .int .i64 j ∧ j ≤ m.len ∧ Hid (m.bare = (m.drop j).bare) ∧ Below g w1 wr
def KidRel (w1 : World) (g : Nat) (m : M) (i : Value) (wr : World) : Prop := ∃ j : Nat, i = .int .i64 j ∧ j ≤ m.len ∧ Hid (checkM m = checkM (m.drop j)) ∧ Below g w1 wr

theorem bare_get (m : M) (j : Nat) (n : List UInt8) (v : J) (h : m.get? j = some (n, v)) : (m.drop j).bare = (n.isEmpty && (m.drop (j + 1)).bare) := by rw [M.drop_get m j n v h]; rfl
theorem checkM_drop (m : M) (j : Nat) (n : List UInt8) (v : J) (h : m.get? j = some (n, v)) : checkM (m.drop j) = if wholeB n = false then 4 else if checkJ v ≠ 0 then checkJ v else checkM (m.drop (j + 1)) := by rw [M.drop_get m j n v h]; rfl
theorem sl_nil {x : ByteArray} (h : sl x = []) : x = ⟨#[]⟩ := by
  have := congrArg txt h
  rwa [txt_sl] at this
theorem sl_ne {x : ByteArray} (h : sl x ≠ []) : x.toList.isEmpty = false := by rw [toList_sl]; cases hh : sl x with
  | nil => exact absurd hh h
  | cons => rfl
theorem isNil_len (m : M) : m.isNil = decide (m.len = 0) := by cases m <;> simp [M.isNil, M.len]

set_option maxRecDepth 100000 in
set_option maxHeartbeats 16000000 in
theorem chk_step (d : Nat) (hof : ChkSaid 22 d) : ChkSaid 22 (d + 1) := by
  intro j hj S w c h hwb
  obtain ⟨k, t, m⟩ := j
  obtain ⟨x, ak, nk, ck, rfl, hxt, hxs, hkb, hml, hnk, hks⟩ := h
  have hxl : x.size = t.length := by rw [← hxt, sl_len]
  have hwt : wtJ (.mk k t m) = 2 + t.length + wtM m := rfl
  rw [hwt] at hj hwb
  have hnl := isNil_len m
  rw [hml] at hnl
  have hml2 := wtM_len m
  rw [hml] at hml2
  have hkk := Lib.hid (show checkJ (.mk k t m) = if k < 1 ∨ 7 < k ∨ (m.isNil = false ∧ k ≠ 6 ∧ k ≠ 7) ∨ (t ≠ [] ∧ k ≠ 4 ∧ k ≠ 5) then 1 else if k = 6 ∧ m.bare = false then 1 else if k = 4 ∧ (lexeme t = 0 ∨ 300 < t.length) then 10 else if k = 5 ∧ wholeB t = false then 4 else checkM m by rw [checkJ])
  generalize checkJ (.mk k t m) = r at hkk
  have HOF := Lib.hid hof
  have HKS := Lib.hid hks
  have HXT := Lib.hid hxt
  have HML := Lib.hid hml
  have HNL := Lib.hid hnl
  have hnk9 := hnk.1
  clear hof hks hxt hml hnl hwt hnk
  have hbox : Below w.heap.size w (w.alloc (.cells (jCells k x ak nk ck) 24)) := (Below.refl _ _).alloc (Nat.le_refl _) _
  have HBX := Lib.hid hbox
  clear hbox
  by_cases hlo : k < 1
  · have HR : Hid (r = 1) := by show _ = _; rw [hkk.out, if_pos (.inl hlo)]
    clear hkk
    go_enter Try.func22, Try.ntmps22
    go_wp2_with fail
    go_ret
    exact ⟨by rw [HR.out]; rfl, HBX.out⟩
  by_cases hhi : 7 < k
  · have HR : Hid (r = 1) := by show _ = _; rw [hkk.out, if_pos (.inr (.inl hhi))]
    clear hkk
    go_enter Try.func22, Try.ntmps22
    go_wp2_with fail
    go_ret
    exact ⟨by rw [HR.out]; rfl, HBX.out⟩
  have hk : k = 1 ∨ k = 2 ∨ k = 3 ∨ k = 4 ∨ k = 5 ∨ k = 6 ∨ k = 7 := by omega
  clear hlo hhi hkb
  rcases hk with rfl | rfl | rfl | rfl | rfl | rfl | rfl
  · skip
    by_cases hn0 : 0 < nk
    · have HR : Hid (r = 1) := by
        show _ = _
        rw [hkk.out, if_pos (.inr (.inr (.inl ⟨by rw [HNL.out]; simp; omega, by omega, by omega⟩)))]
      clear hkk
      go_enter Try.func22, Try.ntmps22
      go_wp2_with fail
      go_ret
      exact ⟨by rw [HR.out]; rfl, HBX.out⟩
    obtain rfl : nk = 0 := by omega
    have hm0 : m = .nil := by have := HML.out; cases m with
      | nil => rfl
      | cons => simp [M.len] at this
    subst hm0
    by_cases ht : t = []
    case neg =>
      have HR : Hid (r = 1) := by
        show _ = _
        rw [hkk.out, if_pos (.inr (.inr (.inr ⟨ht, by omega, by omega⟩)))]
      have hx0 : x.toList.isEmpty = false := sl_ne (by rw [HXT.out]; exact ht)
      clear hkk
      skip
      go_enter Try.func22, Try.ntmps22
      go_wp2_with fail
      all_goals
        go_ret
        exact ⟨by rw [HR.out]; rfl, HBX.out⟩
    subst ht
    obtain rfl := sl_nil HXT.out
    have HR : Hid (r = 0) := by
      show _ = _
      rw [hkk.out]
      simp [M.isNil, M.bare, checkM]
    clear hkk
    go_enter Try.func22, Try.ntmps22
    go_wp2_with fail
    go_loopw [4, 49] (fun _ i wr => i = .int .i64 0 ∧ wr = (w.alloc (.cells (jCells 1 ⟨#[]⟩ ak 0 ck) 24))) (fun _ _ _ => 0)
    case atStart => exact ⟨rfl, rfl⟩
    case round =>
      obtain ⟨rfl, rfl⟩ := hrel
      go_wp2_with fail
      go_loopw [6, 7, 89] (fun _ _ i wr => i = .int .i64 0 ∧ wr = (w.alloc (.cells (jCells 1 ⟨#[]⟩ ak 0 ck) 24))) (fun _ _ _ _ => 0)
      case atStart => exact ⟨rfl, rfl⟩
      case round =>
        obtain ⟨rfl, rfl⟩ := hrel
        go_wp2_with fail
        go_ret
        exact ⟨by rw [HR.out]; rfl, HBX.out⟩
  · skip
    by_cases hn0 : 0 < nk
    · have HR : Hid (r = 1) := by
        show _ = _
        rw [hkk.out, if_pos (.inr (.inr (.inl ⟨by rw [HNL.out]; simp; omega, by omega, by omega⟩)))]
      clear hkk
      go_enter Try.func22, Try.ntmps22
      go_wp2_with fail
      go_ret
      exact ⟨by rw [HR.out]; rfl, HBX.out⟩
    obtain rfl : nk = 0 := by omega
    have hm0 : m = .nil := by have := HML.out; cases m with
      | nil => rfl
      | cons => simp [M.len] at this
    subst hm0
    by_cases ht : t = []
    case neg =>
      have HR : Hid (r = 1) := by
        show _ = _
        rw [hkk.out, if_pos (.inr (.inr (.inr ⟨ht, by omega, by omega⟩)))]
      have hx0 : x.toList.isEmpty = false := sl_ne (by rw [HXT.out]; exact ht)
      clear hkk
      skip
      go_enter Try.func22, Try.ntmps22
      go_wp2_with fail
      all_goals
        go_ret
        exact ⟨by rw [HR.out]; rfl, HBX.out⟩
    subst ht
    obtain rfl := sl_nil HXT.out
    have HR : Hid (r = 0) := by
      show _ = _
      rw [hkk.out]
      simp [M.isNil, M.bare, checkM]
    clear hkk
    go_enter Try.func22, Try.ntmps22
    go_wp2_with fail
    go_loopw [4, 49] (fun _ i wr => i = .int .i64 0 ∧ wr = (w.alloc (.cells (jCells 2 ⟨#[]⟩ ak 0 ck) 24))) (fun _ _ _ => 0)
    case atStart => exact ⟨rfl, rfl⟩
    case round =>
      obtain ⟨rfl, rfl⟩ := hrel
      go_wp2_with fail
      go_loopw [6, 7, 89] (fun _ _ i wr => i = .int .i64 0 ∧ wr = (w.alloc (.cells (jCells 2 ⟨#[]⟩ ak 0 ck) 24))) (fun _ _ _ _ => 0)
      case atStart => exact ⟨rfl, rfl⟩
      case round =>
        obtain ⟨rfl, rfl⟩ := hrel
        go_wp2_with fail
        go_ret
        exact ⟨by rw [HR.out]; rfl, HBX.out⟩
  · skip
    by_cases hn0 : 0 < nk
    · have HR : Hid (r = 1) := by
        show _ = _
        rw [hkk.out, if_pos (.inr (.inr (.inl ⟨by rw [HNL.out]; simp; omega, by omega, by omega⟩)))]
      clear hkk
      go_enter Try.func22, Try.ntmps22
      go_wp2_with fail
      go_ret
      exact ⟨by rw [HR.out]; rfl, HBX.out⟩
    obtain rfl : nk = 0 := by omega
    have hm0 : m = .nil := by have := HML.out; cases m with
      | nil => rfl
      | cons => simp [M.len] at this
    subst hm0
    by_cases ht : t = []
    case neg =>
      have HR : Hid (r = 1) := by
        show _ = _
        rw [hkk.out, if_pos (.inr (.inr (.inr ⟨ht, by omega, by omega⟩)))]
      have hx0 : x.toList.isEmpty = false := sl_ne (by rw [HXT.out]; exact ht)
      clear hkk
      skip
      go_enter Try.func22, Try.ntmps22
      go_wp2_with fail
      all_goals
        go_ret
        exact ⟨by rw [HR.out]; rfl, HBX.out⟩
    subst ht
    obtain rfl := sl_nil HXT.out
    have HR : Hid (r = 0) := by
      show _ = _
      rw [hkk.out]
      simp [M.isNil, M.bare, checkM]
    clear hkk
    go_enter Try.func22, Try.ntmps22
    go_wp2_with fail
    go_loopw [4, 49] (fun _ i wr => i = .int .i64 0 ∧ wr = (w.alloc (.cells (jCells 3 ⟨#[]⟩ ak 0 ck) 24))) (fun _ _ _ => 0)
    case atStart => exact ⟨rfl, rfl⟩
    case round =>
      obtain ⟨rfl, rfl⟩ := hrel
      go_wp2_with fail
      go_loopw [6, 7, 89] (fun _ _ i wr => i = .int .i64 0 ∧ wr = (w.alloc (.cells (jCells 3 ⟨#[]⟩ ak 0 ck) 24))) (fun _ _ _ _ => 0)
      case atStart => exact ⟨rfl, rfl⟩
      case round =>
        obtain ⟨rfl, rfl⟩ := hrel
        go_wp2_with fail
        go_ret
        exact ⟨by rw [HR.out]; rfl, HBX.out⟩
  · skip
    by_cases hn0 : 0 < nk
    · have HR : Hid (r = 1) := by
        show _ = _
        rw [hkk.out, if_pos (.inr (.inr (.inl ⟨by rw [HNL.out]; simp; omega, by omega, by omega⟩)))]
      clear hkk
      go_enter Try.func22, Try.ntmps22
      go_wp2_with fail
      go_ret
      exact ⟨by rw [HR.out]; rfl, HBX.out⟩
    obtain rfl : nk = 0 := by omega
    have hm0 : m = .nil := by have := HML.out; cases m with
      | nil => rfl
      | cons => simp [M.len] at this
    subst hm0
    rcases Bool.eq_false_or_eq_true (x.toList.isEmpty) with he | he
    all_goals
      have CL := fun W => Lib.hid (lexeme_calls x (by omega) W)
      rw [HXT.out] at CL
      obtain ⟨lx, hlx⟩ : ∃ lx, lx = lexeme t := ⟨_, rfl⟩
      rw [← hlx] at CL
      have hres : r = if lx = 0 ∨ 300 < x.size then 10 else 0 := by
        rw [hkk.out, hlx, hxl]
        by_cases h : lexeme t = 0 ∨ 300 < t.length
        · simp [M.isNil, M.bare, checkM, h]
        · simp [M.isNil, M.bare, checkM, h]
      clear hlx
      by_cases c1 : lx = 0
      · have HR : Hid (r = 10) := by show _ = _; rw [hres, if_pos (.inl c1)]
        subst c1
        clear hkk hres
        go_enter Try.func22, Try.ntmps22
        go_wp2_with fail
        go_loopw [4, 49] (fun _ i wr => i = .int .i64 0 ∧ wr = (w.alloc (.cells (jCells 4 x ak 0 ck) 24))) (fun _ _ _ => 0)
        case atStart => exact ⟨rfl, rfl⟩
        case round =>
          obtain ⟨rfl, rfl⟩ := hrel
          go_wp2_with fail
          refine (CL _).out.mono ?_
          rintro e w' ⟨rfl, rfl⟩
          go_wp2_with fail
          go_ret
          exact ⟨by rw [HR.out]; rfl, HBX.out⟩
      by_cases c2 : 300 < x.size
      · have HR : Hid (r = 10) := by show _ = _; rw [hres, if_pos (.inr c2)]
        have t1 : ((lx : Int) == 0) = false := by simp; omega
        have t2 : decide ((300 : Int) < x.size) = true := by simp; omega
        clear hkk hres
        go_enter Try.func22, Try.ntmps22
        go_wp2_with fail
        go_loopw [4, 49] (fun _ i wr => i = .int .i64 0 ∧ wr = (w.alloc (.cells (jCells 4 x ak 0 ck) 24))) (fun _ _ _ => 0)
        case atStart => exact ⟨rfl, rfl⟩
        case round =>
          obtain ⟨rfl, rfl⟩ := hrel
          go_wp2_with fail
          refine (CL _).out.mono ?_
          rintro e w' ⟨rfl, rfl⟩
          go_wp2_with fail
          go_ret
          exact ⟨by rw [HR.out]; rfl, HBX.out⟩
      have HR : Hid (r = 0) := by show _ = _; rw [hres, if_neg (by omega)]
      have t1 : ((lx : Int) == 0) = false := by simp; omega
      have t2 : decide ((300 : Int) < x.size) = false := by simp; omega
      clear hkk hres
      go_enter Try.func22, Try.ntmps22
      go_wp2_with fail
      go_loopw [4, 49] (fun _ i wr => i = .int .i64 0 ∧ wr = (w.alloc (.cells (jCells 4 x ak 0 ck) 24))) (fun _ _ _ => 0)
      case atStart => exact ⟨rfl, rfl⟩
      case round =>
        obtain ⟨rfl, rfl⟩ := hrel
        go_wp2_with fail
        refine (CL _).out.mono ?_
        rintro e w' ⟨rfl, rfl⟩
        go_wp2_with fail
        go_loopw [6, 7, 89] (fun _ _ i wr => i = .int .i64 0 ∧ wr = (w.alloc (.cells (jCells 4 x ak 0 ck) 24))) (fun _ _ _ _ => 0)
        case atStart => exact ⟨rfl, rfl⟩
        case round =>
          obtain ⟨rfl, rfl⟩ := hrel
          go_wp2_with fail
          go_ret
          exact ⟨by rw [HR.out]; rfl, HBX.out⟩
  · skip
    by_cases hn0 : 0 < nk
    · have HR : Hid (r = 1) := by
        show _ = _
        rw [hkk.out, if_pos (.inr (.inr (.inl ⟨by rw [HNL.out]; simp; omega, by omega, by omega⟩)))]
      clear hkk
      go_enter Try.func22, Try.ntmps22
      go_wp2_with fail
      go_ret
      exact ⟨by rw [HR.out]; rfl, HBX.out⟩
    obtain rfl : nk = 0 := by omega
    have hm0 : m = .nil := by have := HML.out; cases m with
      | nil => rfl
      | cons => simp [M.len] at this
    subst hm0
    rcases Bool.eq_false_or_eq_true (x.toList.isEmpty) with he | he
    all_goals
      have CL := fun W => Lib.hid (jis_calls x (by omega) W)
      rw [HXT.out, hxl] at CL
      have hres : r = if wholeTo t = t.length then 0 else 4 := by
        rw [hkk.out]
        by_cases h : wholeTo t = t.length
        · simp [M.isNil, M.bare, checkM, wholeB, h]
        · simp [M.isNil, M.bare, checkM, wholeB, h]
      by_cases c1 : wholeTo t = t.length
      · have HR : Hid (r = 0) := by show _ = _; rw [hres, if_pos c1]
        rw [show (wholeTo t == t.length) = true by simpa using c1] at CL
        clear hkk hres
        go_enter Try.func22, Try.ntmps22
        go_wp2_with fail
        go_loopw [4, 49] (fun _ i wr => i = .int .i64 0 ∧ wr = (w.alloc (.cells (jCells 5 x ak 0 ck) 24))) (fun _ _ _ => 0)
        case atStart => exact ⟨rfl, rfl⟩
        case round =>
          obtain ⟨rfl, rfl⟩ := hrel
          go_wp2_with fail
          refine (CL _).out.mono ?_
          rintro e w5 ⟨rfl, hb5⟩
          have HB5 := Lib.hid (HBX.out.trans (hb5.mono (by simp)))
          have f2 : w5.cell? ⟨w.heap.size, 2, none⟩ = some (.slice ak 0 ck) := below_cellB hb5 (by simp [go_sem]) (by simp)
          clear hb5
          go_wp2_with fail
          go_loopw [6, 7, 89] (fun _ _ i wr => i = .int .i64 0 ∧ wr = w5) (fun _ _ _ _ => 0)
          case atStart => exact ⟨rfl, rfl⟩
          case round =>
            obtain ⟨rfl, rfl⟩ := hrel
            go_wp2_with fail
            go_ret
            exact ⟨by rw [HR.out]; rfl, HB5.out⟩
      have HR : Hid (r = 4) := by show _ = _; rw [hres, if_neg c1]
      rw [show (wholeTo t == t.length) = false by simpa using c1] at CL
      clear hkk hres
      go_enter Try.func22, Try.ntmps22
      go_wp2_with fail
      go_loopw [4, 49] (fun _ i wr => i = .int .i64 0 ∧ wr = (w.alloc (.cells (jCells 5 x ak 0 ck) 24))) (fun _ _ _ => 0)
      case atStart => exact ⟨rfl, rfl⟩
      case round =>
        obtain ⟨rfl, rfl⟩ := hrel
        go_wp2_with fail
        refine (CL _).out.mono ?_
        rintro e w5 ⟨rfl, hb5⟩
        have HB5 := Lib.hid (HBX.out.trans (hb5.mono (by simp)))
        clear hb5
        go_wp2_with fail
        go_ret
        exact ⟨by rw [HR.out]; rfl, HB5.out⟩
  · skip
    by_cases ht : t = []
    case neg =>
      have HR : Hid (r = 1) := by
        show _ = _
        rw [hkk.out, if_pos (.inr (.inr (.inr ⟨ht, by omega, by omega⟩)))]
      have hx0 : x.toList.isEmpty = false := sl_ne (by rw [HXT.out]; exact ht)
      clear hkk
      by_cases hz : 0 < nk
      all_goals
        go_enter Try.func22, Try.ntmps22
        go_wp2_with fail
      all_goals
        go_ret
        exact ⟨by rw [HR.out]; rfl, HBX.out⟩
    subst ht
    obtain rfl := sl_nil HXT.out
    by_cases hz : 0 < nk
    case neg =>
      obtain rfl : nk = 0 := by omega
      have hm0 : m = .nil := by have := HML.out; cases m with
        | nil => rfl
        | cons => simp [M.len] at this
      subst hm0
      have HR : Hid (r = 0) := by
        show _ = _
        rw [hkk.out]
        simp [M.isNil, M.bare, checkM]
      clear hkk
      go_enter Try.func22, Try.ntmps22
      go_wp2_with fail
      go_loopw [4, 49] (fun _ i wr => i = .int .i64 0 ∧ wr = (w.alloc (.cells (jCells 6 ⟨#[]⟩ ak 0 ck) 24))) (fun _ _ _ => 0)
      case atStart => exact ⟨rfl, rfl⟩
      case round =>
        obtain ⟨rfl, rfl⟩ := hrel
        go_wp2_with fail
        go_loopw [6, 7, 89] (fun _ _ i wr => i = .int .i64 0 ∧ wr = (w.alloc (.cells (jCells 6 ⟨#[]⟩ ak 0 ck) 24))) (fun _ _ _ _ => 0)
        case atStart => exact ⟨rfl, rfl⟩
        case round =>
          obtain ⟨rfl, rfl⟩ := hrel
          go_wp2_with fail
          go_ret
          exact ⟨by rw [HR.out]; rfl, HBX.out⟩
    have hres : r = if m.bare = false then 1 else checkM m := by
      rw [hkk.out]
      by_cases h : m.bare = false
      · simp [h]
      · simp [h]
    have HRES := Lib.hid hres
    clear hkk hres
    go_enter Try.func22, Try.ntmps22
    go_wp2_with fail
    go_loopw [4, 49] (fun _ i wr => NamRel (w.alloc (.cells (jCells 6 ⟨#[]⟩ ak nk ck) 24)) (w.heap.size + 1) m i wr) (fun _ i _ => nk - (intOf i).toNat)
    case atStart => exact ⟨0, rfl, Nat.zero_le _, Lib.hid rfl, Below.refl _ _⟩
    case round =>
      obtain ⟨j, rfl, hjm, hrb, hbl⟩ := hrel
      have f0 : wr.cell? ⟨w.heap.size, 0, none⟩ = some (.int .i64 6) := below_cellB hbl (by simp [go_sem]) (by simp)
      have f1 : wr.cell? ⟨w.heap.size, 1, none⟩ = some (.string { data := #[] }) := below_cellB hbl (by simp [go_sem]) (by simp)
      have f2 : wr.cell? ⟨w.heap.size, 2, none⟩ = some (.slice ak nk ck) := below_cellB hbl (by simp [go_sem]) (by simp)
      have hsz : w.heap.size + 1 ≤ wr.heap.size := by have := hbl.size; simpa using this
      have hBW := HBX.out.trans (hbl.mono (by omega))
      have HKW := Lib.hid (HKS.out.below hBW)
      have HBW := Lib.hid hBW
      have HBL := Lib.hid hbl
      rw [HML.out] at hjm
      clear hbl hBW
      by_cases hlt : j < nk
      · obtain ⟨⟨n, vv⟩, hx⟩ := M.get_some m j (by rw [HML.out]; exact hlt)
        obtain ⟨b0, o0, y, k', t', x', m', ak', nk', ck', rfl, rfl, e1, e2, e3, e4, e5, e6, e7, g0, g1, g2, g3⟩ := (HKW.out.at hx).cells
        have hj0 : (0 : Int) ≤ (j : Int) := by omega
        have hj1 : (j : Int) < (nk : Int) := by omega
        have hbg := bare_get m j n _ hx
        have f0' := fun o => (below_cellB (((Below.refl wr.heap.size wr).alloc (Nat.le_refl _) o)) f0 (by simp; omega))
        by_cases hn : n = []
        · have HNB : Hid (m.bare = (m.drop (j + 1)).bare) := by
            show _ = _
            rw [hrb.out, hbg, hn]
            simp
          obtain rfl := sl_nil (e1.trans hn)
          clear hx hbg e1 e3 e4 e7
          go_wp2_with fail
          go_roundw
          case rel => exact ⟨j + 1, by simp, by rw [HML.out]; omega, HNB, HBL.out.alloc hsz _⟩
          case measure => simp [intOf]; omega
        · have HR : Hid (r = 1) := by
            show _ = _
            rw [HRES.out, if_pos]
            rw [hrb.out, hbg]
            cases n with
            | nil => exact absurd rfl hn
            | cons => rfl
          have hy0 : y.toList.isEmpty = false := sl_ne (by rw [e1]; exact hn)
          clear hx hbg e1 e3 e4 e7
          go_wp2_with fail
          go_ret
          exact ⟨by rw [HR.out]; rfl, HBW.out.alloc (by omega) _⟩
      · have hbare : m.bare = true := by
          rw [hrb.out, M.drop_len m j (by rw [HML.out]; omega)]
          rfl
        have HRM : Hid (r = checkM m) := by
          show _ = _
          rw [HRES.out, hbare]
          simp
        obtain ⟨ws, rfl⟩ : ∃ ws : World, ws = wr := ⟨_, rfl⟩
        clear hrb
        go_wp2_with fail
        go_loopw [6, 7, 89] (fun _ _ i wr => KidRel ws ws.heap.size m i wr) (fun _ _ i _ => nk - (intOf i).toNat)
        case atStart => exact ⟨0, rfl, Nat.zero_le _, Lib.hid rfl, Below.refl _ _⟩
        case round =>
          obtain ⟨j, rfl, hjm, hcr, hbl⟩ := hrel
          have hsz2 : ws.heap.size ≤ wr.heap.size := hbl.size
          have f2' : wr.cell? ⟨w.heap.size, 2, none⟩ = some (.slice ak nk ck) := below_cellB hbl f2 (by simp; omega)
          have hBW := HBW.out.trans (hbl.mono (by omega))
          have HKW := Lib.hid (HKS.out.below hBW)
          have HBW := Lib.hid hBW
          have HBL2 := Lib.hid hbl
          rw [HML.out] at hjm
          clear hbl hBW
          by_cases hlt : j < nk
          · obtain ⟨⟨n, vv⟩, hx⟩ := M.get_some m j (by rw [HML.out]; exact hlt)
            have hwg := wtM_get m j n vv hx
            have hcd := checkM_drop m j n vv hx
            obtain ⟨b0, o0, y, k', t', x', m', ak', nk', ck', rfl, rfl, e1, e2, e3, e4, e5, e6, e7, g0, g1, g2, g3⟩ := (HKW.out.at hx).cells
            have hyl : y.size = n.length := by rw [← e1, sl_len]
            have hj0 : (0 : Int) ≤ (j : Int) := by omega
            have hj1 : (j : Int) < (nk : Int) := by omega
            have CI := fun W => Lib.hid (jis_calls y (by omega) W)
            rw [e1, hyl] at CI
            have HC := Lib.hid (fun S W c => HOF.out _ (show wtJ (.mk k' t' m') ≤ d by omega) S W c)
            have E7 := Lib.hid e7
            have hwk : wtJ (.mk k' t' m') ≤ 100000 := by omega
            obtain ⟨q, hq⟩ : ∃ q, q = checkJ (.mk k' t' m') := ⟨_, rfl⟩
            rw [← hq] at HC hcd
            by_cases hw : wholeTo n = n.length
            · rw [show (wholeTo n == n.length) = true by simpa using hw] at CI
              rw [if_neg (by unfold wholeB; simp [hw])] at hcd
              by_cases hq0 : q = 0
              · subst hq0
                have HN : Hid (checkM m = checkM (m.drop (j + 1))) := by
                  show _ = _
                  rw [hcr.out, hcd]
                  simp
                clear hx hwg hcd hw e1 e3 e4 e7 hq
                go_wp2_with fail
                refine (CI _).out.mono ?_
                rintro e w5 ⟨rfl, hb5⟩
                have hL := ((Below.refl wr.heap.size wr).alloc (Nat.le_refl _) (.cells #[.string y, .int .i64 k', .string x', .slice ak' nk' ck'] 62)).trans (hb5.mono (by simp))
                have z1 : w5.cell? ⟨wr.heap.size, 1, none⟩ = some (.int .i64 k') := below_cellB hb5 (by simp [go_sem]) (by simp)
                have z2 : w5.cell? ⟨wr.heap.size, 2, none⟩ = some (.string x') := below_cellB hb5 (by simp [go_sem]) (by simp)
                have z3 : w5.cell? ⟨wr.heap.size, 3, none⟩ = some (.slice ak' nk' ck') := below_cellB hb5 (by simp [go_sem]) (by simp)
                have HL := Lib.hid hL
                clear hb5 hL
                go_wp2_with fail
                refine (HC.out _ _ _ (E7.out.below HL.out) hwk).mono ?_
                rintro e w6 ⟨rfl, hb6⟩
                have HL6 := Lib.hid (HL.out.trans (hb6.mono HL.out.size))
                clear hb6
                go_wp2_with fail
                go_roundw
                case rel => exact ⟨j + 1, by simp, by rw [HML.out]; omega, HN, HBL2.out.trans (HL6.out.mono hsz2)⟩
                case measure => simp [intOf]; omega
              · have HR : Hid (r = q) := by
                  show _ = _
                  rw [HRM.out, hcr.out, hcd, if_pos hq0]
                have hq1 : ((q : Int) == 0) = false := by simp; omega
                have hq2 : ((q : Int) != 0) = true := by simp; omega
                clear hx hwg hcd hw e1 e3 e4 e7 hq
                go_wp2_with fail
                refine (CI _).out.mono ?_
                rintro e w5 ⟨rfl, hb5⟩
                have hL := ((Below.refl wr.heap.size wr).alloc (Nat.le_refl _) (.cells #[.string y, .int .i64 k', .string x', .slice ak' nk' ck'] 62)).trans (hb5.mono (by simp))
                have z1 : w5.cell? ⟨wr.heap.size, 1, none⟩ = some (.int .i64 k') := below_cellB hb5 (by simp [go_sem]) (by simp)
                have z2 : w5.cell? ⟨wr.heap.size, 2, none⟩ = some (.string x') := below_cellB hb5 (by simp [go_sem]) (by simp)
                have z3 : w5.cell? ⟨wr.heap.size, 3, none⟩ = some (.slice ak' nk' ck') := below_cellB hb5 (by simp [go_sem]) (by simp)
                have HL := Lib.hid hL
                clear hb5 hL
                go_wp2_with fail
                refine (HC.out _ _ _ (E7.out.below HL.out) hwk).mono ?_
                rintro e w6 ⟨rfl, hb6⟩
                have HL6 := Lib.hid (HL.out.trans (hb6.mono HL.out.size))
                clear hb6
                go_wp2_with fail
                go_ret
                exact ⟨by rw [HR.out]; rfl, HBW.out.trans (HL6.out.mono (by omega))⟩
            · rw [show (wholeTo n == n.length) = false by simpa using hw] at CI
              have HR : Hid (r = 4) := by
                show _ = _
                rw [HRM.out, hcr.out, hcd, if_pos (by unfold wholeB; simpa using hw)]
              clear hx hwg hcd hw e1 e3 e4 e7 hq
              go_wp2_with fail
              refine (CI _).out.mono ?_
              rintro e w5 ⟨rfl, hb5⟩
              have HL := Lib.hid (((Below.refl wr.heap.size wr).alloc (Nat.le_refl _) (.cells #[.string y, .int .i64 k', .string x', .slice ak' nk' ck'] 62)).trans (hb5.mono (by simp)))
              clear hb5
              go_wp2_with fail
              go_ret
              exact ⟨by rw [HR.out]; rfl, HBW.out.trans (HL.out.mono (by omega))⟩
          · have HR : Hid (r = 0) := by
              show _ = _
              rw [HRM.out, hcr.out, M.drop_len m j (by rw [HML.out]; omega)]
              rfl
            go_wp2_with fail
            go_ret
            exact ⟨by rw [HR.out]; rfl, HBW.out⟩
  · skip
    by_cases ht : t = []
    case neg =>
      have HR : Hid (r = 1) := by
        show _ = _
        rw [hkk.out, if_pos (.inr (.inr (.inr ⟨ht, by omega, by omega⟩)))]
      have hx0 : x.toList.isEmpty = false := sl_ne (by rw [HXT.out]; exact ht)
      clear hkk
      by_cases hz : 0 < nk
      all_goals
        go_enter Try.func22, Try.ntmps22
        go_wp2_with fail
      all_goals
        go_ret
        exact ⟨by rw [HR.out]; rfl, HBX.out⟩
    subst ht
    obtain rfl := sl_nil HXT.out
    by_cases hz : 0 < nk
    case neg =>
      obtain rfl : nk = 0 := by omega
      have hm0 : m = .nil := by have := HML.out; cases m with
        | nil => rfl
        | cons => simp [M.len] at this
      subst hm0
      have HR : Hid (r = 0) := by
        show _ = _
        rw [hkk.out]
        simp [M.isNil, M.bare, checkM]
      clear hkk
      go_enter Try.func22, Try.ntmps22
      go_wp2_with fail
      go_loopw [4, 49] (fun _ i wr => i = .int .i64 0 ∧ wr = (w.alloc (.cells (jCells 7 ⟨#[]⟩ ak 0 ck) 24))) (fun _ _ _ => 0)
      case atStart => exact ⟨rfl, rfl⟩
      case round =>
        obtain ⟨rfl, rfl⟩ := hrel
        go_wp2_with fail
        go_loopw [6, 7, 89] (fun _ _ i wr => i = .int .i64 0 ∧ wr = (w.alloc (.cells (jCells 7 ⟨#[]⟩ ak 0 ck) 24))) (fun _ _ _ _ => 0)
        case atStart => exact ⟨rfl, rfl⟩
        case round =>
          obtain ⟨rfl, rfl⟩ := hrel
          go_wp2_with fail
          go_ret
          exact ⟨by rw [HR.out]; rfl, HBX.out⟩
    have HRES : Hid (r = checkM m) := by
      show _ = _
      rw [hkk.out]
      simp
    clear hkk
    go_enter Try.func22, Try.ntmps22
    go_wp2_with fail
    go_loopw [4, 49] (fun _ i wr => (∃ j : Nat, i = .int .i64 j ∧ j ≤ m.len ∧ Below (w.heap.size + 1) (w.alloc (.cells (jCells 7 ⟨#[]⟩ ak nk ck) 24)) wr)) (fun _ i _ => nk - (intOf i).toNat)
    case atStart => exact ⟨0, rfl, Nat.zero_le _, Below.refl _ _⟩
    case round =>
      obtain ⟨j, rfl, hjm, hbl⟩ := hrel
      have f0 : wr.cell? ⟨w.heap.size, 0, none⟩ = some (.int .i64 7) := below_cellB hbl (by simp [go_sem]) (by simp)
      have f1 : wr.cell? ⟨w.heap.size, 1, none⟩ = some (.string { data := #[] }) := below_cellB hbl (by simp [go_sem]) (by simp)
      have f2 : wr.cell? ⟨w.heap.size, 2, none⟩ = some (.slice ak nk ck) := below_cellB hbl (by simp [go_sem]) (by simp)
      have hsz : w.heap.size + 1 ≤ wr.heap.size := by have := hbl.size; simpa using this
      have hBW := HBX.out.trans (hbl.mono (by omega))
      have HKW := Lib.hid (HKS.out.below hBW)
      have HBW := Lib.hid hBW
      have HBL := Lib.hid hbl
      rw [HML.out] at hjm
      clear hbl hBW
      by_cases hlt : j < nk
      · obtain ⟨⟨n, vv⟩, hx⟩ := M.get_some m j (by rw [HML.out]; exact hlt)
        obtain ⟨b0, o0, y, k', t', x', m', ak', nk', ck', rfl, rfl, e1, e2, e3, e4, e5, e6, e7, g0, g1, g2, g3⟩ := (HKW.out.at hx).cells
        have hj0 : (0 : Int) ≤ (j : Int) := by omega
        have hj1 : (j : Int) < (nk : Int) := by omega
        have f0' := fun o => (below_cellB (((Below.refl wr.heap.size wr).alloc (Nat.le_refl _) o)) f0 (by simp; omega))
        clear hx e1 e3 e4 e7
        go_wp2_with fail
        go_roundw
        case rel => exact ⟨j + 1, by simp, by rw [HML.out]; omega, HBL.out.alloc hsz _⟩
        case measure => simp [intOf]; omega
      · have HRM := HRES
        obtain ⟨ws, rfl⟩ : ∃ ws : World, ws = wr := ⟨_, rfl⟩
        go_wp2_with fail
        go_loopw [6, 7, 89] (fun _ _ i wr => KidRel ws ws.heap.size m i wr) (fun _ _ i _ => nk - (intOf i).toNat)
        case atStart => exact ⟨0, rfl, Nat.zero_le _, Lib.hid rfl, Below.refl _ _⟩
        case round =>
          obtain ⟨j, rfl, hjm, hcr, hbl⟩ := hrel
          have hsz2 : ws.heap.size ≤ wr.heap.size := hbl.size
          have f2' : wr.cell? ⟨w.heap.size, 2, none⟩ = some (.slice ak nk ck) := below_cellB hbl f2 (by simp; omega)
          have hBW := HBW.out.trans (hbl.mono (by omega))
          have HKW := Lib.hid (HKS.out.below hBW)
          have HBW := Lib.hid hBW
          have HBL2 := Lib.hid hbl
          rw [HML.out] at hjm
          clear hbl hBW
          by_cases hlt : j < nk
          · obtain ⟨⟨n, vv⟩, hx⟩ := M.get_some m j (by rw [HML.out]; exact hlt)
            have hwg := wtM_get m j n vv hx
            have hcd := checkM_drop m j n vv hx
            obtain ⟨b0, o0, y, k', t', x', m', ak', nk', ck', rfl, rfl, e1, e2, e3, e4, e5, e6, e7, g0, g1, g2, g3⟩ := (HKW.out.at hx).cells
            have hyl : y.size = n.length := by rw [← e1, sl_len]
            have hj0 : (0 : Int) ≤ (j : Int) := by omega
            have hj1 : (j : Int) < (nk : Int) := by omega
            have CI := fun W => Lib.hid (jis_calls y (by omega) W)
            rw [e1, hyl] at CI
            have HC := Lib.hid (fun S W c => HOF.out _ (show wtJ (.mk k' t' m') ≤ d by omega) S W c)
            have E7 := Lib.hid e7
            have hwk : wtJ (.mk k' t' m') ≤ 100000 := by omega
            obtain ⟨q, hq⟩ : ∃ q, q = checkJ (.mk k' t' m') := ⟨_, rfl⟩
            rw [← hq] at HC hcd
            by_cases hw : wholeTo n = n.length
            · rw [show (wholeTo n == n.length) = true by simpa using hw] at CI
              rw [if_neg (by unfold wholeB; simp [hw])] at hcd
              by_cases hq0 : q = 0
              · subst hq0
                have HN : Hid (checkM m = checkM (m.drop (j + 1))) := by
                  show _ = _
                  rw [hcr.out, hcd]
                  simp
                clear hx hwg hcd hw e1 e3 e4 e7 hq
                go_wp2_with fail
                refine (CI _).out.mono ?_
                rintro e w5 ⟨rfl, hb5⟩
                have hL := ((Below.refl wr.heap.size wr).alloc (Nat.le_refl _) (.cells #[.string y, .int .i64 k', .string x', .slice ak' nk' ck'] 62)).trans (hb5.mono (by simp))
                have z1 : w5.cell? ⟨wr.heap.size, 1, none⟩ = some (.int .i64 k') := below_cellB hb5 (by simp [go_sem]) (by simp)
                have z2 : w5.cell? ⟨wr.heap.size, 2, none⟩ = some (.string x') := below_cellB hb5 (by simp [go_sem]) (by simp)
                have z3 : w5.cell? ⟨wr.heap.size, 3, none⟩ = some (.slice ak' nk' ck') := below_cellB hb5 (by simp [go_sem]) (by simp)
                have HL := Lib.hid hL
                clear hb5 hL
                go_wp2_with fail
                refine (HC.out _ _ _ (E7.out.below HL.out) hwk).mono ?_
                rintro e w6 ⟨rfl, hb6⟩
                have HL6 := Lib.hid (HL.out.trans (hb6.mono HL.out.size))
                clear hb6
                go_wp2_with fail
                go_roundw
                case rel => exact ⟨j + 1, by simp, by rw [HML.out]; omega, HN, HBL2.out.trans (HL6.out.mono hsz2)⟩
                case measure => simp [intOf]; omega
              · have HR : Hid (r = q) := by
                  show _ = _
                  rw [HRM.out, hcr.out, hcd, if_pos hq0]
                have hq1 : ((q : Int) == 0) = false := by simp; omega
                have hq2 : ((q : Int) != 0) = true := by simp; omega
                clear hx hwg hcd hw e1 e3 e4 e7 hq
                go_wp2_with fail
                refine (CI _).out.mono ?_
                rintro e w5 ⟨rfl, hb5⟩
                have hL := ((Below.refl wr.heap.size wr).alloc (Nat.le_refl _) (.cells #[.string y, .int .i64 k', .string x', .slice ak' nk' ck'] 62)).trans (hb5.mono (by simp))
                have z1 : w5.cell? ⟨wr.heap.size, 1, none⟩ = some (.int .i64 k') := below_cellB hb5 (by simp [go_sem]) (by simp)
                have z2 : w5.cell? ⟨wr.heap.size, 2, none⟩ = some (.string x') := below_cellB hb5 (by simp [go_sem]) (by simp)
                have z3 : w5.cell? ⟨wr.heap.size, 3, none⟩ = some (.slice ak' nk' ck') := below_cellB hb5 (by simp [go_sem]) (by simp)
                have HL := Lib.hid hL
                clear hb5 hL
                go_wp2_with fail
                refine (HC.out _ _ _ (E7.out.below HL.out) hwk).mono ?_
                rintro e w6 ⟨rfl, hb6⟩
                have HL6 := Lib.hid (HL.out.trans (hb6.mono HL.out.size))
                clear hb6
                go_wp2_with fail
                go_ret
                exact ⟨by rw [HR.out]; rfl, HBW.out.trans (HL6.out.mono (by omega))⟩
            · rw [show (wholeTo n == n.length) = false by simpa using hw] at CI
              have HR : Hid (r = 4) := by
                show _ = _
                rw [HRM.out, hcr.out, hcd, if_pos (by unfold wholeB; simpa using hw)]
              clear hx hwg hcd hw e1 e3 e4 e7 hq
              go_wp2_with fail
              refine (CI _).out.mono ?_
              rintro e w5 ⟨rfl, hb5⟩
              have HL := Lib.hid (((Below.refl wr.heap.size wr).alloc (Nat.le_refl _) (.cells #[.string y, .int .i64 k', .string x', .slice ak' nk' ck'] 62)).trans (hb5.mono (by simp)))
              clear hb5
              go_wp2_with fail
              go_ret
              exact ⟨by rw [HR.out]; rfl, HBW.out.trans (HL.out.mono (by omega))⟩
          · have HR : Hid (r = 0) := by
              show _ = _
              rw [HRM.out, hcr.out, M.drop_len m j (by rw [HML.out]; omega)]
              rfl
            go_wp2_with fail
            go_ret
            exact ⟨by rw [HR.out]; rfl, HBW.out⟩

theorem chk_all : ∀ d, ChkSaid 22 d
  | 0 => fun j hj => by cases j; simp [wtJ] at hj
  | d + 1 => chk_step d (chk_all d)

end Go.Proofs.Ytamhdoijmkjngaa
