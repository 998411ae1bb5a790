/- The reference's Check, walked. -/
import Derived.Test.YtamhdoijmkjngaaJChk
import Derived.Test.YtamhdoijmkjngaaLexR
namespace Go.Proofs.Ytamhdoijmkjngaa
open Go.RowKit
set_option linter.unusedVariables false
set_option linter.unusedSimpArgs false

/-- The value's box holds what it held. -/
def BoxJ (w1 : World) (g : Nat) (k : Int) (x : ByteArray) (ak : Option Addr) (nk ck : Nat) (wr : World) : Prop :=
  Below (g + 1) w1 wr ∧ wr.cell? ⟨g, 0, none⟩ = some (.int .i64 k) ∧ wr.cell? ⟨g, 1, none⟩ = some (.string x) ∧ wr.cell? ⟨g, 2, none⟩ = some (.slice ak nk ck) ∧ g + 1 ≤ wr.heap.size
theorem BoxJ.start {w : World} {k : Int} {x : ByteArray} {ak : Option Addr} {nk ck : Nat} : BoxJ (w.alloc (.cells (jCells k x ak nk ck) 24)) w.heap.size k x ak nk ck (w.alloc (.cells (jCells k x ak nk ck) 24)) :=
  ⟨Below.refl _ _, by simp [go_sem], by simp [go_sem], by simp [go_sem], by simp⟩
theorem BoxJ.keep {w1 : World} {g : Nat} {k : Int} {x : ByteArray} {ak : Option Addr} {nk ck : Nat} {wr w' : World} (h : BoxJ w1 g k x ak nk ck wr) (hb : Below wr.heap.size wr w') : BoxJ w1 g k x ak nk ck w' :=
  ⟨h.1.trans (hb.mono h.2.2.2.2), cell_below hb h.2.1, cell_below hb h.2.2.1, cell_below hb h.2.2.2.1, Nat.le_trans h.2.2.2.2 hb.size⟩

set_option maxRecDepth 100000 in
set_option maxHeartbeats 16000000 in
theorem rchk_step (d : Nat) (hof : ChkSaid 23 d) : ChkSaid 23 (d + 1) := by
  intro j hj S w c h hwb
  obtain ⟨k, t, m⟩ := j
  obtain ⟨x, ak, nk, ck, rfl, hxt, hxs, hkb, hml, hnk, hks⟩ := h
  have hxl : x.size = t.length := by rw [← hxt, sl_len]
  have hwt : wtJ (.mk k t m) = 2 + t.length + wtM m := rfl
  rw [hwt] at hj hwb
  have hnl := isNil_len m
  rw [hml] at hnl
  have hml2 := wtM_len m
  rw [hml] at hml2
  have hkk := Lib.hid (show checkJ (.mk k t m) = if k < 1 ∨ 7 < k ∨ (m.isNil = false ∧ k ≠ 6 ∧ k ≠ 7) ∨ (t ≠ [] ∧ k ≠ 4 ∧ k ≠ 5) then 1 else if k = 6 ∧ m.bare = false then 1 else if k = 4 ∧ (lexeme t = 0 ∨ 300 < t.length) then 10 else if k = 5 ∧ wholeB t = false then 4 else checkM m by rw [checkJ])
  generalize checkJ (.mk k t m) = r at hkk
  have HOF := Lib.hid hof
  have HKS := Lib.hid hks
  have HXT := Lib.hid hxt
  have HML := Lib.hid hml
  have HNL := Lib.hid hnl
  have hnk9 := hnk.1
  clear hof hks hxt hml hnl hwt hnk
  have hbox : Below w.heap.size w (w.alloc (.cells (jCells k x ak nk ck) 24)) := (Below.refl _ _).alloc (Nat.le_refl _) _
  have HBX := Lib.hid hbox
  have HB0 := Lib.hid (BoxJ.start (w := w) (k := k) (x := x) (ak := ak) (nk := nk) (ck := ck))
  clear hbox
  obtain ⟨b4, hb4⟩ : ∃ b, b = (k == 4) := ⟨_, rfl⟩
  by_cases hout : k < 1 ∨ 7 < k
  · have HR : Hid (r = 1) := by
      show _ = _
      rw [hkk.out, if_pos]
      rcases hout with h | h
      · exact .inl h
      · exact .inr (.inl h)
    have d4 : (k == 4) = false := by simp; omega
    have d5 : (k == 5) = false := by simp; omega
    have d6 : (k == 6) = false := by simp; omega
    have d7 : (k == 7) = false := by simp; omega
    have h2 : k < 1 ∨ (1 ≤ k ∧ 7 < k) := by omega
    clear hkk hout hb4
    rcases h2 with h | ⟨h, h'⟩
    all_goals
      go_enter Try.func23, Try.ntmps23
      go_wp2_with fail
      go_quiet (fail)
      go_wp2_with fail
      go_ret
      exact ⟨by rw [HR.out]; rfl, HBX.out.trans (below_drewN _ _ _)⟩
  have hk : k = 1 ∨ k = 2 ∨ k = 3 ∨ k = 4 ∨ k = 5 ∨ k = 6 ∨ k = 7 := by omega
  clear hout hkb hb4
  rcases hk with rfl | rfl | rfl | rfl | rfl | rfl | rfl
  · skip
    by_cases hn0 : 0 < nk
    · have HR : Hid (r = 1) := by
        show _ = _
        rw [hkk.out, if_pos (.inr (.inr (.inl ⟨by rw [HNL.out]; simp; omega, by omega, by omega⟩)))]
      clear hkk
      go_enter Try.func23, Try.ntmps23
      go_wp2_with fail
      go_quiet (fail)
      go_wp2_with fail
      go_ret
      exact ⟨by rw [HR.out]; rfl, HBX.out.trans (below_drewN _ _ _)⟩
    obtain rfl : nk = 0 := by omega
    have hm0 : m = .nil := by have := HML.out; cases m with
      | nil => rfl
      | cons => simp [M.len] at this
    subst hm0
    by_cases ht : t = []
    case neg =>
      have HR : Hid (r = 1) := by
        show _ = _
        rw [hkk.out, if_pos (.inr (.inr (.inr ⟨ht, by omega, by omega⟩)))]
      have hx0 : x.toList.isEmpty = false := sl_ne (by rw [HXT.out]; exact ht)
      clear hkk
      go_enter Try.func23, Try.ntmps23
      go_wp2_with fail
      go_quiet (fail)
      go_wp2_with fail
      go_ret
      exact ⟨by rw [HR.out]; rfl, HBX.out.trans (below_drewN _ _ _)⟩
    subst ht
    obtain rfl := sl_nil HXT.out
    have HR : Hid (r = 0) := by
      show _ = _
      rw [hkk.out]
      simp [M.isNil, M.bare, checkM]
    clear hkk
    go_enter Try.func23, Try.ntmps23
    go_wp2_with fail
    go_quiet (fail)
    go_wp2_with fail
    go_loopw [5] (fun i wr => i = .int .i64 0 ∧ BoxJ (w.alloc (.cells (jCells 1 ⟨#[]⟩ ak 0 ck) 24)) w.heap.size 1 ⟨#[]⟩ ak 0 ck wr) (fun _ _ => 0)
    case atStart => exact ⟨rfl, HB0.out.keep (below_drewN _ _ _)⟩
    case round =>
      obtain ⟨rfl, hbj⟩ := hrel
      obtain ⟨hbl, f0, f1, f2, hsz⟩ := hbj
      have HBJ : Hid (BoxJ (w.alloc (.cells (jCells 1 ⟨#[]⟩ ak 0 ck) 24)) w.heap.size 1 ⟨#[]⟩ ak 0 ck wr) := Lib.hid ⟨hbl, f0, f1, f2, hsz⟩
      have HBL := Lib.hid hbl
      clear hbl
      go_wp2_with fail
      go_loopw [6] (fun i wx => i = .int .i64 0 ∧ BoxJ (w.alloc (.cells (jCells 1 ⟨#[]⟩ ak 0 ck) 24)) w.heap.size 1 ⟨#[]⟩ ak 0 ck wx) (fun _ _ => 0)
      case atStart => exact ⟨rfl, HBJ.out⟩
      case round =>
        clear f0 f1 f2 hsz HBL HBJ
        obtain ⟨rfl, hbj⟩ := hrel
        obtain ⟨hbl, f0, f1, f2, hsz⟩ := hbj
        have HBL := Lib.hid hbl
        clear hbl
        go_wp2_with fail
        go_ret
        exact ⟨by rw [HR.out]; rfl, HBX.out.trans (HBL.out.mono (by omega))⟩
  · skip
    by_cases hn0 : 0 < nk
    · have HR : Hid (r = 1) := by
        show _ = _
        rw [hkk.out, if_pos (.inr (.inr (.inl ⟨by rw [HNL.out]; simp; omega, by omega, by omega⟩)))]
      clear hkk
      go_enter Try.func23, Try.ntmps23
      go_wp2_with fail
      go_quiet (fail)
      go_wp2_with fail
      go_ret
      exact ⟨by rw [HR.out]; rfl, HBX.out.trans (below_drewN _ _ _)⟩
    obtain rfl : nk = 0 := by omega
    have hm0 : m = .nil := by have := HML.out; cases m with
      | nil => rfl
      | cons => simp [M.len] at this
    subst hm0
    by_cases ht : t = []
    case neg =>
      have HR : Hid (r = 1) := by
        show _ = _
        rw [hkk.out, if_pos (.inr (.inr (.inr ⟨ht, by omega, by omega⟩)))]
      have hx0 : x.toList.isEmpty = false := sl_ne (by rw [HXT.out]; exact ht)
      clear hkk
      go_enter Try.func23, Try.ntmps23
      go_wp2_with fail
      go_quiet (fail)
      go_wp2_with fail
      go_ret
      exact ⟨by rw [HR.out]; rfl, HBX.out.trans (below_drewN _ _ _)⟩
    subst ht
    obtain rfl := sl_nil HXT.out
    have HR : Hid (r = 0) := by
      show _ = _
      rw [hkk.out]
      simp [M.isNil, M.bare, checkM]
    clear hkk
    go_enter Try.func23, Try.ntmps23
    go_wp2_with fail
    go_quiet (fail)
    go_wp2_with fail
    go_loopw [5] (fun i wr => i = .int .i64 0 ∧ BoxJ (w.alloc (.cells (jCells 2 ⟨#[]⟩ ak 0 ck) 24)) w.heap.size 2 ⟨#[]⟩ ak 0 ck wr) (fun _ _ => 0)
    case atStart => exact ⟨rfl, HB0.out.keep (below_drewN _ _ _)⟩
    case round =>
      obtain ⟨rfl, hbj⟩ := hrel
      obtain ⟨hbl, f0, f1, f2, hsz⟩ := hbj
      have HBJ : Hid (BoxJ (w.alloc (.cells (jCells 2 ⟨#[]⟩ ak 0 ck) 24)) w.heap.size 2 ⟨#[]⟩ ak 0 ck wr) := Lib.hid ⟨hbl, f0, f1, f2, hsz⟩
      have HBL := Lib.hid hbl
      clear hbl
      go_wp2_with fail
      go_loopw [6] (fun i wx => i = .int .i64 0 ∧ BoxJ (w.alloc (.cells (jCells 2 ⟨#[]⟩ ak 0 ck) 24)) w.heap.size 2 ⟨#[]⟩ ak 0 ck wx) (fun _ _ => 0)
      case atStart => exact ⟨rfl, HBJ.out⟩
      case round =>
        clear f0 f1 f2 hsz HBL HBJ
        obtain ⟨rfl, hbj⟩ := hrel
        obtain ⟨hbl, f0, f1, f2, hsz⟩ := hbj
        have HBL := Lib.hid hbl
        clear hbl
        go_wp2_with fail
        go_ret
        exact ⟨by rw [HR.out]; rfl, HBX.out.trans (HBL.out.mono (by omega))⟩
  · skip
    by_cases hn0 : 0 < nk
    · have HR : Hid (r = 1) := by
        show _ = _
        rw [hkk.out, if_pos (.inr (.inr (.inl ⟨by rw [HNL.out]; simp; omega, by omega, by omega⟩)))]
      clear hkk
      go_enter Try.func23, Try.ntmps23
      go_wp2_with fail
      go_quiet (fail)
      go_wp2_with fail
      go_ret
      exact ⟨by rw [HR.out]; rfl, HBX.out.trans (below_drewN _ _ _)⟩
    obtain rfl : nk = 0 := by omega
    have hm0 : m = .nil := by have := HML.out; cases m with
      | nil => rfl
      | cons => simp [M.len] at this
    subst hm0
    by_cases ht : t = []
    case neg =>
      have HR : Hid (r = 1) := by
        show _ = _
        rw [hkk.out, if_pos (.inr (.inr (.inr ⟨ht, by omega, by omega⟩)))]
      have hx0 : x.toList.isEmpty = false := sl_ne (by rw [HXT.out]; exact ht)
      clear hkk
      go_enter Try.func23, Try.ntmps23
      go_wp2_with fail
      go_quiet (fail)
      go_wp2_with fail
      go_ret
      exact ⟨by rw [HR.out]; rfl, HBX.out.trans (below_drewN _ _ _)⟩
    subst ht
    obtain rfl := sl_nil HXT.out
    have HR : Hid (r = 0) := by
      show _ = _
      rw [hkk.out]
      simp [M.isNil, M.bare, checkM]
    clear hkk
    go_enter Try.func23, Try.ntmps23
    go_wp2_with fail
    go_quiet (fail)
    go_wp2_with fail
    go_loopw [5] (fun i wr => i = .int .i64 0 ∧ BoxJ (w.alloc (.cells (jCells 3 ⟨#[]⟩ ak 0 ck) 24)) w.heap.size 3 ⟨#[]⟩ ak 0 ck wr) (fun _ _ => 0)
    case atStart => exact ⟨rfl, HB0.out.keep (below_drewN _ _ _)⟩
    case round =>
      obtain ⟨rfl, hbj⟩ := hrel
      obtain ⟨hbl, f0, f1, f2, hsz⟩ := hbj
      have HBJ : Hid (BoxJ (w.alloc (.cells (jCells 3 ⟨#[]⟩ ak 0 ck) 24)) w.heap.size 3 ⟨#[]⟩ ak 0 ck wr) := Lib.hid ⟨hbl, f0, f1, f2, hsz⟩
      have HBL := Lib.hid hbl
      clear hbl
      go_wp2_with fail
      go_loopw [6] (fun i wx => i = .int .i64 0 ∧ BoxJ (w.alloc (.cells (jCells 3 ⟨#[]⟩ ak 0 ck) 24)) w.heap.size 3 ⟨#[]⟩ ak 0 ck wx) (fun _ _ => 0)
      case atStart => exact ⟨rfl, HBJ.out⟩
      case round =>
        clear f0 f1 f2 hsz HBL HBJ
        obtain ⟨rfl, hbj⟩ := hrel
        obtain ⟨hbl, f0, f1, f2, hsz⟩ := hbj
        have HBL := Lib.hid hbl
        clear hbl
        go_wp2_with fail
        go_ret
        exact ⟨by rw [HR.out]; rfl, HBX.out.trans (HBL.out.mono (by omega))⟩
  · skip
    by_cases hn0 : 0 < nk
    · have HR : Hid (r = 1) := by
        show _ = _
        rw [hkk.out, if_pos (.inr (.inr (.inl ⟨by rw [HNL.out]; simp; omega, by omega, by omega⟩)))]
      clear hkk
      go_enter Try.func23, Try.ntmps23
      go_wp2_with fail
      go_quiet (fail)
      go_wp2_with fail
      go_ret
      exact ⟨by rw [HR.out]; rfl, HBX.out.trans (below_drewN _ _ _)⟩
    obtain rfl : nk = 0 := by omega
    have hm0 : m = .nil := by have := HML.out; cases m with
      | nil => rfl
      | cons => simp [M.len] at this
    subst hm0
    rcases Bool.eq_false_or_eq_true (x.toList.isEmpty) with he | he
    all_goals
      have CL := fun W => Lib.hid (rlexeme_calls x (by omega) W)
      rw [HXT.out] at CL
      obtain ⟨lx, hlx⟩ : ∃ lx, lx = lexeme t := ⟨_, rfl⟩
      rw [← hlx] at CL
      have hres : r = if lx = 0 ∨ 300 < x.size then 10 else 0 := by
        rw [hkk.out, hlx, hxl]
        by_cases h : lexeme t = 0 ∨ 300 < t.length
        · simp [M.isNil, M.bare, checkM, h]
        · simp [M.isNil, M.bare, checkM, h]
      clear hlx
      by_cases c1 : lx = 0
      · have HR : Hid (r = 10) := by show _ = _; rw [hres, if_pos (.inl c1)]
        subst c1
        clear hkk hres
        go_enter Try.func23, Try.ntmps23
        go_wp2_with fail
        go_quiet (fail)
        go_wp2_with fail
        go_loopw [5] (fun i wr => i = .int .i64 0 ∧ BoxJ (w.alloc (.cells (jCells 4 x ak 0 ck) 24)) w.heap.size 4 x ak 0 ck wr) (fun _ _ => 0)
        case atStart => exact ⟨rfl, HB0.out.keep (below_drewN _ _ _)⟩
        case round =>
          obtain ⟨rfl, hbj⟩ := hrel
          obtain ⟨hbl, f0, f1, f2, hsz⟩ := hbj
          have HBJ : Hid (BoxJ (w.alloc (.cells (jCells 4 x ak 0 ck) 24)) w.heap.size 4 x ak 0 ck wr) := Lib.hid ⟨hbl, f0, f1, f2, hsz⟩
          have HBL := Lib.hid hbl
          clear hbl
          go_wp2_with fail
          refine (CL _).out.mono ?_
          rintro e w5 ⟨rfl, hb5⟩
          obtain ⟨hbl2, g0, g1, g2, hsz5⟩ := HBJ.out.keep hb5
          have HBJ5 : Hid (BoxJ (w.alloc (.cells (jCells 4 x ak 0 ck) 24)) w.heap.size 4 x ak 0 ck w5) := Lib.hid ⟨hbl2, g0, g1, g2, hsz5⟩
          have HBL5 := Lib.hid hbl2
          clear hb5 hbl2
          go_wp2_with fail
          go_ret
          exact ⟨by rw [HR.out]; rfl, HBX.out.trans (HBL5.out.mono (by omega))⟩
      by_cases c2 : 300 < x.size
      · have HR : Hid (r = 10) := by show _ = _; rw [hres, if_pos (.inr c2)]
        have t1 : ((lx : Int) == 0) = false := by simp; omega
        have t2 : decide ((300 : Int) < x.size) = true := by simp; omega
        clear hkk hres
        go_enter Try.func23, Try.ntmps23
        go_wp2_with fail
        go_quiet (fail)
        go_wp2_with fail
        go_loopw [5] (fun i wr => i = .int .i64 0 ∧ BoxJ (w.alloc (.cells (jCells 4 x ak 0 ck) 24)) w.heap.size 4 x ak 0 ck wr) (fun _ _ => 0)
        case atStart => exact ⟨rfl, HB0.out.keep (below_drewN _ _ _)⟩
        case round =>
          obtain ⟨rfl, hbj⟩ := hrel
          obtain ⟨hbl, f0, f1, f2, hsz⟩ := hbj
          have HBJ : Hid (BoxJ (w.alloc (.cells (jCells 4 x ak 0 ck) 24)) w.heap.size 4 x ak 0 ck wr) := Lib.hid ⟨hbl, f0, f1, f2, hsz⟩
          have HBL := Lib.hid hbl
          clear hbl
          go_wp2_with fail
          refine (CL _).out.mono ?_
          rintro e w5 ⟨rfl, hb5⟩
          obtain ⟨hbl2, g0, g1, g2, hsz5⟩ := HBJ.out.keep hb5
          have HBJ5 : Hid (BoxJ (w.alloc (.cells (jCells 4 x ak 0 ck) 24)) w.heap.size 4 x ak 0 ck w5) := Lib.hid ⟨hbl2, g0, g1, g2, hsz5⟩
          have HBL5 := Lib.hid hbl2
          clear hb5 hbl2
          go_wp2_with fail
          go_ret
          exact ⟨by rw [HR.out]; rfl, HBX.out.trans (HBL5.out.mono (by omega))⟩
      have HR : Hid (r = 0) := by show _ = _; rw [hres, if_neg (by rintro (h | h); exact c1 h; exact c2 h)]
      have t1 : ((lx : Int) == 0) = false := by simp; omega
      have t2 : decide ((300 : Int) < x.size) = false := by simp; omega
      clear hkk hres
      go_enter Try.func23, Try.ntmps23
      go_wp2_with fail
      go_quiet (fail)
      go_wp2_with fail
      go_loopw [5] (fun i wr => i = .int .i64 0 ∧ BoxJ (w.alloc (.cells (jCells 4 x ak 0 ck) 24)) w.heap.size 4 x ak 0 ck wr) (fun _ _ => 0)
      case atStart => exact ⟨rfl, HB0.out.keep (below_drewN _ _ _)⟩
      case round =>
        obtain ⟨rfl, hbj⟩ := hrel
        obtain ⟨hbl, f0, f1, f2, hsz⟩ := hbj
        have HBJ : Hid (BoxJ (w.alloc (.cells (jCells 4 x ak 0 ck) 24)) w.heap.size 4 x ak 0 ck wr) := Lib.hid ⟨hbl, f0, f1, f2, hsz⟩
        have HBL := Lib.hid hbl
        clear hbl
        go_wp2_with fail
        refine (CL _).out.mono ?_
        rintro e w5 ⟨rfl, hb5⟩
        obtain ⟨hbl2, g0, g1, g2, hsz5⟩ := HBJ.out.keep hb5
        have HBJ5 : Hid (BoxJ (w.alloc (.cells (jCells 4 x ak 0 ck) 24)) w.heap.size 4 x ak 0 ck w5) := Lib.hid ⟨hbl2, g0, g1, g2, hsz5⟩
        have HBL5 := Lib.hid hbl2
        clear hb5 hbl2
        go_wp2_with fail
        go_loopw [6] (fun i wx => i = .int .i64 0 ∧ BoxJ (w.alloc (.cells (jCells 4 x ak 0 ck) 24)) w.heap.size 4 x ak 0 ck wx) (fun _ _ => 0)
        case atStart => exact ⟨rfl, HBJ5.out⟩
        case round =>
          clear f0 f1 f2 hsz HBL HBJ g0 g1 g2 hsz5 HBL5 HBJ5
          obtain ⟨rfl, hbj⟩ := hrel
          obtain ⟨hbl, f0, f1, f2, hsz⟩ := hbj
          have HBL := Lib.hid hbl
          clear hbl
          go_wp2_with fail
          go_ret
          exact ⟨by rw [HR.out]; rfl, HBX.out.trans (HBL.out.mono (by omega))⟩
  · skip
    by_cases hn0 : 0 < nk
    · have HR : Hid (r = 1) := by
        show _ = _
        rw [hkk.out, if_pos (.inr (.inr (.inl ⟨by rw [HNL.out]; simp; omega, by omega, by omega⟩)))]
      clear hkk
      go_enter Try.func23, Try.ntmps23
      go_wp2_with fail
      go_quiet (fail)
      go_wp2_with fail
      go_ret
      exact ⟨by rw [HR.out]; rfl, HBX.out.trans (below_drewN _ _ _)⟩
    obtain rfl : nk = 0 := by omega
    have hm0 : m = .nil := by have := HML.out; cases m with
      | nil => rfl
      | cons => simp [M.len] at this
    subst hm0
    rcases Bool.eq_false_or_eq_true (x.toList.isEmpty) with he | he
    all_goals
      have CL := fun W => Lib.hid (rwhole_calls x (by omega) W)
      rw [HXT.out, hxl] at CL
      have hres : r = if wholeTo t = t.length then 0 else 4 := by
        rw [hkk.out]
        by_cases h : wholeTo t = t.length
        · simp [M.isNil, M.bare, checkM, wholeB, h]
        · simp [M.isNil, M.bare, checkM, wholeB, h]
      by_cases c1 : wholeTo t = t.length
      · have HR : Hid (r = 0) := by show _ = _; rw [hres, if_pos c1]
        rw [show (wholeTo t == t.length) = true by simpa using c1] at CL
        clear hkk hres
        go_enter Try.func23, Try.ntmps23
        go_wp2_with fail
        go_quiet (fail)
        go_wp2_with fail
        go_loopw [5] (fun i wr => i = .int .i64 0 ∧ BoxJ (w.alloc (.cells (jCells 5 x ak 0 ck) 24)) w.heap.size 5 x ak 0 ck wr) (fun _ _ => 0)
        case atStart => exact ⟨rfl, HB0.out.keep (below_drewN _ _ _)⟩
        case round =>
          obtain ⟨rfl, hbj⟩ := hrel
          obtain ⟨hbl, f0, f1, f2, hsz⟩ := hbj
          have HBJ : Hid (BoxJ (w.alloc (.cells (jCells 5 x ak 0 ck) 24)) w.heap.size 5 x ak 0 ck wr) := Lib.hid ⟨hbl, f0, f1, f2, hsz⟩
          have HBL := Lib.hid hbl
          clear hbl
          go_wp2_with fail
          refine (CL _).out.mono ?_
          rintro e w5 ⟨rfl, hb5⟩
          obtain ⟨hbl2, g0, g1, g2, hsz5⟩ := HBJ.out.keep hb5
          have HBJ5 : Hid (BoxJ (w.alloc (.cells (jCells 5 x ak 0 ck) 24)) w.heap.size 5 x ak 0 ck w5) := Lib.hid ⟨hbl2, g0, g1, g2, hsz5⟩
          have HBL5 := Lib.hid hbl2
          clear hb5 hbl2
          go_wp2_with fail
          go_loopw [6] (fun i wx => i = .int .i64 0 ∧ BoxJ (w.alloc (.cells (jCells 5 x ak 0 ck) 24)) w.heap.size 5 x ak 0 ck wx) (fun _ _ => 0)
          case atStart => exact ⟨rfl, HBJ5.out⟩
          case round =>
            clear f0 f1 f2 hsz HBL HBJ g0 g1 g2 hsz5 HBL5 HBJ5
            obtain ⟨rfl, hbj⟩ := hrel
            obtain ⟨hbl, f0, f1, f2, hsz⟩ := hbj
            have HBL := Lib.hid hbl
            clear hbl
            go_wp2_with fail
            go_ret
            exact ⟨by rw [HR.out]; rfl, HBX.out.trans (HBL.out.mono (by omega))⟩
      have HR : Hid (r = 4) := by show _ = _; rw [hres, if_neg c1]
      rw [show (wholeTo t == t.length) = false by simpa using c1] at CL
      clear hkk hres
      go_enter Try.func23, Try.ntmps23
      go_wp2_with fail
      go_quiet (fail)
      go_wp2_with fail
      go_loopw [5] (fun i wr => i = .int .i64 0 ∧ BoxJ (w.alloc (.cells (jCells 5 x ak 0 ck) 24)) w.heap.size 5 x ak 0 ck wr) (fun _ _ => 0)
      case atStart => exact ⟨rfl, HB0.out.keep (below_drewN _ _ _)⟩
      case round =>
        obtain ⟨rfl, hbj⟩ := hrel
        obtain ⟨hbl, f0, f1, f2, hsz⟩ := hbj
        have HBJ : Hid (BoxJ (w.alloc (.cells (jCells 5 x ak 0 ck) 24)) w.heap.size 5 x ak 0 ck wr) := Lib.hid ⟨hbl, f0, f1, f2, hsz⟩
        have HBL := Lib.hid hbl
        clear hbl
        go_wp2_with fail
        refine (CL _).out.mono ?_
        rintro e w5 ⟨rfl, hb5⟩
        obtain ⟨hbl2, g0, g1, g2, hsz5⟩ := HBJ.out.keep hb5
        have HBJ5 : Hid (BoxJ (w.alloc (.cells (jCells 5 x ak 0 ck) 24)) w.heap.size 5 x ak 0 ck w5) := Lib.hid ⟨hbl2, g0, g1, g2, hsz5⟩
        have HBL5 := Lib.hid hbl2
        clear hb5 hbl2
        go_wp2_with fail
        go_ret
        exact ⟨by rw [HR.out]; rfl, HBX.out.trans (HBL5.out.mono (by omega))⟩
  · skip
    by_cases ht : t = []
    case neg =>
      have HR : Hid (r = 1) := by
        show _ = _
        rw [hkk.out, if_pos (.inr (.inr (.inr ⟨ht, by omega, by omega⟩)))]
      have hx0 : x.toList.isEmpty = false := sl_ne (by rw [HXT.out]; exact ht)
      clear hkk
      go_enter Try.func23, Try.ntmps23
      go_wp2_with fail
      go_quiet (fail)
      go_wp2_with fail
      go_ret
      exact ⟨by rw [HR.out]; rfl, HBX.out.trans (below_drewN _ _ _)⟩
    subst ht
    obtain rfl := sl_nil HXT.out
    have hres : r = if m.bare = false then 1 else checkM m := by
      rw [hkk.out]
      by_cases h : m.bare = false
      · simp [h]
      · simp [h]
    have HRES := Lib.hid hres
    clear hkk hres
    go_enter Try.func23, Try.ntmps23
    go_wp2_with fail
    go_quiet (fail)
    go_wp2_with fail
    go_loopw [5] (fun i wr => ∃ j : Nat, i = .int .i64 j ∧ j ≤ nk ∧ Hid (m.bare = (m.drop j).bare) ∧ BoxJ (w.alloc (.cells (jCells 6 ⟨#[]⟩ ak nk ck) 24)) w.heap.size 6 ⟨#[]⟩ ak nk ck wr) (fun i _ => nk - (intOf i).toNat)
    case atStart => exact ⟨0, rfl, Nat.zero_le _, Lib.hid rfl, HB0.out.keep (below_drewN _ _ _)⟩
    case round =>
      obtain ⟨j, rfl, hjm, hrb, hbl, f0, f1, f2, hsz⟩ := hrel
      have HBJ : Hid (BoxJ (w.alloc (.cells (jCells 6 ⟨#[]⟩ ak nk ck) 24)) w.heap.size 6 ⟨#[]⟩ ak nk ck wr) := Lib.hid ⟨hbl, f0, f1, f2, hsz⟩
      have hBW := HBX.out.trans (hbl.mono (by omega))
      have HKW := Lib.hid (HKS.out.below hBW)
      have HBW := Lib.hid hBW
      clear hbl hBW
      by_cases hlt : j < nk
      · obtain ⟨⟨n, vv⟩, hx⟩ := M.get_some m j (by rw [HML.out]; exact hlt)
        obtain ⟨b0, o0, y, k', t', x', m', ak', nk', ck', rfl, rfl, e1, e2, e3, e4, e5, e6, e7, g0, g1, g2, g3⟩ := (HKW.out.at hx).cells
        have hj0 : (0 : Int) ≤ (j : Int) := by omega
        have hj1 : (j : Int) < (nk : Int) := by omega
        have hbg := bare_get m j n _ hx
        by_cases hn : n = []
        · have HNB : Hid (m.bare = (m.drop (j + 1)).bare) := by
            show _ = _
            rw [hrb.out, hbg, hn]
            simp
          obtain rfl := sl_nil (e1.trans hn)
          clear hx hbg e1 e3 e4 e7
          go_wp2_with fail
          go_roundw
          case rel => exact ⟨j + 1, by simp, by omega, HNB, HBJ.out⟩
          case measure => simp [intOf]; omega
        · have HR : Hid (r = 1) := by
            show _ = _
            rw [HRES.out, if_pos]
            rw [hrb.out, hbg]
            cases n with
            | nil => exact absurd rfl hn
            | cons => rfl
          have hy0 : y.toList.isEmpty = false := sl_ne (by rw [e1]; exact hn)
          clear hx hbg e1 e3 e4 e7
          go_wp2_with fail
          go_ret
          exact ⟨by rw [HR.out]; rfl, HBW.out⟩
      have hbare : m.bare = true := by
        rw [hrb.out, M.drop_len m j (by rw [HML.out]; omega)]
        rfl
      have HRM : Hid (r = checkM m) := by
        show _ = _
        rw [HRES.out, hbare]
        simp
      clear hrb hbare
      go_wp2_with fail
      go_loopw [6] (fun i wx => ∃ j : Nat, i = .int .i64 j ∧ j ≤ nk ∧ Hid (checkM m = checkM (m.drop j)) ∧ BoxJ (w.alloc (.cells (jCells 6 ⟨#[]⟩ ak nk ck) 24)) w.heap.size 6 ⟨#[]⟩ ak nk ck wx) (fun i _ => nk - (intOf i).toNat)
      case atStart => exact ⟨0, rfl, Nat.zero_le _, Lib.hid rfl, HBJ.out⟩
      case round =>
        clear f0 f1 f2 hsz HBJ
        obtain ⟨j, rfl, hjm, hcr, hbl, f0, f1, f2, hsz⟩ := hrel
        have HBJ : Hid (BoxJ (w.alloc (.cells (jCells 6 ⟨#[]⟩ ak nk ck) 24)) w.heap.size 6 ⟨#[]⟩ ak nk ck _) := Lib.hid ⟨hbl, f0, f1, f2, hsz⟩
        have hBW := HBX.out.trans (hbl.mono (by omega))
        have HKW := Lib.hid (HKS.out.below hBW)
        have HBW := Lib.hid hBW
        clear hbl hBW
        by_cases hlt : j < nk
        · obtain ⟨⟨n, vv⟩, hx⟩ := M.get_some m j (by rw [HML.out]; exact hlt)
          have hwg := wtM_get m j n vv hx
          have hcd := checkM_drop m j n vv hx
          obtain ⟨b0, o0, y, k', t', x', m', ak', nk', ck', rfl, rfl, e1, e2, e3, e4, e5, e6, e7, g0, g1, g2, g3⟩ := (HKW.out.at hx).cells
          have hyl : y.size = n.length := by rw [← e1, sl_len]
          have hj0 : (0 : Int) ≤ (j : Int) := by omega
          have hj1 : (j : Int) < (nk : Int) := by omega
          have CI := fun W => Lib.hid (rwhole_calls y (by omega) W)
          rw [e1, hyl] at CI
          have HC := Lib.hid (fun S W c => HOF.out _ (show wtJ (.mk k' t' m') ≤ d by omega) S W c)
          have E7 := Lib.hid e7
          have hwk : wtJ (.mk k' t' m') ≤ 100000 := by omega
          obtain ⟨q, hq⟩ : ∃ q, q = checkJ (.mk k' t' m') := ⟨_, rfl⟩
          rw [← hq] at HC hcd
          by_cases hw : wholeTo n = n.length
          case neg =>
            rw [show (wholeTo n == n.length) = false by simpa using hw] at CI
            have HR : Hid (r = 4) := by
              show _ = _
              rw [HRM.out, hcr.out, hcd, if_pos (by unfold wholeB; simpa using hw)]
            clear hx hwg hcd hw e1 e3 e4 e7 hq
            go_wp2_with fail
            refine (CI _).out.mono ?_
            rintro e w5 ⟨rfl, hb5⟩
            have HL := Lib.hid (HBJ.out.keep hb5)
            clear hb5
            go_wp2_with fail
            go_ret
            exact ⟨by rw [HR.out]; rfl, HBX.out.trans (HL.out.1.mono (by omega))⟩
          rw [show (wholeTo n == n.length) = true by simpa using hw] at CI
          rw [if_neg (by unfold wholeB; simp [hw])] at hcd
          by_cases hq0 : q = 0
          · subst hq0
            have HN : Hid (checkM m = checkM (m.drop (j + 1))) := by
              show _ = _
              rw [hcr.out, hcd]
              simp
            clear hx hwg hcd hw e1 e3 e4 e7 hq
            go_wp2_with fail
            refine (CI _).out.mono ?_
            rintro e w5 ⟨rfl, hb5⟩
            obtain ⟨_, u0, u1, u2, hsz5⟩ := HBJ.out.keep hb5
            have HL := Lib.hid (HBJ.out.keep hb5)
            have v0 := cell_below hb5 g0
            have v1 := cell_below hb5 g1
            have v2 := cell_below hb5 g2
            have v3 := cell_below hb5 g3
            have HK5 := Lib.hid hb5
            clear hb5 g0 g1 g2 g3 f0 f1 f2
            go_wp2_with fail
            refine (HC.out _ _ _ (E7.out.below HK5.out) hwk).mono ?_
            rintro e w6 ⟨rfl, hb6⟩
            have HL6 := Lib.hid (HL.out.keep hb6)
            clear hb6
            go_wp2_with fail
            go_roundw
            case rel => exact ⟨j + 1, by simp, by omega, HN, HL6.out⟩
            case measure => simp [intOf]; omega
          · have HR : Hid (r = q) := by
              show _ = _
              rw [HRM.out, hcr.out, hcd, if_pos hq0]
            have hq1 : ((q : Int) == 0) = false := by simp; omega
            have hq2 : ((q : Int) != 0) = true := by simp; omega
            clear hx hwg hcd hw e1 e3 e4 e7 hq
            go_wp2_with fail
            refine (CI _).out.mono ?_
            rintro e w5 ⟨rfl, hb5⟩
            obtain ⟨_, u0, u1, u2, hsz5⟩ := HBJ.out.keep hb5
            have HL := Lib.hid (HBJ.out.keep hb5)
            have v0 := cell_below hb5 g0
            have v1 := cell_below hb5 g1
            have v2 := cell_below hb5 g2
            have v3 := cell_below hb5 g3
            have HK5 := Lib.hid hb5
            clear hb5 g0 g1 g2 g3 f0 f1 f2
            go_wp2_with fail
            refine (HC.out _ _ _ (E7.out.below HK5.out) hwk).mono ?_
            rintro e w6 ⟨rfl, hb6⟩
            have HL6 := Lib.hid (HL.out.keep hb6)
            clear hb6
            go_wp2_with fail
            go_ret
            exact ⟨by rw [HR.out]; rfl, HBX.out.trans (HL6.out.1.mono (by omega))⟩
        · have HR : Hid (r = 0) := by
            show _ = _
            rw [HRM.out, hcr.out, M.drop_len m j (by rw [HML.out]; omega)]
            rfl
          go_wp2_with fail
          go_ret
          exact ⟨by rw [HR.out]; rfl, HBW.out⟩
  · skip
    by_cases ht : t = []
    case neg =>
      have HR : Hid (r = 1) := by
        show _ = _
        rw [hkk.out, if_pos (.inr (.inr (.inr ⟨ht, by omega, by omega⟩)))]
      have hx0 : x.toList.isEmpty = false := sl_ne (by rw [HXT.out]; exact ht)
      clear hkk
      go_enter Try.func23, Try.ntmps23
      go_wp2_with fail
      go_quiet (fail)
      go_wp2_with fail
      go_ret
      exact ⟨by rw [HR.out]; rfl, HBX.out.trans (below_drewN _ _ _)⟩
    subst ht
    obtain rfl := sl_nil HXT.out
    have HRES : Hid (r = checkM m) := by
      show _ = _
      rw [hkk.out]
      simp
    clear hkk
    go_enter Try.func23, Try.ntmps23
    go_wp2_with fail
    go_quiet (fail)
    go_wp2_with fail
    go_loopw [5] (fun i wr => i = .int .i64 0 ∧ BoxJ (w.alloc (.cells (jCells 7 ⟨#[]⟩ ak nk ck) 24)) w.heap.size 7 ⟨#[]⟩ ak nk ck wr) (fun _ _ => 0)
    case atStart => exact ⟨rfl, HB0.out.keep (below_drewN _ _ _)⟩
    case round =>
      obtain ⟨rfl, hbl, f0, f1, f2, hsz⟩ := hrel
      have HBJ : Hid (BoxJ (w.alloc (.cells (jCells 7 ⟨#[]⟩ ak nk ck) 24)) w.heap.size 7 ⟨#[]⟩ ak nk ck wr) := Lib.hid ⟨hbl, f0, f1, f2, hsz⟩
      have HRM := HRES
      clear hbl
      rcases Nat.eq_zero_or_pos nk with h0 | hz7
      · subst h0
        have hm0 : m = .nil := by have := HML.out; cases m with
          | nil => rfl
          | cons => simp [M.len] at this
        subst hm0
        have HR : Hid (r = 0) := HRM.out
        go_wp2_with fail
        go_loopw [6] (fun i wx => i = .int .i64 0 ∧ BoxJ (w.alloc (.cells (jCells 7 ⟨#[]⟩ ak 0 ck) 24)) w.heap.size 7 ⟨#[]⟩ ak 0 ck wx) (fun _ _ => 0)
        case atStart => exact ⟨rfl, HBJ.out⟩
        case round =>
          clear f0 f1 f2 hsz HBJ
          obtain ⟨rfl, hbj⟩ := hrel
          obtain ⟨hbl, f0, f1, f2, hsz⟩ := hbj
          have HBL := Lib.hid hbl
          clear hbl
          go_wp2_with fail
          go_ret
          exact ⟨by rw [HR.out]; rfl, HBX.out.trans (HBL.out.mono (by omega))⟩
      go_wp2_with fail
      go_loopw [6] (fun i wx => ∃ j : Nat, i = .int .i64 j ∧ j ≤ nk ∧ Hid (checkM m = checkM (m.drop j)) ∧ BoxJ (w.alloc (.cells (jCells 7 ⟨#[]⟩ ak nk ck) 24)) w.heap.size 7 ⟨#[]⟩ ak nk ck wx) (fun i _ => nk - (intOf i).toNat)
      case atStart => exact ⟨0, rfl, Nat.zero_le _, Lib.hid rfl, HBJ.out⟩
      case round =>
        clear f0 f1 f2 hsz HBJ
        obtain ⟨j, rfl, hjm, hcr, hbl, f0, f1, f2, hsz⟩ := hrel
        have HBJ : Hid (BoxJ (w.alloc (.cells (jCells 7 ⟨#[]⟩ ak nk ck) 24)) w.heap.size 7 ⟨#[]⟩ ak nk ck _) := Lib.hid ⟨hbl, f0, f1, f2, hsz⟩
        have hBW := HBX.out.trans (hbl.mono (by omega))
        have HKW := Lib.hid (HKS.out.below hBW)
        have HBW := Lib.hid hBW
        clear hbl hBW
        by_cases hlt : j < nk
        · obtain ⟨⟨n, vv⟩, hx⟩ := M.get_some m j (by rw [HML.out]; exact hlt)
          have hwg := wtM_get m j n vv hx
          have hcd := checkM_drop m j n vv hx
          obtain ⟨b0, o0, y, k', t', x', m', ak', nk', ck', rfl, rfl, e1, e2, e3, e4, e5, e6, e7, g0, g1, g2, g3⟩ := (HKW.out.at hx).cells
          have hyl : y.size = n.length := by rw [← e1, sl_len]
          have hj0 : (0 : Int) ≤ (j : Int) := by omega
          have hj1 : (j : Int) < (nk : Int) := by omega
          have CI := fun W => Lib.hid (rwhole_calls y (by omega) W)
          rw [e1, hyl] at CI
          have HC := Lib.hid (fun S W c => HOF.out _ (show wtJ (.mk k' t' m') ≤ d by omega) S W c)
          have E7 := Lib.hid e7
          have hwk : wtJ (.mk k' t' m') ≤ 100000 := by omega
          obtain ⟨q, hq⟩ : ∃ q, q = checkJ (.mk k' t' m') := ⟨_, rfl⟩
          rw [← hq] at HC hcd
          by_cases hw : wholeTo n = n.length
          case neg =>
            rw [show (wholeTo n == n.length) = false by simpa using hw] at CI
            have HR : Hid (r = 4) := by
              show _ = _
              rw [HRM.out, hcr.out, hcd, if_pos (by unfold wholeB; simpa using hw)]
            clear hx hwg hcd hw e1 e3 e4 e7 hq
            go_wp2_with fail
            refine (CI _).out.mono ?_
            rintro e w5 ⟨rfl, hb5⟩
            have HL := Lib.hid (HBJ.out.keep hb5)
            clear hb5
            go_wp2_with fail
            go_ret
            exact ⟨by rw [HR.out]; rfl, HBX.out.trans (HL.out.1.mono (by omega))⟩
          rw [show (wholeTo n == n.length) = true by simpa using hw] at CI
          rw [if_neg (by unfold wholeB; simp [hw])] at hcd
          by_cases hq0 : q = 0
          · subst hq0
            have HN : Hid (checkM m = checkM (m.drop (j + 1))) := by
              show _ = _
              rw [hcr.out, hcd]
              simp
            clear hx hwg hcd hw e1 e3 e4 e7 hq
            go_wp2_with fail
            refine (CI _).out.mono ?_
            rintro e w5 ⟨rfl, hb5⟩
            obtain ⟨_, u0, u1, u2, hsz5⟩ := HBJ.out.keep hb5
            have HL := Lib.hid (HBJ.out.keep hb5)
            have v0 := cell_below hb5 g0
            have v1 := cell_below hb5 g1
            have v2 := cell_below hb5 g2
            have v3 := cell_below hb5 g3
            have HK5 := Lib.hid hb5
            clear hb5 g0 g1 g2 g3 f0 f1 f2
            go_wp2_with fail
            refine (HC.out _ _ _ (E7.out.below HK5.out) hwk).mono ?_
            rintro e w6 ⟨rfl, hb6⟩
            have HL6 := Lib.hid (HL.out.keep hb6)
            clear hb6
            go_wp2_with fail
            go_roundw
            case rel => exact ⟨j + 1, by simp, by omega, HN, HL6.out⟩
            case measure => simp [intOf]; omega
          · have HR : Hid (r = q) := by
              show _ = _
              rw [HRM.out, hcr.out, hcd, if_pos hq0]
            have hq1 : ((q : Int) == 0) = false := by simp; omega
            have hq2 : ((q : Int) != 0) = true := by simp; omega
            clear hx hwg hcd hw e1 e3 e4 e7 hq
            go_wp2_with fail
            refine (CI _).out.mono ?_
            rintro e w5 ⟨rfl, hb5⟩
            obtain ⟨_, u0, u1, u2, hsz5⟩ := HBJ.out.keep hb5
            have HL := Lib.hid (HBJ.out.keep hb5)
            have v0 := cell_below hb5 g0
            have v1 := cell_below hb5 g1
            have v2 := cell_below hb5 g2
            have v3 := cell_below hb5 g3
            have HK5 := Lib.hid hb5
            clear hb5 g0 g1 g2 g3 f0 f1 f2
            go_wp2_with fail
            refine (HC.out _ _ _ (E7.out.below HK5.out) hwk).mono ?_
            rintro e w6 ⟨rfl, hb6⟩
            have HL6 := Lib.hid (HL.out.keep hb6)
            clear hb6
            go_wp2_with fail
            go_ret
            exact ⟨by rw [HR.out]; rfl, HBX.out.trans (HL6.out.1.mono (by omega))⟩
        · have HR : Hid (r = 0) := by
            show _ = _
            rw [HRM.out, hcr.out, M.drop_len m j (by rw [HML.out]; omega)]
            rfl
          go_wp2_with fail
          go_ret
          exact ⟨by rw [HR.out]; rfl, HBW.out⟩

theorem rchk_all : ∀ d, ChkSaid 23 d
  | 0 => fun j hj => by cases j; simp [wtJ] at hj
  | d + 1 => rchk_step d (rchk_all d)

end Go.Proofs.Ytamhdoijmkjngaa
