/- path.differ, walked. -/
import Derived.Test.YtiodjhcjfbnocaaPaM
import Derived.Test.YtiodjhcjfbnocaaPaO
import Derived.Test.YtiodjhcjfbnocaaPaG
import Derived.Deep.CutRange
import Derived.BigQuiet
namespace Go.Proofs.Ytiodjhcjfbnocaa
open Go.RowKit
set_option linter.unusedVariables false
set_option linter.unusedSimpArgs false

mutual
theorem diffT_wt : ∀ (t u : T) (p : List Int) (d : List (List Int)), diffT t u p = some d → d.length ≤ t.wt
  | .mk k b h l tx m s y f, v, p, d, hd => by
    simp only [diffT] at hd
    split at hd
    · simp at hd
    · split at hd
      · simp at hd
      · rename_i d' hd'
        simp only [Option.some.injEq] at hd
        subst hd
        have h1 := diffF_wt f v.kids 0 p d' hd'
        simp only [T.wt, List.length_append]
        split <;> simp <;> omega
theorem diffF_wt : ∀ (f g : F) (i : Nat) (p : List Int) (d : List (List Int)), diffF f g i p = some d → d.length ≤ f.wt
  | .nil, g, i, p, d, hd => by simp only [diffF, Option.some.injEq] at hd; subst hd; simp
  | .cons n t r, .nil, i, p, d, hd => by simp only [diffF, Option.some.injEq] at hd; subst hd; simp
  | .cons n t r, .cons n' t' r', i, p, d, hd => by
    simp only [diffF] at hd
    split at hd
    · simp at hd
    · split at hd
      · simp at hd
      · rename_i d1 h1
        split at hd
        · simp at hd
        · rename_i d2 h2
          simp only [Option.some.injEq] at hd
          subst hd
          have e1 := diffT_wt t t' _ d1 h1
          have e2 := diffF_wt r r' _ p d2 h2
          simp only [F.wt, List.length_append]
          omega
end

/-- Paths ahead of what there is. -/
def addO (f : List (List Int)) (o : Option (List (List Int))) : Option (List (List Int)) := o.map (f ++ ·)

theorem diffF_step (a b : F) (j : Nat) (n n' : ByteArray) (t u : T) (xs : List Int) (f : List (List Int)) (h : a.get? j = some (n, t)) (h' : b.get? j = some (n', u)) : addO f (diffF (a.drop j) (b.drop j) j xs) = if n.toList == n'.toList then (match diffT t u (xs ++ [(j : Int)]) with | none => none | some d => addO (f ++ d) (diffF (a.drop (j + 1)) (b.drop (j + 1)) (j + 1) xs)) else none := by
  rw [F.drop_get a j n t h, F.drop_get b j n' u h']
  simp only [diffF]
  by_cases hn : n.toList = n'.toList
  · rw [if_neg (by simpa using hn), if_pos (by simpa using hn)]
    cases diffT t u (xs ++ [(j : Int)]) with
    | none => rfl
    | some d =>
      simp only
      cases diffF (a.drop (j + 1)) (b.drop (j + 1)) (j + 1) xs with
      | none => rfl
      | some e => simp [addO]
  · rw [if_pos hn, if_neg (by simpa using hn)]
    rfl

theorem diffF_end (a b : F) (j : Nat) (xs : List Int) (f : List (List Int)) (h : a.len ≤ j) : addO f (diffF (a.drop j) (b.drop j) j xs) = some f := by
  rw [F.drop_len a j h]
  simp [diffF, addO]

theorem diffT_len (k b h l tx m s y f) (u : T) (p : List Int) (g : List (List Int)) (hl : f.len ≠ u.kids.len) : addO g (diffT (.mk k b h l tx m s y f) u p) = none := by
  simp only [diffT]
  rw [if_pos hl]
  rfl
theorem diffT_kids (k b h l tx m s y f) (u : T) (p : List Int) (g : List (List Int)) (hl : f.len = u.kids.len) : addO g (diffT (.mk k b h l tx m s y f) u p) = addO (g ++ (if ownEq (.mk k b h l tx m s y f) u then [] else [p])) (diffF (f.drop 0) (u.kids.drop 0) 0 p) := by
  simp only [diffT]
  rw [if_neg (by simpa using hl)]
  simp only [F.drop]
  cases diffF f u.kids 0 p with
  | none => rfl
  | some d => simp [addO]

def DifSaid (d : Nat) : Prop := ∀ t u : T, t.wt ≤ d → ∀ (w0 w : World) (B : Nat) (c c2 : Array Value) (L : Nat → Prop) (vo vp : Value) (f : List (List Int)) (xs : List Int), RdT w0 t c → RdT w0 u c2 → Below w0.heap.size w0 w → w0.heap.size ≤ B → B ≤ w.heap.size →
  OwnR w B L vo f → OwnI w B vp xs → (∀ k, vo.ownBlock = some k → vp.ownBlock ≠ some k) → (∀ k, L k → vp.ownBlock ≠ some k) → (∀ k, w.heap.size ≤ k → L k) → f.length + t.wt ≤ 1000000 → xs.length + t.wt ≤ 1000000 →
  Calls Try.prog 43 #[vo, .agg c, .agg c2, vp] w fun e w' => ∃ v', e = .returned (.tuple #[v', .bool (addO f (diffT t u xs)).isSome]) ∧ OwnR w' B L v' ((addO f (diffT t u xs)).getD []) ∧ OwnI w' B vp xs ∧ Chg (fun k => vo.ownBlock = some k ∨ vp.ownBlock = some k) w w' ∧ (∀ k, v'.ownBlock = some k → vo.ownBlock = some k ∨ w.heap.size ≤ k)

/-- Behind the value itself. -/
def DifCut (w : World) (B : Nat) (L : Nat → Prop) (vo vp : Value) (c c2 : Array Value) (g : List (List Int)) (xs : List Int) (o : Value) (W : World) : Prop :=
  ∃ a cp, o = .slice a g.length cp ∧ OwnR W B L o g ∧ OwnI W B vp xs ∧ BoxV W w.heap.size c ∧ BoxV W (w.heap.size + 1) c2 ∧ Chg (fun k => vo.ownBlock = some k ∨ vp.ownBlock = some k) w W ∧ (∀ k, o.ownBlock = some k → vo.ownBlock = some k ∨ w.heap.size + 1 < k)

/-- What stands at the head of each round. -/
def DifRel (w0 w : World) (B : Nat) (L : Nat → Prop) (vo vp : Value) (kids kids2 : F) (c c2 : Array Value) (g : Option (List (List Int))) (xs : List Int) (M : Nat) (o i : Value) (wr : World) : Prop :=
  ∃ (u : Value) (j : Nat) (f : List (List Int)), u = o ∧ i = .int .i64 j ∧ j ≤ kids.len ∧ Hid (g = addO f (diffF (kids.drop j) (kids2.drop j) j xs)) ∧ OwnR wr B L u f ∧ OwnI wr B vp xs ∧ BoxV wr w.heap.size c ∧ BoxV wr (w.heap.size + 1) c2 ∧ Chg (fun k => vo.ownBlock = some k ∨ vp.ownBlock = some k) w wr ∧ (∀ k, u.ownBlock = some k → vo.ownBlock = some k ∨ w.heap.size + 1 < k) ∧ f.length + (kids.drop j).wt ≤ M

def TwoB (v1 v2 : Value) (k : Nat) : Prop := v1.ownBlock = some k ∨ v2.ownBlock = some k

theorem OwnR.ltB {w : World} {B : Nat} {L : Nat → Prop} {v : Value} {f : List (List Int)} (h : OwnR w B L v f) : ∀ k, v.ownBlock = some k → B ≤ k ∧ k < w.heap.size := by
  obtain ⟨xs, S, h1, _⟩ := h
  exact owns_lt h1

theorem dif_rec {d : Nat} (hof : DifSaid d) {t t2 : T} (hd : t.wt ≤ d) {w0 W2 w5 : World} {B : Nat} {c c2 : Array Value} {L : Nat → Prop} {u vp v5 : Value} {f : List (List Int)} {ys : List Int} (h : RdT w0 t c) (h2 : RdT w0 t2 c2) (hb : Below w0.heap.size w0 W2) (hwB : w0.heap.size ≤ B) (hB2 : B ≤ W2.heap.size)
    (ho : OwnR W2 B (fun k => L k ∧ k < W2.heap.size) u f) (hi : OwnI w5 B v5 ys) (ha : AppF W2 w5 vp v5) (hu : ∀ k, u.ownBlock = some k → k < W2.heap.size ∧ vp.ownBlock ≠ some k) (hL : ∀ k, L k → vp.ownBlock ≠ some k) (hLn : ∀ k, W2.heap.size ≤ k → L k) (hvp : ∀ k, vp.ownBlock = some k → B ≤ k) (hf : f.length + t.wt ≤ 1000000) (hx : ys.length + t.wt ≤ 1000000) :
    Calls Try.prog 43 #[u, .agg c, .agg c2, v5] w5 fun e w' => ∃ v', e = .returned (.tuple #[v', .bool (addO f (diffT t t2 ys)).isSome]) ∧ OwnR w' B (fun k => L k ∧ v5.ownBlock ≠ some k) v' ((addO f (diffT t t2 ys)).getD []) ∧ OwnI w' B v5 ys ∧ Chg (fun k => u.ownBlock = some k ∨ v5.ownBlock = some k) w5 w' ∧ (∀ k, v'.ownBlock = some k → u.ownBlock = some k ∨ w5.heap.size ≤ k) := by
  have hs := ha.size
  have hne : ∀ k, k < W2.heap.size → vp.ownBlock ≠ some k → v5.ownBlock ≠ some k := fun k hk h => ha.far h hk
  refine hof t t2 hd w0 w5 B c c2 _ u v5 f ys h h2 ?_ hwB (by omega) ?_ hi (fun k hk => hne k (hu k hk).1 (hu k hk).2) (fun k hk => hk.2) (fun k hk => ⟨hLn k (by omega), fun e => by have := (owns_lt hi k e).2; omega⟩) hf hx
  · exact ha.below hb (by omega) (fun k hk => by have := hvp k hk; omega)
  · exact (ho.chg ha.chg (fun k hk e => (hu k hk).2 e) (fun k hk e => hL k hk.1 e)).imp (fun k _ h => ⟨h.1, hne k h.2 (hL k h.1)⟩)

set_option maxRecDepth 100000 in
set_option maxHeartbeats 16000000 in
theorem dif_step (d : Nat) (hof : DifSaid d) : DifSaid (d + 1) := by
  intro t u hd w0 w B c c2 L vo vp f xs h h2 hw0 hwB hBw hor hoi hvv hLp hLn hfl hxl
  have hali := alike_calls t u
  have H1 := Lib.hid h
  have H2 := Lib.hid h2
  obtain ⟨k, bits, hi, lo, text, more, sub, bs, kids⟩ := t
  obtain ⟨k2, bits2, hi2, lo2, text2, more2, sub2, bs2, kids2⟩ := u
  have hwt : T.wt (.mk k bits hi lo text more sub bs kids) = 2 + text.size + more.size + bs.length + kids.wt := by simp only [T.wt]
  rw [hwt] at hd hfl hxl
  have hlk := F.len_wt kids
  obtain ⟨ab, nb, cb, ak, nk, ck, rfl, -, -, hkl, hnk, hks⟩ := h
  obtain ⟨ab2, nb2, cb2, ak2, nk2, ck2, rfl, -, -, hkl2, hnk2, hks2⟩ := h2
  obtain ⟨G, hG⟩ : ∃ G, G = addO f (diffT (.mk k bits hi lo text more sub bs kids) (.mk k2 bits2 hi2 lo2 text2 more2 sub2 bs2 kids2) xs) := ⟨_, rfl⟩
  have hlen := diffT_len k bits hi lo text more sub bs kids (.mk k2 bits2 hi2 lo2 text2 more2 sub2 bs2 kids2) xs f
  have hkid := diffT_kids k bits hi lo text more sub bs kids (.mk k2 bits2 hi2 lo2 text2 more2 sub2 bs2 kids2) xs f
  simp only [T.kids] at hlen hkid
  rw [← hG] at hlen hkid ⊢
  rw [hkl, hkl2] at hlen hkid
  obtain ⟨q, hq⟩ : ∃ q, q = ownEq (.mk k bits hi lo text more sub bs kids) (.mk k2 bits2 hi2 lo2 text2 more2 sub2 bs2 kids2) := ⟨_, rfl⟩
  rw [← hq] at hkid hali
  have HOF := Lib.hid hof
  have HKS := Lib.hid hks
  have HKS2 := Lib.hid hks2
  have HKL := Lib.hid hkl
  have HKL2 := Lib.hid hkl2
  have HW0 := Lib.hid hw0
  have HOR := Lib.hid hor
  have HOI := Lib.hid hoi
  have HVV := Lib.hid hvv
  have HLP := Lib.hid hLp
  have HLN := Lib.hid hLn
  have HLEN := Lib.hid hlen
  have HKID := Lib.hid hkid
  have hsw0 := hw0.size
  have hnk9 := hnk.1
  have hnk29 := hnk2.1
  obtain ⟨ap, cp, rfl, hrp, hcp, -, hxm⟩ := hoi.rd
  obtain ⟨xs0, ao, co, -, rfl, -, -, -⟩ := hor.reads
  clear hof hks hks2 hkl hkl2 hw0 hor hoi hvv hLp hLn hwt hnk hnk2 hG hlen hkid hq
  have CC := fun W hW => Lib.hid (cloneI_calls ap xs.length cp xs W _ rfl (RdPS.keep (KeepS.below hW) hrp) hcp (by omega))
  have CO := fun W (a : RdT W (.mk k bits hi lo text more sub bs kids) (valCells k bits hi lo text more sub ab nb cb ak nk ck)) (b : RdT W (.mk k2 bits2 hi2 lo2 text2 more2 sub2 bs2 kids2) (valCells k2 bits2 hi2 lo2 text2 more2 sub2 ab2 nb2 cb2 ak2 nk2 ck2)) => Lib.hid (hali W _ _ a b)
  have hbx : Below w.heap.size w ((w.alloc (.cells (valCells k bits hi lo text more sub ab nb cb ak nk ck) 26)).alloc (.cells (valCells k2 bits2 hi2 lo2 text2 more2 sub2 ab2 nb2 cb2 ak2 nk2 ck2) 26)) := ((Below.refl _ _).alloc (Nat.le_refl _) _).alloc (by simp) _
  have hbx1 : BoxV ((w.alloc (.cells (valCells k bits hi lo text more sub ab nb cb ak nk ck) 26)).alloc (.cells (valCells k2 bits2 hi2 lo2 text2 more2 sub2 ab2 nb2 cb2 ak2 nk2 ck2) 26)) w.heap.size (valCells k bits hi lo text more sub ab nb cb ak nk ck) := (BoxV.new w _ _).keep ((Below.refl _ _).alloc (Nat.le_refl _) _)
  have hbx2 : BoxV ((w.alloc (.cells (valCells k bits hi lo text more sub ab nb cb ak nk ck) 26)).alloc (.cells (valCells k2 bits2 hi2 lo2 text2 more2 sub2 ab2 nb2 cb2 ak2 nk2 ck2) 26)) (w.heap.size + 1) (valCells k2 bits2 hi2 lo2 text2 more2 sub2 ab2 nb2 cb2 ak2 nk2 ck2) := by
    rw [show w.heap.size + 1 = (w.alloc (.cells (valCells k bits hi lo text more sub ab nb cb ak nk ck) 26)).heap.size by simp]
    exact BoxV.new _ _ _
  have HBX := Lib.hid hbx
  have HBX1 := Lib.hid hbx1
  have HBX2 := Lib.hid hbx2
  clear hali hbx hbx1 hbx2 hrp
  by_cases q3 : nk = nk2
  case neg =>
    have e1' : ((nk : Int) != nk2) = true := by simp; omega
    have hG := HLEN.out q3
    subst hG
    clear HKID HLEN
    go_enter Try.func43, Try.ntmps43
    go_wp2_with fail
    go_ret2
    refine ⟨.slice none 0 0, rfl, OwnR.nil _ _ _, owns_keep HOI.out HBX.out, Chg.of_below HBX.out, fun k hk => nomatch hk⟩
  subst q3
  have HGS : Hid (G = addO (f ++ (if q then [] else [xs])) (diffF (kids.drop 0) (kids2.drop 0) 0 xs)) := HKID.out rfl
  clear HKID HLEN
  have HFO : Hid (∀ k, (Value.slice ao f.length co).ownBlock = some k → B ≤ k ∧ k < w.heap.size) := HOR.out.ltB
  have HFP : Hid (∀ k, (Value.slice ap xs.length cp).ownBlock = some k → B ≤ k ∧ k < w.heap.size) := fun k hk => owns_lt HOI.out k hk
  go_enter Try.func43, Try.ntmps43
  go_wp2_with fail
  refine (CO _ (H1.out.keep (HW0.out.trans (HBX.out.mono hsw0))) (H2.out.keep (HW0.out.trans (HBX.out.mono hsw0)))).out.mono ?_
  rintro e w1 ⟨rfl, hb1⟩
  have HB1 : Hid (Below w.heap.size w w1) := HBX.out.trans (hb1.mono HBX.out.size)
  have X1 := Lib.hid (HBX1.out.keep hb1)
  have X2 := Lib.hid (HBX2.out.keep hb1)
  clear hb1
  go_upto_if 23 with fail
  go_cut [0] from 24 (fun o W => DifCut w B L (Value.slice ao f.length co) (Value.slice ap xs.length cp) (valCells k bits hi lo text more sub ab nb cb ak nk ck) (valCells k2 bits2 hi2 lo2 text2 more2 sub2 ab2 nb2 cb2 ak2 nk ck2) (f ++ (if q then [] else [xs])) xs o W)
  case first =>
    cases q with
    | true =>
      go_wp2_with fail
      go_meet
      case rel => exact ⟨ao, co, by simp, by simpa using HOR.out.keep HB1.out, owns_keep HOI.out HB1.out, X1.out, X2.out, Chg.of_below HB1.out, fun k hk => .inl hk⟩
    | false =>
      go_wp2_with fail
      refine (CC _ HB1.out).out.mono ?_
      rintro e w2 ⟨v2, rfl, ho2, hb2⟩
      have hz1 : w.heap.size + 1 < w1.heap.size := X2.out.1
      have hf2 : ∀ k, v2.ownBlock = some k → w.heap.size + 1 < k := fun k hk => by have := (owns_lt ho2 k hk).1; omega
      obtain ⟨a2, c2, rfl, hr2, hc2, hle2, hm2⟩ := ho2.rd
      have HSR := Lib.hid (SrcR.one (S := fun k => (Value.slice a2 xs.length c2).ownBlock = some k) (w := w2) rfl hr2 hc2 hle2 hm2 38)
      have HB2 : Hid (Below w.heap.size w w2) := HB1.out.trans (hb2.mono HB1.out.size)
      have hs2 := HB2.out.size
      have HOR2 : Hid (OwnR (w2.alloc (.cells #[.slice a2 xs.length c2] 38)) B L (Value.slice ao f.length co) f) := HOR.out.keep (HB2.out.alloc (by omega) _)
      have X12 := Lib.hid ((X1.out.keep hb2).keep ((Below.refl _ _).alloc (Nat.le_refl _) (.cells #[.slice a2 xs.length c2] 38)))
      have X22 := Lib.hid ((X2.out.keep hb2).keep ((Below.refl _ _).alloc (Nat.le_refl _) (.cells #[.slice a2 xs.length c2] 38)))
      have HSL : Hid (∀ k, (Value.slice a2 xs.length c2).ownBlock = some k → L k ∧ (Value.slice ao f.length co).ownBlock ≠ some k) := by
        show ∀ k, _
        intro k hk
        have h1 := hf2 k hk
        exact ⟨HLN.out k (by omega), fun e => by have := (HFO.out k e).2; omega⟩
      have hlf : f.length ≤ 1000000 := by omega
      have hz2 : w.heap.size + 1 < w2.heap.size := by have := hb2.size; omega
      clear ho2 hb2 hr2 hf2 CC CO
      go_wp2_with (at_builtin; refine wpList_appR (v := Value.slice ao f.length co) (f := f) (g := [xs]) (B := B) (L := L) (S1 := fun k => (Value.slice a2 xs.length c2).ownBlock = some k) (sv := .slice (some ⟨w2.heap.size, 0, none⟩) 1 1) (by rfl) _ _ (by rfl) (by rfl) HOR2.out (by rfl) HSR.out HSL.out ?o3 ?o4 ?_)
      case o3 => simp; omega
      case o4 => first | omega | (simp; omega)
      intro u4 w4 ho4 ha4
      obtain ⟨-, a4, c4, -, hu4, -⟩ := ho4.reads
      subst hu4
      have HO4 := Lib.hid ho4
      have HA4 := Lib.hid ha4
      clear ho4 ha4
      go_wp2_with fail
      go_meet
      case rel =>
        refine ⟨a4, c4, rfl, HO4.out, owns_chg HOI.out ((Chg.of_below (HB2.out.alloc (by omega) _)).trans HA4.out.chg (fun _ _ h => h)) (fun k hk e => HVV.out k e hk), X12.out.chg HA4.out.chg (fun e => by have := (HFO.out _ e).2; omega), X22.out.chg HA4.out.chg (fun e => by have := (HFO.out _ e).2; omega), ((Chg.of_below (HB2.out.alloc (by omega) _)).trans (S := fun k => (Value.slice ao f.length co).ownBlock = some k) HA4.out.chg (fun _ _ h => h)).weaken (fun _ _ h => .inl h), fun k hk => ?_⟩
        rcases HA4.out.2 with e | e
        · exact .inl (e ▸ hk)
        · rw [e] at hk
          simp at hk
          right; omega
  case rest =>
    obtain ⟨a4, c4, rfl, ho4, hi4, hx1, hx2, hch4, hu4⟩ := hcut
    obtain ⟨g, hg⟩ : ∃ g, g = f ++ (if q then [] else [xs]) := ⟨_, rfl⟩
    have hgl : g.length ≤ f.length + 1 := by rw [hg]; cases q <;> simp
    rw [← hg] at HGS ho4 hu4 ⊢
    have HO4 := Lib.hid ho4
    have HI4 := Lib.hid hi4
    have HX1 := Lib.hid hx1
    have HX2 := Lib.hid hx2
    have HCH := Lib.hid hch4
    have HU4 := Lib.hid hu4
    have c8 : wc.cell? ⟨w.heap.size, 8, none⟩ = some (.slice ak nk ck) := (hx1.2 8 (by omega)).1
    clear ho4 hi4 hx1 hx2 hch4 hu4 hg CC CO
    go_wp2_with fail
    go_loopw [0, 32] (fun o i wr => DifRel w0 w B L (Value.slice ao f.length co) (Value.slice ap xs.length cp) kids kids2 (valCells k bits hi lo text more sub ab nb cb ak nk ck) (valCells k2 bits2 hi2 lo2 text2 more2 sub2 ab2 nb2 cb2 ak2 nk ck2) G xs (f.length + 1 + kids.wt) o i wr) (fun _ i _ => nk - (intOf i).toNat)
    case atStart => exact ⟨_, 0, g, rfl, rfl, Nat.zero_le _, HGS, HO4.out, HI4.out, HX1.out, HX2.out, HCH.out, HU4.out, by simp [F.drop]; omega⟩
    case round =>
      obtain ⟨u, j, f2, rfl, rfl, hj, HGG, ho, hi2, hb1, hb2, hch, hu, hM⟩ := hrel
      rw [HKL.out] at hj
      have HO := Lib.hid ho
      have HI := Lib.hid hi2
      have HX1 := Lib.hid hb1
      have HX2 := Lib.hid hb2
      have HC := Lib.hid hch
      have HU := Lib.hid hu
      have hz : w.heap.size + 1 < wr.heap.size := hb2.1
      obtain ⟨-, a5, c5, -, rfl, hl5, -⟩ := ho.reads
      have c8b : wr.cell? ⟨w.heap.size + 1, 8, none⟩ = some (.slice ak2 nk ck2) := (hb2.2 8 (by omega)).1
      clear ho hi2 hb1 hb2 hch hu HO4 HI4 HCH HU4 HGS c8
      by_cases hlt : j < nk
      · obtain ⟨⟨n, tt⟩, hx⟩ := F.get_some kids j (by rw [HKL.out]; exact hlt)
        obtain ⟨⟨n2, tt2⟩, hx2⟩ := F.get_some kids2 j (by rw [HKL2.out]; exact hlt)
        have hwg := F.wt_get kids j n tt hx
        have hst := diffF_step kids kids2 j n n2 tt tt2 xs f2 hx hx2
        obtain ⟨b, o, k', bits', hi', lo', text', more', sub', bs', kids', ab', nb', cb', ak', nk', ck', rfl, rfl, e1, e2, e3, g0, g1, g2, g3, g4, g5, g6, g7, g8, g9⟩ := (HKS.out.at hx).cells
        obtain ⟨b1, o1, k3, bits3, hi3, lo3, text3, more3, sub3, bs3, kids3, ab3, nb3, cb3, ak3, nk3, ck3, rfl, rfl, d1, d2, d3, z0, z1, z2, z3, z4, z5, z6, z7, z8, z9⟩ := (HKS2.out.at hx2).cells
        have hB0r : Below w0.heap.size w0 wr := HW0.out.trans (HC.out.below hsw0 (fun i h => by
          rcases h with h | h
          · have := (HFO.out i h).1; omega
          · have := (HFP.out i h).1; omega))
        have HB0 := Lib.hid hB0r
        have E3 := Lib.hid e3
        have D3 := Lib.hid d3
        have hj0 : (0 : Int) ≤ (j : Int) := by omega
        have hj1 : (j : Int) < (nk : Int) := by omega
        have y0 : wr.cell? ⟨b, o + j * 10, none⟩ = some (.string n) := cell_below hB0r g0
        have y1 : wr.cell? ⟨b, o + j * 10 + 1, none⟩ = some (.int .i64 k') := cell_below hB0r g1
        have y2 : wr.cell? ⟨b, o + j * 10 + 2, none⟩ = some (.int .u64 (bits' : Nat)) := cell_below hB0r g2
        have y3 : wr.cell? ⟨b, o + j * 10 + 3, none⟩ = some (.int .u64 (hi' : Nat)) := cell_below hB0r g3
        have y4 : wr.cell? ⟨b, o + j * 10 + 4, none⟩ = some (.int .u64 (lo' : Nat)) := cell_below hB0r g4
        have y5 : wr.cell? ⟨b, o + j * 10 + 5, none⟩ = some (.string text') := cell_below hB0r g5
        have y6 : wr.cell? ⟨b, o + j * 10 + 6, none⟩ = some (.string more') := cell_below hB0r g6
        have y7 : wr.cell? ⟨b, o + j * 10 + 7, none⟩ = some (.int .i64 sub') := cell_below hB0r g7
        have y8 : wr.cell? ⟨b, o + j * 10 + 8, none⟩ = some (.slice ab' nb' cb') := cell_below hB0r g8
        have y9 : wr.cell? ⟨b, o + j * 10 + 9, none⟩ = some (.slice ak' nk' ck') := cell_below hB0r g9
        have v0 : wr.cell? ⟨b1, o1 + j * 10, none⟩ = some (.string n2) := cell_below hB0r z0
        have v1 : wr.cell? ⟨b1, o1 + j * 10 + 1, none⟩ = some (.int .i64 k3) := cell_below hB0r z1
        have v2 : wr.cell? ⟨b1, o1 + j * 10 + 2, none⟩ = some (.int .u64 (bits3 : Nat)) := cell_below hB0r z2
        have v3 : wr.cell? ⟨b1, o1 + j * 10 + 3, none⟩ = some (.int .u64 (hi3 : Nat)) := cell_below hB0r z3
        have v4 : wr.cell? ⟨b1, o1 + j * 10 + 4, none⟩ = some (.int .u64 (lo3 : Nat)) := cell_below hB0r z4
        have v5 : wr.cell? ⟨b1, o1 + j * 10 + 5, none⟩ = some (.string text3) := cell_below hB0r z5
        have v6 : wr.cell? ⟨b1, o1 + j * 10 + 6, none⟩ = some (.string more3) := cell_below hB0r z6
        have v7 : wr.cell? ⟨b1, o1 + j * 10 + 7, none⟩ = some (.int .i64 sub3) := cell_below hB0r z7
        have v8 : wr.cell? ⟨b1, o1 + j * 10 + 8, none⟩ = some (.slice ab3 nb3 cb3) := cell_below hB0r z8
        have v9 : wr.cell? ⟨b1, o1 + j * 10 + 9, none⟩ = some (.slice ak3 nk3 ck3) := cell_below hB0r z9
        have hw1 : (T.mk k' bits' hi' lo' text' more' sub' bs' kids').wt ≤ d := by omega
        have hb1B : b1 < B := Nat.lt_of_lt_of_le (cell_block z0) hwB
        have hb1s : b < wr.heap.size ∧ b1 < wr.heap.size := ⟨cell_block y0, cell_block v0⟩
        have hf2l : f2.length ≤ 1000000 ∧ f2.length + (T.mk k' bits' hi' lo' text' more' sub' bs' kids').wt ≤ 1000000 := by omega
        have HF2 := Lib.hid hf2l
        obtain ⟨R, hR⟩ : ∃ R, R = diffT (T.mk k' bits' hi' lo' text' more' sub' bs' kids') (T.mk k3 bits3 hi3 lo3 text3 more3 sub3 bs3 kids3) (xs ++ [(j : Int)]) := ⟨_, rfl⟩
        rw [← hR] at hst
        have HGN : Hid (G = if n.toList == n2.toList then (match R with | none => none | some d => addO (f2 ++ d) (diffF (kids.drop (j + 1)) (kids2.drop (j + 1)) (j + 1) xs)) else none) := HGG.out.trans hst
        have HR := Lib.hid hR
        have HRW : Hid (∀ d, R = some d → d.length ≤ (T.mk k' bits' hi' lo' text' more' sub' bs' kids').wt) := by
          show ∀ d, _
          intro d0 hd0
          exact diffT_wt _ _ _ _ (hR.symm.trans hd0)
        clear hx hx2 hst e3 d3 e1 e2 d1 d2 g0 g1 g2 g3 g4 g5 g6 g7 g8 g9 z0 z1 z2 z3 z4 z5 z6 z7 z8 z9 hR hf2l
        obtain ⟨n5, hn5⟩ : ∃ n, n = f2.length := ⟨_, rfl⟩
        rw [← hn5] at HO HU ⊢
        have HN5 := Lib.hid hn5
        clear hn5
        go_wp2_with fail
        obtain ⟨wf, hwf⟩ : ∃ W, W = wr.alloc (.cells #[.string n, .int .i64 k', .int .u64 (bits' : Nat), .int .u64 (hi' : Nat), .int .u64 (lo' : Nat), .string text', .string more', .int .i64 sub', .slice ab' nb' cb', .slice ak' nk' ck'] 28) := ⟨_, rfl⟩
        have hwfb : Below wr.heap.size wr wf := by rw [hwf]; exact (Below.refl _ _).alloc (Nat.le_refl _) _
        have hgf : wr.heap.size < wf.heap.size := by rw [hwf]; simp
        have x0 : wf.cell? ⟨wr.heap.size, 0, none⟩ = some (.string n) := by rw [hwf]; simp [go_sem]
        have x1 : wf.cell? ⟨wr.heap.size, 1, none⟩ = some (.int .i64 k') := by rw [hwf]; simp [go_sem]
        have x2 : wf.cell? ⟨wr.heap.size, 2, none⟩ = some (.int .u64 (bits' : Nat)) := by rw [hwf]; simp [go_sem]
        have x3 : wf.cell? ⟨wr.heap.size, 3, none⟩ = some (.int .u64 (hi' : Nat)) := by rw [hwf]; simp [go_sem]
        have x4 : wf.cell? ⟨wr.heap.size, 4, none⟩ = some (.int .u64 (lo' : Nat)) := by rw [hwf]; simp [go_sem]
        have x5 : wf.cell? ⟨wr.heap.size, 5, none⟩ = some (.string text') := by rw [hwf]; simp [go_sem]
        have x6 : wf.cell? ⟨wr.heap.size, 6, none⟩ = some (.string more') := by rw [hwf]; simp [go_sem]
        have x7 : wf.cell? ⟨wr.heap.size, 7, none⟩ = some (.int .i64 sub') := by rw [hwf]; simp [go_sem]
        have x8 : wf.cell? ⟨wr.heap.size, 8, none⟩ = some (.slice ab' nb' cb') := by rw [hwf]; simp [go_sem]
        have x9 : wf.cell? ⟨wr.heap.size, 9, none⟩ = some (.slice ak' nk' ck') := by rw [hwf]; simp [go_sem]
        rw [← hwf]
        clear hwf y0 y1 y2 y3 y4 y5 y6 y7 y8 y9
        have c8f := cell_below hwfb c8b
        have v0 := cell_below hwfb v0
        have v1 := cell_below hwfb v1
        have v2 := cell_below hwfb v2
        have v3 := cell_below hwfb v3
        have v4 := cell_below hwfb v4
        have v5 := cell_below hwfb v5
        have v6 := cell_below hwfb v6
        have v7 := cell_below hwfb v7
        have v8 := cell_below hwfb v8
        have v9 := cell_below hwfb v9
        have HBF := Lib.hid hwfb
        obtain ⟨g8, hg8⟩ : ∃ g, g = wr.heap.size := ⟨_, rfl⟩
        rw [← hg8] at hgf x0 x1 x2 x3 x4 x5 x6 x7 x8 x9 ⊢
        have HG8 := Lib.hid hg8
        have hzg : w.heap.size + 1 < g8 := by omega
        have hbg : b < g8 ∧ b1 < g8 := by omega
        clear hg8 hwfb c8b
        cases hn : (n.toList == n2.toList) with
        | false =>
          have hn' : (n.toList != n2.toList) = true := by unfold bne; rw [hn]; rfl
          have hG : G = none := by rw [HGN.out, hn]; rfl
          subst hG
          go_quiet (fail)
          go_wp2_with fail
          go_ret2
          refine ⟨.slice none 0 0, rfl, OwnR.nil _ _ _, owns_keep (owns_keep HI.out HBF.out) (below_drewN _ _ _), (HC.out.trans (Chg.of_below (S := fun _ => False) HBF.out) (fun _ _ h => h.elim)).trans (Chg.of_below (S := fun _ => False) (below_drewN _ _ _)) (fun _ _ h => h.elim), fun k hk => nomatch hk⟩
        | true =>
        have hn' : (n.toList != n2.toList) = false := by unfold bne; rw [hn]; rfl
        rw [hn] at HGN
        go_quiet (fail)
        go_wp2_with fail
        obtain ⟨wg, hwg2⟩ : ∃ W, W = wf.drewN nq := ⟨_, rfl⟩
        have hbg2 : Below wf.heap.size wf wg := by rw [hwg2]; exact below_drewN _ _ _
        have hsg : wf.heap.size = wg.heap.size := by rw [hwg2]; rfl
        rw [← hwg2]
        have x1 := cell_below hbg2 x1
        have x2 := cell_below hbg2 x2
        have x3 := cell_below hbg2 x3
        have x4 := cell_below hbg2 x4
        have x5 := cell_below hbg2 x5
        have x6 := cell_below hbg2 x6
        have x7 := cell_below hbg2 x7
        have x8 := cell_below hbg2 x8
        have x9 := cell_below hbg2 x9
        have v1 := cell_below hbg2 v1
        have v2 := cell_below hbg2 v2
        have v3 := cell_below hbg2 v3
        have v4 := cell_below hbg2 v4
        have v5 := cell_below hbg2 v5
        have v6 := cell_below hbg2 v6
        have v7 := cell_below hbg2 v7
        have v8 := cell_below hbg2 v8
        have v9 := cell_below hbg2 v9
        have c8g := cell_below hbg2 c8f
        have HBG : Hid (Below wr.heap.size wr wg) := HBF.out.trans (hbg2.mono HBF.out.size)
        have hsz : g8 < wg.heap.size := by omega
        clear hwg2 hbg2 hsg x0 v0 c8f hgf
        have HIg := Lib.hid (owns_keep HI.out HBG.out)
        have HOg := Lib.hid (HO.out.keep HBG.out)
        have HX1g := Lib.hid (HX1.out.keep HBG.out)
        have HX2g := Lib.hid (HX2.out.keep HBG.out)
        have HB0g : Hid (Below w0.heap.size w0 wg) := HB0.out.trans (HBG.out.mono HB0.out.size)
        have HCg : Hid (Chg (fun k => (Value.slice ao f.length co).ownBlock = some k ∨ (Value.slice ap xs.length cp).ownBlock = some k) w wg) := HC.out.trans (Chg.of_below (S := fun _ => False) HBG.out) (fun _ _ h => h.elim)
        have HUl : Hid (∀ k, (Value.slice a5 n5 c5).ownBlock = some k → k < g8 ∧ (Value.slice ap xs.length cp).ownBlock ≠ some k ∧ k ≠ w.heap.size + 1 ∧ B ≤ k) := by
          show ∀ k, _
          intro k hk
          have h3 := HO.out.ltB k hk
          refine ⟨by have := HG8.out; omega, ?_, ?_, h3.1⟩
          · intro e
            rcases HU.out k hk with h | h
            · exact HVV.out k h e
            · have := (HFP.out k e).2; omega
          · rcases HU.out k hk with h | h
            · have := (HFO.out k h).2; omega
            · omega
        have HSS : Hid (∀ W, Chg (TwoB (Value.slice ap xs.length cp) (Value.slice a5 n5 c5)) wg W → Hid (Chg (TwoB (Value.slice ap xs.length cp) (Value.slice a5 n5 c5)) wg W) ∧ W.cell? ⟨g8, 1, none⟩ = some (.int .i64 k') ∧ W.cell? ⟨g8, 2, none⟩ = some (.int .u64 (bits' : Nat)) ∧ W.cell? ⟨g8, 3, none⟩ = some (.int .u64 (hi' : Nat)) ∧ W.cell? ⟨g8, 4, none⟩ = some (.int .u64 (lo' : Nat)) ∧ W.cell? ⟨g8, 5, none⟩ = some (.string text') ∧ W.cell? ⟨g8, 6, none⟩ = some (.string more') ∧ W.cell? ⟨g8, 7, none⟩ = some (.int .i64 sub') ∧ W.cell? ⟨g8, 8, none⟩ = some (.slice ab' nb' cb') ∧ W.cell? ⟨g8, 9, none⟩ = some (.slice ak' nk' ck') ∧ W.cell? ⟨w.heap.size + 1, 8, none⟩ = some (.slice (some ⟨b1, o1, none⟩) nk ck2) ∧ W.cell? ⟨b1, o1 + j * 10 + 1, none⟩ = some (.int .i64 k3) ∧ W.cell? ⟨b1, o1 + j * 10 + 2, none⟩ = some (.int .u64 (bits3 : Nat)) ∧ W.cell? ⟨b1, o1 + j * 10 + 3, none⟩ = some (.int .u64 (hi3 : Nat)) ∧ W.cell? ⟨b1, o1 + j * 10 + 4, none⟩ = some (.int .u64 (lo3 : Nat)) ∧ W.cell? ⟨b1, o1 + j * 10 + 5, none⟩ = some (.string text3) ∧ W.cell? ⟨b1, o1 + j * 10 + 6, none⟩ = some (.string more3) ∧ W.cell? ⟨b1, o1 + j * 10 + 7, none⟩ = some (.int .i64 sub3) ∧ W.cell? ⟨b1, o1 + j * 10 + 8, none⟩ = some (.slice ab3 nb3 cb3) ∧ W.cell? ⟨b1, o1 + j * 10 + 9, none⟩ = some (.slice ak3 nk3 ck3)) := by
          show ∀ W, _
          intro W hW
          have n1 : ¬ TwoB (Value.slice ap xs.length cp) (Value.slice a5 n5 c5) g8 := fun e => by
            rcases e with e | e
            · have := (HFP.out _ e).2; omega
            · have := (HUl.out _ e).1; omega
          have n2 : ¬ TwoB (Value.slice ap xs.length cp) (Value.slice a5 n5 c5) (w.heap.size + 1) := fun e => by
            rcases e with e | e
            · have := (HFP.out _ e).2; omega
            · exact (HUl.out _ e).2.2.1 rfl
          have n3 : ¬ TwoB (Value.slice ap xs.length cp) (Value.slice a5 n5 c5) b1 := fun e => by
            rcases e with e | e
            · have := (HFP.out _ e).1; omega
            · have := (HUl.out _ e).2.2.2; omega
          exact ⟨hW, hW.cell n1 x1, hW.cell n1 x2, hW.cell n1 x3, hW.cell n1 x4, hW.cell n1 x5, hW.cell n1 x6, hW.cell n1 x7, hW.cell n1 x8, hW.cell n1 x9, hW.cell n2 c8g, hW.cell n3 v1, hW.cell n3 v2, hW.cell n3 v3, hW.cell n3 v4, hW.cell n3 v5, hW.cell n3 v6, hW.cell n3 v7, hW.cell n3 v8, hW.cell n3 v9⟩
        have hlen1 : (xs ++ [(j : Int)]).length + (T.mk k' bits' hi' lo' text' more' sub' bs' kids').wt ≤ 1000000 := by simp; omega
        clear HBF HB0 HC HO HI HX1 HX2 HBG
        go_region_held3 (fun W => Hid (Chg (TwoB (Value.slice ap xs.length cp) (Value.slice a5 n5 c5)) wg W) ∧ W.cell? ⟨g8, 1, none⟩ = some (.int .i64 k') ∧ W.cell? ⟨g8, 2, none⟩ = some (.int .u64 (bits' : Nat)) ∧ W.cell? ⟨g8, 3, none⟩ = some (.int .u64 (hi' : Nat)) ∧ W.cell? ⟨g8, 4, none⟩ = some (.int .u64 (lo' : Nat)) ∧ W.cell? ⟨g8, 5, none⟩ = some (.string text') ∧ W.cell? ⟨g8, 6, none⟩ = some (.string more') ∧ W.cell? ⟨g8, 7, none⟩ = some (.int .i64 sub') ∧ W.cell? ⟨g8, 8, none⟩ = some (.slice ab' nb' cb') ∧ W.cell? ⟨g8, 9, none⟩ = some (.slice ak' nk' ck') ∧ W.cell? ⟨w.heap.size + 1, 8, none⟩ = some (.slice (some ⟨b1, o1, none⟩) nk ck2) ∧ W.cell? ⟨b1, o1 + j * 10 + 1, none⟩ = some (.int .i64 k3) ∧ W.cell? ⟨b1, o1 + j * 10 + 2, none⟩ = some (.int .u64 (bits3 : Nat)) ∧ W.cell? ⟨b1, o1 + j * 10 + 3, none⟩ = some (.int .u64 (hi3 : Nat)) ∧ W.cell? ⟨b1, o1 + j * 10 + 4, none⟩ = some (.int .u64 (lo3 : Nat)) ∧ W.cell? ⟨b1, o1 + j * 10 + 5, none⟩ = some (.string text3) ∧ W.cell? ⟨b1, o1 + j * 10 + 6, none⟩ = some (.string more3) ∧ W.cell? ⟨b1, o1 + j * 10 + 7, none⟩ = some (.int .i64 sub3) ∧ W.cell? ⟨b1, o1 + j * 10 + 8, none⟩ = some (.slice ab3 nb3 cb3) ∧ W.cell? ⟨b1, o1 + j * 10 + 9, none⟩ = some (.slice ak3 nk3 ck3)) (first | with_reducible exact HSS.out _ HC6.out | with_reducible exact HSS.out _ HC5.out | ((with_reducible refine HSS.out _ ?_); (repeat' (first | with_reducible exact HC6.out | with_reducible exact HC5.out | with_reducible apply Chg.drew | with_reducible refine Chg.alloc ?_ _ | with_reducible exact Chg.refl _ _)); done) | fail) ((first | (refine step_appI2 (v := Value.slice ap xs.length cp) (xs := xs) (sv := .slice (some ⟨wg.heap.size, 0, none⟩) 1 1) (l := [(j : Int)]) (B := B) (by rfl) _ _ (by rfl) (by rfl) (owns_keep HIg.out ?_) (by rfl) (src_cell (by simp [go_sem]; done)) (by simp; omega) (by first | omega | (simp; omega)) ?_; (case _ => (repeat' (first | with_reducible exact Below.refl _ _ | with_reducible apply Below.drew | with_reducible refine Below.alloc ?_ (by first | exact Nat.le_refl _ | (simp; done) | (simp; omega)) _))); intro v5 w5 ho5 ha5 hoi5; obtain ⟨W2, hW2, ha5⟩ : ∃ W2, Below wg.heap.size wg W2 ∧ AppF W2 w5 (Value.slice ap xs.length cp) v5 := ⟨_, by (repeat' (first | with_reducible exact Below.refl _ _ | with_reducible apply Below.drew | with_reducible refine Below.alloc ?_ (by first | exact Nat.le_refl _ | (simp; done) | (simp; omega)) _)), ha5⟩; (have hs2 := hW2.size); obtain ⟨aP, cP, hv5, -⟩ := ho5.rd; subst hv5; (have HREC := Lib.hid (dif_rec HOF.out hw1 E3.out D3.out (HB0g.out.trans (hW2.mono HB0g.out.size)) hwB (by omega) ((HOg.out.keep hW2).imp (fun k hk h => And.intro h hk)) ho5 ha5 (fun k hk => ⟨by have := (HUl.out k hk).1; omega, (HUl.out k hk).2.1⟩) HLP.out (fun k hk => HLN.out k (by omega)) (fun k hk => (HFP.out k hk).1) HF2.out.2 hlen1)); rw [← HR.out] at HREC; obtain ⟨N5, hN5⟩ : ∃ N, N = (xs ++ [(j : Int)]).length := ⟨_, rfl⟩; rw [← hN5] at ho5 ha5 HREC ⊢; (have HC5 : Hid (Chg (TwoB (Value.slice ap xs.length cp) (Value.slice a5 n5 c5)) wg w5) := (Chg.of_below hW2).trans ha5.chg (fun i _ e => .inl e)); (have HO5 := Lib.hid ho5); (have HA5 := Lib.hid ha5); (have HI5 := Lib.hid hoi5); (have HW2 := Lib.hid hW2); clear ho5 ha5 hoi5 hN5 hW2) | (go_at_call 43; (with_reducible refine HREC.out.mono ?_); rintro e w6 ⟨v6, rfl, ho6, hoi6, hch6, hu6⟩; obtain ⟨-, a6, c6, -, hv6, -⟩ := ho6.reads; subst hv6; obtain ⟨N6, hN6⟩ : ∃ N, N = ((addO f2 R).getD []).length := ⟨_, rfl⟩; obtain ⟨okk, hokk⟩ : ∃ o, o = (addO f2 R).isSome := ⟨_, rfl⟩; rw [← hN6] at ho6 hu6 ⊢; rw [← hokk]; (have HC6 : Hid (Chg (TwoB (Value.slice ap xs.length cp) (Value.slice a5 n5 c5)) wg w6) := HC5.out.trans hch6 (fun i hi e => by rcases e with e | e; exact .inr e; rcases HA5.out.2 with h | h; exact .inl (h ▸ e); (rw [h] at e; have e2 := Option.some.inj e; have := HW2.out.size; omega))); (have HC6a := Lib.hid hch6); (have HO6 := Lib.hid ho6); (have HI6 := Lib.hid hoi6); (have HU6 := Lib.hid hu6); (have HOK := Lib.hid hokk); clear ho6 hoi6 hch6 hu6 hN6 hokk) | fail))
        all_goals
          have hIx : OwnI w6 B (Value.slice ap xs.length cp) xs := by
            refine OwnI.shorter HI5.out HO5.out HI6.out (fun hne k hk => ?_)
            have h1 := (owns_lt HI5.out k hk).2
            refine HC6a.out.block k h1 (fun e => ?_)
            rcases e with e | e
            · exact (HUl.out k e).2.1 hk
            · exact hne (by rw [hk, e])
          have hsub : ∀ i, i < wg.heap.size → TwoB (Value.slice ap xs.length cp) (Value.slice a5 n5 c5) i → i < w.heap.size → ((Value.slice ao f.length co).ownBlock = some i ∨ (Value.slice ap xs.length cp).ownBlock = some i) := by
            intro i _ e hi
            rcases e with e | e
            · exact .inr e
            · rcases HU.out i e with h | h
              · exact .inl h
              · omega
          have hc6 : Chg (fun k => (Value.slice ao f.length co).ownBlock = some k ∨ (Value.slice ap xs.length cp).ownBlock = some k) w w6 := HCg.out.trans HC6.out (fun i hi e => hsub i (Nat.lt_of_lt_of_le hi HCg.out.size) e hi)
          have hb61 : BoxV w6 w.heap.size (valCells k bits hi lo text more sub ab nb cb (some ⟨b, o, none⟩) nk ck) := HX1g.out.chg HC6.out (fun e => by
            rcases e with e | e
            · have := (HFP.out _ e).2; omega
            · rcases HU.out _ e with h | h
              · have := (HFO.out _ h).2; omega
              · omega)
          have hb62 : BoxV w6 (w.heap.size + 1) (valCells k2 bits2 hi2 lo2 text2 more2 sub2 ab2 nb2 cb2 (some ⟨b1, o1, none⟩) nk ck2) := HX2g.out.chg HC6.out (fun e => by
            rcases e with e | e
            · have := (HFP.out _ e).2; omega
            · exact (HUl.out _ e).2.2.1 rfl)
          have hs6 : wg.heap.size ≤ w6.heap.size := HC6.out.size
          have hw5 : wg.heap.size ≤ w5.heap.size := HC5.out.size
          have HIX := Lib.hid hIx
          have HC6w := Lib.hid hc6
          have HB61 := Lib.hid hb61
          have HB62 := Lib.hid hb62
          clear hIx hc6 hb61 hb62 hsub
          cases okk with
          | false =>
            have hG : G = none := by
              rw [HGN.out]
              have h1 := HOK.out
              cases R with
              | none => rfl
              | some dd => simp [addO] at h1
            subst hG
            go_wp2_with fail
            go_ret2
            exact ⟨.slice none 0 0, rfl, OwnR.nil _ _ _, HIX.out, HC6w.out, fun k hk => nomatch hk⟩
          | true =>
            obtain ⟨dd, hdd⟩ : ∃ dd, R = some dd := by
              have h1 := HOK.out
              cases R with
              | none => simp [addO] at h1
              | some dd => exact ⟨dd, rfl⟩
            have hdl := HRW.out dd hdd
            have hG : Hid (G = addO (f2 ++ dd) (diffF (kids.drop (j + 1)) (kids2.drop (j + 1)) (j + 1) xs)) := by
              show _ = _
              rw [HGN.out, hdd]
              rfl
            have ho : Hid (OwnR w6 B L (.slice a6 N6 c6) (f2 ++ dd)) := by
              have h1 := HO6.out
              rw [hdd] at h1
              exact h1.imp (fun k _ h => h.1)
            clear hdd
            go_wp2_with fail
            go_roundw
            case rel =>
              refine ⟨_, j + 1, f2 ++ dd, rfl, by simp, by rw [HKL.out]; omega, hG, ho.out, HIX.out, HB61.out, HB62.out, HC6w.out, fun k hk => ?_, ?_⟩
              · rcases HU6.out k hk with h | h
                · exact HU.out k h
                · right; omega
              · rw [List.length_append]; omega
            case measure => simp [intOf]; omega
      · have hend := HGG.out
        rw [diffF_end kids kids2 j xs f2 (by rw [HKL.out]; omega)] at hend
        subst hend
        go_wp2_with fail
        go_ret2
        refine ⟨_, rfl, HO.out, HI.out, HC.out, fun k hk => ?_⟩
        rcases HU.out k hk with h | h
        · exact .inl h
        · exact .inr (by omega)

end Go.Proofs.Ytiodjhcjfbnocaa
