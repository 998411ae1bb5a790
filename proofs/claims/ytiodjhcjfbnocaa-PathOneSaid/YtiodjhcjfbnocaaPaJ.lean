/- The reference's rows of all paths, and how many there are. -/
import Derived.Test.YtiodjhcjfbnocaaPaI
import Derived.Test.YtiodjhcjfbnocaaPaG
import Derived.Deep.RegionLaw
namespace Go.Proofs.Ytiodjhcjfbnocaa
open Go.RowKit
set_option linter.unusedVariables false
set_option linter.unusedSimpArgs false

theorem step_appR {w : World} {ops : Array Oper} {o : Oper} {a : Act} {K : Act → World → Prop} {Q : Exit → Act → World → Prop} {E : Prop} (hgd : o.guard = none) (s x : Operand)
    (ho : o.op = .call { callee := .builtin .append, args := #[s, x], argTypes := #[33, 33] })
    {B : Nat} {L : Nat → Prop} {v : Value} {f : List (List Int)} (hs : a.eval s = v) (hown : OwnR w B L v f) {sv : Value} {g : List (List Int)} {S1 : Nat → Prop} (hx : a.eval x = sv) (hsrc : SrcR S1 w sv g) (hS1 : ∀ k, S1 k → L k ∧ v.ownBlock ≠ some k)
    (hb : f.length + g.length ≤ 1000000000) (hbase : B ≤ w.heap.size)
    (h : ∀ v' w', OwnR w' B L v' (f ++ g) → AppF w w' v v' → K (a.put o.dst v') w') : if Region.wanted o (yielded ops a.tmps) = true then Oper.wp Try.prog o a w K Q else E := by
  obtain ⟨xs, S, ho', hk, hS⟩ := hown
  obtain ⟨ys, hg, hsr⟩ := hsrc
  exact step_app Try.underlying33 infoPath rfl (by omega) hgd s x ho hs ho' hx hsr (by unfold maxLen; omega) (by omega) hbase
    fun v' w' h1 h2 => h v' w' (OwnR.app hk hS hg hS1 h1 h2) h2

/-- The elements of a row of the call's own, to be appended elsewhere. -/
theorem OwnR.src {w : World} {B : Nat} {L : Nat → Prop} {v : Value} {f : List (List Int)} (h : OwnR w B L v f) : SrcR L w v f := by
  obtain ⟨xs, S, h1, h2, h3⟩ := h
  have hl := h2.length
  refine ⟨xs, h2.imp fun k _ hk => (h3 k hk).1, ?_⟩
  rcases h1.2 with ⟨rfl, h0⟩ | ⟨g, cap, cur, rfl, hb, hg, hnc, hcm, hcs, htake⟩
  · have hf : f = [] := List.length_eq_zero_iff.1 h0
    subst hf
    have hx : xs = [] := List.length_eq_zero_iff.1 hl
    subst hx
    exact .inl ⟨rfl, rfl, rfl⟩
  · refine .inr ⟨⟨g, 0, none⟩, cap, rfl, by omega, fun j u hj => ?_, fun u hu => h2.one_cell u hu⟩
    have hjl : j < xs.length := (List.getElem?_eq_some_iff.1 hj).1
    have := h1.cellAt j (by omega)
    rw [add_at, Nat.zero_add, this]
    exact hj

theorem OwnR.base {w : World} {B B' : Nat} {L : Nat → Prop} {v : Value} {f : List (List Int)} (h : OwnR w B L v f) (hB : B' ≤ B) : OwnR w B' L v f := by
  obtain ⟨xs, S, h1, h2, h3⟩ := h
  exact ⟨xs, S, ⟨h1.1, h1.2.imp id fun ⟨g, cap, cur, a, b, r⟩ => ⟨g, cap, cur, a, by omega, r⟩⟩, h2, h3⟩

theorem OwnR.lt {w : World} {B : Nat} {L : Nat → Prop} {v : Value} {f : List (List Int)} (h : OwnR w B L v f) : ∀ k, v.ownBlock = some k → B ≤ k ∧ k < w.heap.size := by
  obtain ⟨xs, S, h1, _⟩ := h
  exact owns_lt h1

/-- One path, laid in a row of its own. -/
theorem OwnR.one {S L : Nat → Prop} {w : World} {a : Option Addr} {c n : Nat} {p : List Int} (hn : p.length = n) (h : RdPS S w a p) (hc : a = none → c = 0) (hpc : n ≤ c) (hm : n ≤ 9223372036854775807) (hS : ∀ k, S k → L k ∧ k < w.heap.size) {B : Nat} (hB : B ≤ w.heap.size) :
    OwnR (w.alloc (.cells #[.slice a n c] 38)) B L (.slice (some ⟨w.heap.size, 0, none⟩) 1 1) [p] := by
  subst hn
  refine ⟨[.slice a p.length c], S, ⟨rfl, .inr ⟨w.heap.size, 1, #[.slice a p.length c], rfl, hB, heap_alloc_new w _, Nat.le_refl _, by unfold maxLen; omega, rfl, rfl⟩⟩, ⟨a, c, [], rfl, hm, h.keep (KeepS.below ((Below.refl _ _).alloc (Nat.le_refl _) _)), hc, hpc, rfl⟩, fun k hk => ⟨(hS k hk).1, fun e => ?_⟩⟩
  have h1 := Option.some.inj (show some w.heap.size = some k from e)
  have := (hS k hk).2
  omega

/-- longer, in a world above another one. -/
theorem longer_at (S : Nat → Prop) {a : Option Addr} {n c : Nat} {p : List Int} (hn : p.length = n) (hc : a = none → c = 0) (hb : n ≤ 1000000) (i : Int) {wr W : World} (hW : Below wr.heap.size wr W) (h : RdPS S wr a p) :
    Calls Try.prog 47 #[.slice a n c, .int .i64 i] W fun e w' => ∃ a5 c5, e = .returned (.slice a5 (n + 1) c5) ∧ RdPS (fun k => wr.heap.size ≤ k ∧ k < w'.heap.size) w' a5 (p ++ [i]) ∧ (a5 = none → c5 = 0) ∧ n + 1 ≤ c5 ∧ Below wr.heap.size wr w' := by
  refine (longer_calls S a n c p hn hc hb i W (h.keep (KeepS.below hW))).mono ?_
  rintro e w' ⟨v, rfl, ho, hbl⟩
  have hl := fun k hk => owns_lt ho k hk
  obtain ⟨a5, c5, rfl, hr, hc5, hle, -⟩ := ho.rd
  have e1 : (p ++ [i]).length = n + 1 := by simp [hn]
  rw [e1] at hle hr hl ⊢
  exact ⟨a5, c5, rfl, hr.imp fun k _ hk => ⟨Nat.le_trans hW.size (hl k hk).1, (hl k hk).2⟩, hc5, hle, hW.trans (hbl.mono hW.size)⟩

def RAllSaid (d : Nat) : Prop := ∀ t : T, t.wt ≤ d → ∀ (Sp : Nat → Prop) (w : World) (c : Array Value) (a : Option Addr) (n cp : Nat) (p : List Int), RdT w t c → RdPS Sp w a p → (∀ k, Sp k → k < w.heap.size) → p.length = n → (a = none → cp = 0) → n ≤ cp → n + t.wt ≤ 1000000 →
  Calls Try.prog 37 #[.agg c, .slice a n cp] w fun e w' => ∃ v', e = .returned v' ∧ OwnR w' w.heap.size (fun k => Sp k ∨ w.heap.size ≤ k) v' (allT t p) ∧ Below w.heap.size w w'

theorem rall_at {d : Nat} (hof : RAllSaid d) {t : T} (hd : t.wt ≤ d) {wr w5 W : World} {c : Array Value} {a : Option Addr} {n cp : Nat} {p : List Int} (h : RdT wr t c) (hB : Below wr.heap.size wr w5) (hW : Below w5.heap.size w5 W) (hp : RdPS (fun k => wr.heap.size ≤ k ∧ k < w5.heap.size) w5 a p) (hn : p.length = n) (hc : a = none → cp = 0) (hcp : n ≤ cp) (hb : n + t.wt ≤ 1000000) :
    Calls Try.prog 37 #[.agg c, .slice a n cp] W fun e w' => ∃ a6 N6 c6, e = .returned (.slice a6 N6 c6) ∧ (allT t p).length = N6 ∧ SrcR (fun k => wr.heap.size ≤ k) w' (.slice a6 N6 c6) (allT t p) ∧ Below wr.heap.size wr w' := by
  have hBW := hB.trans (hW.mono hB.size)
  refine (hof t hd _ W c a n cp p (h.keep hBW) (hp.keep (KeepS.below hW)) (fun k hk => Nat.lt_of_lt_of_le hk.2 hW.size) hn hc hcp hb).mono ?_
  rintro e w' ⟨v, rfl, ho, hbl⟩
  obtain ⟨-, a6, c6, -, rfl, -⟩ := ho.reads
  refine ⟨a6, _, c6, rfl, rfl, ?_, hBW.trans (hbl.mono hBW.size)⟩
  obtain ⟨ys, h1, h2⟩ := ho.src
  exact ⟨ys, h1.imp fun k _ hk => by rcases hk with hk | hk; exact hk.1; exact Nat.le_trans hBW.size hk, h2⟩

/-- What stands at the head of each round. -/
def RAllRel (w : World) (L : Nat → Prop) (kids : F) (c : Array Value) (g : List (List Int)) (p : List Int) (M : Nat) (o i : Value) (wr : World) : Prop :=
  ∃ (u : Value) (j : Nat) (f : List (List Int)), u = o ∧ i = .int .i64 j ∧ j ≤ kids.len ∧ Hid (g = f ++ allF (kids.drop j) j p) ∧ OwnR wr (w.heap.size + 1) L u f ∧ BoxV wr w.heap.size c ∧ Below w.heap.size w wr ∧ f.length + (kids.drop j).wt ≤ M

set_option maxRecDepth 100000 in
set_option maxHeartbeats 8000000 in
theorem rall_step (d : Nat) (hof : RAllSaid d) : RAllSaid (d + 1) := by
  intro t hd Sp w c a n cp p h hp hSp hn hcp hncp hxl
  obtain ⟨k, bits, hi, lo, text, more, sub, bs, kids⟩ := t
  have hwt : T.wt (.mk k bits hi lo text more sub bs kids) = 2 + text.size + more.size + bs.length + kids.wt := by simp only [T.wt]
  rw [hwt] at hd hxl
  have hlk := F.len_wt kids
  obtain ⟨ab, nb, cb, ak, nk, ck, rfl, -, -, hkl, hnk, hks⟩ := h
  obtain ⟨G, hG⟩ : ∃ G, G = allT (.mk k bits hi lo text more sub bs kids) p := ⟨_, rfl⟩
  rw [← hG]
  have HGS : Hid (G = [p] ++ allF (kids.drop 0) 0 p) := by show _ = _; rw [hG]; simp [allT, F.drop]
  have HOF := Lib.hid hof
  have HKS := Lib.hid hks
  have HKL := Lib.hid hkl
  have HP := Lib.hid hp
  have HSP := Lib.hid hSp
  have HN := Lib.hid hn
  have HCP := Lib.hid hcp
  have HNCP := Lib.hid hncp
  have hn63 : n ≤ 1000000 := by omega
  have hnk9 := hnk.1
  have hB1 : Below w.heap.size w (w.alloc (.cells (valCells k bits hi lo text more sub ab nb cb ak nk ck) 26)) := (Below.refl _ _).alloc (Nat.le_refl _) _
  have HO1 : Hid (OwnR ((w.alloc (.cells (valCells k bits hi lo text more sub ab nb cb ak nk ck) 26)).alloc (.cells #[.slice a n cp] 38)) (w.heap.size + 1) (fun k => Sp k ∨ w.heap.size ≤ k) (.slice (some ⟨w.heap.size + 1, 0, none⟩) 1 1) [p]) := by
    have := OwnR.one (L := fun k => Sp k ∨ w.heap.size ≤ k) (B := w.heap.size + 1) hn (hp.keep (KeepS.below hB1)) hcp hncp (by omega) (fun k hk => ⟨.inl hk, by have := hSp k hk; simp; omega⟩) (by simp)
    show OwnR _ _ _ _ _
    simpa using this
  have HBX1 : Hid (BoxV ((w.alloc (.cells (valCells k bits hi lo text more sub ab nb cb ak nk ck) 26)).alloc (.cells #[.slice a n cp] 38)) w.heap.size (valCells k bits hi lo text more sub ab nb cb ak nk ck)) := (BoxV.new w _ _).keep ((Below.refl _ _).alloc (Nat.le_refl _) _)
  have HB1 : Hid (Below w.heap.size w ((w.alloc (.cells (valCells k bits hi lo text more sub ab nb cb ak nk ck) 26)).alloc (.cells #[.slice a n cp] 38))) := hB1.alloc (by simp) _
  clear hof hks hkl hp hSp hn hcp hncp hwt hnk hG hB1
  go_enter Try.func37, Try.ntmps37
  go_wp2_with fail
  go_loopw [5, 6] (fun o i wr => RAllRel w (fun k => Sp k ∨ w.heap.size ≤ k) kids (valCells k bits hi lo text more sub ab nb cb ak nk ck) G p (1 + kids.wt) o i wr) (fun _ i _ => nk - (intOf i).toNat)
  case atStart => exact ⟨_, 0, [p], rfl, rfl, Nat.zero_le _, HGS, HO1.out, HBX1.out, HB1.out, by simp [F.drop]⟩
  case round =>
    obtain ⟨u, j, f, rfl, rfl, hj, HGG, ho, hbx, hbw, hM⟩ := hrel
    rw [HKL.out] at hj
    have HO := Lib.hid ho
    have HBX := Lib.hid hbx
    have HBW := Lib.hid hbw
    have hz := hbx.1
    have HUlt := Lib.hid ho.lt
    obtain ⟨-, au, cu, -, rfl, hlu, -⟩ := ho.reads
    clear ho hbx hbw
    by_cases hlt : j < nk
    · obtain ⟨⟨nm, tt⟩, hx⟩ := F.get_some kids j (by rw [HKL.out]; exact hlt)
      have hwg := F.wt_get kids j nm tt hx
      have hst := allF_step kids j nm tt p hx
      obtain ⟨b, o, k', bits', hi', lo', text', more', sub', bs', kids', ab', nb', cb', ak', nk', ck', rfl, rfl, e1, e2, e3, g0, g1, g2, g3, g4, g5, g6, g7, g8, g9⟩ := ((HKS.out.keep HBW.out).at hx).cells
      have E3 := Lib.hid e3
      have hj0 : (0 : Int) ≤ (j : Int) := by omega
      have hj1 : (j : Int) < (nk : Int) := by omega
      have HST : Hid (G = (f ++ allT (T.mk k' bits' hi' lo' text' more' sub' bs' kids') (p ++ [(j : Int)])) ++ allF (kids.drop (j + 1)) (j + 1) p) := by
        show _ = _
        rw [HGG.out, hst, List.append_assoc]
      have hw1 : (T.mk k' bits' hi' lo' text' more' sub' bs' kids').wt ≤ d := by omega
      have hal := allT_wt (T.mk k' bits' hi' lo' text' more' sub' bs' kids') (p ++ [(j : Int)])
      have hf2 : f.length + (T.mk k' bits' hi' lo' text' more' sub' bs' kids').wt ≤ 1000000 := by omega
      have hn2 : n + 1 + (T.mk k' bits' hi' lo' text' more' sub' bs' kids').wt ≤ 1000000 := by omega
      have HKC : Hid (∀ W, Below wr.heap.size wr W → W.cell? ⟨w.heap.size, 8, none⟩ = some (.slice (some ⟨b, o, none⟩) nk ck) ∧ W.cell? ⟨b, o + j * 10 + 1, none⟩ = some (.int .i64 k') ∧ W.cell? ⟨b, o + j * 10 + 2, none⟩ = some (.int .u64 (bits' : Nat)) ∧ W.cell? ⟨b, o + j * 10 + 3, none⟩ = some (.int .u64 (hi' : Nat)) ∧ W.cell? ⟨b, o + j * 10 + 4, none⟩ = some (.int .u64 (lo' : Nat)) ∧ W.cell? ⟨b, o + j * 10 + 5, none⟩ = some (.string text') ∧ W.cell? ⟨b, o + j * 10 + 6, none⟩ = some (.string more') ∧ W.cell? ⟨b, o + j * 10 + 7, none⟩ = some (.int .i64 sub') ∧ W.cell? ⟨b, o + j * 10 + 8, none⟩ = some (.slice ab' nb' cb') ∧ W.cell? ⟨b, o + j * 10 + 9, none⟩ = some (.slice ak' nk' ck')) := by
        show ∀ W, _
        intro W hW
        exact ⟨((HBX.out.keep hW).2 8 (by omega)).1, cell_below hW g1, cell_below hW g2, cell_below hW g3, cell_below hW g4, cell_below hW g5, cell_below hW g6, cell_below hW g7, cell_below hW g8, cell_below hW g9⟩
      have HPW : Hid (RdPS Sp wr a p) := HP.out.keep (KeepS.below HBW.out)
      clear hx hst e3 e1 e2 g0 g1 g2 g3 g4 g5 g6 g7 g8 g9
      obtain ⟨n5, hn5⟩ : ∃ m, m = f.length := ⟨_, rfl⟩
      rw [← hn5] at HO HUlt ⊢
      have HN5 := Lib.hid hn5
      clear hn5
      have hBd : Below wr.heap.size wr wr.drew := (Below.refl _ _).drew
      obtain ⟨c8, y1, y2, y3, y4, y5, y6, y7, y8, y9⟩ := HKC.out wr (Below.refl _ _)
      have HBd := Lib.hid hBd
      clear hBd
      go_wp2_with fail
      go_region_law ((first
        | (refine step_appR (v := .slice au n5 cu) (f := f) (g := allT (T.mk k' bits' hi' lo' text' more' sub' bs' kids') (p ++ [(j : Int)])) (B := w.heap.size + 1) (L := fun k => Sp k ∨ w.heap.size ≤ k) (sv := .slice a6 N6 c6) (S1 := fun k => wr.heap.size ≤ k) (by rfl) _ _ (by rfl) (by rfl) HO6.out (by rfl) HSR6.out (fun k hk => ⟨.inr (by omega), fun e => by have := (HUlt.out k e).2; omega⟩) (by omega) (by have := HB6.out.size; omega) ?_; intro v7 w7 ho7 ha7; obtain ⟨-, a7, c7, -, hv7, -⟩ := ho7.reads; subst hv7; obtain ⟨N7, hN7⟩ : ∃ N, N = (f ++ allT (T.mk k' bits' hi' lo' text' more' sub' bs' kids') (p ++ [(j : Int)])).length := ⟨_, rfl⟩; rw [← hN7] at ho7 ha7 ⊢; have HO7 := Lib.hid ho7; have HA7 := Lib.hid ha7; clear ho7 ha7 hN7)
        | (go_simp; go_at_call 47; (first | (with_reducible refine (longer_at Sp HN.out HCP.out hn63 j HBd.out HPW.out).mono ?_) | (with_reducible refine (longer_at Sp HN.out HCP.out hn63 j (Below.refl _ _) HPW.out).mono ?_)); rintro e w5 ⟨a5, c5, rfl, hp5, hc5, hnc5, hb5⟩; have HP5 := Lib.hid hp5; have HC5 := Lib.hid hc5; have HB5 := Lib.hid hb5; have HNC5 := Lib.hid hnc5; obtain ⟨c8, y1, y2, y3, y4, y5, y6, y7, y8, y9⟩ := HKC.out w5 hb5; clear hp5 hc5 hb5 hnc5)
        | (go_simp; go_at_call 37; (first | (with_reducible refine (rall_at HOF.out hw1 E3.out HB5.out (Below.refl _ _) HP5.out (by simp [HN.out]) HC5.out HNC5.out hn2).mono ?_) | (with_reducible refine (rall_at HOF.out hw1 E3.out HB5.out (Below.refl _ _).drew HP5.out (by simp [HN.out]) HC5.out HNC5.out hn2).mono ?_)); rintro e w6 ⟨a6, N6, c6, rfl, hN6, hs6, hb6⟩; have HSR6 := Lib.hid hs6; have HB6 := Lib.hid hb6; have HO6 := Lib.hid (HO.out.keep hb6); clear hs6 hb6 hN6)))
      all_goals
        have hb6 : Below w.heap.size w w6 := HBW.out.trans (HB6.out.mono HBW.out.size)
        have hb7 : Below w.heap.size w w7 := HA7.out.below hb6 hb6.size (fun k hk => by have := (HUlt.out k hk).1; omega)
        have hx7 : BoxV w7 w.heap.size (valCells k bits hi lo text more sub ab nb cb (some ⟨b, o, none⟩) nk ck) := (HBX.out.keep HB6.out).chg HA7.out.chg (fun e => by have := (HUlt.out _ e).1; omega)
        have HB7 := Lib.hid hb7
        have HX7 := Lib.hid hx7
        clear hb6 hb7 hx7
        go_wp2_with fail
        go_roundw
        case rel => exact ⟨_, j + 1, f ++ allT (T.mk k' bits' hi' lo' text' more' sub' bs' kids') (p ++ [(j : Int)]), rfl, by simp, by rw [HKL.out]; omega, HST, HO7.out, HX7.out, HB7.out, by rw [List.length_append]; omega⟩
        case measure => simp [intOf]; omega
    · have hend : G = f := by
        have h1 := HGG.out
        rw [F.drop_len kids j (by rw [HKL.out]; omega)] at h1
        simpa [allF] using h1
      have HE := Lib.hid hend
      clear hend
      have c8 : wr.cell? ⟨w.heap.size, 8, none⟩ = some (.slice ak nk ck) := (HBX.out.2 8 (by omega)).1
      go_wp2_with fail
      go_ret
      exact ⟨_, rfl, by rw [HE.out]; exact HO.out.base (by omega), HBW.out⟩

end Go.Proofs.Ytiodjhcjfbnocaa
