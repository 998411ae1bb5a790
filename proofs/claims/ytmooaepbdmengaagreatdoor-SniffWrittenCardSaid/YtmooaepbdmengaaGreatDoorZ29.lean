/- Parts of the proof of SniffWritten: JvA, SwX. -/
import Derived.Test.YtmooaepbdmengaaGreatDoorZ03
import Derived.Test.YtmooaepbdmengaaGreatDoorZ28
import Derived.Test.YtmooaepbdmengaaGreatDoorZ11
namespace Go.Proofs.YtmooaepbdmengaaGreatDoor
open Go.RowKit
set_option linter.unusedVariables false
set_option linter.unusedSimpArgs false
def JV (S:Nat→Prop) (B:Nat) (w:World) (v:Value):Prop:=
 ∃ (k:Int) (x:ByteArray) (ak:Option Addr) (nk ck:Nat) (j:J),v=.agg (jCells k x ak nk ck)∧RdJ S w j (jCells k x ak nk ck)∧checkJ j=0∧wtJ j≤B
theorem JV.imp {S S':Nat→Prop} {B B':Nat} {w:World} {v:Value} (h:JV S B w v) (hS:∀ k,k < w.heap.size→S k→S' k) (hB:B≤B'):JV S' B' w v:=by
 obtain ⟨k,x,ak,nk,ck,j,e,h1,h2,h3⟩:=h
 exact ⟨k,x,ak,nk,ck,j,e,h1.imp hS,h2,Nat.le_trans h3 hB⟩
theorem JV.below {S:Nat→Prop} {B:Nat} {w w':World} {v:Value} (h:JV S B w v) (hb:Below w.heap.size w w'):JV S B w' v:=by
 obtain ⟨k,x,ak,nk,ck,j,e,h1,h2,h3⟩:=h
 exact ⟨k,x,ak,nk,ck,j,e,h1.below hb,h2,h3⟩
theorem JV.chg {S X:Nat→Prop} {B:Nat} {w w':World} {v:Value} (h:JV S B w v) (hc:Chg X w w') (hX:∀ k,S k→¬ X k):JV S B w' v:=by
 obtain ⟨k,x,ak,nk,ck,j,e,h1,h2,h3⟩:=h
 exact ⟨k,x,ak,nk,ck,j,e,h1.keep (KeepS.chg hc hX),h2,h3⟩
def JO (S:Nat→Prop) (B:Nat) (w:World) (e:Ending) (w':World):Prop:=∃ v,e=.returned v∧JV (fun k=>S k∨w.heap.size≤k) B w' v∧Below w.heap.size w w'
theorem JO.imp {S S':Nat→Prop} {B B':Nat} {w:World} {e:Ending} {w':World} (h:JO S B w e w') (hS:∀ k,S k→S' k) (hB:B≤B'):JO S' B' w e w':=by
 obtain ⟨v,e1,h1,h2⟩:=h
 exact ⟨v,e1,h1.imp (fun _ _ h=>h.imp (hS _) id) hB,h2⟩
def Wh (s:ByteArray):Prop:=(wholeTo (sl s) == s.size)=true∧s.size≤9223372036854775807
theorem Wh.b {s:ByteArray} (h:Wh s):wholeB (sl s)=true:=by have:=h.1;unfold wholeB;rw [sl_len];exact this
theorem Wh.asc {s:ByteArray} (h:Asc (sl s)) (hs:s.size≤9223372036854775807):Wh s:=⟨by rw [h.whole,sl_len];simp,hs⟩
theorem wt_str (k:Int) (t:List UInt8):wtJ (.mk k t .nil)=2+t.length:=by simp [wtJ,wtM]
theorem chk_str (t:List UInt8) (h:wholeB t=true):checkJ (.mk 5 t .nil)=0:=by simp [checkJ,checkM,M.isNil,h]
theorem chk_num (t:List UInt8) (h:lexeme t≠0) (hl:t.length≤300):checkJ (.mk 4 t .nil)=0:=by
 have:¬ 300 < t.length:=by omega
 simp [checkJ,checkM,M.isNil,h,this]
theorem chk_con (k:Int) (h:k=1∨k=2∨k=3):checkJ (.mk k [] .nil)=0:=by
 rcases h with rfl|rfl|rfl<;>simp [checkJ,checkM,M.isNil]
theorem chk_obj (m:M) (h:checkM m=0):checkJ (.mk 7 [] m)=0:=by simp [checkJ,h]
theorem chk_arr (m:M) (h:checkM m=0) (hb:m.bare=true):checkJ (.mk 6 [] m)=0:=by simp [checkJ,h,hb]
theorem chkM_cons {n:List UInt8} {v:J} {r:M} (h1:wholeB n=true) (h2:checkJ v=0) (h3:checkM r=0):checkM (.cons n v r)=0:=by simp [checkM,h1,h2,h3]
theorem chkM_app:∀ g h:M,checkM g=0→checkM h=0→checkM (g.append h)=0
 | .nil,h,_,h2=>h2
 | .cons n v r,h,h1,h2=>by
  simp only [checkM] at h1
  split at h1
  ·simp at h1
  ·rename_i hw
   split at h1
   ·rename_i hv;exact absurd h1 hv
   ·rename_i hv
    exact chkM_cons (by simpa using hw) (by simpa using hv) (chkM_app r h h1 h2)
theorem wtM_app:∀ g h:M,wtM (g.append h)=wtM g+wtM h
 | .nil,h=>by simp [M.append,wtM]
 | .cons n v r,h=>by simp only [M.append,wtM,wtM_app r h];omega
theorem bare_app:∀ g h:M,g.bare=true→h.bare=true→(g.append h).bare=true
 | .nil,h,_,h2=>h2
 | .cons n v r,h,h1,h2=>by
  simp only [M.append,M.bare,Bool.and_eq_true] at h1 ⊢
  exact ⟨h1.1,bare_app r h h1.2 h2⟩
theorem rd_leaf (S:Nat→Prop) (w:World) (k:Int) (x:ByteArray) (hx:x.size≤9223372036854775807) (hk:-9223372036854775808≤k∧k≤9223372036854775807):RdJ S w (.mk k (sl x) .nil) (jCells k x none 0 0):=
 ⟨x,none,0,0,rfl,rfl,hx,hk,rfl,⟨by omega,fun _=>rfl,Nat.le_refl _⟩,trivial⟩
theorem jv_str (S:Nat→Prop) (w:World) (x:ByteArray) (h:Wh x):JV S (2+x.size) w (.agg (jCells 5 x none 0 0)):=
 ⟨5,x,none,0,0,_,rfl,rd_leaf S w 5 x h.2 (by omega),chk_str _ h.b,by rw [wt_str,sl_len];exact Nat.le_refl _⟩
theorem jv_num (S:Nat→Prop) (w:World) (x:ByteArray) (h:lexeme (sl x)≠0) (hs:x.size≤300):JV S (2+x.size) w (.agg (jCells 4 x none 0 0)):=
 ⟨4,x,none,0,0,_,rfl,rd_leaf S w 4 x (by omega) (by omega),chk_num _ h (by rw [sl_len];exact hs),by rw [wt_str,sl_len];exact Nat.le_refl _⟩
theorem jv_con (S:Nat→Prop) (w:World) (k:Int) (h:k=1∨k=2∨k=3):JV S 2 w (.agg (jCells k ⟨#[]⟩ none 0 0)):=
 ⟨k,⟨#[]⟩,none,0,0,.mk k [] .nil,rfl,rd_leaf S w k ⟨#[]⟩ (by decide) (by omega),chk_con k h,by rw [wt_str];exact Nat.le_refl _⟩
theorem jv_obj {S:Nat→Prop} {w:World} {a:Option Addr} {n c:Nat} {m:M} {B:Nat} (h:RdM S w a 0 m) (hl:m.len=n) (hn:n≤9223372036854775807) (hr:RoomJ a n c) (hc:checkM m=0) (hw:wtM m≤B):JV S (2+B) w (.agg (jCells 7 ⟨#[]⟩ a n c)):=
 ⟨7,⟨#[]⟩,a,n,c,.mk 7 [] m,rfl,⟨⟨#[]⟩,a,n,c,rfl,rfl,by decide,by omega,hl,⟨hn,hr⟩,h⟩,chk_obj m hc,by simp only [wtJ,List.length_nil];omega⟩
theorem jv_arr {S:Nat→Prop} {w:World} {a:Option Addr} {n c:Nat} {m:M} {B:Nat} (h:RdM S w a 0 m) (hl:m.len=n) (hn:n≤9223372036854775807) (hr:RoomJ a n c) (hc:checkM m=0) (hb:m.bare=true) (hw:wtM m≤B):JV S (2+B) w (.agg (jCells 6 ⟨#[]⟩ a n c)):=
 ⟨6,⟨#[]⟩,a,n,c,.mk 6 [] m,rfl,⟨⟨#[]⟩,a,n,c,rfl,rfl,by decide,by omega,hl,⟨hn,hr⟩,h⟩,chk_arr m hc hb,by simp only [wtJ,List.length_nil];omega⟩
set_option maxRecDepth 100000 in
set_option maxHeartbeats 4000000 in
theorem str25_calls (s:ByteArray) (w:World):Calls Tryz.prog 78 #[.string s] w fun e w'=>e=.returned (.agg (jCells 5 s none 0 0))∧Below w.heap.size w w':=by
 go_enter Tryz.func78,Tryz.ntmps78
 go_wp2_with fail
 refine bodyPost_ret (v:=.agg (jCells 5 s none 0 0)) (by simp [results,Tryz.results78,go_sem]) rfl ?_
 exact ⟨rfl,(Below.refl _ _).alloc (Nat.le_refl _) _⟩
set_option maxRecDepth 100000 in
set_option maxHeartbeats 4000000 in
theorem num25_calls (s:ByteArray) (w:World):Calls Tryz.prog 75 #[.string s] w fun e w'=>e=.returned (.agg (jCells 4 s none 0 0))∧Below w.heap.size w w':=by
 go_enter Tryz.func75,Tryz.ntmps75
 go_wp2_with fail
 refine bodyPost_ret (v:=.agg (jCells 4 s none 0 0)) (by simp [results,Tryz.results75,go_sem]) rfl ?_
 exact ⟨rfl,(Below.refl _ _).alloc (Nat.le_refl _) _⟩
set_option maxRecDepth 100000 in
set_option maxHeartbeats 4000000 in
theorem obj25_calls (a:Option Addr) (n c:Nat) (w:World):Calls Tryz.prog 95 #[.slice a n c] w fun e w'=>e=.returned (.agg (jCells 7 ⟨#[]⟩ a n c))∧Below w.heap.size w w':=by
 go_enter Tryz.func95,Tryz.ntmps95
 go_wp2_with fail
 refine bodyPost_ret (v:=.agg (jCells 7 ⟨#[]⟩ a n c)) (by simp [results,Tryz.results95,go_sem]) rfl ?_
 exact ⟨rfl,(Below.refl _ _).alloc (Nat.le_refl _) _⟩
def BoxJ3 (W:World) (g:Nat) (c:Array Value):Prop:=g < W.heap.size∧∀ j,j < 3→W.cell? ⟨g,j,none⟩=c[j]?∧W.frozen? ⟨g,j,none⟩=false
theorem BoxJ3.block {W W':World} {g:Nat} {c:Array Value} (h:BoxJ3 W g c) (hs:W.heap.size≤W'.heap.size) (hb:W'.heap[g]?=W.heap[g]?):BoxJ3 W' g c:=
 ⟨Nat.lt_of_lt_of_le h.1 hs,fun j hj=>⟨(World.cell?_of_block (w:=W) hb).trans (h.2 j hj).1,(World.frozen?_of_block (w:=W) hb).trans (h.2 j hj).2⟩⟩
theorem BoxJ3.chg {X:Nat→Prop} {W W':World} {g:Nat} {c:Array Value} (h:BoxJ3 W g c) (hb:Chg X W W') (hg:¬ X g):BoxJ3 W' g c:=h.block hb.size (hb.block g h.1 hg)
theorem BoxJ3.keep {W W':World} {g:Nat} {c:Array Value} (h:BoxJ3 W g c) (hb:Below W.heap.size W W'):BoxJ3 W' g c:=h.block hb.size (hb.block g h.1)
theorem BoxJ3.new (w:World) (c:Array Value) (t:TypeId):BoxJ3 (w.alloc (.cells c t)) w.heap.size c:=
 ⟨by simp,fun j _=>⟨by simp [go_sem],by simp⟩⟩
theorem BoxJ3.newG (w:World) (c:Array Value) (t:TypeId) (g:Nat) (hg:g=w.heap.size):BoxJ3 (w.alloc (.cells c t)) g c:=by subst hg;exact BoxJ3.new w c t
theorem BoxJ3.set {W:World} {g:Nat} {c:Array Value} (h:BoxJ3 W g c) (i:Nat) (v:Value) (hi:i < c.size) (h9:i < 3):BoxJ3 (W.setCell ⟨g,i,none⟩ v) g (c.setIfInBounds i v):=by
 refine ⟨by simpa [World.setCell] using h.1,fun j hj=>⟨?_,by rw [World.frozen?_setCell];exact (h.2 j hj).2⟩⟩
 by_cases e:i=j
 ·subst e
  rw [World.cell?_setCell_same _ _ _ (u:=c[i]) (by rw [(h.2 i h9).1,Array.getElem?_eq_getElem hi])]
  simp [Array.getElem?_setIfInBounds,hi]
 ·rw [World.cell?_setCell_other _ _ _ _ (fun q=>e (Addr.mk.inj q).2.1),(h.2 j hj).1]
  simp [Array.getElem?_setIfInBounds,e]
def z3j:Array Value:=jCells 0 ⟨#[]⟩ none 0 0
theorem BoxJ3.three {W:World} {g:Nat} {k:Int} {x:ByteArray} {ak:Option Addr} {nk ck:Nat} (h:BoxJ3 W g (jCells k x ak nk ck)):W.cell? ⟨g,0,none⟩=some (.int .i64 k)∧W.cell? ⟨g,1,none⟩=some (.string x)∧W.cell? ⟨g,2,none⟩=some (.slice ak nk ck)∧W.frozen? ⟨g,0,none⟩=false∧W.frozen? ⟨g,1,none⟩=false∧W.frozen? ⟨g,2,none⟩=false∧g < W.heap.size:=
 ⟨(h.2 0 (by omega)).1,(h.2 1 (by omega)).1,(h.2 2 (by omega)).1,(h.2 0 (by omega)).2,(h.2 1 (by omega)).2,(h.2 2 (by omega)).2,h.1⟩
theorem jo_fin {S:Nat→Prop} {B B' g:Nat} {w w1 W':World} {v:Value} (hS:∀ k,S k→k < w.heap.size) (hg:w.heap.size≤g) (hv:JV (fun k=>S k∨g+1≤k) B w1 v) (hB:B≤B') (hb:Below w.heap.size w w1) (hC:Chg (fun k=>k=g) w1 W'):JO S B' w (.returned v) W':=
 ⟨v,rfl,(hv.chg hC (fun k hk e=>by rcases hk with hk|hk;have:=hS k hk;omega;omega)).imp (fun _ _ h=>h.imp id (fun h=>by omega)) hB,hb.trans (hC.below hb.size (fun i hi=>by omega))⟩
theorem rdM_one {S:Nat→Prop} {w:World} {y:ByteArray} {v:J} {c:Array Value} {g:Nat} (h:RdJ S w v c) (hn:y.size≤9223372036854775807) (hS:S g) (hc:∀ j u,(memCells y c)[j]?=some u→w.cell? ⟨g,j,none⟩=some u):RdM S w (some ⟨g,0,none⟩) 0 (.cons (sl y) v .nil):=by
 refine MsC.reads (S:=S) (b:=g) (o:=0) (fun _ _ h=>h) hS 0 (MsC.one (y:=y) h hn) fun j u hj=>?_
 rw [show 0+(0 * 4+j)=j from by omega]
 exact hc j u hj
theorem rdM_two {S:Nat→Prop} {w:World} {y z:ByteArray} {v u:J} {c d:Array Value} {g:Nat} (h:RdJ S w v c) (h2:RdJ S w u d) (hn:y.size≤9223372036854775807) (hm:z.size≤9223372036854775807) (hS:S g) (hc:∀ j q,(memCells y c++memCells z d)[j]?=some q→w.cell? ⟨g,j,none⟩=some q):RdM S w (some ⟨g,0,none⟩) 0 (.cons (sl y) v (.cons (sl z) u .nil)):=by
 have h3:=MsC.append (MsC.one (y:=y) h hn) (MsC.one (y:=z) h2 hm)
 refine MsC.reads (S:=S) (b:=g) (o:=0) (fun _ _ h=>h) hS 0 h3 fun j q hj=>?_
 rw [show 0+(0 * 4+j)=j from by omega]
 exact hc j q hj
set_option maxRecDepth 100000 in
set_option maxHeartbeats 4000000 in
theorem one25_calls (nm:ByteArray) (hn:Wh nm) (v:Value) (S:Nat→Prop) (B:Nat) (w:World) (hv:JV S B w v):Calls Tryz.prog 79 #[.string nm,v] w (JO S (2+nm.size+B) w):=by
 obtain ⟨k,x,ak,nk,ck,j,rfl,h1,h2,h3⟩:=hv
 have CO:=Lib.hid (fun a n c W=>obj25_calls a n c W)
 have HN:=Lib.hid hn
 have HR:=Lib.hid (h1.imp (S':=fun k=>S k∧k < w.heap.size) (fun k hk h=>⟨h,hk⟩))
 have HC:=Lib.hid h2
 have HW:=Lib.hid h3
 obtain ⟨W3,hW3⟩:∃ W,W=((w.alloc (.cells (jCells k x ak nk ck) 53)).alloc (.cells (jCells 0 ⟨#[]⟩ none 0 0) 53)).alloc (.cells #[.string nm,.int .i64 k,.string x,.slice ak nk ck] 90):=⟨_,rfl⟩
 have HB3:Hid (Below w.heap.size w W3):=Lib.hid (by rw [hW3];exact ((((Below.refl _ _).alloc (Nat.le_refl _) _).alloc (by simp) _).alloc (by simp;omega) _))
 have HX3:Hid (BoxJ3 W3 (w.heap.size+1) z3j):=Lib.hid (by rw [hW3];exact (BoxJ3.newG _ _ _ _ (by simp)).keep ((Below.refl _ _).alloc (Nat.le_refl _) _))
 have HCL:Hid (∀ j u,(memCells nm (jCells k x ak nk ck))[j]?=some u→W3.cell? ⟨w.heap.size+1+1,j,none⟩=some u):=Lib.hid fun j u h=>by
  have h9:=new_cells ((w.alloc (.cells (jCells k x ak nk ck) 53)).alloc (.cells (jCells 0 ⟨#[]⟩ none 0 0) 53)) #[.string nm,.int .i64 k,.string x,.slice ak nk ck] 90 (memCells nm (jCells k x ak nk ck)) rfl j u h
  rw [hW3]
  simpa using h9
 clear hn h1 h2 h3
 go_enter Tryz.func79,Tryz.ntmps79
 go_wp2_with fail
 refine (CO.out (some ⟨w.heap.size+1+1,0,none⟩) 1 1 _).mono ?_
 rintro e w1 ⟨rfl,hb⟩
 have hb:Below W3.heap.size W3 w1:=by rw [hW3];exact hb
 have hcell:∀ j u,(memCells nm (jCells k x ak nk ck))[j]?=some u→w1.cell? ⟨w.heap.size+1+1,j,none⟩=some u:=fun j u h=>cell_below hb (HCL.out j u h)
 have HBW:=Lib.hid (HB3.out.trans (hb.mono HB3.out.size))
 have HJ:Hid (JV (fun k=>(S k∧k < w.heap.size)∨w.heap.size+1+1≤k) (2+(nm.size+B)) w1 (.agg (jCells 7 ⟨#[]⟩ (some ⟨w.heap.size+1+1,0,none⟩) 1 1))):=Lib.hid (jv_obj (rdM_one ((HR.out.below HBW.out).imp (fun _ _ h=>.inl h)) HN.out.2 (.inr (by omega)) hcell) rfl (by omega) ⟨by simp,Nat.le_refl _⟩ (chkM_cons HN.out.b HC.out rfl) (by simp only [wtM,sl_len];have:=HW.out;omega))
 obtain ⟨c0,c1,c2,r0,r1,r2,l1⟩:=(HX3.out.keep hb).three
 clear hb hcell hW3
 go_wp2_with fail
 refine bodyPost_ret (v:=.agg (jCells 7 ⟨#[]⟩ (some ⟨w.heap.size+1+1,0,none⟩) 1 1)) (by simp [results,Tryz.results79,go_sem, *]) rfl ?_
 refine JO.imp (jo_fin (g:=w.heap.size+1) (S:=fun k=>S k∧k < w.heap.size) (fun _ h=>h.2) (by omega) HJ.out (Nat.le_refl _) HBW.out ?_) (fun _ h=>h.1) (by omega)
 iterate 3 (refine Chg.set2 ?_ (by exact rfl) _ _)
 exact Chg.refl _ _
set_option maxRecDepth 100000 in
set_option maxHeartbeats 4000000 in
theorem two25_calls (nm:ByteArray) (hn:Wh nm) (v:Value) (nm2:ByteArray) (hn2:Wh nm2) (v2:Value) (S:Nat→Prop) (B B2:Nat) (w:World) (hv:JV S B w v) (hv2:JV S B2 w v2):Calls Tryz.prog 80 #[.string nm,v,.string nm2,v2] w (JO S (2+nm.size+B+nm2.size+B2) w):=by
 obtain ⟨k,x,ak,nk,ck,j,rfl,h1,h2,h3⟩:=hv
 obtain ⟨k',x',ak',nk',ck',j',rfl,h1',h2',h3'⟩:=hv2
 have CO:=Lib.hid (fun a n c W=>obj25_calls a n c W)
 have HN:=Lib.hid hn
 have HR:=Lib.hid (h1.imp (S':=fun k=>S k∧k < w.heap.size) (fun k hk h=>⟨h,hk⟩))
 have HC:=Lib.hid h2
 have HW:=Lib.hid h3
 have HN2:=Lib.hid hn2
 have HR2:=Lib.hid (h1'.imp (S':=fun k=>S k∧k < w.heap.size) (fun k hk h=>⟨h,hk⟩))
 have HC2:=Lib.hid h2'
 have HW2:=Lib.hid h3'
 obtain ⟨W3,hW3⟩:∃ W,W=(((w.alloc (.cells (jCells k x ak nk ck) 53)).alloc (.cells (jCells k' x' ak' nk' ck') 53)).alloc (.cells (jCells 0 ⟨#[]⟩ none 0 0) 53)).alloc (.cells #[.string nm,.int .i64 k,.string x,.slice ak nk ck,.string nm2,.int .i64 k',.string x',.slice ak' nk' ck'] 90):=⟨_,rfl⟩
 have HB3:Hid (Below w.heap.size w W3):=Lib.hid (by rw [hW3];exact ((((Below.refl _ _).alloc (Nat.le_refl _) _).alloc (by simp) _).alloc (by simp;omega) _).alloc (by simp;omega) _)
 have HX3:Hid (BoxJ3 W3 (w.heap.size+1+1) z3j):=Lib.hid (by rw [hW3];exact (BoxJ3.newG _ _ _ _ (by simp)).keep ((Below.refl _ _).alloc (Nat.le_refl _) _))
 have HCL:Hid (∀ j u,(memCells nm (jCells k x ak nk ck)++memCells nm2 (jCells k' x' ak' nk' ck'))[j]?=some u→W3.cell? ⟨w.heap.size+1+1+1,j,none⟩=some u):=Lib.hid fun j u h=>by
  have h9:=new_cells (((w.alloc (.cells (jCells k x ak nk ck) 53)).alloc (.cells (jCells k' x' ak' nk' ck') 53)).alloc (.cells (jCells 0 ⟨#[]⟩ none 0 0) 53)) #[.string nm,.int .i64 k,.string x,.slice ak nk ck,.string nm2,.int .i64 k',.string x',.slice ak' nk' ck'] 90 (memCells nm (jCells k x ak nk ck)++memCells nm2 (jCells k' x' ak' nk' ck')) rfl j u h
  rw [hW3]
  simpa using h9
 clear hn h1 h2 h3 hn2 h1' h2' h3'
 go_enter Tryz.func80,Tryz.ntmps80
 go_wp2_with fail
 refine (CO.out (some ⟨w.heap.size+1+1+1,0,none⟩) 2 2 _).mono ?_
 rintro e w1 ⟨rfl,hb⟩
 have hb:Below W3.heap.size W3 w1:=by rw [hW3];exact hb
 have hcell:∀ j u,(memCells nm (jCells k x ak nk ck)++memCells nm2 (jCells k' x' ak' nk' ck'))[j]?=some u→w1.cell? ⟨w.heap.size+1+1+1,j,none⟩=some u:=fun j u h=>cell_below hb (HCL.out j u h)
 have HBW:=Lib.hid (HB3.out.trans (hb.mono HB3.out.size))
 have HJ:Hid (JV (fun k=>(S k∧k < w.heap.size)∨w.heap.size+1+1+1≤k) (2+(nm.size+B+nm2.size+B2)) w1 (.agg (jCells 7 ⟨#[]⟩ (some ⟨w.heap.size+1+1+1,0,none⟩) 2 2))):=Lib.hid (jv_obj (rdM_two ((HR.out.below HBW.out).imp (fun _ _ h=>.inl h)) ((HR2.out.below HBW.out).imp (fun _ _ h=>.inl h)) HN.out.2 HN2.out.2 (.inr (by omega)) hcell) rfl (by omega) ⟨by simp,Nat.le_refl _⟩ (chkM_cons HN.out.b HC.out (chkM_cons HN2.out.b HC2.out rfl)) (by simp only [wtM,sl_len];have:=HW.out;have:=HW2.out;omega))
 obtain ⟨c0,c1,c2,r0,r1,r2,l1⟩:=(HX3.out.keep hb).three
 clear hb hcell hW3
 go_wp2_with fail
 refine bodyPost_ret (v:=.agg (jCells 7 ⟨#[]⟩ (some ⟨w.heap.size+1+1+1,0,none⟩) 2 2)) (by simp [results,Tryz.results80,go_sem, *]) rfl ?_
 refine JO.imp (jo_fin (g:=w.heap.size+1+1) (S:=fun k=>S k∧k < w.heap.size) (fun _ h=>h.2) (by omega) HJ.out (Nat.le_refl _) HBW.out ?_) (fun _ h=>h.1) (by omega)
 iterate 3 (refine Chg.set2 ?_ (by exact rfl) _ _)
 exact Chg.refl _ _
def leV:List UInt8→Nat
 | []=>0
 | c::r=>(c.toNat - 48)+10 * leV r
def beV (l:List UInt8):Nat:=leV l.reverse
theorem leV_app:∀ a b:List UInt8,leV (a++b)=leV a+10 ^ a.length * leV b
 | [],b=>by simp [leV]
 | c::r,b=>by
  have e:10 * (10 ^ r.length * leV b)=10 ^ r.length * 10 * leV b:=by rw [← Nat.mul_assoc,Nat.mul_comm 10]
  simp only [List.cons_append,leV,leV_app r b,List.length_cons,Nat.pow_succ,Nat.mul_add]
  omega
theorem leV_digK:∀ k v:Nat,leV (digK k v)=v % 10 ^ k
 | 0,v=>by simp [digK,leV,Nat.mod_one]
 | k+1,v=>by
  have h:(UInt8.ofNat (48+v % 10)).toNat=48+v % 10:=by simp [UInt8.toNat_ofNat'];omega
  simp only [digK,leV,h,leV_digK k]
  rw [Nat.pow_succ,Nat.mul_comm (10 ^ k) 10,Nat.mod_mul]
  omega
theorem leV_limbD:∀ xs:List Nat,(∀ x ∈ xs,x < B8)→leV (limbD xs)=valL xs
 | [],_=>rfl
 | x::r,h=>by
  have e:limbD (x::r)=digK 8 x++limbD r:=by simp [limbD]
  have h1:=h x (by simp)
  rw [e,leV_app,leV_digK,digK_len,leV_limbD r (fun y hy=>h y (by simp [hy]))]
  unfold B8 at h1
  simp only [valL,B8]
  rw [show (10:Nat) ^ 8=100000000 by decide,Nat.mod_eq_of_lt h1]
theorem leV_rep:∀ k:Nat,leV (List.replicate k 48)=0
 | 0=>rfl
 | k+1=>by simp [List.replicate_succ,leV,leV_rep k]
theorem strip_rep (l:List UInt8):∃ k,l=strip l++List.replicate k 48:=by
 have h:=List.takeWhile_append_dropWhile (p:=(· == (48:UInt8))) (l:=l.reverse)
 have h1:=List.all_takeWhile (p:=(· == (48:UInt8))) (l:=l.reverse)
 have h2:l.reverse.takeWhile (· == (48:UInt8))=List.replicate (l.reverse.takeWhile (· == (48:UInt8))).length 48:=by
  refine List.eq_replicate_iff.2 ⟨rfl,fun c hc=>?_⟩
  have:=List.all_eq_true.1 h1 c hc
  simpa using this
 refine ⟨(l.reverse.takeWhile (· == (48:UInt8))).length,?_⟩
 have h3:=congrArg List.reverse h
 rw [List.reverse_append,List.reverse_reverse] at h3
 rw [h2,List.reverse_replicate] at h3
 unfold strip
 exact h3.symm
theorem leV_strip (l:List UInt8):leV (strip l)=leV l:=by
 obtain ⟨k,hk⟩:=strip_rep l
 have:=congrArg leV hk
 rw [leV_app,leV_rep] at this
 omega
theorem beV_strip (l:List UInt8):beV (strip l) * 10 ^ (l.length - (strip l).length)=beV l:=by
 obtain ⟨k,hk⟩:=strip_rep l
 have hl:=congrArg List.length hk
 rw [List.length_append,List.length_replicate] at hl
 have h2:beV l=10 ^ k * beV (strip l):=by
  have:=congrArg beV hk
  rw [this]
  unfold beV
  rw [List.reverse_append,List.reverse_replicate,leV_app,leV_rep,List.length_replicate]
  omega
 rw [h2,show l.length - (strip l).length=k by omega,Nat.mul_comm]
theorem beV_cons (c:UInt8) (r:List UInt8):beV (c::r)=(c.toNat - 48) * 10 ^ r.length+beV r:=by
 unfold beV
 rw [List.reverse_cons,leV_app,List.length_reverse]
 simp only [leV,Nat.mul_zero,Nat.add_zero]
 rw [Nat.mul_comm,Nat.add_comm]
theorem beV_nil:beV []=0:=rfl
def AllG (l:List UInt8):Prop:=∀ c ∈ l,dig c=true
theorem dig_le {c:UInt8} (h:dig c=true):48≤c.toNat∧c.toNat≤57:=by simpa [dig] using h
theorem beV_lt:∀ l:List UInt8,AllG l→beV l < 10 ^ l.length
 | [],_=>by simp [beV_nil]
 | c::r,h=>by
  have h1:=beV_lt r (fun x hx=>h x (by simp [hx]))
  have h2:=dig_le (h c (by simp))
  rw [beV_cons,List.length_cons,Nat.pow_succ]
  have:(c.toNat - 48) * 10 ^ r.length≤9 * 10 ^ r.length:=Nat.mul_le_mul_right _ (by omega)
  omega
theorem beV_pos {l:List UInt8} (h:AllG l) (h0:l≠[]) (h1:l.headD 0≠48):10 ^ (l.length - 1)≤beV l:=by
 cases l with
 | nil=>exact absurd rfl h0
 | cons c r=>
  have h2:=dig_le (h c (by simp))
  have h3:c.toNat≠48:=fun e=>h1 (by simp only [List.headD_cons];exact UInt8.toNat_inj.1 e)
  rw [beV_cons]
  have:1 * 10 ^ r.length≤(c.toNat - 48) * 10 ^ r.length:=Nat.mul_le_mul_right _ (by omega)
  simp only [List.length_cons,Nat.add_sub_cancel]
  omega
theorem beV_app (a b:List UInt8):beV (a++b)=beV a * 10 ^ b.length+beV b:=by
 unfold beV
 rw [List.reverse_append,leV_app,List.length_reverse,Nat.mul_comm,Nat.add_comm]
theorem pow_le10 {a b:Nat} (h:a≤b):10 ^ a≤10 ^ b:=Nat.pow_le_pow_right (by omega) h
theorem pow_add10 (a b:Nat):10 ^ (a+b)=10 ^ a * 10 ^ b:=Nat.pow_add _ _ _
theorem lex_le:∀ (a b:List UInt8) (N:Nat),AllG a→AllG b→a.length≤N→b.length≤N→Op.bytesLess a b=true→beV a * 10 ^ (N - a.length)≤beV b * 10 ^ (N - b.length)
 | _,[],N,_,_,_,_,h=>by simp [Op.bytesLess] at h
 | [],_::_,N,_,_,_,_,_=>by simp [beV_nil]
 | c::a,d::b,N,ha,hb,h1,h2,h=>by
  obtain ⟨M,rfl⟩:∃ M,N=M+1:=⟨N - 1,by simp only [List.length_cons] at h1;omega⟩
  simp only [List.length_cons] at h1 h2
  have hc:=dig_le (ha c (by simp))
  have hd:=dig_le (hb d (by simp))
  have ha':AllG a:=fun x hx=>ha x (by simp [hx])
  have hb':AllG b:=fun x hx=>hb x (by simp [hx])
  have e1:(c.toNat - 48) * 10 ^ a.length * 10 ^ (M - a.length)=(c.toNat - 48) * 10 ^ M:=by rw [Nat.mul_assoc,← pow_add10];congr 2;omega
  have e2:(d.toNat - 48) * 10 ^ b.length * 10 ^ (M - b.length)=(d.toNat - 48) * 10 ^ M:=by rw [Nat.mul_assoc,← pow_add10];congr 2;omega
  have e3:beV a * 10 ^ (M - a.length) < 10 ^ M:=by
   have:=Nat.mul_lt_mul_of_pos_right (beV_lt a ha') (Nat.pos_of_ne_zero (by simp:10 ^ (M - a.length)≠0))
   rwa [← pow_add10,show a.length+(M - a.length)=M by omega] at this
  rw [beV_cons,beV_cons,List.length_cons,List.length_cons,show M+1 - (a.length+1)=M - a.length by omega,show M+1 - (b.length+1)=M - b.length by omega,Nat.add_mul,Nat.add_mul,e1,e2]
  simp only [Op.bytesLess,Bool.or_eq_true,Bool.and_eq_true,decide_eq_true_eq,beq_iff_eq] at h
  rcases h with h|⟨rfl,h⟩
  ·have h':c.toNat < d.toNat:=UInt8.lt_iff_toNat_lt.1 h
   have:(c.toNat - 48+1) * 10 ^ M≤(d.toNat - 48) * 10 ^ M:=Nat.mul_le_mul_right _ (by omega)
   rw [Nat.add_mul] at this
   omega
  ·have:=lex_le a b M ha' hb' (by omega) (by omega) h
   omega
theorem lex_ge:∀ (a b:List UInt8) (N:Nat),AllG a→AllG b→a.length≤N→b.length≤N→Op.bytesLess a b=false→beV b * 10 ^ (N - b.length)≤beV a * 10 ^ (N - a.length)
 | _,[],N,_,_,_,_,h=>by simp [beV_nil]
 | [],_::_,N,_,_,_,_,h=>by simp [Op.bytesLess] at h
 | c::a,d::b,N,ha,hb,h1,h2,h=>by
  by_cases hcd:c=d
  ·subst hcd
   obtain ⟨M,rfl⟩:∃ M,N=M+1:=⟨N - 1,by simp only [List.length_cons] at h1;omega⟩
   simp only [List.length_cons] at h1 h2
   have ha':AllG a:=fun x hx=>ha x (by simp [hx])
   have hb':AllG b:=fun x hx=>hb x (by simp [hx])
   have e1:(c.toNat - 48) * 10 ^ a.length * 10 ^ (M - a.length)=(c.toNat - 48) * 10 ^ M:=by rw [Nat.mul_assoc,← pow_add10];congr 2;omega
   have e2:(c.toNat - 48) * 10 ^ b.length * 10 ^ (M - b.length)=(c.toNat - 48) * 10 ^ M:=by rw [Nat.mul_assoc,← pow_add10];congr 2;omega
   rw [beV_cons,beV_cons,List.length_cons,List.length_cons,show M+1 - (a.length+1)=M - a.length by omega,show M+1 - (b.length+1)=M - b.length by omega,Nat.add_mul,Nat.add_mul,e1,e2]
   have h':Op.bytesLess a b=false:=by simpa [Op.bytesLess] using h
   have:=lex_ge a b M ha' hb' (by omega) (by omega) h'
   omega
  ·have h':Op.bytesLess (d::b) (c::a)=true:=by
    have h3:¬ c < d:=by
     intro h4
     simp [Op.bytesLess,h4] at h
    have h4:d.toNat < c.toNat:=by
     have h5:¬ c.toNat < d.toNat:=fun h6=>h3 (UInt8.lt_iff_toNat_lt.2 h6)
     have h6:c.toNat≠d.toNat:=fun e=>hcd (UInt8.toNat_inj.1 e)
     omega
    have h7:d < c:=UInt8.lt_iff_toNat_lt.2 h4
    simp [Op.bytesLess,h7]
   exact lex_le _ _ N hb ha h2 h1 h'
def RV (d:List UInt8) (x:Int):Nat:=beV d * 10 ^ (x - d.length+3000).toNat
theorem RV_at {d:List UInt8} {x:Int} {N:Nat} (h1:d.length≤N) (h2:(N:Int)≤x+3000):RV d x=beV d * 10 ^ (N - d.length) * 10 ^ (x - N+3000).toNat:=by
 unfold RV
 rw [Nat.mul_assoc,← pow_add10]
 congr 2
 omega
theorem RV_strip {l:List UInt8} {x:Int} (h:(l.length:Int)≤x+3000):RV (strip l) x=RV l x:=by
 have:=strip_le l
 rw [RV_at (N:=l.length) this h,beV_strip]
 rfl
theorem RV_lt {d:List UInt8} {x:Int} (hd:AllG d) (h:(d.length:Int)≤x+3000):RV d x < 10 ^ (x+3000).toNat:=by
 have:=Nat.mul_lt_mul_of_pos_right (beV_lt d hd) (Nat.pos_of_ne_zero (by simp:10 ^ (x - d.length+3000).toNat≠0))
 rw [← pow_add10,show d.length+(x - d.length+3000).toNat=(x+3000).toNat by omega] at this
 exact this
theorem RV_ge {d:List UInt8} {x:Int} (hd:AllG d) (h0:d≠[]) (h1:d.headD 0≠48) (h:(d.length:Int)≤x+3000):10 ^ (x - 1+3000).toNat≤RV d x:=by
 have h2:0 < d.length:=List.length_pos_iff.2 h0
 have:=Nat.mul_le_mul_right (10 ^ (x - d.length+3000).toNat) (beV_pos hd h0 h1)
 rw [← pow_add10,show d.length - 1+(x - d.length+3000).toNat=(x - 1+3000).toNat by omega] at this
 exact this
theorem RV_take {d:List UInt8} {x:Int} {n:Nat} (hd:AllG d) (hn:n≤d.length) (h:(d.length:Int)≤x+3000):RV (d.take n) x≤RV d x∧RV d x < RV (d.take n) x+10 ^ (x - n+3000).toNat:=by
 have hl:(d.take n).length=n:=by simp;omega
 have hl2:(d.drop n).length=d.length - n:=by simp
 have e:beV d=beV (d.take n) * 10 ^ (d.length - n)+beV (d.drop n):=by
  conv=>lhs;rw [← List.take_append_drop n d]
  rw [beV_app,hl2]
 have h3:=beV_lt (d.drop n) (fun c hc=>hd c (List.mem_of_mem_drop hc))
 rw [hl2] at h3
 rw [RV_at (d:=d.take n) (N:=d.length) (by rw [hl];exact hn) h,hl]
 have e2:RV d x=beV d * 10 ^ (x - d.length+3000).toNat:=rfl
 have e3:10 ^ (x - n+3000).toNat=10 ^ (d.length - n) * 10 ^ (x - d.length+3000).toNat:=by rw [← pow_add10];congr 1;omega
 rw [e2,e,e3,Nat.add_mul]
 generalize 10 ^ (x - d.length+3000).toNat=Z at *
 have h4:beV (d.drop n) * Z≤10 ^ (d.length - n) * Z:=Nat.mul_le_mul_right _ (by omega)
 have hZ:Z≠0∨Z=0:=by omega
 refine ⟨by omega,?_⟩
 rcases Nat.eq_zero_or_pos Z with h0|h0
 ·exfalso
  have:(10:Nat) ^ (x - n+3000).toNat≠0:=by simp
  rw [e3,h0] at this
  simp at this
 ·have h5:beV (d.drop n) * Z < 10 ^ (d.length - n) * Z:=Nat.mul_lt_mul_of_pos_right h3 h0
  omega
def cmpR (a:List UInt8) (x:Int) (b:List UInt8) (y:Int):Int:=if x < y∨(x=y∧Op.bytesLess a b=true) then -1 else if x=y∧a=b then 0 else 1
theorem cmp_lt {a b:List UInt8} {x y:Int} (ha:AllG a) (hb:AllG b) (h0:a≠[]) (h1:a.headD 0≠48) (la:a.length≤960) (lb:b.length≤960) (hx:-1200≤x) (hy:-1200≤y) (h:RV a x < RV b y):cmpR a x b y=-1:=by
 unfold cmpR
 rw [if_pos]
 by_cases hxy:x < y
 ·exact .inl hxy
 ·by_cases he:x=y
  ·subst he
   refine .inr ⟨rfl,?_⟩
   cases hl:Op.bytesLess a b with
   | true=>rfl
   | false=>
    have:=lex_ge a b 960 ha hb la lb hl
    rw [RV_at (N:=960) la (by omega),RV_at (N:=960) lb (by omega)] at h
    have:=Nat.mul_le_mul_right (10 ^ (x - (960:Nat)+3000).toNat) this
    omega
  ·have h2:=RV_lt (d:=b) (x:=y) hb (by omega)
   have h3:=RV_ge (d:=a) (x:=x) ha h0 h1 (by omega)
   have h4:10 ^ (y+3000).toNat≤10 ^ (x - 1+3000).toNat:=pow_le10 (by omega)
   omega
theorem cmp_gt {a b:List UInt8} {x y:Int} (ha:AllG a) (hb:AllG b) (h0:b≠[]) (h1:b.headD 0≠48) (la:a.length≤960) (lb:b.length≤960) (hx:-1200≤x) (hy:-1200≤y) (h:RV b y < RV a x):cmpR a x b y=1:=by
 unfold cmpR
 rw [if_neg,if_neg]
 ·rintro ⟨rfl,rfl⟩;omega
 ·rintro (hxy | ⟨rfl,hl⟩)
  ·have h2:=RV_lt (d:=a) (x:=x) ha (by omega)
   have h3:=RV_ge (d:=b) (x:=y) hb h0 h1 (by omega)
   have h4:10 ^ (x+3000).toNat≤10 ^ (y - 1+3000).toNat:=pow_le10 (by omega)
   omega
  ·have:=lex_le a b 960 ha hb la lb hl
   rw [RV_at (N:=960) la (by omega),RV_at (N:=960) lb (by omega)] at h
   have:=Nat.mul_le_mul_right (10 ^ (x - (960:Nat)+3000).toNat) this
   omega
theorem key_low {P G u A B C m:Nat} (hP:0 < P) (hG:0 < G) (h1:A * P=4 * m * G) (h2:B * P+G≤4 * m * G) (hm:m < 9007199254740992) (h3:A < C+u) (h4:u * 100000000000000000≤A):B < C:=by
 refine Classical.byContradiction fun hn=>?_
 have h5:A < B+u:=by omega
 have h6:A * P < (B+u) * P:=Nat.mul_lt_mul_of_pos_right h5 hP
 rw [Nat.add_mul,h1] at h6
 have h8:=Nat.mul_le_mul_right P h4
 rw [h1,Nat.mul_right_comm] at h8
 have h9:4 * m * G < 36028797018963968 * G:=Nat.mul_lt_mul_of_pos_right (by omega) hG
 omega
theorem key_high {P G A B m:Nat} (hP:0 < P) (hG:0 < G) (h1:A * P=4 * m * G) (h2:B * P=(4 * m+2) * G):A < B:=by
 refine Classical.byContradiction fun hn=>?_
 have:=Nat.mul_le_mul_right P (show B≤A by omega)
 rw [h1,h2,Nat.add_mul] at this
 omega
end Go.Proofs.YtmooaepbdmengaaGreatDoor
