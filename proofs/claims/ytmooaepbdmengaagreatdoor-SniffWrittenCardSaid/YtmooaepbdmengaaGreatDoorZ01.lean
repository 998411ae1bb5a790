/- Parts of the proof of SniffWritten: Lib, FrLib, Own, App, Utf1, Utf2, Utf4, Utf5, Jumps, Utf6, Utf7, Utf8, Utf9. -/
import Derived.Test.YtmooaepbdmengaaGreatDoorRows
import Derived.WalkKit
import Derived.ProofKit
import Derived.OpenShut
import Derived.ShutString
import Derived.ChangeOld
import Derived.Below
import Derived.Lib.Hide
import Derived.IntWalk
import Derived.BigQuiet
import Derived.Deep.QuietTactic
import Derived.Handy
import Derived.WalkLawsBesides
import Derived.WalkSpells
import Derived.PlainAid
import Derived.Deep.AppendLies
import Derived.Maps.AppendAt
import Derived.RegionTactic
import Derived.Scope
import Derived.ScopeJumps
import Derived.Laws.BitsAllLaws
namespace Go.Proofs.YtmooaepbdmengaaGreatDoor
open Go.RowKit
set_option linter.unusedVariables false
set_option linter.unusedSimpArgs false
def RdF (w:World) (a:Option Addr) (len:Nat) (f:Nat→Value):Prop:=
 ∀ i,i < len→∃ b o,a=some ⟨b,o,none⟩∧w.cell? ⟨b,o+i,none⟩=some (f i)
def bAt (l:List UInt8) (i:Nat):Nat:=(l.getD i 0).toNat
theorem bAt_lt (l:List UInt8) (i:Nat):bAt l i < 256:=UInt8.toNat_lt _
theorem bAt_bd (l:List UInt8) (i:Nat):(bAt l i:Int) < 256:=by have:=bAt_lt l i;omega
def RdB (w:World) (a:Option Addr) (len:Nat) (l:List UInt8):Prop:=
 l.length=len∧len≤9223372036854775807∧RdF w a len fun i=>.int .u8 (bAt l i:Nat)
def RdI (k:IntKind) (w:World) (a:Option Addr) (len:Nat) (l:List Int):Prop:=
 l.length=len∧len≤9223372036854775807∧(∀ n ∈ l,(Lit.int k n).wf=true)∧RdF w a len fun i=>.int k (l.getD i 0)
theorem cell_block {w:World} {p:Addr} {v:Value} (h:w.cell? p=some v):p.block < w.heap.size:=World.block_lt_of_cell? w p h
theorem RdF.keep {w w':World} {a len f} {B:Nat} (h:RdF w a len f) (hb:Below B w w') (hB:w.heap.size≤B):RdF w' a len f:=by
 intro i hi
 obtain ⟨b,o,ha,hc⟩:=h i hi
 have hl:=cell_block hc
 exact ⟨b,o,ha,by rw [hb.cell (p:=⟨b,o+i,none⟩) (by simp at hl ⊢;omega)];exact hc⟩
theorem RdB.keep {w w':World} {a len l} (h:RdB w a len l) (hb:Below w.heap.size w w'):RdB w' a len l:=⟨h.1,h.2.1,h.2.2.keep hb (Nat.le_refl _)⟩
theorem RdB.nil (w:World) (a:Option Addr):RdB w a 0 []:=⟨rfl,by omega,fun i hi=>absurd hi (Nat.not_lt_zero i)⟩
theorem RdB.at {w:World} {a len l} (h:RdB w a len l) (i:Nat) (hi:i < len):∃ b o,a=some ⟨b,o,none⟩∧w.cell? ⟨b,o+i,none⟩=some (.int .u8 (bAt l i:Nat)):=h.2.2 i hi
theorem below_drewN (w:World) (n:Nat) (B:Nat):Below B w (w.drewN n):=⟨rfl,rfl,rfl,Nat.le_refl _,fun _ _=>rfl⟩
theorem u8_lt (x:UInt8):(x.toNat:Int) < 256:=by have:=x.toNat_lt;omega
def le:List UInt8→Nat
 | []=>0
 | b::r=>b.toNat+256 * le r
theorem drop_getD {α} (l:List α) (d:α) (k:Nat) (h:k < l.length):l.drop k=l.getD k d::l.drop (k+1):=by
 rw [List.drop_eq_getElem_cons h];simp [List.getD,h]
theorem getD_drop {α} (l:List α) (d:α) (a i:Nat):(l.drop a).getD i d=l.getD (a+i) d:=by simp [List.getD]
theorem getD_take {α} (l:List α) (d:α) (n i:Nat) (h:i < n):(l.take n).getD i d=l.getD i d:=by simp [List.getD,h]
theorem wrap_u64_of {n:Int} (h0:0≤n) (h1:n < 18446744073709551616):IntKind.u64.wrap n=n:=by simp [IntKind.wrap,IntKind.bits,IntKind.signed];omega
def okSize:Nat:=18446744073709551616
theorem ownsRow_weaken {w:World} {B B':Nat} {e size v n xs} (h:w.ownsRow B e size v n xs) (hB:B'≤B):w.ownsRow B' e size v n xs:=by
 refine ⟨h.1,?_⟩
 rcases h.2 with h2|⟨g,cap,cur,hv,hg,r⟩
 ·exact .inl h2
 ·exact .inr ⟨g,cap,cur,hv,by omega,r⟩
theorem Below_drewN {a w:World} {B k:Nat} (h:Below B a w):Below B a (w.drewN k):=h.trans (below_drewN _ _ _)
theorem cell_below {W w':World} {p:Addr} {v:Value} (hb:Below W.heap.size W w') (h:W.cell? p=some v):w'.cell? p=some v:=(hb.cell (cell_block h)).trans h
def RdG (w:World) (a:Option Addr) (len size:Nat) (f:Nat→Nat→Value):Prop:=
 ∀ i,i < len→∃ b o,a=some ⟨b,o,none⟩∧∀ j,j < size→w.cell? ⟨b,o+(i * size+j),none⟩=some (f i j)
theorem owns_reads {w:World} {B e size n:Nat} {v:Value} {xs:List Value} (h:w.ownsRow B e size v n xs) :
  ∃ a cap,v=.slice a n cap∧n≤9223372036854775807∧RdG w a n size fun i j=>xs.getD (i * size+j) undef:=by
 rcases h.2 with ⟨rfl,rfl⟩|⟨g,cap,cur,rfl,hb,hg,hnc,hcm,hcs,htake⟩
 ·exact ⟨none,0,rfl,by omega,fun i hi=>absurd hi (Nat.not_lt_zero i)⟩
 ·refine ⟨some ⟨g,0,none⟩,cap,rfl,by unfold maxLen at hcm;omega,fun i hi=>⟨g,0,rfl,fun j hj=>?_⟩⟩
  have hlt:i * size+j < n * size:=by
   calc i * size+j < i * size+size:=by omega
    _=(i+1) * size:=by rw [Nat.add_mul,Nat.one_mul]
    _≤n * size:=Nat.mul_le_mul_right _ hi
  rw [Nat.zero_add,h.cellAt _ hlt]
  have:i * size+j < xs.length:=by rw [h.1];exact hlt
  show _=some (xs.getD (i * size+j) undef)
  rw [List.getD_eq_getElem?_getD,List.getElem?_eq_getElem this]
  rfl
def byteCells (bs:List UInt8):List Value:=bs.map fun b=>.int .u8 (b.toNat:Nat)
theorem byteCells_append (a b:List UInt8):byteCells (a++b)=byteCells a++byteCells b:=by simp [byteCells]
theorem byteCells_length (a:List UInt8):(byteCells a).length=a.length:=by simp [byteCells]
theorem byteCells_one (a:List UInt8):∀ u ∈ byteCells a,u.oneCell'=true:=by
 intro u hu
 simp only [byteCells,List.mem_map] at hu
 obtain ⟨b,_,rfl⟩:=hu
 rfl
def OwnB (w:World) (B:Nat) (v:Value) (bs:List UInt8):Prop:=w.ownsRow B 5 1 v bs.length (byteCells bs)
theorem infoU8:(Tryz.prog.info? 5).map (fun i=>(i.zero,i.size,i.bytes))=some (some (.int .u8 0),1,1):=by kernel_rfl
theorem byteCells_at (bs:List UInt8) (i:Nat) (h:i < bs.length):(byteCells bs).getD i undef=.int .u8 (bAt bs i:Nat):=by
 simp only [byteCells,bAt,List.getD_eq_getElem?_getD,List.getElem?_map,List.getElem?_eq_getElem h]
 rfl
theorem OwnB.reads {w:World} {B:Nat} {v:Value} {bs:List UInt8} (h:OwnB w B v bs):∃ a cap,v=.slice a bs.length cap∧RdB w a bs.length bs:=by
 obtain ⟨a,cap,rfl,hm,hg⟩:=owns_reads h
 refine ⟨a,cap,rfl,rfl,hm,fun i hi=>?_⟩
 obtain ⟨b,o,ha,hc⟩:=hg i hi
 refine ⟨b,o,ha,?_⟩
 have:=hc 0 (by omega)
 rw [Nat.mul_one,Nat.add_zero] at this
 rw [this]
 show some ((byteCells bs).getD (i * 1+0) undef)=_
 rw [Nat.mul_one,Nat.add_zero,byteCells_at bs i hi]
theorem OwnB.weaken {w:World} {B B':Nat} {v:Value} {bs:List UInt8} (h:OwnB w B v bs) (hB:B'≤B):OwnB w B' v bs:=ownsRow_weaken h hB
structure Chg (S:Nat→Prop) (w w':World):Prop where
 os:w'.os=w.os
 tape:w'.tape=w.tape
 output:w'.output=w.output
 size:w.heap.size≤w'.heap.size
 block:∀ k,k < w.heap.size→¬ S k→w'.heap[k]?=w.heap[k]?
theorem Chg.refl (S:Nat→Prop) (w:World):Chg S w w:=⟨rfl,rfl,rfl,Nat.le_refl _,fun _ _ _=>rfl⟩
theorem Chg.trans {S S':Nat→Prop} {a b c:World} (h:Chg S a b) (k:Chg S' b c) (hs:∀ i,i < a.heap.size→S' i→S i):Chg S a c:=
 ⟨k.os.trans h.os,k.tape.trans h.tape,k.output.trans h.output,Nat.le_trans h.size k.size,fun i hi hn=>(k.block i (Nat.lt_of_lt_of_le hi h.size) (fun x=>hn (hs i hi x))).trans (h.block i hi hn)⟩
theorem Chg.weaken {S S':Nat→Prop} {a b:World} (h:Chg S a b) (hs:∀ i,i < a.heap.size→S i→S' i):Chg S' a b:=⟨h.os,h.tape,h.output,h.size,fun i hi hn=>h.block i hi (fun x=>hn (hs i hi x))⟩
theorem Chg.below {S:Nat→Prop} {a b:World} {B:Nat} (h:Chg S a b) (hB:B≤a.heap.size) (hs:∀ i,S i→B≤i):Below B a b:=
 ⟨h.os,h.tape,h.output,h.size,fun k hk=>h.block k (by omega) (fun x=>by have:=hs k x;omega)⟩
theorem Chg.of_below {S:Nat→Prop} {a b:World} (h:Below a.heap.size a b):Chg S a b:=⟨h.os,h.tape,h.output,h.size,fun k hk _=>h.block k hk⟩
theorem Chg.cell {S:Nat→Prop} {a b:World} (h:Chg S a b) {p:Addr} (hp:¬ S p.block) {v:Value} (hv:a.cell? p=some v):b.cell? p=some v:=
 (World.cell?_of_block (w:=a) (h.block p.block (cell_block hv) hp)).trans hv
theorem Chg.alloc {S:Nat→Prop} {a b:World} (h:Chg S a b) (o:Obj):Chg S a (b.alloc o):=h.trans (Chg.of_below (S:=fun _=>False) ((Below.refl _ _).alloc (Nat.le_refl _) o)) (fun _ _ h=>h.elim)
theorem Chg.drew {S:Nat→Prop} {a b:World} (h:Chg S a b):Chg S a b.drew:=⟨h.os,h.tape,h.output,h.size,h.block⟩
theorem Chg.setCell {S:Nat→Prop} {a b:World} (h:Chg S a b) {p:Addr} (hp:p.block < a.heap.size→S p.block) (u:Value):Chg S a (b.setCell p u):=by
 refine h.trans (S':=fun k=>k=p.block) ⟨rfl,rfl,rfl,by simp [World.setCell],fun k hk hn=>Below.heap_setCell _ _ _ _ hn⟩ ?_
 rintro i hi rfl
 exact hp hi
theorem RdB.chg {S:Nat→Prop} {w w':World} {a len l} (h:RdB w a len l) (hc:Chg S w w') (hv:∀ p,a=some p→¬ S p.block):RdB w' a len l:=by
 refine ⟨h.1,h.2.1,fun i hi=>?_⟩
 obtain ⟨b,o,ha,hcell⟩:=h.2.2 i hi
 exact ⟨b,o,ha,hc.cell (p:=⟨b,o+i,none⟩) (hv ⟨b,o,none⟩ ha) hcell⟩
def Src (w:World) (sv:Value) (m size:Nat) (news:List Value):Prop:=
 (sv=.slice none 0 0∧m=0∧news=[]) ∨
 ∃ ad c,sv=.slice (some ad) m c∧news.length=m * size∧(∀ j u,news[j]?=some u→w.cell? (ad.add j)=some u)∧∀ u ∈ news,u.oneCell'=true
def AppF (w w':World) (v v':Value):Prop:=
 w.grownBy w' v.ownBlock∧(v'.ownBlock=v.ownBlock∨v'.ownBlock=some w.heap.size)
theorem app_run {P:Program} (w:World) {t:TypeId} (ty:TypeId) {e:TypeId} {z:Value} {size bytes:Nat} (ht:P.underlying t=some (.slice e))
  (hinfo:(P.info? e).map (fun i=>(i.zero,i.size,i.bytes))=some (some z,size,bytes)) (hzs:z.cells.size=size) (hsz:0 < size)
  {B:Nat} {v:Value} {n:Nat} {xs:List Value} (hown:w.ownsRow B e size v n xs) {sv:Value} {m:Nat} {news:List Value} (hsrc:Src w sv m size news)
  (h63:n+m≤maxLen) (hbytes:(n+m) * bytes≤140737488355328) (hbase:B≤w.heap.size) :
  ∃ v' w',(Builtin.append_ #[t,t] ty #[v,sv]).run P w=.ok v' w'∧w'.ownsRow B e size v' (n+m) (xs++news)∧AppF w w' v v':=by
 obtain ⟨i0,hi,hz0,hz1,hz2⟩:=info_parts hinfo
 rcases hsrc with ⟨rfl,rfl,rfl⟩|⟨ad,c,rfl,hl,hn,h1⟩
 ·refine ⟨v,w,run_append_owned_none (P:=P) (w:=w) B t ty e i0 size ht hi v n xs hown,by simpa using hown,⟨rfl,rfl,rfl,Nat.le_refl _,fun _ _ _=>rfl⟩,.inl rfl⟩
 ·obtain ⟨v',w',hr,h2,h3,_,h5⟩:=run_append_own_at (P:=P) w B t ty e i0 z size bytes ht hi hz0 hz1 hz2 hzs hsz v n xs hown ad m c news hl hn h1 h63 hbytes hbase
  exact ⟨v',w',hr,h2,h3,h5⟩
theorem wp_app {P:Program} {w:World} {t e:TypeId} {z:Value} {size bytes:Nat} (ht:P.underlying t=some (.slice e))
  (hinfo:(P.info? e).map (fun i=>(i.zero,i.size,i.bytes))=some (some z,size,bytes)) (hzs:z.cells.size=size) (hsz:0 < size)
  {o:Oper} {a:Act} {K:Act→World→Prop} {Q:Exit→Act→World→Prop} (s x:Operand)
  (ho:o.op=.call { callee:=.builtin .append,args:=#[s,x],argTypes:=#[t,t] })
  {B:Nat} {v:Value} {n:Nat} {xs:List Value} (hs:a.eval s=v) (hown:w.ownsRow B e size v n xs) {sv:Value} {m:Nat} {news:List Value} (hx:a.eval x=sv) (hsrc:Src w sv m size news)
  (h63:n+m≤maxLen) (hbytes:(n+m) * bytes≤140737488355328) (hbase:B≤w.heap.size)
  (h:∀ v' w',w'.ownsRow B e size v' (n+m) (xs++news)→AppF w w' v v'→K (a.put o.dst v') w'):o.wp P a w K Q:=by
 obtain ⟨v',w',hr,h2,h3⟩:=app_run (P:=P) w o.type ht hinfo hzs hsz hown hsrc h63 hbytes hbase
 unfold Oper.wp execOp
 simp only [ho,resolve,invoke,builtin,Sem.run_bind,Sem.run_pure,Result.andThen_ok,List.map_toArray,List.map_cons,List.map_nil,hs,hx,hr]
 exact h v' w' h2 h3
def SrcB (w:World) (sv:Value) (l:List UInt8):Prop:=∃ a m c,sv=.slice a m c∧RdB w a m l∧(a=none→c=0)
theorem SrcB.src {w:World} {sv:Value} {l:List UInt8} (h:SrcB w sv l):Src w sv l.length 1 (byteCells l):=by
 obtain ⟨a,m,c,rfl,hr,hc⟩:=h
 cases a with
 | none=>
  have:=hc rfl
  subst this
  have hm:m=0:=by
   rcases Nat.eq_zero_or_pos m with h|h
   ·exact h
   ·obtain ⟨b,o,ha,_⟩:=hr.at 0 h;simp at ha
  subst hm
  have:l=[]:=List.eq_nil_of_length_eq_zero hr.1
  subst this
  exact .inl ⟨rfl,rfl,rfl⟩
 | some ad=>
  refine .inr ⟨ad,c,by rw [hr.1],by rw [byteCells_length];omega,fun j u hj=>?_,byteCells_one l⟩
  have hlt:j < l.length:=by
   have:=(List.getElem?_eq_some_iff.1 hj).1
   rwa [byteCells_length] at this
  obtain ⟨b,o,ha,hcell⟩:=hr.at j (by rw [← hr.1];exact hlt)
  simp only [Option.some.injEq] at ha
  subst ha
  have e:=byteCells_at l j hlt
  rw [List.getD_eq_getElem?_getD,hj] at e
  have ea:(⟨b,o,none⟩:Addr).add j=⟨b,o+j,none⟩:=by unfold Addr.add;split<;>simp_all
  rw [ea,hcell]
  exact congrArg some e.symm
theorem SrcB.keep {w w':World} {sv l} (h:SrcB w sv l) (hb:Below w.heap.size w w'):SrcB w' sv l:=by
 obtain ⟨a,m,c,e,hr,hc⟩:=h;exact ⟨a,m,c,e,hr.keep hb,hc⟩
theorem OwnB.srcB {w:World} {B:Nat} {v:Value} {bs:List UInt8} (h:OwnB w B v bs):SrcB w v bs:=by
 obtain ⟨a,cap,rfl,hr⟩:=h.reads
 refine ⟨a,_,cap,rfl,hr,?_⟩
 rintro rfl
 rcases h.2 with ⟨e,_⟩|⟨g,cp,cur,e,_⟩
 ·simp only [Value.slice.injEq] at e;exact e.2.2
 ·simp at e
theorem srcB_one (w:World) (x:Nat) (hx:x < 256):SrcB (w.alloc (.cells #[.int .u8 (x:Nat)] 5)) (.slice (some ⟨w.heap.size,0,none⟩) 1 1) [UInt8.ofNat x]:=by
 refine ⟨some ⟨w.heap.size,0,none⟩,1,1,rfl,⟨rfl,by omega,fun i hi=>⟨w.heap.size,0,rfl,?_⟩⟩,by simp⟩
 obtain rfl:i=0:=by omega
 have:x % 256=x:=by omega
 simp [bAt,this]
theorem wp_appB {w:World} {o:Oper} {a:Act} {K:Act→World→Prop} {Q:Exit→Act→World→Prop} (s x:Operand)
  (ho:o.op=.call { callee:=.builtin .append,args:=#[s,x],argTypes:=#[23,23] })
  {B:Nat} {v:Value} {bs:List UInt8} (hs:a.eval s=v) (hown:OwnB w B v bs) {sv:Value} {l:List UInt8} (hx:a.eval x=sv) (hsrc:SrcB w sv l)
  (hb:bs.length+l.length≤100000000000) (hbase:B≤w.heap.size)
  (h:∀ v' w',OwnB w' B v' (bs++l)→AppF w w' v v'→K (a.put o.dst v') w'):o.wp Tryz.prog a w K Q:=
 wp_app Tryz.underlying23 infoU8 rfl (by omega) s x ho hs hown hx hsrc.src (by unfold maxLen;omega) (by omega) hbase
  fun v' w' h1 h2=>h v' w' (by unfold OwnB;rw [byteCells_append,List.length_append];exact h1) h2
theorem wpList_appB {w:World} {ops:Array Oper} {rest:List Oper} {o:Oper} {a:Act} {Q:Exit→Act→World→Prop} (hgd:o.guard=none) (s x:Operand)
  (ho:o.op=.call { callee:=.builtin .append,args:=#[s,x],argTypes:=#[23,23] })
  {B:Nat} {v:Value} {bs:List UInt8} (hs:a.eval s=v) (hown:OwnB w B v bs) {sv:Value} {l:List UInt8} (hx:a.eval x=sv) (hsrc:SrcB w sv l)
  (hb:bs.length+l.length≤100000000000) (hbase:B≤w.heap.size)
  (h:∀ v' w',OwnB w' B v' (bs++l)→AppF w w' v v'→wpList Tryz.prog ops Q rest (a.put o.dst v') w'):wpList Tryz.prog ops Q (o::rest) a w:=
 wpList_plain hgd fun _ hK=>wp_appB s x ho hs hown hx hsrc hb hbase fun v' w' h1 h2=>hK _ _ (h v' w' h1 h2)
theorem step_appB {w:World} {ops:Array Oper} {o:Oper} {a:Act} {K:Act→World→Prop} {Q:Exit→Act→World→Prop} {E:Prop} (hgd:o.guard=none) (s x:Operand)
  (ho:o.op=.call { callee:=.builtin .append,args:=#[s,x],argTypes:=#[23,23] })
  {B:Nat} {v:Value} {bs:List UInt8} (hs:a.eval s=v) (hown:OwnB w B v bs) {sv:Value} {l:List UInt8} (hx:a.eval x=sv) (hsrc:SrcB w sv l)
  (hb:bs.length+l.length≤100000000000) (hbase:B≤w.heap.size)
  (h:∀ v' w',OwnB w' B v' (bs++l)→AppF w w' v v'→K (a.put o.dst v') w'):if Region.wanted o (yielded ops a.tmps)=true then Oper.wp Tryz.prog o a w K Q else E:=by
 have hw:Region.wanted o (yielded ops a.tmps)=true:=by simp [Region.wanted,hgd]
 rw [if_pos hw]
 exact wp_appB s x ho hs hown hx hsrc hb hbase h
theorem wpList_app {P:Program} {w:World} {t e:TypeId} {z:Value} {size bytes:Nat} (ht:P.underlying t=some (.slice e))
  (hinfo:(P.info? e).map (fun i=>(i.zero,i.size,i.bytes))=some (some z,size,bytes)) (hzs:z.cells.size=size) (hsz:0 < size)
  {ops:Array Oper} {rest:List Oper} {o:Oper} {a:Act} {Q:Exit→Act→World→Prop} (hgd:o.guard=none) (s x:Operand)
  (ho:o.op=.call { callee:=.builtin .append,args:=#[s,x],argTypes:=#[t,t] })
  {B:Nat} {v:Value} {n:Nat} {xs:List Value} (hs:a.eval s=v) (hown:w.ownsRow B e size v n xs) {sv:Value} {m:Nat} {news:List Value} (hx:a.eval x=sv) (hsrc:Src w sv m size news)
  (h63:n+m≤maxLen) (hbytes:(n+m) * bytes≤140737488355328) (hbase:B≤w.heap.size)
  (h:∀ v' w',w'.ownsRow B e size v' (n+m) (xs++news)→AppF w w' v v'→wpList P ops Q rest (a.put o.dst v') w'):wpList P ops Q (o::rest) a w:=
 wpList_plain hgd fun _ hK=>wp_app ht hinfo hzs hsz s x ho hs hown hx hsrc h63 hbytes hbase fun v' w' h1 h2=>hK _ _ (h v' w' h1 h2)
theorem step_app {P:Program} {w:World} {t e:TypeId} {z:Value} {size bytes:Nat} (ht:P.underlying t=some (.slice e))
  (hinfo:(P.info? e).map (fun i=>(i.zero,i.size,i.bytes))=some (some z,size,bytes)) (hzs:z.cells.size=size) (hsz:0 < size)
  {ops:Array Oper} {o:Oper} {a:Act} {K:Act→World→Prop} {Q:Exit→Act→World→Prop} {E:Prop} (hgd:o.guard=none) (s x:Operand)
  (ho:o.op=.call { callee:=.builtin .append,args:=#[s,x],argTypes:=#[t,t] })
  {B:Nat} {v:Value} {n:Nat} {xs:List Value} (hs:a.eval s=v) (hown:w.ownsRow B e size v n xs) {sv:Value} {m:Nat} {news:List Value} (hx:a.eval x=sv) (hsrc:Src w sv m size news)
  (h63:n+m≤maxLen) (hbytes:(n+m) * bytes≤140737488355328) (hbase:B≤w.heap.size)
  (h:∀ v' w',w'.ownsRow B e size v' (n+m) (xs++news)→AppF w w' v v'→K (a.put o.dst v') w'):if Region.wanted o (yielded ops a.tmps)=true then Oper.wp P o a w K Q else E:=by
 have hw:Region.wanted o (yielded ops a.tmps)=true:=by simp [Region.wanted,hgd]
 rw [if_pos hw]
 exact wp_app ht hinfo hzs hsz s x ho hs hown hx hsrc h63 hbytes hbase h
def Sep (v u:Value):Prop:=∀ g,v.ownBlock=some g→u.ownBlock≠some g
theorem Sep.nil (u:Value):Sep (.slice none 0 0) u:=fun g h=>by simp [Value.ownBlock] at h
theorem owns_lt {w:World} {B e size n:Nat} {v:Value} {xs:List Value} (h:w.ownsRow B e size v n xs):∀ k,v.ownBlock=some k→B≤k∧k < w.heap.size:=fun k hk=>h.lt k hk
theorem AppF.chg {w w':World} {v v':Value} (h:AppF w w' v v'):Chg (fun k=>v.ownBlock=some k) w w':=
 ⟨h.1.os,h.1.tape,h.1.output,h.1.size,fun k hk hn=>h.1.block k hk fun e=>hn e.symm⟩
theorem AppF.below {a w w':World} {v v':Value} {X:Nat} (h:AppF w w' v v') (hb:Below X a w) (hX:X≤w.heap.size) (hv:∀ k,v.ownBlock=some k→X≤k):Below X a w':=
 hb.trans (h.chg.below hX hv)
theorem AppF.owns {w w':World} {v v' u:Value} {B e size n:Nat} {xs:List Value} (h:AppF w w' v v') (hs:Sep v u) (ho:w.ownsRow B e size u n xs):w'.ownsRow B e size u n xs:=
 ho.kept h.1 (by
  cases hu:u.ownBlock with
  | none=>exact .inl rfl
  | some g=>exact .inr fun e=>hs g e.symm hu)
theorem AppF.sep {w w':World} {v v' u:Value} {B e size n:Nat} {xs:List Value} (h:AppF w w' v v') (hs:Sep v u) (ho:w.ownsRow B e size u n xs):Sep v' u:=by
 intro g hg hu
 rcases h.2 with e|e
 ·exact hs g (by rw [← e];exact hg) hu
 ·have:=(ho.lt g hu).2
  rw [e] at hg
  have:=Option.some.inj hg
  omega
theorem AppF.cell {w w':World} {v v':Value} {p:Addr} {u:Value} (h:AppF w w' v v') (hc:w.cell? p=some u) (hv:v.ownBlock≠some p.block):w'.cell? p=some u:=
 h.chg.cell hv hc
theorem AppF.far {w w':World} {v v':Value} {b:Nat} (h:AppF w w' v v') (hne:v.ownBlock≠some b) (hb:b < w.heap.size):v'.ownBlock≠some b:=by
 intro e
 rcases h.2 with e2|e2
 ·exact hne (e2 ▸ e)
 ·rw [e2] at e
  have:=Option.some.inj e
  omega
theorem owns_keep {w w':World} {B e size n:Nat} {v:Value} {xs:List Value} (h:w.ownsRow B e size v n xs) (hb:Below w.heap.size w w'):w'.ownsRow B e size v n xs:=by
 refine ⟨h.1,?_⟩
 rcases h.2 with h2|⟨g,cap,cur,rfl,hB,hg,r⟩
 ·exact .inl h2
 ·refine .inr ⟨g,cap,cur,rfl,hB,?_,r⟩
  have hlt:g < w.heap.size:=(Array.getElem?_eq_some_iff.1 hg).1
  rw [hb.block g hlt]
  exact hg
theorem OwnB.keep {w w':World} {B:Nat} {v:Value} {bs:List UInt8} (h:OwnB w B v bs) (hb:Below w.heap.size w w'):OwnB w' B v bs:=owns_keep h hb
theorem rd_take {w:World} {a:Option Addr} {len:Nat} {bs:List UInt8} (h:RdB w a len bs) (p:Nat) (hp:p≤len):RdB w a p (bs.take p):=by
 refine ⟨by rw [List.length_take,h.1,Nat.min_eq_left hp],by have:=h.2.1;omega,fun i hi=>?_⟩
 obtain ⟨b,o,ha,hc⟩:=h.at i (by omega)
 refine ⟨b,o,ha,?_⟩
 rw [hc]
 simp only [bAt,getD_take _ _ _ _ hi]
def isCh (r:Int):Bool:=decide (0≤r∧r≤1114111∧(r < 55296∨57343 < r))
end Go.Proofs.YtmooaepbdmengaaGreatDoor
namespace Go.Proofs.YtmooaepbdmengaaGreatDoor
set_option linter.unusedVariables false
set_option linter.unusedSimpArgs false
def tails (l:List UInt8):Nat→Nat→Nat→Option Nat
 | 0,_,r=>some r
 | k+1,p,r=>if 128≤bAt l p∧bAt l p < 192 then tails l k (p+1) (r * 64+(bAt l p - 128)) else none
def fin (t:Option Nat) (n least:Nat):Nat × Nat:=
 match t with
 | none=>(0,0)
 | some x=>if x < least∨isCh x=false then (0,0) else (x,n)
def more (l:List UInt8) (p n r least:Nat):Nat × Nat:=
 if l.length < p+n then (0,0) else fin (tails l (n - 1) (p+1) r) n least
def runeAt (l:List UInt8) (p:Nat):Nat × Nat:=
 if l.length≤p then (0,0)
 else if bAt l p < 128 then (bAt l p,1)
 else if bAt l p < 192 then (0,0)
 else if bAt l p < 224 then more l p 2 (bAt l p - 192) 128
 else if bAt l p < 240 then more l p 3 (bAt l p - 224) 2048
 else if bAt l p < 248 then more l p 4 (bAt l p - 240) 65536
 else (0,0)
theorem bAt_append_left (a b:List UInt8) (i:Nat) (h:i < a.length):bAt (a++b) i=bAt a i:=by
 unfold bAt;simp [List.getD,List.getElem?_append_left h]
theorem bAt_append_right (a b:List UInt8) (i:Nat):bAt (a++b) (a.length+i)=bAt b i:=by
 unfold bAt;simp [List.getD,List.getElem?_append_right]
theorem tails_left (a b:List UInt8):∀ (k p r:Nat),p+k≤a.length→tails (a++b) k p r=tails a k p r
 | 0,p,r,_=>rfl
 | k+1,p,r,h=>by
  rw [tails,tails,bAt_append_left a b p (by omega),tails_left a b k (p+1) _ (by omega)]
theorem tails_right (a b:List UInt8):∀ (k p r:Nat),tails (a++b) k (a.length+p) r=tails b k p r
 | 0,p,r=>rfl
 | k+1,p,r=>by
  rw [tails,tails,bAt_append_right a b p,Nat.add_assoc,tails_right a b k (p+1) _]
theorem fin_snd (t:Option Nat) (n least:Nat):(fin t n least).2=0∨(fin t n least).2=n:=by
 unfold fin;split
 ·exact .inl rfl
 ·split
  ·exact .inl rfl
  ·exact .inr rfl
theorem more_right (a b:List UInt8) (p n r least:Nat):more (a++b) (a.length+p) n r least=more b p n r least:=by
 unfold more
 rw [Nat.add_assoc a.length p 1,tails_right]
 by_cases h:b.length < p+n
 ·rw [if_pos h,if_pos (by simp;omega)]
 ·rw [if_neg h,if_neg (by simp;omega)]
theorem more_left (a b:List UInt8) (p n r least:Nat) (h1:1≤n) (h:(more a p n r least).2≠0):more (a++b) p n r least=more a p n r least:=by
 unfold more at h ⊢
 by_cases h2:a.length < p+n
 ·rw [if_pos h2] at h;exact absurd rfl h
 ·rw [if_neg h2,if_neg (by simp;omega),tails_left a b _ _ _ (by omega)]
theorem runeAt_right (a b:List UInt8) (p:Nat):runeAt (a++b) (a.length+p)=runeAt b p:=by
 unfold runeAt
 rw [bAt_append_right,more_right,more_right,more_right]
 by_cases h:b.length≤p
 ·rw [if_pos h,if_pos (by simp;omega)]
 ·rw [if_neg h,if_neg (by simp;omega)]
theorem runeAt_left (a b:List UInt8) (p:Nat) (h:(runeAt a p).2≠0):runeAt (a++b) p=runeAt a p:=by
 unfold runeAt at h ⊢
 by_cases h0:a.length≤p
 ·rw [if_pos h0] at h;exact absurd rfl h
 ·rw [if_neg h0] at h ⊢
  rw [if_neg (by simp;omega),bAt_append_left a b p (by omega)]
  by_cases h1:bAt a p < 128
  ·rw [if_pos h1,if_pos h1]
  rw [if_neg h1] at h ⊢
  rw [if_neg h1]
  by_cases h2:bAt a p < 192
  ·rw [if_pos h2,if_pos h2]
  rw [if_neg h2] at h ⊢
  rw [if_neg h2]
  by_cases h3:bAt a p < 224
  ·rw [if_pos h3] at h ⊢
   rw [if_pos h3];exact more_left a b p 2 _ _ (by omega) h
  rw [if_neg h3] at h ⊢
  rw [if_neg h3]
  by_cases h4:bAt a p < 240
  ·rw [if_pos h4] at h ⊢
   rw [if_pos h4];exact more_left a b p 3 _ _ (by omega) h
  rw [if_neg h4] at h ⊢
  rw [if_neg h4]
  by_cases h5:bAt a p < 248
  ·rw [if_pos h5] at h ⊢
   rw [if_pos h5];exact more_left a b p 4 _ _ (by omega) h
  rw [if_neg h5,if_neg h5]
theorem fin_fst (t:Option Nat) (n least:Nat):(fin t n least).1≤1114111:=by
 unfold fin;split
 ·simp
 ·split
  ·simp
  ·rename_i x h;simp [isCh] at h;simp only;omega
theorem more_bd (l:List UInt8) (p n r least:Nat) (hp:p < l.length):(more l p n r least).1≤1114111∧(more l p n r least).2≤n∧p+(more l p n r least).2≤l.length:=by
 unfold more
 by_cases h:l.length < p+n
 ·rw [if_pos h];refine ⟨by simp,by simp,by simp;omega⟩
 ·rw [if_neg h]
  have h1:=fin_fst (tails l (n - 1) (p+1) r) n least
  have h2:=fin_snd (tails l (n - 1) (p+1) r) n least
  refine ⟨h1,by omega,by omega⟩
theorem runeAt_bd (l:List UInt8) (p:Nat):(runeAt l p).1≤1114111∧(runeAt l p).2≤4∧(p≤l.length→p+(runeAt l p).2≤l.length):=by
 unfold runeAt
 by_cases h0:l.length≤p
 ·rw [if_pos h0];exact ⟨by simp,by simp,fun h=>by simpa using h⟩
 rw [if_neg h0]
 by_cases h1:bAt l p < 128
 ·rw [if_pos h1];exact ⟨by simp;omega,by simp,fun h=>by simp;omega⟩
 rw [if_neg h1]
 by_cases h2:bAt l p < 192
 ·rw [if_pos h2];exact ⟨by simp,by simp,fun h=>by simp;omega⟩
 rw [if_neg h2]
 have m2:=more_bd l p 2 (bAt l p - 192) 128 (by omega)
 have m3:=more_bd l p 3 (bAt l p - 224) 2048 (by omega)
 have m4:=more_bd l p 4 (bAt l p - 240) 65536 (by omega)
 by_cases h3:bAt l p < 224
 ·rw [if_pos h3];exact ⟨m2.1,by omega,fun _=>m2.2.2⟩
 rw [if_neg h3]
 by_cases h4:bAt l p < 240
 ·rw [if_pos h4];exact ⟨m3.1,by omega,fun _=>m3.2.2⟩
 rw [if_neg h4]
 by_cases h5:bAt l p < 248
 ·rw [if_pos h5];exact ⟨m4.1,by omega,fun _=>m4.2.2⟩
 rw [if_neg h5];exact ⟨by simp,by simp,fun h=>by simpa using h⟩
def lookAt (l:List UInt8):Nat→Nat→Nat→Nat × Nat
 | 0,p,c=>(p,c)
 | f+1,p,c=>if p < l.length∧(runeAt l p).2≠0 then lookAt l f (p+(runeAt l p).2) (c+1) else (p,c)
def wholeTo (l:List UInt8):Nat:=(lookAt l l.length 0 0).1
def chars (l:List UInt8):Nat:=(lookAt l l.length 0 0).2
theorem lookAt_more (l:List UInt8):∀ (f g p c:Nat),l.length≤p+f→l.length≤p+g→lookAt l f p c=lookAt l g p c
 | 0,0,p,c,_,_=>rfl
 | 0,g+1,p,c,h,_=>by rw [lookAt,lookAt,if_neg (by omega)]
 | f+1,0,p,c,_,h=>by rw [lookAt,lookAt,if_neg (by omega)]
 | f+1,g+1,p,c,h1,h2=>by
  rw [lookAt,lookAt]
  by_cases h:p < l.length∧(runeAt l p).2≠0
  ·rw [if_pos h,if_pos h,lookAt_more l f g _ _ (by omega) (by omega)]
  ·rw [if_neg h,if_neg h]
theorem lookAt_right (a b:List UInt8):∀ (f p c d:Nat),lookAt (a++b) f (a.length+p) (d+c)=(a.length+(lookAt b f p c).1,d+(lookAt b f p c).2)
 | 0,p,c,d=>rfl
 | f+1,p,c,d=>by
  rw [lookAt,lookAt,runeAt_right]
  by_cases h:p < b.length∧(runeAt b p).2≠0
  ·rw [if_pos (by simpa using h),if_pos h,Nat.add_assoc a.length,Nat.add_assoc d]
   exact lookAt_right a b f _ _ d
  ·rw [if_neg (by simpa using h),if_neg h]
theorem lookAt_left (a b:List UInt8):∀ (f p c:Nat),a.length≤p+f→(lookAt a f p c).1=a.length→∀ g,(a++b).length≤p+g →
  lookAt (a++b) g p c=lookAt (a++b) b.length a.length (lookAt a f p c).2
 | 0,p,c,h,h1,g,hg=>by
  rw [lookAt] at h1 ⊢
  simp only at h1 ⊢
  subst h1
  exact lookAt_more _ _ _ _ _ hg (by simp)
 | f+1,p,c,h,h1,g,hg=>by
  rw [lookAt] at h1 ⊢
  by_cases h3:p < a.length∧(runeAt a p).2≠0
  ·rw [if_pos h3] at h1 ⊢
   match g,hg with
   | 0,hg=>simp at hg;omega
   | g+1,hg=>
    rw [lookAt,runeAt_left a b p h3.2,if_pos ⟨by simp;omega,h3.2⟩]
    exact lookAt_left a b f _ _ (by omega) h1 g (by omega)
  ·rw [if_neg h3] at h1 ⊢
   simp only at h1 ⊢
   subst h1
   exact lookAt_more _ _ _ _ _ hg (by simp)
theorem look_join (a b:List UInt8) (h:wholeTo a=a.length):wholeTo (a++b)=a.length+wholeTo b∧chars (a++b)=chars a+chars b:=by
 have h1:=lookAt_left a b a.length 0 0 (by omega) h (a++b).length (by omega)
 have h2:=lookAt_right a b b.length 0 0 (lookAt a a.length 0 0).2
 simp only [Nat.add_zero] at h2
 unfold wholeTo chars
 rw [h1,h2]
 exact ⟨rfl,rfl⟩
def putL (r:Nat):List UInt8:=
 if r < 128 then [UInt8.ofNat r] else if r < 2048 then [UInt8.ofNat (192+r / 64),UInt8.ofNat (128+r % 64)]
 else if r < 65536 then [UInt8.ofNat (224+r / 4096),UInt8.ofNat (128+r / 64 % 64),UInt8.ofNat (128+r % 64)]
 else [UInt8.ofNat (240+r / 262144),UInt8.ofNat (128+r / 4096 % 64),UInt8.ofNat (128+r / 64 % 64),UInt8.ofNat (128+r % 64)]
theorem bAt_zero (x:UInt8) (l:List UInt8):bAt (x::l) 0=x.toNat:=rfl
theorem ofNat_lt (n:Nat) (h:n < 256):(UInt8.ofNat n).toNat=n:=by simp;omega
theorem putL_len (r:Nat):1≤(putL r).length∧(putL r).length≤4:=by
 unfold putL
 split
 ·simp
 split
 ·simp
 split<;>simp
theorem tails_step (l:List UInt8) (k p r v:Nat) (h:bAt l p=v) (h1:128≤v) (h2:v < 192):tails l (k+1) p r=tails l k (p+1) (r * 64+(v - 128)):=by
 rw [tails,h,if_pos ⟨h1,h2⟩]
theorem rune_put (r:Nat) (h:isCh r=true):runeAt (putL r) 0=(r,(putL r).length):=by
 have h0:r≤1114111∧(r < 55296∨57343 < r):=by simp [isCh] at h;omega
 unfold putL
 by_cases h1:r < 128
 ·rw [if_pos h1]
  unfold runeAt
  rw [bAt_zero,ofNat_lt _ (by omega),if_neg (by simp),if_pos h1]
  rfl
 rw [if_neg h1]
 by_cases h2:r < 2048
 ·rw [if_pos h2]
  unfold runeAt
  have e:r / 64 * 64+r % 64=r:=by omega
  rw [bAt_zero,ofNat_lt _ (by omega),if_neg (by simp),if_neg (by omega),if_neg (by omega),if_pos (by omega)]
  unfold more
  rw [if_neg (by simp)]
  rw [tails_step _ 0 1 _ (128+r % 64)]
  simp only [tails,fin]
  rw [show 192+r / 64 - 192=r / 64 by omega,show 128+r % 64 - 128=r % 64 by omega,e,if_neg (by rw [h];simp;omega)]
  rfl
  all_goals first|exact ofNat_lt _ (by omega)|omega
 rw [if_neg h2]
 by_cases h3:r < 65536
 ·rw [if_pos h3]
  unfold runeAt
  have e:(r / 4096 * 64+r / 64 % 64) * 64+r % 64=r:=by omega
  rw [bAt_zero,ofNat_lt _ (by omega),if_neg (by simp),if_neg (by omega),if_neg (by omega),if_neg (by omega),if_pos (by omega)]
  unfold more
  rw [if_neg (by simp)]
  rw [tails_step _ 1 1 _ (128+r / 64 % 64),tails_step _ 0 2 _ (128+r % 64)]
  simp only [tails,fin]
  rw [show 224+r / 4096 - 224=r / 4096 by omega,show 128+r / 64 % 64 - 128=r / 64 % 64 by omega,show 128+r % 64 - 128=r % 64 by omega,e,if_neg (by rw [h];simp;omega)]
  rfl
  all_goals first|exact ofNat_lt _ (by omega)|omega
 rw [if_neg h3]
 unfold runeAt
 have e:((r / 262144 * 64+r / 4096 % 64) * 64+r / 64 % 64) * 64+r % 64=r:=by omega
 rw [bAt_zero,ofNat_lt _ (by omega),if_neg (by simp),if_neg (by omega),if_neg (by omega),if_neg (by omega),if_neg (by omega),if_pos (by omega)]
 unfold more
 rw [if_neg (by simp)]
 rw [tails_step _ 2 1 _ (128+r / 4096 % 64),tails_step _ 1 2 _ (128+r / 64 % 64),tails_step _ 0 3 _ (128+r % 64)]
 simp only [tails,fin]
 rw [show 240+r / 262144 - 240=r / 262144 by omega,show 128+r / 4096 % 64 - 128=r / 4096 % 64 by omega,show 128+r / 64 % 64 - 128=r / 64 % 64 by omega,show 128+r % 64 - 128=r % 64 by omega,e,if_neg (by rw [h];simp;omega)]
 rfl
 all_goals first|exact ofNat_lt _ (by omega)|omega
theorem look_put (r:Nat) (h:isCh r=true):wholeTo (putL r)=(putL r).length∧chars (putL r)=1:=by
 have h1:=rune_put r h
 have h2:=putL_len r
 have e:lookAt (putL r) (putL r).length 0 0=((putL r).length,1):=by
  rw [lookAt_more (putL r) _ ((putL r).length+1) 0 0 (by omega) (by omega),lookAt,h1,if_pos ⟨by omega,by simp only;omega⟩]
  obtain ⟨n,hn⟩:∃ n,(putL r).length=n+1:=⟨(putL r).length - 1,by omega⟩
  simp only [Nat.zero_add]
  generalize hg:(putL r).length=g at *
  rw [lookAt_more (putL r) g 0 g 1 (by omega) (by omega)]
  rfl
 unfold wholeTo chars
 rw [e]
 exact ⟨rfl,rfl⟩
theorem tails_snoc (l:List UInt8):∀ (k p r x:Nat),tails l k p r=some x→tails l (k+1) p r=if 128≤bAt l (p+k)∧bAt l (p+k) < 192 then some (x * 64+(bAt l (p+k) - 128)) else none
 | 0,p,r,x,h=>by
  simp only [tails,Option.some.injEq] at h
  subst h
  simp [tails]
 | k+1,p,r,x,h=>by
  rw [tails] at h
  split at h
  ·rename_i hc
   rw [tails,if_pos hc,tails_snoc l k (p+1) _ x h]
   rw [show p+1+k=p+(k+1) from by omega]
  ·simp at h
theorem tails_none (l:List UInt8):∀ (k m p r:Nat),tails l k p r=none→tails l (k+m) p r=none
 | 0,m,p,r,h=>by simp [tails] at h
 | k+1,m,p,r,h=>by
  rw [show k+1+m=k+m+1 from by omega,tails]
  rw [tails] at h
  split at h
  ·rename_i hc
   rw [if_pos hc]
   exact tails_none l k m (p+1) _ h
  ·rename_i hc
   rw [if_neg hc]
end Go.Proofs.YtmooaepbdmengaaGreatDoor
namespace Go.Proofs.YtmooaepbdmengaaGreatDoor
open Go.RowKit
set_option linter.unusedVariables false
set_option linter.unusedSimpArgs false
set_option maxRecDepth 100000 in
set_option maxHeartbeats 1000000 in
theorem rrune_out (a:Option Addr) (len cap:Nat) (p:Int) (w:World) (hm:len≤9223372036854775807) (h:p < 0∨(len:Int)≤p) :
  Calls Tryz.prog 100 #[.slice a len cap,.int .i64 p] w fun e w'=>e=.returned (.tuple #[.int .i64 0,.int .i64 0])∧w=w':=by
 by_cases h0:p < 0
 ·have d0:decide (p < 0)=true:=by simp;omega
  go_enter Tryz.func100,Tryz.ntmps100
  go_wp2_with fail
  go_ret2
  exact ⟨rfl,rfl⟩
 ·have d0:decide (p < 0)=false:=by simp;omega
  have d1:decide ((len:Int)≤p)=true:=by simp;omega
  go_enter Tryz.func100,Tryz.ntmps100
  go_wp2_with fail
  go_ret2
  exact ⟨rfl,rfl⟩
set_option maxRecDepth 100000 in
set_option maxHeartbeats 1000000 in
theorem rrune_one (a:Option Addr) (len cap p:Nat) (w:World) (l:List UInt8) (h:RdB w a len l) (hp:p < len) (hc:bAt l p < 128) :
  Calls Tryz.prog 100 #[.slice a len cap,.int .i64 p] w fun e w'=>e=.returned (.tuple #[.int .i64 (bAt l p:Nat),.int .i64 1])∧w=w':=by
 have hm:=h.2.1
 obtain ⟨b,o,rfl,hcc⟩:=h.at p hp
 clear h
 generalize bAt l p=c at hc hcc
 have d0:decide ((p:Int) < 0)=false:=by simp
 have d1:decide ((len:Int)≤(p:Int))=false:=by simp;omega
 have hc':(c:Int) < 128:=by omega
 go_enter Tryz.func100,Tryz.ntmps100
 go_wp2_with fail
 go_ret2
 exact ⟨rfl,rfl⟩
set_option maxRecDepth 100000 in
set_option maxHeartbeats 1000000 in
theorem rrune_bad (a:Option Addr) (len cap p:Nat) (w:World) (l:List UInt8) (h:RdB w a len l) (hp:p < len) (hc:(128≤bAt l p∧bAt l p < 192)∨248≤bAt l p) :
  Calls Tryz.prog 100 #[.slice a len cap,.int .i64 p] w fun e w'=>e=.returned (.tuple #[.int .i64 0,.int .i64 0])∧w=w':=by
 have hm:=h.2.1
 obtain ⟨b,o,rfl,hcc⟩:=h.at p hp
 have hb:=bAt_bd l p
 clear h
 generalize bAt l p=c at hc hcc hb
 have d0:decide ((p:Int) < 0)=false:=by simp
 have d1:decide ((len:Int)≤(p:Int))=false:=by simp;omega
 rcases hc with ⟨h1,h2⟩|h1
 all_goals
  go_enter Tryz.func100,Tryz.ntmps100
  go_wp2_with fail
  go_ret2
  exact ⟨rfl,rfl⟩
set_option maxRecDepth 100000 in
set_option maxHeartbeats 2000000 in
theorem rrune_2 (a:Option Addr) (len cap p:Nat) (w:World) (l:List UInt8) (h:RdB w a len l) (hp:p < len) (h1:192≤bAt l p) (h2:bAt l p < 224) :
  Calls Tryz.prog 100 #[.slice a len cap,.int .i64 p] w fun e w'=>e=.returned (.tuple #[.int .i64 ((more l p 2 (bAt l p - 192) 128).1:Nat),.int .i64 ((more l p 2 (bAt l p - 192) 128).2:Nat)])∧w=w':=by
 have hm:=h.2.1
 unfold more
 rw [h.1]
 obtain ⟨b,o,rfl,hcc⟩:=h.at p hp
 have H:=Lib.hid h
 clear h
 generalize hc:bAt l p=c at hcc h1 h2
 have HC:=Lib.hid hc
 clear hc
 have d0:decide ((p:Int) < 0)=false:=by simp
 have d1:decide ((len:Int)≤(p:Int))=false:=by simp;omega
 have q0:IntKind.i64.wrap ((len:Int) - (p:Int))=(len:Int) - (p:Int):=IntWalk.i64_in _ (by omega)
 by_cases hs:len < p+2
 ·rw [if_pos hs]
  have d2:decide ((len:Int) - (p:Int) < 2)=true:=by simp;omega
  go_enter Tryz.func100,Tryz.ntmps100
  go_wp2_with fail
  go_ret2
  exact ⟨rfl,rfl⟩
 ·rw [if_neg hs]
  have d2:decide ((len:Int) - (p:Int) < 2)=false:=by simp;omega
  obtain ⟨r0,hr0⟩:∃ r:Nat,r=c - 192:=⟨_,rfl⟩
  have hr0':(c:Int) - 192=(r0:Int):=by omega
  rw [← hr0]
  have hrb:r0 < 32:=by omega
  clear hr0
  go_enter Tryz.func100,Tryz.ntmps100
  go_wp2_with fail
  go_loop [8,10] (fun r i=>∃ k rr:Nat,1≤k∧k≤2∧i=.int .i64 k∧r=.int .i64 rr∧Hid (tails l (k - 1) (p+1) r0=some rr)∧(k=1→rr < 32)∧(k=2→rr < 2048)∧(k=3→rr < 131072)∧rr < 8388608) (fun _ i=>2 - (intOf i).toNat)
  case atStart=>exact ⟨1,r0,by omega,by omega,rfl,rfl,rfl,by omega,by omega,by omega,by omega⟩
  case round=>
   obtain ⟨k,rr,hk1,hk,rfl,rfl,ht,b1,b2,b3,b4⟩:=hrel
   by_cases hlt:k < 2
   ·obtain ⟨b',o',ha',hx⟩:=H.out.at (p+k) (by omega)
    simp only [Option.some.injEq,Addr.mk.injEq,and_true] at ha'
    obtain ⟨rfl,rfl⟩:=ha'
    have hxb:=bAt_bd l (p+k)
    have hsn:=tails_snoc l (k - 1) (p+1) r0 rr ht.out
    rw [show k - 1+1=k from by omega,show p+1+(k - 1)=p+k from by omega] at hsn
    generalize bAt l (p+k)=x at hx hxb hsn
    have j0:(0:Int)≤(p:Int)+(k:Int):=by omega
    have j1:(p:Int)+(k:Int) < (len:Int):=by omega
    have j3:((p:Int)+(k:Int)).toNat=p+k:=by omega
    by_cases hx1:128≤x∧x < 192
    ·rw [if_pos hx1] at hsn
     obtain ⟨h3,h4⟩:=hx1
     have HS:=Lib.hid hsn
     have hw:(rr:Int) * 64+(x:Int) - 128=((rr * 64+(x - 128):Nat):Int):=by omega
     have HW:=Lib.hid hw
     clear hsn hw
     go_wp2_with fail
     go_round
     case rel=>exact ⟨_,_,_,_,⟨k+1,by omega,by omega,by simp,rr * 64+(x - 128),by rw [HW.out],HS.out,by omega,by omega,by omega,by omega⟩,rfl,rfl,rfl,rfl⟩
     case measure=>simp [intOf];omega
    ·rw [if_neg hx1] at hsn
     have hn:=tails_none l k (1 - k) (p+1) r0 hsn
     rw [show k+(1 - k)=1 from by omega] at hn
     have HN:=Lib.hid hn
     clear hsn hn
     rcases (show x < 128∨192≤x by omega) with g|g
     all_goals
      clear hx1
      go_wp2_with fail
      go_ret2
      exact ⟨by rw [HN.out];rfl,rfl⟩
   ·obtain rfl:k=2:=by omega
    have HT:Hid (tails l 1 (p+1) r0=some rr):=ht
    clear ht b1 b2 b3
    rcases (show rr < 128∨(128≤rr∧1114111 < rr)∨(128≤rr∧55296≤rr∧rr≤57343)∨(128≤rr∧rr < 55296)∨(128≤rr∧57343 < rr∧rr≤1114111) by omega) with g|⟨g,g2⟩|⟨g,g2,g3⟩|⟨g,g2⟩|⟨g,g2,g3⟩
    ·have HF:Hid (fin (some rr) 2 128=(0,0)):=by show fin _ _ _=_;unfold fin;simp only;rw [if_pos (.inl g)]
     go_wp2_with fail
     go_ret2
     exact ⟨by rw [HT.out,HF.out];rfl,rfl⟩
    ·have HF:Hid (fin (some rr) 2 128=(0,0)):=by show fin _ _ _=_;unfold fin;simp only;rw [if_pos (.inr (by unfold isCh;simp;omega))]
     go_wp2_with fail
     go_ret2
     exact ⟨by rw [HT.out,HF.out];rfl,rfl⟩
    ·have HF:Hid (fin (some rr) 2 128=(0,0)):=by show fin _ _ _=_;unfold fin;simp only;rw [if_pos (.inr (by unfold isCh;simp;omega))]
     go_wp2_with fail
     go_ret2
     exact ⟨by rw [HT.out,HF.out];rfl,rfl⟩
    ·have HF:Hid (fin (some rr) 2 128=(rr,2)):=by show fin _ _ _=_;unfold fin;simp only;rw [if_neg (by unfold isCh;simp;omega)]
     go_wp2_with fail
     go_ret2
     exact ⟨by rw [HT.out,HF.out];rfl,rfl⟩
    ·have HF:Hid (fin (some rr) 2 128=(rr,2)):=by show fin _ _ _=_;unfold fin;simp only;rw [if_neg (by unfold isCh;simp;omega)]
     go_wp2_with fail
     go_ret2
     exact ⟨by rw [HT.out,HF.out];rfl,rfl⟩
set_option maxRecDepth 100000 in
set_option maxHeartbeats 2000000 in
theorem rrune_3 (a:Option Addr) (len cap p:Nat) (w:World) (l:List UInt8) (h:RdB w a len l) (hp:p < len) (h1:224≤bAt l p) (h2:bAt l p < 240) :
  Calls Tryz.prog 100 #[.slice a len cap,.int .i64 p] w fun e w'=>e=.returned (.tuple #[.int .i64 ((more l p 3 (bAt l p - 224) 2048).1:Nat),.int .i64 ((more l p 3 (bAt l p - 224) 2048).2:Nat)])∧w=w':=by
 have hm:=h.2.1
 unfold more
 rw [h.1]
 obtain ⟨b,o,rfl,hcc⟩:=h.at p hp
 have H:=Lib.hid h
 clear h
 generalize hc:bAt l p=c at hcc h1 h2
 have HC:=Lib.hid hc
 clear hc
 have d0:decide ((p:Int) < 0)=false:=by simp
 have d1:decide ((len:Int)≤(p:Int))=false:=by simp;omega
 have q0:IntKind.i64.wrap ((len:Int) - (p:Int))=(len:Int) - (p:Int):=IntWalk.i64_in _ (by omega)
 by_cases hs:len < p+3
 ·rw [if_pos hs]
  have d2:decide ((len:Int) - (p:Int) < 3)=true:=by simp;omega
  go_enter Tryz.func100,Tryz.ntmps100
  go_wp2_with fail
  go_ret2
  exact ⟨rfl,rfl⟩
 ·rw [if_neg hs]
  have d2:decide ((len:Int) - (p:Int) < 3)=false:=by simp;omega
  obtain ⟨r0,hr0⟩:∃ r:Nat,r=c - 224:=⟨_,rfl⟩
  have hr0':(c:Int) - 224=(r0:Int):=by omega
  rw [← hr0]
  have hrb:r0 < 32:=by omega
  clear hr0
  go_enter Tryz.func100,Tryz.ntmps100
  go_wp2_with fail
  go_loop [8,10] (fun r i=>∃ k rr:Nat,1≤k∧k≤3∧i=.int .i64 k∧r=.int .i64 rr∧Hid (tails l (k - 1) (p+1) r0=some rr)∧(k=1→rr < 32)∧(k=2→rr < 2048)∧(k=3→rr < 131072)∧rr < 8388608) (fun _ i=>3 - (intOf i).toNat)
  case atStart=>exact ⟨1,r0,by omega,by omega,rfl,rfl,rfl,by omega,by omega,by omega,by omega⟩
  case round=>
   obtain ⟨k,rr,hk1,hk,rfl,rfl,ht,b1,b2,b3,b4⟩:=hrel
   by_cases hlt:k < 3
   ·obtain ⟨b',o',ha',hx⟩:=H.out.at (p+k) (by omega)
    simp only [Option.some.injEq,Addr.mk.injEq,and_true] at ha'
    obtain ⟨rfl,rfl⟩:=ha'
    have hxb:=bAt_bd l (p+k)
    have hsn:=tails_snoc l (k - 1) (p+1) r0 rr ht.out
    rw [show k - 1+1=k from by omega,show p+1+(k - 1)=p+k from by omega] at hsn
    generalize bAt l (p+k)=x at hx hxb hsn
    have j0:(0:Int)≤(p:Int)+(k:Int):=by omega
    have j1:(p:Int)+(k:Int) < (len:Int):=by omega
    have j3:((p:Int)+(k:Int)).toNat=p+k:=by omega
    by_cases hx1:128≤x∧x < 192
    ·rw [if_pos hx1] at hsn
     obtain ⟨h3,h4⟩:=hx1
     have HS:=Lib.hid hsn
     have hw:(rr:Int) * 64+(x:Int) - 128=((rr * 64+(x - 128):Nat):Int):=by omega
     have HW:=Lib.hid hw
     clear hsn hw
     go_wp2_with fail
     go_round
     case rel=>exact ⟨_,_,_,_,⟨k+1,by omega,by omega,by simp,rr * 64+(x - 128),by rw [HW.out],HS.out,by omega,by omega,by omega,by omega⟩,rfl,rfl,rfl,rfl⟩
     case measure=>simp [intOf];omega
    ·rw [if_neg hx1] at hsn
     have hn:=tails_none l k (2 - k) (p+1) r0 hsn
     rw [show k+(2 - k)=2 from by omega] at hn
     have HN:=Lib.hid hn
     clear hsn hn
     rcases (show x < 128∨192≤x by omega) with g|g
     all_goals
      clear hx1
      go_wp2_with fail
      go_ret2
      exact ⟨by rw [HN.out];rfl,rfl⟩
   ·obtain rfl:k=3:=by omega
    have HT:Hid (tails l 2 (p+1) r0=some rr):=ht
    clear ht b1 b2 b3
    rcases (show rr < 2048∨(2048≤rr∧1114111 < rr)∨(2048≤rr∧55296≤rr∧rr≤57343)∨(2048≤rr∧rr < 55296)∨(2048≤rr∧57343 < rr∧rr≤1114111) by omega) with g|⟨g,g2⟩|⟨g,g2,g3⟩|⟨g,g2⟩|⟨g,g2,g3⟩
    ·have HF:Hid (fin (some rr) 3 2048=(0,0)):=by show fin _ _ _=_;unfold fin;simp only;rw [if_pos (.inl g)]
     go_wp2_with fail
     go_ret2
     exact ⟨by rw [HT.out,HF.out];rfl,rfl⟩
    ·have HF:Hid (fin (some rr) 3 2048=(0,0)):=by show fin _ _ _=_;unfold fin;simp only;rw [if_pos (.inr (by unfold isCh;simp;omega))]
     go_wp2_with fail
     go_ret2
     exact ⟨by rw [HT.out,HF.out];rfl,rfl⟩
    ·have HF:Hid (fin (some rr) 3 2048=(0,0)):=by show fin _ _ _=_;unfold fin;simp only;rw [if_pos (.inr (by unfold isCh;simp;omega))]
     go_wp2_with fail
     go_ret2
     exact ⟨by rw [HT.out,HF.out];rfl,rfl⟩
    ·have HF:Hid (fin (some rr) 3 2048=(rr,3)):=by show fin _ _ _=_;unfold fin;simp only;rw [if_neg (by unfold isCh;simp;omega)]
     go_wp2_with fail
     go_ret2
     exact ⟨by rw [HT.out,HF.out];rfl,rfl⟩
    ·have HF:Hid (fin (some rr) 3 2048=(rr,3)):=by show fin _ _ _=_;unfold fin;simp only;rw [if_neg (by unfold isCh;simp;omega)]
     go_wp2_with fail
     go_ret2
     exact ⟨by rw [HT.out,HF.out];rfl,rfl⟩
set_option maxRecDepth 100000 in
set_option maxHeartbeats 2000000 in
theorem rrune_4 (a:Option Addr) (len cap p:Nat) (w:World) (l:List UInt8) (h:RdB w a len l) (hp:p < len) (h1:240≤bAt l p) (h2:bAt l p < 248) :
  Calls Tryz.prog 100 #[.slice a len cap,.int .i64 p] w fun e w'=>e=.returned (.tuple #[.int .i64 ((more l p 4 (bAt l p - 240) 65536).1:Nat),.int .i64 ((more l p 4 (bAt l p - 240) 65536).2:Nat)])∧w=w':=by
 have hm:=h.2.1
 unfold more
 rw [h.1]
 obtain ⟨b,o,rfl,hcc⟩:=h.at p hp
 have H:=Lib.hid h
 clear h
 generalize hc:bAt l p=c at hcc h1 h2
 have HC:=Lib.hid hc
 clear hc
 have d0:decide ((p:Int) < 0)=false:=by simp
 have d1:decide ((len:Int)≤(p:Int))=false:=by simp;omega
 have q0:IntKind.i64.wrap ((len:Int) - (p:Int))=(len:Int) - (p:Int):=IntWalk.i64_in _ (by omega)
 by_cases hs:len < p+4
 ·rw [if_pos hs]
  have d2:decide ((len:Int) - (p:Int) < 4)=true:=by simp;omega
  go_enter Tryz.func100,Tryz.ntmps100
  go_wp2_with fail
  go_ret2
  exact ⟨rfl,rfl⟩
 ·rw [if_neg hs]
  have d2:decide ((len:Int) - (p:Int) < 4)=false:=by simp;omega
  obtain ⟨r0,hr0⟩:∃ r:Nat,r=c - 240:=⟨_,rfl⟩
  have hr0':(c:Int) - 240=(r0:Int):=by omega
  rw [← hr0]
  have hrb:r0 < 32:=by omega
  clear hr0
  go_enter Tryz.func100,Tryz.ntmps100
  go_wp2_with fail
  go_loop [8,10] (fun r i=>∃ k rr:Nat,1≤k∧k≤4∧i=.int .i64 k∧r=.int .i64 rr∧Hid (tails l (k - 1) (p+1) r0=some rr)∧(k=1→rr < 32)∧(k=2→rr < 2048)∧(k=3→rr < 131072)∧rr < 8388608) (fun _ i=>4 - (intOf i).toNat)
  case atStart=>exact ⟨1,r0,by omega,by omega,rfl,rfl,rfl,by omega,by omega,by omega,by omega⟩
  case round=>
   obtain ⟨k,rr,hk1,hk,rfl,rfl,ht,b1,b2,b3,b4⟩:=hrel
   by_cases hlt:k < 4
   ·obtain ⟨b',o',ha',hx⟩:=H.out.at (p+k) (by omega)
    simp only [Option.some.injEq,Addr.mk.injEq,and_true] at ha'
    obtain ⟨rfl,rfl⟩:=ha'
    have hxb:=bAt_bd l (p+k)
    have hsn:=tails_snoc l (k - 1) (p+1) r0 rr ht.out
    rw [show k - 1+1=k from by omega,show p+1+(k - 1)=p+k from by omega] at hsn
    generalize bAt l (p+k)=x at hx hxb hsn
    have j0:(0:Int)≤(p:Int)+(k:Int):=by omega
    have j1:(p:Int)+(k:Int) < (len:Int):=by omega
    have j3:((p:Int)+(k:Int)).toNat=p+k:=by omega
    by_cases hx1:128≤x∧x < 192
    ·rw [if_pos hx1] at hsn
     obtain ⟨h3,h4⟩:=hx1
     have HS:=Lib.hid hsn
     have hw:(rr:Int) * 64+(x:Int) - 128=((rr * 64+(x - 128):Nat):Int):=by omega
     have HW:=Lib.hid hw
     clear hsn hw
     go_wp2_with fail
     go_round
     case rel=>exact ⟨_,_,_,_,⟨k+1,by omega,by omega,by simp,rr * 64+(x - 128),by rw [HW.out],HS.out,by omega,by omega,by omega,by omega⟩,rfl,rfl,rfl,rfl⟩
     case measure=>simp [intOf];omega
    ·rw [if_neg hx1] at hsn
     have hn:=tails_none l k (3 - k) (p+1) r0 hsn
     rw [show k+(3 - k)=3 from by omega] at hn
     have HN:=Lib.hid hn
     clear hsn hn
     rcases (show x < 128∨192≤x by omega) with g|g
     all_goals
      clear hx1
      go_wp2_with fail
      go_ret2
      exact ⟨by rw [HN.out];rfl,rfl⟩
   ·obtain rfl:k=4:=by omega
    have HT:Hid (tails l 3 (p+1) r0=some rr):=ht
    clear ht b1 b2 b3
    rcases (show rr < 65536∨(65536≤rr∧1114111 < rr)∨(65536≤rr∧57343 < rr∧rr≤1114111) by omega) with g|⟨g,g2⟩|⟨g,g2,g3⟩
    ·have HF:Hid (fin (some rr) 4 65536=(0,0)):=by show fin _ _ _=_;unfold fin;simp only;rw [if_pos (.inl g)]
     go_wp2_with fail
     go_ret2
     exact ⟨by rw [HT.out,HF.out];rfl,rfl⟩
    ·have HF:Hid (fin (some rr) 4 65536=(0,0)):=by show fin _ _ _=_;unfold fin;simp only;rw [if_pos (.inr (by unfold isCh;simp;omega))]
     go_wp2_with fail
     go_ret2
     exact ⟨by rw [HT.out,HF.out];rfl,rfl⟩
    ·have HF:Hid (fin (some rr) 4 65536=(rr,4)):=by show fin _ _ _=_;unfold fin;simp only;rw [if_neg (by unfold isCh;simp;omega)]
     go_wp2_with fail
     go_ret2
     exact ⟨by rw [HT.out,HF.out];rfl,rfl⟩
end Go.Proofs.YtmooaepbdmengaaGreatDoor
namespace Go.Proofs.YtmooaepbdmengaaGreatDoor
open Go.RowKit
set_option linter.unusedVariables false
set_option linter.unusedSimpArgs false
theorem rrune_calls (a:Option Addr) (len cap p:Nat) (w:World) (l:List UInt8) (h:RdB w a len l) :
  Calls Tryz.prog 100 #[.slice a len cap,.int .i64 p] w fun e w'=>e=.returned (.tuple #[.int .i64 ((runeAt l p).1:Nat),.int .i64 ((runeAt l p).2:Nat)])∧w=w':=by
 have hl:=h.1
 unfold runeAt
 rw [hl]
 have hb:=bAt_lt l p
 by_cases h0:len≤p
 ·rw [if_pos h0];exact rrune_out a len cap p w h.2.1 (.inr (by omega))
 rw [if_neg h0]
 by_cases h1:bAt l p < 128
 ·rw [if_pos h1];exact rrune_one a len cap p w l h (by omega) h1
 rw [if_neg h1]
 by_cases h2:bAt l p < 192
 ·rw [if_pos h2];exact rrune_bad a len cap p w l h (by omega) (.inl (by omega))
 rw [if_neg h2]
 by_cases h3:bAt l p < 224
 ·rw [if_pos h3];exact rrune_2 a len cap p w l h (by omega) (by omega) (by omega)
 rw [if_neg h3]
 by_cases h4:bAt l p < 240
 ·rw [if_pos h4];exact rrune_3 a len cap p w l h (by omega) (by omega) (by omega)
 rw [if_neg h4]
 by_cases h5:bAt l p < 248
 ·rw [if_pos h5];exact rrune_4 a len cap p w l h (by omega) (by omega) (by omega)
 rw [if_neg h5];exact rrune_bad a len cap p w l h (by omega) (.inr (by omega))
theorem look_step (l:List UInt8) (p c n:Nat) (hp:p < l.length) (hn:(runeAt l p).2=n) (h0:n≠0):lookAt l l.length p c=lookAt l l.length (p+n) (c+1):=by
 rw [lookAt_more l l.length (l.length+1) p c (by omega) (by omega),lookAt,hn,if_pos ⟨hp,h0⟩]
theorem look_stop (l:List UInt8) (p c:Nat) (h:l.length≤p∨(runeAt l p).2=0):lookAt l l.length p c=(p,c):=by
 rw [lookAt_more l l.length (l.length+1) p c (by omega) (by omega),lookAt,if_neg (by omega)]
def LookRel (l:List UInt8) (len p c:Nat):Prop:=p≤len∧c≤p∧Hid (lookAt l l.length 0 0=lookAt l l.length p c)
theorem LookRel.step {l:List UInt8} {len p c n:Nat} (hl:l.length=len) (h:LookRel l len p c) (hp:p < len) (hn:(runeAt l p).2=n) (h0:n≠0):LookRel l len (p+n) (c+1):=by
 have:=(runeAt_bd l p).2.2 (by omega)
 exact ⟨by omega,by have:=h.2.1;omega,h.2.2.out.trans (look_step l p c n (by omega) hn h0)⟩
set_option maxRecDepth 100000 in
set_option maxHeartbeats 1000000 in
theorem rcheck_calls (ab:Option Addr) (len cap:Nat) (w:World) (l:List UInt8) (h:RdB w ab len l) :
  Calls Tryz.prog 86 #[.slice ab len cap] w fun e w'=>e=.returned (.tuple #[.int .i64 (wholeTo l:Nat),.bool (wholeTo l == len)])∧w=w':=by
 have hm:=h.2.1
 have H:=Lib.hid h
 have HL:=Lib.hid h.1
 clear h
 go_enter Tryz.func86,Tryz.ntmps86
 go_wp2_with fail
 go_loop [4] (fun x=>∃ p c:Nat,x=.int .i64 p∧LookRel l len p c) (fun x=>len - (intOf x).toNat)
 case atStart=>exact ⟨0,0,rfl,by omega,by omega,rfl⟩
 case round=>
  obtain ⟨p,c,rfl,hR⟩:=hrel
  have HR:=Lib.hid hR
  have hp:=hR.1
  have hc:=hR.2.1
  clear hR
  have C:=Lib.hid (rrune_calls ab len cap p w l H.out)
  by_cases hlt:p < len
  ·obtain ⟨r,hr⟩:∃ r,r=(runeAt l p).1:=⟨_,rfl⟩
   obtain ⟨n,hn⟩:∃ n,n=(runeAt l p).2:=⟨_,rfl⟩
   have hb:=runeAt_bd l p
   rw [← hr,← hn] at C hb
   by_cases h0:n=0
   ·have HF:=Lib.hid (HR.out.2.2.out.trans (look_stop l p c (.inr (by omega))))
    subst h0
    clear hn hr hb
    go_wp2_with (go_at_call 100;refine C.out.mono ?_;rintro e w' ⟨rfl,rfl⟩)
    go_ret2
    have e1:(p == len)=false:=by simp;omega
    exact ⟨by unfold wholeTo;rw [HF.out];simp only [e1];rfl,rfl⟩
   ·have HN:=Lib.hid (HR.out.step HL.out hlt hn.symm h0)
    have hb3:=hb.2.2 (by rw [HL.out];exact hp)
    rw [HL.out] at hb3
    have hb4:=hb.2.1
    clear hn hr hb
    go_wp2_with (go_at_call 100;refine C.out.mono ?_;rintro e w' ⟨rfl,rfl⟩)
    go_round
    case rel=>first|exact ⟨p+n,c+1,by simp,HN.out⟩|exact ⟨_,_,_,⟨p+n,c+1,by simp,HN.out⟩,rfl,rfl,rfl⟩
    case measure=>simp [intOf];omega
  ·have HF:=Lib.hid (HR.out.2.2.out.trans (look_stop l p c (.inl (by rw [HL.out];omega))))
   obtain rfl:p=len:=by omega
   go_wp2_with fail
   go_ret2
   exact ⟨by unfold wholeTo;rw [HF.out];simp,rfl⟩
end Go.Proofs.YtmooaepbdmengaaGreatDoor
