/-
  Package ledger: the book: what was signed, and who wrote a mac. Package ledger: a book in memory; what is signed. Package ledger: New, Sign, Signed.
-/
import Derived.Test.YtcilaocknhphnaaGreatZgRBase
import Derived.Test.YtcilaocknhphnaaGreatZgCSet
import Derived.DeepKeys4
import Derived.WideKeyPair
import Derived.WalkSpells
namespace Go.Proofs.YtcilaocknhphnaaGreat
open Go.RowKit Go.Maps
theorem Tryz.sigRow:(235:TypeId) < Tryz.prog.types.size:=of_decide_eq_true (by kernel_rfl)
theorem Tryz.sigWide:(match Tryz.prog.underlying 235 with | some (.array _ _) | some (.struct _)=>true | _=>false)=true:=by rw [Tryz.underlying235]
set_option maxRecDepth 100000 in
theorem Tryz.sigLaw:WideMaps.KeyLaw Tryz.prog 235:=deep_law_laid Tryz.laidOut (m:=2) (by omega) Tryz.sigRow (by kernel_rfl) Tryz.sigWide
theorem Tryz.sigKeyed:Keyed Tryz.prog 235:=Keyed.of_law Tryz.sigLaw
theorem Tryz.sigCells:Tryz.prog.cellsOf 235=2:=by kernel_rfl
theorem Tryz.atomCells:Tryz.prog.cellsOf 58=1:=by kernel_rfl
theorem Tryz.strCells:Tryz.prog.cellsOf 9=1:=by kernel_rfl
theorem Tryz.sigKeyType:Tryz.prog.keyType 235=true:=by kernel_rfl
theorem Tryz.zeroUnit (w:World):(zeroValue 359).run Tryz.prog w=.ok (.agg #[]) w:=by kernel_rfl
def zgj (x:Nat × ByteArray):Value:=.agg #[.int .u16 (x.1:Int),.string x.2]
def zba (x:Nat × ByteArray):Lit:=.string (keyBytes [.int .u16 (x.1:Int),.string x.2.data.toList])
def xH (x:Nat × ByteArray):Prop:=x.1 < 65536∧x.2.size<=1000000
theorem zjX {x:Nat} (h:x < 65536):(Lit.int .u16 (x:Int)).wf=true:=by
 simp only [Lit.wf,zlU,decide_eq_true_eq];exact ⟨by show (0:Int)<=_;omega,by show _<=(65535:Int);omega⟩
set_option maxRecDepth 100000 in
theorem zbQ (x:Nat × ByteArray) (hf:xH x):keyOf Tryz.prog 235 (zgj x)=some (zba x):=by
 have w1:=zjX hf.1;have w2:x.2.size<=maxLen:=Nat.le_trans hf.2 (by unfold maxLen;omega);unfold keyOf zgj zba;simp only [Tryz.underlying235];rw [if_pos (by simp [Tryz.sigKeyType,Value.formed,Tryz.underlying235,Tryz.sigCells])];unfold Program.keyLits;simp only [Tryz.underlying235,Value.cells];rw [if_pos ⟨by rw [Tryz.sigCells];rfl,by decide +kernel⟩];obtain ⟨m,hm⟩:∃ m,Tryz.prog.types.size=m+1:=⟨Tryz.prog.types.size - 1,(Nat.sub_add_cancel (Nat.zero_lt_of_lt Tryz.sigRow)).symm⟩;rw [hm,List.mapM_cons,List.mapM_cons,List.mapM_nil];simp [Tryz.atomCells,Tryz.strCells,Program.keyLits,Tryz.underlying58,Tryz.underlying9,w1,w2]
theorem zhT {x y:Nat × ByteArray} (hx:xH x) (hy:xH y) (e:zba x=zba y):x=y:=by
 have:=Tryz.sigKeyed.inj (zbQ x hx) (by rw [e];exact zbQ y hy);unfold zgj at this;simp at this;exact Prod.ext (by omega) this.2
def zdr (w:World) (k:TypeId) (mv:Value) (L:List Lit):Prop:=
  (mv=.map none∧L=[])∨∃ g f,mv=.map (some g)∧yC Tryz.prog k w g L.length f∧(∀ kl,kl∈L->f kl=some (.agg #[]))∧∀ kl,kl ∉ L->f kl=none
theorem zdr.chg {S:Nat->Prop} {w w':World} {k:TypeId} {mv:Value} {L:List Lit} (h:zdr w k mv L) (hc:Chg S w w') (hs:∀ g,mv=.map (some g)->¬ S g):zdr w' k mv L:=by
 rcases h with h | ⟨g,f,rfl,hm,q⟩
 ·exact .inl h
 ·exact .inr ⟨g,f,rfl,hm.chg hc (hs g rfl),q⟩
theorem zdr.lt {w:World} {k:TypeId} {mv:Value} {L:List Lit} (h:zdr w k mv L) {g:Nat} (e:mv=.map (some g)):g < w.heap.size:=by
 rcases h with ⟨h,_⟩ | ⟨g',f,h,hm,q⟩
 ·rw [e] at h;cases h
 ·rw [e] at h;cases h;exact hm.lt
theorem zdr.shape {w:World} {k:TypeId} {mv:Value} {L:List Lit} (h:zdr w k mv L):mv=.map none∨∃ g,mv=.map (some g):=by
 rcases h with ⟨h,_⟩ | ⟨g,f,h,_⟩
 ·exact .inl h
 ·exact .inr ⟨g,h⟩
theorem zdr.look {w:World} {k e t:TypeId} {mv:Value} {L:List Lit} (h:zdr w k mv L) (K:Keyed Tryz.prog k) (ht:Tryz.prog.underlying t=some (.map k e)) (hz:(zeroValue e).run Tryz.prog w=.ok (.agg #[]) w) {key:Value} {kl:Lit} (hkey:keyOf Tryz.prog k key=some kl) {b:Bool} (hb:b=true↔kl∈L):
  (Instr.lookup t mv key true).run Tryz.prog w=.ok (.tuple #[.agg #[],.bool b]) w:=by
 rcases h with ⟨rfl,rfl⟩ | ⟨g,f,rfl,⟨D,hD,_,q⟩,h1,h2⟩
 ·have:b=false:=by cases b <;> simp at hb ⊢
  subst this;exact Maps.look_nil (w:=w) true K ht hz hkey
 ·obtain ⟨v',ps,hrun,hv'⟩:=hD.look_ok K ht hz (show zfp (.agg #[])=some (.held (.agg #[]),[]) from rfl) hkey
  rw [xZ q] at hv';have hv':=Xc hv';rw [hrun,(q kl).1,hv'];cases b with
  | true=>rw [h1 kl (hb.1 rfl)];rfl
  | false=>rw [h2 kl (fun e=>by have:=hb.2 e;cases this)];rfl
theorem zhU {w:World} {k e t:TypeId} {g:Nat} {f:Lit->Option Value} {L:List Lit} (hm:yC Tryz.prog k w g L.length f) (h1:∀ kl,kl∈L->f kl=some (.agg #[])) (h2:∀ kl,kl ∉ L->f kl=none) (K:Keyed Tryz.prog k) (ht:Tryz.prog.underlying t=some (.map k e)) (hn:L.length < maxLen) {key:Value} {kl:Lit} (hkey:keyOf Tryz.prog k key=some kl) (hnot:kl ∉ L):
  ∃ w',(Instr.mapUpdate t (.map (some g)) key (.agg #[])).run Tryz.prog w=.ok () w'∧zdr w' k (.map (some g)) (L++[kl])∧Chg (·=g) w w':=by
 obtain ⟨w',hr,hm',hc⟩:=hm.put (val:=.agg #[]) K ht hn hkey;rw [h2 kl hnot] at hm';refine ⟨w',hr,.inr ⟨g,_,rfl,by rw [zlC];exact hm',fun x hx=>?_,fun x hx=>?_⟩,hc⟩
 ·rcases zlL.1 hx with h | h
  ·rw [Zg f (fun e=>hnot (by rw [<- e];exact h))];exact h1 x h
  ·rw [List.mem_singleton] at h
   subst h;exact yv f x _
 ·rw [zlL,List.mem_singleton,not_or] at hx
  rw [Zg f hx.2];exact h2 x hx.1
theorem zdw {w:World} {ops:Array Oper} {rest:List Oper} {o:Oper} {a:Act} {Q:Exit->Act->World->Prop} (hgd:o.guard=none) (m x v:Operand) (t k e:TypeId) (hop:o.op=Op.mapUpdate t m x v) (K:Keyed Tryz.prog k) (ht:Tryz.prog.underlying t=some (.map k e)) (g:Nat) (f:Lit->Option Value) (L:List Lit)
  (hm:a.eval m=.map (some g)) (hM:yC Tryz.prog k w g L.length f) (h1:∀ kl,kl∈L->f kl=some (.agg #[])) (h2:∀ kl,kl ∉ L->f kl=none) (hn:L.length < maxLen) (key:Value) (kl:Lit) (hx:a.eval x=key) (hv:a.eval v=.agg #[]) (hkey:keyOf Tryz.prog k key=some kl) (hnot:kl ∉ L)
  (hK:∀ w',zdr w' k (.map (some g)) (L++[kl])->Chg (·=g) w w'->wpList Tryz.prog ops Q rest (a.put o.dst undef) w'):wpList Tryz.prog ops Q (o :: rest) a w:=by
 refine wpList_plain hgd fun K' hK'=>?_;obtain ⟨w',hrun,r1,r2⟩:=zhU hM h1 h2 K ht hn hkey hnot;unfold Oper.wp;simp [execOp,hop,hm,hx,hv,hrun,Result.andThen];exact hK' _ _ (hK w' r1 r2)
theorem zja {w:World} {a k:Nat} {cs ds:Array Value} {t u:TypeId} {f g:Nat × Nat} (h:w.heap[a]? = some (.cells cs t f)) (h2:w.heap[k]? = some (.cells ds u g)) (hn:t≠u):a≠k:=by
 rintro rfl;rw [h] at h2;cases h2;exact hn rfl
def zbP:List (Nat × ByteArray)->List Value
  | []=>[]
  | x :: r=>[.int .u16 (x.1:Int),.string x.2]++zbP r
theorem XK:∀ l m,zbP (l++m)=zbP l++zbP m
 | [],m=>rfl
 | x :: r,m=>by rw [List.cons_append,zbP,zbP,XK r m,List.append_assoc]
structure XV (w:World) (v mv:Value) (L:List (Nat × ByteArray)):Prop where
  row:w.ownsRow 0 235 2 v L.length (zbP L)
  set:zdr w 235 mv (L.map zba)
  fit:∀ x∈L,xH x
theorem XV.mem {w:World} {v mv:Value} {L:List (Nat × ByteArray)} (h:XV w v mv L) {x:Nat × ByteArray} (hx:xH x):decide (x∈L)=true↔zba x∈L.map zba:=by
 rw [decide_eq_true_eq,List.mem_map];constructor
 ·exact fun hm=>⟨x,hm,rfl⟩
 ·rintro ⟨y,hy,e⟩
  exact zhT (h.fit y hy) hx e ▸ hy
structure yB where
  ch:Nat
  way:Int
  seq:Int
  body:ByteArray
  who:Int
deriving DecidableEq
def ziW:List yB->List Value
  | []=>[]
  | x :: r=>[.int .u16 (x.ch:Int),.int .i64 x.way,.int .i64 x.seq,.string x.body,.int .i64 x.who]++ziW r
def zkN (x:yB):Lit:=.string (keyBytes [.int .u16 (x.ch:Int),.int .i64 x.way,.int .i64 x.seq,.string x.body.data.toList,.int .i64 x.who])
def zjK (x:yB):Prop:=x.ch < 65536∧(Lit.int .i64 x.way).wf=true∧(Lit.int .i64 x.seq).wf=true∧x.body.size<=1000000∧(Lit.int .i64 x.who).wf=true
structure zeX (w:World) (v mv:Value) (L:List yB):Prop where
  row:w.ownsRow 0 241 5 v L.length (ziW L)
  set:zdr w 241 mv (L.map zkN)
  fit:∀ x∈L,zjK x
theorem XV.chg {S:Nat->Prop} {w w':World} {v mv:Value} {L:List (Nat × ByteArray)} (h:XV w v mv L) (hc:Chg S w w') (h1:∀ k,v.ownBlock=some k->¬ S k) (h2:∀ g,mv=.map (some g)->¬ S g):XV w' v mv L:=⟨zo h.row hc h1,h.set.chg hc h2,h.fit⟩
theorem zeX.chg {S:Nat->Prop} {w w':World} {v mv:Value} {L:List yB} (h:zeX w v mv L) (hc:Chg S w w') (h1:∀ k,v.ownBlock=some k->¬ S k) (h2:∀ g,mv=.map (some g)->¬ S g):zeX w' v mv L:=⟨zo h.row hc h1,h.set.chg hc h2,h.fit⟩
structure Yn (w:World) (b:Nat) (v0 m0 v1 m1 v2 m2:Value) (L:List (Nat × ByteArray)) (M:List yB):Prop where
  obj:w.heap[b]? = some (.cells #[v0,m0,v1,m1,v2,m2] 150 (0,0))
  sigs:XV w v0 m0 L
  macs:zeX w v1 m1 M
  ne:∀ g,m0=.map (some g)->m1≠.map (some g)
def ziR (b:Nat) (v0 m0 v1 m1:Value) (k:Nat):Prop:=k=b∨v0.ownBlock=some k∨m0=.map (some k)∨v1.ownBlock=some k∨m1=.map (some k)
def ZD (w:World) (b:Nat) (B:Nat->Prop) (L:List (Nat × ByteArray)) (M:List yB):Prop:=∃ v0 m0 v1 m1 v2 m2,Yn w b v0 m0 v1 m1 v2 m2 L M∧∀ k,ziR b v0 m0 v1 m1 k->B k
theorem Yn.chg {S:Nat->Prop} {w w':World} {b:Nat} {v0 m0 v1 m1 v2 m2:Value} {L:List (Nat × ByteArray)} {M:List yB} (h:Yn w b v0 m0 v1 m1 v2 m2 L M) (hc:Chg S w w') (hs:∀ k,ziR b v0 m0 v1 m1 k->¬ S k):Yn w' b v0 m0 v1 m1 v2 m2 L M:=
 ⟨hc.obj (hs b (.inl rfl)) h.obj,h.sigs.chg hc (fun k e=>hs k (.inr (.inl e))) (fun k e=>hs k (.inr (.inr (.inl e)))),h.macs.chg hc (fun k e=>hs k (.inr (.inr (.inr (.inl e))))) (fun k e=>hs k (.inr (.inr (.inr (.inr e))))),h.ne⟩
theorem ZD.chg {S:Nat->Prop} {w w':World} {b:Nat} {B:Nat->Prop} {L:List (Nat × ByteArray)} {M:List yB} (h:ZD w b B L M) (hc:Chg S w w') (hs:∀ k,B k->¬ S k):ZD w' b B L M:=by
 obtain ⟨v0,m0,v1,m1,v2,m2,h1,h2⟩:=h;exact ⟨v0,m0,v1,m1,v2,m2,h1.chg hc (fun k e=>hs k (h2 k e)),h2⟩
theorem ZD.to {w:World} {b:Nat} {B B':Nat->Prop} {L:List (Nat × ByteArray)} {M:List yB} (h:ZD w b B L M) (hs:∀ k,k < w.heap.size->B k->B' k):ZD w b B' L M:=by
 obtain ⟨v0,m0,v1,m1,v2,m2,h1,h2⟩:=h;refine ⟨v0,m0,v1,m1,v2,m2,h1,fun k hk=>hs k ?_ (h2 k hk)⟩;rcases hk with rfl | e | e | e | e
 ·exact zu h1.obj
 ·exact (h1.sigs.row.lt k e).2
 ·exact h1.sigs.set.lt e
 ·exact (h1.macs.row.lt k e).2
 ·exact h1.macs.set.lt e
theorem Yn.lt {w:World} {b:Nat} {v0 m0 v1 m1 v2 m2:Value} {L:List (Nat × ByteArray)} {M:List yB} (h1:Yn w b v0 m0 v1 m1 v2 m2 L M) {k:Nat} (hk:ziR b v0 m0 v1 m1 k):k < w.heap.size:=by
 rcases hk with rfl | e | e | e | e
 ·exact zu h1.obj
 ·exact (h1.sigs.row.lt k e).2
 ·exact h1.sigs.set.lt e
 ·exact (h1.macs.row.lt k e).2
 ·exact h1.macs.set.lt e
theorem Yn.b0 {w:World} {b:Nat} {v0 m0 v1 m1 v2 m2:Value} {L:List (Nat × ByteArray)} {M:List yB} (h:Yn w b v0 m0 v1 m1 v2 m2 L M):v0.ownBlock≠some b∧v1.ownBlock≠some b∧m0≠.map (some b)∧m1≠.map (some b)∧(∀ k,v0.ownBlock=some k->v1.ownBlock≠some k∧m0≠.map (some k)∧m1≠.map (some k))∧∀ k,v1.ownBlock=some k->m0≠.map (some k)∧m1≠.map (some k):=by
 have mapNe:∀ {k:TypeId} {mv:Value} {X:List Lit} {g:Nat} {cs:Array Value} {t:TypeId},zdr w k mv X->w.heap[g]? = some (.cells cs t (0,0))->mv≠.map (some g):=fun hs hg e=>by
  rcases hs with ⟨h,_⟩ | ⟨g',f,h,hm,_⟩
  ·rw [e] at h;cases h
  ·rw [e] at h;cases h;exact hm.ne_cells hg rfl
 refine ⟨fun e=>?_,fun e=>?_,mapNe h.sigs.set h.obj,mapNe h.macs.set h.obj,fun k e=>⟨fun e'=>?_,?_,?_⟩,fun k e=>⟨?_,?_⟩⟩
 ·obtain ⟨cs,q⟩:=zM h.sigs.row e
  exact zja q h.obj (by decide) rfl
 ·obtain ⟨cs,q⟩:=zM h.macs.row e
  exact zja q h.obj (by decide) rfl
 ·obtain ⟨cs,q⟩:=zM h.sigs.row e
  obtain ⟨ds,q'⟩:=zM h.macs.row e';exact zja q q' (by decide) rfl
 ·obtain ⟨cs,q⟩:=zM h.sigs.row e
  exact mapNe h.sigs.set q
 ·obtain ⟨cs,q⟩:=zM h.sigs.row e
  exact mapNe h.macs.set q
 ·obtain ⟨cs,q⟩:=zM h.macs.row e
  exact mapNe h.sigs.set q
 ·obtain ⟨cs,q⟩:=zM h.macs.row e
  exact mapNe h.macs.set q
set_option maxHeartbeats 1000000 in
set_option maxRecDepth 100000 in
theorem zak (w:World) (b:Nat) (v mv:Value) (L:List (Nat × ByteArray)) (x:Nat × ByteArray) (hb:b < w.heap.size) (c1:w.cell? ⟨b,1,none⟩=some mv) (h:XV w v mv L) (hx:xH x):
  Calls Tryz.prog 201 #[.pointer (some ⟨b,0,none⟩),zgj x] w fun e w'=>e=.returned (.bool (decide (x∈L)))∧Chg (fun _=>False) w w':=by
 have HM:=zf (h.mem hx);have HK:=zf (zbQ x hx);have ka:=zi (fun _=>False) w (.cells #[.int .u16 (x.1:Int),.string x.2] 235);have OB:=zh w (.cells #[.int .u16 (x.1:Int),.string x.2] 235);have HS:=zf (h.set.chg ka (fun _ _ e=>e));have d0:=zg (o:=0) OB rfl;have d1:=zg (o:=1) OB rfl;have d2:=zj ka (fun e=>e) c1;have K1:=zf ka;have ZU:=zf Tryz.zeroUnit;clear h hx c1 OB ka;unfold zgj at *;go_enter Tryz.func201,Tryz.ntmps201;go_wp2_with fail;refine zC (N:=17) [.rd [0,1,2,3,4,5,6,7,8],.ef 9,.ef 10,.rd [11]] (fun W=>W.cell? ⟨b,1,none⟩=some mv∧W.cell? ⟨w.heap.size,0,none⟩=some (.int .u16 (x.1:Int))∧W.cell? ⟨w.heap.size,1,none⟩=some (.string x.2)∧Hid (zdr W 235 mv (L.map zba))) (by kernel_rfl) (by kernel_rfl) (by kernel_rfl) (by kernel_rfl) (Nat.le_of_ble_eq_true rfl) ⟨d2,d0,d1,zf (HS.out.chg (zy (fun _=>False) _) (fun _ _ e=>e))⟩ ?_;refine zJ (A:=?A1a) ?h1a ?h2a
 case h1a=>
  rintro w' ⟨y0,y1,y2,y3⟩ K hK;have LK:=zf (y3.out.look Tryz.sigKeyed Tryz.underlying139 (ZU.out _) HK.out HM.out);simp only [zS,zls,zlt,zlu,zlv,zlw]
  repeat still_step
  refine wpStill_step (fun K hK=>?_);go_simp;rw [LK.out];go_simp;refine hK _ ?_;clear hK K
  repeat still_step
  refine wpStill_nil ?_;exact hK
 have HSd:=zf (HS.out.chg (zy (fun _=>False) _) (fun _ _ e=>e));have K2:=zf (K1.out.drew);have e0:=zj (zy (fun _=>False) _) (fun e=>e) d0;have e1:=zj (zy (fun _=>False) _) (fun e=>e) d1;have e2:=zj (zy (fun _=>False) _) (fun e=>e) d2;clear d0 d1 d2 HS K1;generalize (w.alloc (.cells #[.int .u16 (x.1:Int),.string x.2] 235)).drew=w2 at *;refine zQ rfl ?_;go_wp2_with fail;have kb:=zi (fun _=>False) w2 (.cells #[] 359);refine ⟨⟨zj kb (fun e=>e) e2,zj kb (fun e=>e) e0,zj kb (fun e=>e) e1,zf (HSd.out.chg kb (fun _ _ e=>e))⟩,?_⟩;refine zQ rfl ?_;go_wp2_with fail;refine ⟨⟨zj kb (fun e=>e) e2,zj kb (fun e=>e) e0,zj kb (fun e=>e) e1,zf (HSd.out.chg kb (fun _ _ e=>e))⟩,?_⟩;refine zJ (A:=?A3a) ?h5a ?h6a
 case h5a=>
  rintro w' ⟨y0,y1,y2,y3⟩ K hK;simp only [zS,zls,zlt,zlu,zlv,zlw]
  repeat still_step
  refine wpStill_nil ?_;exact hK
 refine Za ?_;have K3:=zf (K2.out.trans kb);clear kb;go_wp2;go_ret;exact ⟨rfl,K3.out⟩
def yD (w:World) (b:Nat) (B:Nat->Prop) (L:List (Nat × ByteArray)) (M:List yB) (w':World):Prop:=∃ B',ZD w' b B' L M∧Chg B w w'∧∀ k,B' k->B k∨(w.heap.size<=k∧k < w'.heap.size)
theorem ZD.res {w w':World} {b:Nat} {B:Nat->Prop} {L:List (Nat × ByteArray)} {M:List yB} (h:ZD w b B L M) (k:Chg (fun _=>False) w w'):yD w b B L M w':=⟨B,h.chg k (fun _ _ e=>e),k.mono (fun _ _ e=>e.elim),fun _ e=>.inl e⟩
theorem zeo (w:World):Calls Tryz.prog 11 #[] w fun e w'=>e=.returned (.pointer (some ⟨w.heap.size,0,none⟩))∧ZD w' w.heap.size (fun k=>k=w.heap.size) [] []∧Chg (fun _=>False) w w'∧w.heap.size < w'.heap.size:=by
 have ka:=zi (fun _=>False) w (.cells #[.slice none 0 0,.map none,.slice none 0 0,.map none,.slice none 0 0,.map none] 150);have OB:=zf (zh w (.cells #[.slice none 0 0,.map none,.slice none 0 0,.map none,.slice none 0 0,.map none] 150));have sz:w.heap.size < (w.alloc (.cells #[.slice none 0 0,.map none,.slice none 0 0,.map none,.slice none 0 0,.map none] 150)).heap.size:=by rw [zlH];omega
 have FIN:=zf (And.intro ka sz);clear ka sz;go_enter Tryz.func11,Tryz.ntmps11;go_wp2;go_ret;refine ⟨rfl,⟨.slice none 0 0,.map none,.slice none 0 0,.map none,.slice none 0 0,.map none,⟨OB.out,⟨World.ownsRow_nil _ _ _ _,.inl ⟨rfl,rfl⟩,fun x h=>(List.not_mem_nil h).elim⟩,⟨World.ownsRow_nil _ _ _ _,.inl ⟨rfl,rfl⟩,fun x h=>(List.not_mem_nil h).elim⟩,fun g e=>by cases e⟩,fun k hk=>?_⟩,FIN.out.1,FIN.out.2⟩;rcases hk with rfl | e | e | e | e
 ·rfl
 all_goals cases e
theorem zik (w:World) (a:Nat) (ha:a < 65536):Calls Tryz.prog 123 #[.int .u16 (a:Int)] w fun e w'=>e=.returned (.int .i64 ((a / 8192:Nat):Int))∧w=w':=by
 have e1:IntKind.i64.wrap (a:Int)=(a:Int):=by rw [IntKind.wrap_i64];omega
 go_enter Tryz.func123,Tryz.ntmps123;go_wp2;go_ret;exact ⟨by simp,rfl⟩
theorem Tryz.elemSig:Zc Tryz.prog 235 2 24:=zX (z:=.agg #[.int .u16 0,.string ⟨#[]⟩]) (by kernel_rfl) rfl (by decide)
theorem Tryz.sizeSigs:(Tryz.prog.info? 138).map (·.size)=some 1:=by kernel_rfl
theorem Yn.newMap {w:World} {b:Nat} {v0 v1 m1 v2 m2:Value} {L:List (Nat × ByteArray)} {M:List yB} (h:Yn w b v0 (.map none) v1 m1 v2 m2 L M):
  ∃ f,Yn ((w.alloc (.map #[] 0)).setCell ⟨b,1,none⟩ (.map (some w.heap.size))) b v0 (.map (some w.heap.size)) v1 m1 v2 m2 L M∧yC Tryz.prog 235 ((w.alloc (.map #[] 0)).setCell ⟨b,1,none⟩ (.map (some w.heap.size))) w.heap.size (L.map zba).length f∧(∀ kl,kl∈L.map zba->f kl=some (.agg #[]))∧(∀ kl,kl ∉ L.map zba->f kl=none)∧Chg (fun k=>k=b) w ((w.alloc (.map #[] 0)).setCell ⟨b,1,none⟩ (.map (some w.heap.size))):=by
 have hL:L.map zba=[]:=by
  rcases h.sigs.set with ⟨_,h⟩ | ⟨g,f,e,_⟩
  ·exact h
  ·cases e
 have hb:=zu h.obj;have ka:=zi (fun _=>False) w (.map #[] 0);have kc:=zA (w.alloc (.map #[] 0)) b 1 (.map (some w.heap.size));have kk:Chg (fun k=>k=b) w ((w.alloc (.map #[] 0)).setCell ⟨b,1,none⟩ (.map (some w.heap.size))):=(ka.mono (fun _ _ e=>e.elim)).trans kc;have mk:=(yC.made Tryz.prog 235 w).chg kc (by omega);have b0:=h.b0;have ob:=zq (o:=1) (ka.obj (fun e=>e) h.obj) (.map (some w.heap.size));refine ⟨fun _=>none,⟨ob,⟨zo h.sigs.row kk (fun k e e'=>b0.1 (e' ▸ e)),.inr ⟨_,_,rfl,by rw [hL];exact mk,fun kl hk=>(by rw [hL] at hk;cases hk),fun kl _=>rfl⟩,h.sigs.fit⟩,h.macs.chg kk (fun k e e'=>b0.2.1 (e' ▸ e)) (fun k e e'=>b0.2.2.2.1 (e' ▸ e)),fun g e e'=>?_⟩,by rw [hL];exact mk,fun kl hk=>(by rw [hL] at hk;cases hk),fun kl _=>rfl,kk⟩;cases e;have:=h.macs.set.lt e';omega
theorem Yn.push {w w4 w5 w6:World} {b g:Nat} {v0 v1 m1 v2 m2 v5:Value} {L:List (Nat × ByteArray)} {M:List yB} {x:Nat × ByteArray} (h:Yn w b v0 (.map (some g)) v1 m1 v2 m2 L M) (hx:xH x) (hs:zdr w4 235 (.map (some g)) (L.map zba++[zba x])) (k4:Chg (fun k=>k=g) w w4) (k5:Chg (fun _=>False) w4 w5)
  (ho:w6.ownsRow 0 235 2 v5 (L.length+1) (zbP L++[.int .u16 (x.1:Int),.string x.2])) (k6:Chg (fun k=>v0.ownBlock=some k) w5 w6) (sn:yJ w5 v0 v5):
  w6.heap[b]? = some (.cells #[v0,.map (some g),v1,m1,v2,m2] 150 (0,0))∧Yn (w6.setCell ⟨b,0,none⟩ v5) b v5 (.map (some g)) v1 m1 v2 m2 (L++[x]) M∧Chg (ziR b v0 (.map (some g)) v1 m1) w (w6.setCell ⟨b,0,none⟩ v5)∧∀ k,v5.ownBlock=some k->v0.ownBlock=some k∨w.heap.size<=k:=by
 obtain ⟨n1,n2,n3,n4,n5,n6⟩:=h.b0;have hgb:b≠g:=fun e=>n3 (by rw [e]);have a4:=k4.obj (fun e=>hgb e) h.obj;have a5:=k5.obj (fun e=>e) a4;have a6:=k6.obj n1 a5;have kc:=zA w6 b 0 v5;have g4:g < w4.heap.size:=hs.lt rfl;have gw:g < w.heap.size:=h.sigs.set.lt rfl
 have nb:v5.ownBlock≠some b:=fun e=>by
  obtain ⟨cs,q⟩:=zM ho e;exact zja q a6 (by decide) rfl
 have m4:=h.macs.chg k4 (fun k e e'=>(n6 k e).1 (by rw [e'])) (fun k e e'=>h.ne g rfl (by rw [e,e']));have m5:=m4.chg k5 (fun _ _ e=>e) (fun _ _ e=>e);have m6:=m5.chg k6 (fun k e e'=>(n5 k e').1 e) (fun k e e'=>(n5 k e').2.2 e);have s5:=hs.chg k5 (fun _ _ e=>e);have s6:=s5.chg k6 (fun k e e'=>(n5 k e').2.1 e);refine ⟨a6,⟨zq (o:=0) a6 v5,⟨?_,?_,?_⟩,m6.chg kc (fun k e e'=>n2 (e' ▸ e)) (fun k e e'=>n4 (e' ▸ e)),h.ne⟩,?_,fun k hk=>?_⟩
 ·rw [zlC,XK]
  exact zo ho kc (fun k e e'=>nb (e' ▸ e))
 ·rw [List.map_append]
  exact s6.chg kc (fun k e e'=>n3 (e' ▸ e))
 ·intro y hy
  rcases zlL.1 hy with hy | hy
  ·exact h.sigs.fit y hy
  ·rw [List.mem_singleton] at hy;exact hy ▸ hx
 ·exact (((k4.mono (fun k _ e=>.inr (.inr (.inl (by rw [e]))))).trans (k5.mono (fun _ _ e=>e.elim))).trans (k6.mono (fun k _ e=>.inr (.inl e)))).trans (kc.mono (fun k _ e=>.inl e))
 ·rcases sn with e | e
  ·exact .inl (e ▸ hk)
  ·exact .inr (Nat.le_trans (k4.trans (k5.mono (fun _ _ e=>e.elim))).size (e k hk))
set_option maxHeartbeats 4000000 in
set_option maxRecDepth 100000 in
theorem ziI (w:World) (b:Nat) (B:Nat->Prop) (L:List (Nat × ByteArray)) (M:List yB) (x:Nat × ByteArray) (h:ZD w b B L M) (hx:xH x) (hn:x ∉ L) (hl:L.length<=100000):
  Calls Tryz.prog 202 #[.pointer (some ⟨b,0,none⟩),zgj x] w fun e w'=>e=.returned (.tuple #[])∧yD w b B (L++[x]) M w':=by
 obtain ⟨v0,m0,v1,m1,v2,m2,h,hB⟩:=h;have HB:=zf hB;have HX:=zf hx;have hbw:=zu h.obj;have NM:=zf (show zba x ∉ L.map zba from fun e=>hn (of_decide_eq_true ((h.sigs.mem hx).2 e)));have HN:decide (x∈L)=false:=zly hn;have HK:=zf (zbQ x hx);have ka:=zi (fun _=>False) w (.cells #[.int .u16 (x.1:Int),.string x.2] 235);have OX:=zh w (.cells #[.int .u16 (x.1:Int),.string x.2] 235);have H1:=zf (h.chg ka (fun _ _ e=>e));have d0:=zg (o:=0) OX rfl;have d1:=zg (o:=1) OX rfl;have sa:w.heap.size < (w.alloc (.cells #[.int .u16 (x.1:Int),.string x.2] 235)).heap.size:=by rw [zlH];omega
 have HS:=zf (zak _ b v0 m0 L x (by omega) (zg (o:=1) H1.out.obj rfl) H1.out.sigs hx);rw [HN] at HS;have K1:=zf ka;have O1:=zf OX;have EQM:=fun (w:World) (r:Option Nat)=>run_eql_map_nil (P:=Tryz.prog) w 139 235 359 r Tryz.underlying139;have MKM:=fun (w:World)=>run_makeMap (P:=Tryz.prog) 139 w;have hne:w.heap.size≠b:=by omega
 have hLm:(L.map zba).length=L.length:=zlD _;have HLm:=zf hLm;have R0:=zf h.sigs.row;clear h hB hx hn HN ka OX hLm;unfold zgj at *;go_enter Tryz.func202,Tryz.ntmps202;go_wp2_with fail;generalize hw1:w.alloc (.cells #[.int .u16 (x.1:Int),.string x.2] 235)=w1 at *;clear hw1;(with_reducible refine HS.out.mono ?_);rintro e w2 ⟨rfl,k2⟩;have H2:=zf (H1.out.chg k2 (fun _ _ e=>e));have K2:=zf (K1.out.trans k2);have O2:=zf (k2.obj (fun e=>e) O1.out);have s2:w1.heap.size<=w2.heap.size:=k2.size;clear k2 H1 K1 O1 HS d0 d1;rcases H2.out.sigs.set.shape with e0 | ⟨g,e0⟩
 case' inl=>
  subst e0;obtain ⟨f,q1,q2,q3,q4,q5⟩:=H2.out.newMap;have c1:=zg (o:=1) H2.out.obj rfl;have ca:(w2.alloc (.map #[] 0)).cell? ⟨b,1,none⟩=some (.map none):=zj (zi (fun _=>False) w2 _) (fun e=>e) c1;have fa:=zk (o:=1) (yc (.map #[] 0) H2.out.obj);have H3:=zf (And.intro q1 (And.intro q2 (And.intro q3 q4)));have K3:=zf (show Chg B w _ from (K2.out.mono (fun _ _ e=>e.elim)).trans (q5.mono (fun k _ e=>HB.out k (.inl e))));have O3:=zf (q5.obj hne O2.out);have BG:=zf (show B w2.heap.size∨w.heap.size<=w2.heap.size from .inr (by omega));have s3:w2.heap.size<=_:=q5.size;have gx:w.heap.size≠w2.heap.size:=by omega
  clear q1 q2 q3 q4 q5;go_wp2_with fail;generalize hw3:(w2.alloc (.map #[] 0)).setCell ⟨b,1,none⟩ (.map (some w2.heap.size))=w3 at *;clear hw3 c1 ca fa H2 K2 O2;generalize w2.heap.size=g at *
 case' inr=>
  subst e0
  obtain ⟨f,q2,q3,q4⟩:∃ f,yC Tryz.prog 235 w2 g (L.map zba).length f∧(∀ kl,kl∈L.map zba->f kl=some (.agg #[]))∧∀ kl,kl ∉ L.map zba->f kl=none:=by
   rcases H2.out.sigs.set with ⟨e,_⟩ | ⟨g',f,e,q⟩
   ·cases e
   ·cases e;exact ⟨f,q⟩
  have c1:=zg (o:=1) H2.out.obj rfl;have H3:=zf (And.intro H2.out (And.intro q2 (And.intro q3 q4)));have K3:=zf (show Chg B w _ from K2.out.mono (fun _ _ e=>e.elim));have O3:=zf O2.out;have BG:=zf (show B g∨w.heap.size<=g from .inl (HB.out g (.inr (.inr (.inl rfl)))));have s3:w2.heap.size<=w2.heap.size:=zlS _;have gx:w.heap.size≠g:=fun e=>q2.ne_cells O2.out e;clear q2 q3 q4;go_wp2_with fail;clear c1 H2 K2 O2;generalize w2=w3 at *
 all_goals
  have hgb:b≠g:=H3.out.2.1.ne_cells H3.out.1.obj;have c1:=zg (o:=1) H3.out.1.obj rfl;have x0:=zg (o:=0) O3.out rfl;have x1:=zg (o:=1) O3.out rfl;refine zC (N:=32) [.rd [0,1,2,3,4,5],.ef 6] (fun W=>W.cell? ⟨b,1,none⟩=some (.map (some g))∧W.cell? ⟨w.heap.size,0,none⟩=some (.int .u16 (x.1:Int))∧W.cell? ⟨w.heap.size,1,none⟩=some (.string x.2)) (by kernel_rfl) (by kernel_rfl) (by kernel_rfl) (by kernel_rfl) (Nat.le_of_ble_eq_true rfl) ⟨c1,x0,x1⟩ ?_;refine ⟨?_,?_,?_⟩
  rotate_left
  ·rintro w' ⟨y0,y1,y2⟩ K hK
   simp only [zS,zls,zlt,zlu,zlv,zlw]
   repeat still_step
   refine wpStill_nil ?_;exact hK
  have kd:=zy (fun _=>False) w3;have H4:=zf (And.intro (H3.out.1.chg kd (fun _ _ e=>e)) (H3.out.2.1.chg kd (fun e=>e)));have O4:=zf (kd.obj (fun e=>e) O3.out);have Q3:=zf H3.out.2.2;have K4:=zf (K3.out.drew);have s4:w3.heap.size<=w3.drew.heap.size:=zlS _;clear c1 x0 x1 kd H3 O3 K3;generalize w3.drew=w4 at *;refine zQ rfl ?_;refine zdw rfl (.tmp 19) (.tmp 20) (.tmp 21) 139 235 359 rfl Tryz.sigKeyed Tryz.underlying139 g f _ rfl H4.out.2 Q3.out.1 Q3.out.2 (by rw [HLm.out];unfold maxLen;omega) _ _ rfl rfl HK.out NM.out ?_;intro w5 hs5 k5;have O5:=zf (k5.obj gx O4.out);have x0:=zg (o:=0) O5.out rfl;have x1:=zg (o:=1) O5.out rfl;have b5:=k5.obj hgb H4.out.1.obj;have c0:=zg (o:=0) b5 rfl;have c1:=zg (o:=1) b5 rfl;refine ⟨⟨c1,x0,x1⟩,?_⟩;refine Za ?_;have s5:w4.heap.size<=w5.heap.size:=k5.size;have r5:=zo H4.out.1.sigs.row k5 (fun k e e'=>(H4.out.1.b0.2.2.2.2.1 k e).2.1 (by rw [e']));obtain ⟨a0,q0,e00⟩:=zl r5;subst e00;have R5:=zf r5;have HS5:=zf hs5;have K5:=zf k5;have B5:=zf b5;clear hs5 k5 c1 O4 Q3 r5 b5;go_wp2_with fail;refine Zf (N:=32) [.rd [0,1,2,3,4,5],.ef 6,.ef 7,.ef 8,.ef 9,.ef 10] 10 (fun W=>W.cell? ⟨b,0,none⟩=some (.slice a0 L.length q0)∧W.cell? ⟨w.heap.size,0,none⟩=some (.int .u16 (x.1:Int))∧W.cell? ⟨w.heap.size,1,none⟩=some (.string x.2)) (by kernel_rfl) (by kernel_rfl) (by kernel_rfl) (by kernel_rfl) (by kernel_rfl) (Nat.le_of_ble_eq_true rfl) ⟨c0,x0,x1⟩ ?_;refine ⟨?_,?_,?_⟩
  rotate_left
  ·rintro w' ⟨y0,y1,y2⟩ K hK
   simp only [zS,zls,zlt,zlu,zlv,zlw]
   repeat still_step
   refine wpStill_nil ?_;exact hK
  have kd:=zy (fun _=>False) w5;have e0:=zj kd (fun e=>e) c0;have e1:=zj kd (fun e=>e) x0;have e2:=zj kd (fun e=>e) x1;have R6:=zf (zo R5.out kd (fun _ _ e=>e));have KD:=zf kd;have s6:w5.heap.size<=w5.drew.heap.size:=zlS _;have hw6:∃ w6,w6=w5.drew:=⟨_,rfl⟩;clear c0 x0 x1 kd O5 R5;generalize w5.drew=w6 at *;clear hw6;refine zG rfl ?_;go_wp2_with fail;have kf:=zi (fun _=>False) w6 (.cells #[.int .u16 (x.1:Int),.string x.2] 235);refine ⟨.inr ⟨zj kf (fun e=>e) e0,zj kf (fun e=>e) e1,zj kf (fun e=>e) e2⟩,?_⟩;refine zG rfl ?_;refine zK rfl (.tmp 26) (.tmp 28) 138 rfl 235 2 24 Tryz.underlying138 Tryz.elemSig 0 _ L.length (zbP L) rfl (zo R6.out kf (fun _ _ e=>e)) w6.heap.size [.int .u16 (x.1:Int),.string x.2] 235 (0,0) rfl (zh _ _) rfl (by intro u hu;simp at hu;rcases hu with rfl | rfl <;> rfl) (by omega) (by unfold maxLen;omega) (Nat.zero_le _) ?_;intro v7 w7 o7 g7 sn;have P:=H4.out.1.push HX.out HS5.out K5.out (KD.out.trans kf) o7 (Chg.of_grown g7) sn;obtain ⟨h7,p1,p2,p3⟩:=P;obtain ⟨a7,q7,rfl⟩:=zl o7;have z0:=zg (o:=0) h7 rfl;have f0:=zk (o:=0) h7;have P1:=zf p1;have P2:=zf p2;have P3:=zf p3;have k7:=Chg.of_grown g7;have nb:(Value.slice a0 L.length q0).ownBlock≠some w.heap.size:=fun e=>by have:=(R0.out.lt _ e).2;omega
  have e0:=zj k7 (H4.out.1.b0.1) (zj kf (fun e=>e) e0);have e1:=zj k7 nb (zj kf (fun e=>e) e1);have e2:=zj k7 nb (zj kf (fun e=>e) e2);have s7:w6.heap.size<=w7.heap.size:=Nat.le_trans kf.size k7.size;clear p1 p2 p3 o7 g7 sn kf k7 R6 h7 nb;refine ⟨.inr ⟨e0,e1,e2⟩,?_⟩;refine zG rfl ?_;go_wp2_with fail;refine ⟨.inr ⟨e0,e1,e2⟩,?_⟩;refine zG rfl ?_;go_wp2_with fail;refine ⟨.inr ⟨e0,e1,e2⟩,?_⟩;refine zG rfl ?_;refine Zw rfl 138 (.tmp 31) (.tmp 29) rfl b 0 rfl (.slice a7 (L.length+1) q7) rfl rfl rfl Tryz.sizeSigs _ z0 f0 ?_;intro w8 hw8;rw [<- hw8] at P1 P2;refine ⟨.inl rfl,ZM ?_⟩;clear z0 f0 hw8 e0 e1 e2;go_wp2;go_end0;refine ⟨rfl,_,⟨_,_,_,_,_,_,P1.out,fun k e=>e⟩,?_,fun k e=>?_⟩
  ·exact Chg.next K4.out P2.out (fun i hi e=>by
    rcases e with e | e | e | e | e
    ·exact HB.out i (.inl e)
    ·exact HB.out i (.inr (.inl e))
    ·cases e
     rcases BG.out with q | q
     ·exact q
     ·omega
    ·exact HB.out i (.inr (.inr (.inr (.inl e))))
    ·exact HB.out i (.inr (.inr (.inr (.inr e)))))
  ·have hz:=P1.out.lt e
   rcases e with e | e | e | e | e
   ·exact .inl (HB.out k (.inl e))
   ·rcases P3.out k e with q | q
    ·exact .inl (HB.out k (.inr (.inl q)))
    ·exact .inr ⟨by omega,hz⟩
   ·cases e
    rcases BG.out with q | q
    ·exact .inl q
    ·exact .inr ⟨q,hz⟩
   ·exact .inl (HB.out k (.inr (.inr (.inr (.inl e)))))
   ·exact .inl (HB.out k (.inr (.inr (.inr (.inr e)))))
set_option maxHeartbeats 1000000 in
set_option maxRecDepth 100000 in
theorem zf1 (w:World) (b:Nat) (v mv:Value) (L:List (Nat × ByteArray)) (x:Nat × ByteArray) (hb:b < w.heap.size) (c1:w.cell? ⟨b,1,none⟩=some mv) (h:XV w v mv L) (hx:xH x) (hn:x∈L):
  Calls Tryz.prog 202 #[.pointer (some ⟨b,0,none⟩),zgj x] w fun e w'=>e=.returned (.tuple #[])∧Chg (fun _=>False) w w':=by
 have ka:=zi (fun _=>False) w (.cells #[.int .u16 (x.1:Int),.string x.2] 235);have OX:=zh w (.cells #[.int .u16 (x.1:Int),.string x.2] 235);have d0:=zg (o:=0) OX rfl;have d1:=zg (o:=1) OX rfl;have HS:=zak _ b v mv L x (zlG hb ka.size) (zj ka (fun e=>e) c1) (h.chg ka (fun _ _ e=>e) (fun _ _ e=>e)) hx;rw [zlx hn] at HS;have HS:=zf HS;have K1:=zf ka;clear c1 h hx ka OX;unfold zgj at *;go_enter Tryz.func202,Tryz.ntmps202;go_wp2_with fail;(with_reducible refine HS.out.mono ?_);rintro e w2 ⟨rfl,k2⟩;have K2:=zf (K1.out.trans k2);clear k2 K1 HS d0 d1;go_wp2;refine bodyPost_ret (results_none rfl _ _ _) rfl ?_;exact ⟨rfl,K2.out⟩
def yG (L:List (Nat × ByteArray)) (x:Nat × ByteArray):List (Nat × ByteArray):=if x∈L then L else if 2000<=L.length then L else L++[x]
set_option maxHeartbeats 4000000 in
set_option maxRecDepth 100000 in
theorem ziH (w:World) (b:Nat) (B:Nat->Prop) (L:List (Nat × ByteArray)) (M:List yB) (x:Nat × ByteArray) (h:ZD w b B L M) (hx:xH x) (hl:L.length<=100000):
  Calls Tryz.prog 124 #[.pointer (some ⟨b,0,none⟩),zgj x,.int .i64 2000] w fun e w'=>∃ z:Int,e=.returned (.int .i64 z)∧yD w b B (yG L x) M w':=by
 obtain ⟨v0,m0,v1,m1,v2,m2,h',hB⟩:=h;have hbw:=zu h'.obj;have ka:=zi (fun _=>False) w (.cells #[.int .u16 (x.1:Int),.string x.2] 235);have OX:=zh w (.cells #[.int .u16 (x.1:Int),.string x.2] 235);have sa:w.heap.size < (w.alloc (.cells #[.int .u16 (x.1:Int),.string x.2] 235)).heap.size:=by rw [zlH];omega
 have d0:=zg (o:=0) OX rfl;have d1:=zg (o:=1) OX rfl;have h1:=h'.chg ka (fun _ _ e=>e);obtain ⟨a0,q0,e00⟩:=zl h1.sigs.row;subst e00;have HS:=zak _ b _ m0 L x (by omega) (zg (o:=1) h1.obj rfl) h1.sigs hx;have AI:=zf (fun w' (k:Chg (fun _=>False) w w') (hn:x∈L)=>zf1 w' b _ m0 L x (zlG hbw k.size) (zg (o:=1) (h'.chg k (fun _ _ e=>e)).obj rfl) (h'.chg k (fun _ _ e=>e)).sigs hx hn);have AD:=zf (fun w' (k:Chg (fun _=>False) w w') (hn:x ∉ L)=>ziI w' b B L M x (⟨_,m0,v1,m1,v2,m2,h'.chg k (fun _ _ e=>e),hB⟩) hx hn hl);have HA:=zf (show ZD w b B L M from ⟨_,m0,v1,m1,v2,m2,h',hB⟩);have HI:=zf h1;have OB:=zf OX;have K1:=zf ka;have hxl:L.length < 9223372036854775807:=by omega
 clear h' h1 ka OX hB;unfold zgj at *;unfold yG;by_cases hm:x∈L
 ·rw [if_pos hm]
  rw [zlx hm] at HS;have HS:=zf HS;have AI:=zf (fun w' k=>AI.out w' k hm);clear AD;go_enter Tryz.func124,Tryz.ntmps124;go_wp2_with fail;(with_reducible refine HS.out.mono ?_);rintro e w2 ⟨rfl,k2⟩;have K2:=zf (K1.out.trans k2);have d0:=zj k2 (fun e=>e) d0;have d1:=zj k2 (fun e=>e) d1;have AI2:=zf (AI.out _ K2.out);clear k2 K1 HS;go_wp2_with fail;(with_reducible refine AI2.out.mono ?_);rintro e w3 ⟨rfl,k3⟩;have K3:=zf (K2.out.trans k3);clear k3 K2 AI2 AI;go_wp2;go_ret;exact ⟨0,rfl,HA.out.res K3.out⟩
 ·rw [if_neg hm]
  rw [zly hm] at HS;have HS:=zf HS;have AD:=zf (fun w' k=>AD.out w' k hm);clear AI;by_cases h2:2000<=L.length
  ·rw [if_pos h2]
   have g1:decide (2000<=(L.length:Int))=true:=zlx (by omega);have g2:decide (2000<=L.length)=true:=zlx h2;go_enter Tryz.func124,Tryz.ntmps124;go_wp2_with fail;(with_reducible refine HS.out.mono ?_);rintro e w2 ⟨rfl,k2⟩;have K2:=zf (K1.out.trans k2);have c0:=zg (o:=0) (HI.out.chg k2 (fun _ _ e=>e)).obj rfl;clear k2 K1 HS d0 d1;go_wp2;go_ret;exact ⟨3,rfl,HA.out.res K2.out⟩
  ·rw [if_neg h2]
   have g1:decide (2000<=(L.length:Int))=false:=zly (by omega);have g2:decide (2000<=L.length)=false:=zly h2;go_enter Tryz.func124,Tryz.ntmps124;go_wp2_with fail;(with_reducible refine HS.out.mono ?_);rintro e w2 ⟨rfl,k2⟩;have K2:=zf (K1.out.trans k2);have c0:=zg (o:=0) (HI.out.chg k2 (fun _ _ e=>e)).obj rfl;have d0:=zj k2 (fun e=>e) d0;have d1:=zj k2 (fun e=>e) d1;have AD2:=zf (AD.out _ K2.out);clear k2 K1 HS;go_wp2_with fail;(with_reducible refine AD2.out.mono ?_);rintro e w3 ⟨rfl,B',r1,r2,r3⟩
   have FIN:=zf (show yD w b B (L++[x]) M w3 from ⟨B',r1,(K2.out.mono (fun _ _ e=>e.elim)).trans r2,fun k e=>by
    rcases r3 k e with q | q
    ·exact .inl q
    ·exact .inr ⟨Nat.le_trans K2.out.size q.1,q.2⟩⟩)
   clear r1 r2 r3 AD2 K2;go_wp2;go_ret;exact ⟨0,rfl,FIN.out⟩
set_option maxHeartbeats 1000000 in
theorem zhr (w:World) (b:Nat) (B:Nat->Prop) (L:List (Nat × ByteArray)) (M:List yB) (k:Nat) (s:ByteArray) (h:ZD w b B L M) (hk:k / 8192=1) (hs:s.size<=1000000) (hl:L.length<=100000):
  Calls Tryz.prog 47 #[.pointer (some ⟨b,0,none⟩),.int .u16 (k:Int),.string s] w fun e w'=>∃ z:Int,e=.returned (.int .i64 z)∧yD w b B (yG L (k,s)) M w':=by
 have KD:=zf (zik w k (by omega));rw [hk] at KD;have PU:=zf (show Calls Tryz.prog _ #[.pointer (some ⟨b,0,none⟩),.agg #[.int .u16 (k:Int),.string s],.int .i64 2000] w _ from ziH w b B L M (k,s) h ⟨by omega,hs⟩ hl);clear h;go_enter Tryz.func47,Tryz.ntmps47;go_wp2_with fail;(with_reducible refine KD.out.mono ?_);rintro e w2 ⟨rfl,rfl⟩;go_wp2_with fail;(with_reducible refine PU.out.mono ?_);rintro e w3 ⟨z,rfl,r⟩;have R:=zf r;clear r PU KD;go_wp2;go_ret;exact ⟨z,rfl,R.out⟩
theorem zem (w:World) (b:Nat) (B:Nat->Prop) (L:List (Nat × ByteArray)) (M:List yB) (k:Nat) (s:ByteArray) (h:ZD w b B L M) (hk:k < 65536) (hs:s.size<=1000000):
  Calls Tryz.prog 149 #[.pointer (some ⟨b,0,none⟩),.int .u16 (k:Int),.string s] w fun e w'=>e=.returned (.bool (decide ((k,s)∈L)))∧Chg (fun _=>False) w w':=by
 obtain ⟨v0,m0,v1,m1,v2,m2,h',hB⟩:=h;have HS:=zf (show Calls Tryz.prog _ #[.pointer (some ⟨b,0,none⟩),.agg #[.int .u16 (k:Int),.string s]] w _ from zak w b v0 m0 L (k,s) (zu h'.obj) (zg (o:=1) h'.obj rfl) h'.sigs ⟨hk,hs⟩);generalize decide ((k,s)∈L)=r at *;clear h' hB;go_enter Tryz.func149,Tryz.ntmps149;go_wp2_with fail;(with_reducible refine HS.out.mono ?_);rintro e w2 ⟨rfl,k2⟩;have K2:=zf k2;clear k2;go_wp2;go_ret;exact ⟨rfl,K2.out⟩
end Go.Proofs.YtcilaocknhphnaaGreat
