/-
  Package reach: a row where it lies; put. Package reach: steps, and the iterator that it hands back. Package reach: one word's steps, ranged over (walkAll's inner loop). Package reach: what a round of walkAll's inner loop leaves; the iterator as the range's law wants it; marks of ranges at a function's end.
-/
import Derived.Test.YthdfplafihmejaaGreatZtRBase
import Derived.Test.YthdfplafihmejaaGreatZtKit2
import Derived.Test.YthdfplafihmejaaGreatZtCMap
import Derived.Test.YthdfplafihmejaaGreatZtMMach2
import Derived.RangeFuncNested
import Derived.RangeFuncBound
import Derived.RangeFuncCalls
import Derived.RangeFuncLeaves
import Derived.Shelf.Abstract
import Derived.Shelf.RegionOpen
import Derived.WalkKit
import Derived.OwnWalkIn
import Derived.TacticsInMore
import Derived.LoopNIn
import Derived.LoopIn
import Derived.Test.YthdfplafihmejaaGreatZtRPlain
import Derived.Sort.QuietIn
namespace Go.Proofs.YthdfplafihmejaaGreat
open Go.RowKit Go.Maps
theorem Tryz.wordKeyed:Keyed Tryz.prog 57:=string_keyed Tryz.underlying57
theorem Tryz.elemOrigin:Zt Tryz.prog 214 3 24:=Zj (z:=.agg #[.int .i64 0,.int .i64 0,.int .i64 0]) (by kernel_rfl) rfl (by decide)
theorem Tryz.sizeOrigins:(Tryz.prog.info? 209).map (·.size)=some 1:=by kernel_rfl
def bar (l:Wd):ByteArray:=⟨l.toArray⟩
theorem yB (l:Wd):(bar l).data.toList=l:=by simp [bar]
theorem zhy (s:ByteArray):bar s.data.toList=s:=by cases s;simp [bar]
def yX (r:List Ent):List Value:=r.map fun e=>.string (bar e.1)
def Xn (r:List Ent):List Value:=r.flatMap fun e=>[.int .i64 e.2.1,.int .i64 (e.2.2.1:Int),.int .i64 (e.2.2.2:Int)]
open Classical in
noncomputable def zbH (r:List Ent):Lit->Option (DataW Unit):=fun kl=>if h:∃ v,v∈zv r∧kl=.string v then some (.lit (.int .i64 (((zv r).idxOf (Classical.choose h):Nat):Int))) else none
theorem za0 {r:List Ent} {v:Wd} (h:v∈zv r):zbH r (.string v)=some (.lit (.int .i64 (((zv r).idxOf v:Nat):Int))):=by
 have hx:∃ u,u∈zv r∧Lit.string v=.string u:=⟨v,h,rfl⟩;unfold zbH;rw [dif_pos hx];have:=(Classical.choose_spec hx).2;rw [Lit.string.injEq] at this;rw [<- this]
theorem zfr {r:List Ent} {v:Wd} (h:v ∉ zv r):zbH r (.string v)=none:=by
 unfold zbH;rw [dif_neg];rintro ⟨u,hu,e⟩;rw [Lit.string.injEq] at e;exact h (e ▸ hu)
theorem Yc (r:List Ent) (e:Ent):zv (r++[e])=zv r++[e.1]:=by unfold zv;rw [List.map_append];rfl
theorem zkr {r:List Ent} {e:Ent} (h:e.1 ∉ zv r):zp1 (zbH r) (.string e.1) (some (.lit (.int .i64 ((r.length:Nat):Int))))=zbH (r++[e]):=by
 funext kl
 unfold zp1;have hl:(zv r).length=r.length:=by simp [zv]
 by_cases hk:kl=.string e.1
 ·rw [if_pos hk,hk,za0 (by rw [Yc];simp),Yc,List.idxOf_append,if_neg h]
  simp [hl]
 ·rw [if_neg hk]
  by_cases hx:∃ v,v∈zv r∧kl=.string v
  ·obtain ⟨v,hv,rfl⟩:=hx
   rw [za0 hv,za0 (by rw [Yc];exact List.mem_append_left _ hv),Yc,List.idxOf_append,if_pos hv]
  ·have hy:¬ ∃ v,v∈zv (r++[e])∧kl=.string v:=by
    rintro ⟨v,hv,rfl⟩;rw [Yc,zrc,List.mem_singleton] at hv;rcases hv with hv | rfl
    ·exact hx ⟨v,hv,rfl⟩
    ·exact hk rfl
   unfold zbH;rw [dif_neg hx,dif_neg hy]
structure RB where
 b:Nat
 wv:Value
 fv:Value
 bm:Nat
structure zbv (w:World) (base:Nat) (X:RB) (n1:Nat) (xs:List Value) (n2:Nat) (ys:List Value) (n3:Nat) (f:Lit->Option (DataW Unit)):Prop where
 hb:w.heap[X.b]? = some (.cells #[X.wv,X.fv,.map (some X.bm)] 212 (0,0))
 hw:w.ownsRow base 57 1 X.wv n1 xs
 hf:w.ownsRow base 214 3 X.fv n2 ys
 hm:XB Tryz.prog 57 3 w X.bm n3 f
 bb:base<=X.b
 bm:base<=X.bm
 nwf:zgD X.wv X.fv
 nwb:X.wv.ownBlock≠some X.b
 nfb:X.fv.ownBlock≠some X.b
def zfO (w:World) (base:Nat) (X:RB) (r:List Ent):Prop:=zbv w base X r.length (yX r) r.length (Xn r) r.length (zbH r)
def RB.own (X:RB) (k:Nat):Prop:=k=X.b∨k=X.bm∨X.wv.ownBlock=some k∨X.fv.ownBlock=some k
section
variable {w w':World} {base:Nat} {X:RB} {n1 n2 n3:Nat} {xs ys:List Value} {f:Lit->Option (DataW Unit)}
theorem zbm {P:Program} {k e:TypeId} {b n:Nat} {t:TypeId} {size m:Nat} {v:Value} {zs:List Value} (h:w.ownsRow base t size v m zs) (hm:XB P k e w b n f):v.ownBlock≠some b:=by
 intro e;obtain ⟨D,⟨es,clock,hh,_⟩,_⟩:=hm;obtain ⟨_,⟨rfl,_⟩ | ⟨g,cap,cur,rfl,_,hg,_⟩⟩:=h
 ·cases e
 ·cases e
  rw [hh] at hg;cases hg
theorem XK {P:Program} {k e:TypeId} {b n g:Nat} {cs:Array Value} {t:TypeId} {fz:Nat × Nat} (h:w.heap[g]? = some (.cells cs t fz)) (hm:XB P k e w b n f):g≠b:=by
 rintro rfl;obtain ⟨D,⟨es,clock,hh,_⟩,_⟩:=hm;rw [hh] at h;cases h
theorem zbv.chg {S:Nat->Prop} (h:zbv w base X n1 xs n2 ys n3 f) (hc:Chg S w w') (hs:∀ k,X.own k->¬ S k):zbv w' base X n1 xs n2 ys n3 f:=
 ⟨hc.obj (hs _ (.inl rfl)) h.hb,zn h.hw hc (fun k hk=>hs k (.inr (.inr (.inl hk)))),zn h.hf hc (fun k hk=>hs k (.inr (.inr (.inr hk)))),h.hm.chg hc (hs _ (.inr (.inl rfl))),h.bb,h.bm,h.nwf,h.nwb,h.nfb⟩
theorem zbv.own_lt (h:zbv w base X n1 xs n2 ys n3 f) {k:Nat} (hk:X.own k):base<=k∧k < w.heap.size:=by
 rcases hk with rfl | rfl | hk | hk
 ·exact ⟨h.bb,zr h.hb⟩
 ·exact ⟨h.bm,h.hm.lt⟩
 ·exact h.hw.lt k hk
 ·exact h.hf.lt k hk
theorem zbv.stepM {n:Nat} {g:Lit->Option (DataW Unit)} (h:zbv w base X n1 xs n2 ys n3 f) (hm:XB Tryz.prog 57 3 w' X.bm n g) (hc:Chg (·=X.bm) w w'):zbv w' base X n1 xs n2 ys n g:=
 ⟨hc.obj (XK h.hb h.hm) h.hb,zn h.hw hc (fun k hk e=>zbm h.hw h.hm (by rw [<- e];exact hk)),zn h.hf hc (fun k hk e=>zbm h.hf h.hm (by rw [<- e];exact hk)),hm,h.bb,h.bm,h.nwf,h.nwb,h.nfb⟩
theorem zbv.stepW {v:Value} {n:Nat} {zs:List Value} (h:zbv w base X n1 xs n2 ys n3 f) (ho:w'.ownsRow base 57 1 v n zs) (hg:w.grownBy w' X.wv.ownBlock) (hs:Ya w X.wv v):
  zbv (w'.setCell ⟨X.b,0,none⟩ v) base ⟨X.b,v,X.fv,X.bm⟩ n zs n2 ys n3 f:=by
 have hbl:=zr h.hb
 have nv:v.ownBlock≠some X.b:=fun e=>by
  rcases hs with q | q
  ·rw [q] at e;exact h.nwb e
  ·have:=q _ e;omega
 have c1:=Chg.of_grown hg;have c2:=zG w' X.b 0 v;refine ⟨(zt (c1.obj h.nwb h.hb) v).trans rfl,zn ho c2 (fun k hk e=>nv (by rw [<- e];exact hk)),zn (zgb h.hf hg h.nwf) c2 (fun k hk e=>h.nfb (by rw [<- e];exact hk)),(h.hm.chg c1 (zbm h.hw h.hm)).chg c2 (fun e=>XK h.hb h.hm e.symm),h.bb,h.bm,zb0 h.nwf hs h.hf,nv,h.nfb⟩
theorem zbv.stepF {v:Value} {n:Nat} {zs:List Value} (h:zbv w base X n1 xs n2 ys n3 f) (ho:w'.ownsRow base 214 3 v n zs) (hg:w.grownBy w' X.fv.ownBlock) (hs:Ya w X.fv v):
  zbv (w'.setCell ⟨X.b,1,none⟩ v) base ⟨X.b,X.wv,v,X.bm⟩ n1 xs n zs n3 f:=by
 have hbl:=zr h.hb
 have nv:v.ownBlock≠some X.b:=fun e=>by
  rcases hs with q | q
  ·rw [q] at e;exact h.nfb e
  ·have:=q _ e;omega
 have c1:=Chg.of_grown hg;have c2:=zG w' X.b 1 v;refine ⟨(zt (c1.obj h.nfb h.hb) v).trans rfl,zn (zgb h.hw hg h.nwf.symm) c2 (fun k hk e=>h.nwb (by rw [<- e];exact hk)),zn ho c2 (fun k hk e=>nv (by rw [<- e];exact hk)),(h.hm.chg c1 (zbm h.hf h.hm)).chg c2 (fun e=>XK h.hb h.hm e.symm),h.bb,h.bm,(zb0 h.nwf.symm hs h.hw).symm,h.nwb,nv⟩
end
theorem zbF (r:List Ent) (e:Ent):yX (r++[e])=yX r++[.string (bar e.1)]:=by unfold yX;rw [List.map_append];rfl
theorem ze0 (r:List Ent) (e:Ent):Xn (r++[e])=Xn r++[.int .i64 e.2.1,.int .i64 (e.2.2.1:Int),.int .i64 (e.2.2.2:Int)]:=by unfold Xn;rw [List.flatMap_append];simp
theorem zhY (s:ByteArray) (h:s.size<=maxLen):keyOf Tryz.prog 57 (.string s)=some (.string s.data.toList):=WideMaps.keyOf_string_mk Tryz.underlying57 h
def znh (r:List Ent) (e:Ent):List Ent:=if e.1∈zv r then r else r++[e]
set_option maxHeartbeats 1600000 in
set_option maxRecDepth 100000 in
theorem zjg (w:World) (base:Nat) (X:RB) (r:List Ent) (s:ByteArray) (o:Int) (a n:Nat) (h:zfO w base X r) (hs:s.size<=1000000) (hr:r.length<=100000):
  Calls Tryz.prog 158 #[.pointer (some ⟨X.b,0,none⟩),.string s,.agg #[.int .i64 o,.int .i64 (a:Int),.int .i64 (n:Int)]] w fun e w'=>(∃ v,e=.returned v)∧∃ X',X'.b=X.b∧X'.bm=X.bm∧zfO w' base X' (znh r (s.data.toList,(o,(a,n))))∧Chg X.own w w'∧∀ k,X'.own k->X.own k∨w.heap.size<=k:=by
 have hzi:=Tryz.zeroInt;have HZI:=ze hzi;clear hzi;have hA:=zbv.chg h (zi (fun _=>False) w (.cells #[.int .i64 o,.int .i64 (a:Int),.int .i64 (n:Int)] 214)) (fun _ _ e=>e);have HA:=ze hA;have c0:(w.alloc (.cells #[.int .i64 o,.int .i64 (a:Int),.int .i64 (n:Int)] 214)).cell? ⟨X.b,0,none⟩=some X.wv:=zf hA.hb rfl;have c1:(w.alloc (.cells #[.int .i64 o,.int .i64 (a:Int),.int .i64 (n:Int)] 214)).cell? ⟨X.b,1,none⟩=some X.fv:=zf hA.hb rfl;have c2:(w.alloc (.cells #[.int .i64 o,.int .i64 (a:Int),.int .i64 (n:Int)] 214)).cell? ⟨X.b,2,none⟩=some (.map (some X.bm)):=zf hA.hb rfl;clear hA;have H:=ze h;have KEY:=ze (zhY s (by unfold maxLen;omega));clear h;by_cases hin:s.data.toList∈zv r
 ·have LK:=ze (za0 hin)
  have PR:=ze (show znh r (s.data.toList,(o,(a,n)))=r from if_pos hin);clear hin;go_enter Tryz.func158,Tryz.ntmps158;go_wp2_with (at_lookup;refine YK rfl (.tmp 12) (.tmp 13) 210 rfl 57 3 .i64 Tryz.wordKeyed Tryz.underlying210 Tryz.underlying3 (HZI.out _) X.bm r.length _ rfl HA.out.hm _ (.string s.data.toList) rfl KEY.out (((zv r).idxOf s.data.toList:Nat):Int) ?c1 true ?c2 ?next)
  case c1=>rw [LK.out];rfl
  case c2=>rw [LK.out];rfl
  go_wp2;refine bodyPost_ret (results_none rfl _ _ _) rfl ?_;exact ⟨⟨_,rfl⟩,X,rfl,rfl,by rw [PR.out];exact HA.out,(zi _ w _),fun k hk=>.inl hk⟩
 ·have LK:=ze (zfr hin)
  have PR:=ze (show znh r (s.data.toList,(o,(a,n)))=r++[(s.data.toList,(o,(a,n)))] from if_neg hin);have PP:=ze (zkr (r:=r) (e:=(s.data.toList,(o,(a,n)))) hin);clear hin;obtain ⟨aw,cw,ew⟩:=zl HA.out.hw;rw [ew] at c0;go_enter Tryz.func158,Tryz.ntmps158;go_wp2_with (at_lookup;refine YK rfl (.tmp 12) (.tmp 13) 210 rfl 57 3 .i64 Tryz.wordKeyed Tryz.underlying210 Tryz.underlying3 (HZI.out _) X.bm r.length _ rfl HA.out.hm _ (.string s.data.toList) rfl KEY.out 0 ?d1 false ?d2 ?dnext)
  case d1=>(rw [LK.out]);try rfl
  case d2=>(rw [LK.out]);try rfl
  go_wp2;have EW:=ze ew;clear ew;generalize hW:w.alloc (.cells #[.int .i64 o,.int .i64 (a:Int),.int .i64 (n:Int)] 214)=wa at *;have HW:=ze hW;clear hW;have NE:=ze ((zw (fun _=>False) wa));refine ZK 10 (by kernel_rfl) (by kernel_rfl) ?_
  repeat still_step
  refine wpStill_nil ?_;refine zjS rfl (.tmp 21) (.tmp 22) (.tmp 27) 210 rfl 57 3 Tryz.wordKeyed Tryz.underlying210 X.bm r.length _ rfl (HA.out.hm.chg NE.out (fun e=>e)) ?e1 (.string s) (.int .i64 ((r.length:Nat):Int)) (.string s.data.toList) rfl rfl KEY.out (.lit (.int .i64 ((r.length:Nat):Int))) [] (plainElem_int Tryz.underlying3 ?e2) ?e3
  case e1=>unfold maxLen;omega
  case e2=>simp only [Lit.wf,zrl,decide_eq_true_eq];exact ⟨by show (-9223372036854775808:Int)<=_;omega,by show _<=(9223372036854775807:Int);omega⟩
  intro w2 m2 k2;rw [PP.out] at m2;have hd:=zbv.chg HA.out NE.out (fun _ _ e=>e);have r2:=hd.stepM m2 k2;have hwlt:w.heap.size < wa.heap.size:=by rw [<- HW.out];simp
  have hbx:w.heap.size≠X.b:=by
   have:=(H.out.own_lt (.inl rfl)).2;omega
  have hob:wa.heap[w.heap.size]? = some (.cells #[.int .i64 o,.int .i64 (a:Int),.int .i64 (n:Int)] 214 (0,0)):=by rw [<- HW.out];exact zh _ _
  have hob2:=k2.obj (XK hob HA.out.hm) (za1 1 hob);have d0:w2.cell? ⟨X.b,0,none⟩=some X.wv:=zf r2.hb rfl;rw [EW.out] at d0;have R2:=ze r2;have C2:=ze (show Chg X.own wa w2 from (zw X.own wa).trans (k2.mono (fun k _ e=>.inr (.inl e))));have OB2:=ze hob2;have hb2:base<=w2.heap.size:=by have:=r2.bb;have:=zr r2.hb;omega
  clear m2 k2 hd r2 hob hob2 c0 c1 c2;have o2:=R2.out.hw;rw [EW.out] at o2;have O2:=ze o2;clear o2;go_wp2_with (at_builtin;refine Zq rfl (.tmp 32) (.tmp 34) 25 rfl 57 1 16 Tryz.underlying25 Tryz.elemWord base _ _ _ rfl (O2.out.alloc _) _ [.string s] 57 (0,0) rfl (zh _ _) rfl ?f1 ?f2 ?f3 ?f4 ?fnext)
  case f1=>intro u hu;simp at hu;subst hu;rfl
  case f2=>omega
  case f3=>unfold maxLen;omega
  case f4=>simp;omega
  intro v3 w3 o3 g3 s3;have rA:=R2.out.chg (zi (fun _=>False) w2 (.cells #[.string s] 57)) (fun _ _ e=>e);have hb3:=(Chg.of_grown g3).obj (by rw [<- EW.out];exact R2.out.nwb) (Ze _ R2.out.hb);have c3:w3.cell? ⟨X.b,0,none⟩=some X.wv:=zf hb3 rfl;have f3:w3.frozen? ⟨X.b,0,none⟩=false:=zm hb3;have r3:=rA.stepW o3 (by rw [EW.out];exact g3) (by rw [EW.out];exact s3)
  have hob3:=(Chg.of_grown g3).obj (fun e=>by
   have h1:=H.out.hw.lt w.heap.size (by rw [EW.out];exact e);omega) (Ze (.cells #[.string s] 57) OB2.out)
  obtain ⟨a3,cp3,rfl⟩:=zl o3;have k3:Chg X.own wa (w3.setCell ⟨X.b,0,none⟩ (.slice a3 (r.length+1) cp3)):=((C2.out.alloc (.cells #[.string s] 57)).grown g3 (fun k hk _=>.inr (.inr (.inl (by rw [EW.out];exact hk))))).setCell (fun _=>.inl rfl) _
  have NW3:=ze (show ∀ k,(Value.slice a3 (r.length+1) cp3).ownBlock=some k->X.own k∨w.heap.size<=k from fun k hk=>by
   rcases s3 with q | q
   ·exact .inl (.inr (.inr (.inl (by rw [EW.out];exact q.symm.trans hk))))
   ·have h1:=q k hk
    have h2:=C2.out.size;simp at h1;exact .inr (by omega))
  have R3:=ze r3;have C3:=ze k3;have OB3:=ze (show (w3.setCell ⟨X.b,0,none⟩ (.slice a3 (r.length+1) cp3)).heap[w.heap.size]? = _ from (ZY 0 _ hbx).trans hob3);clear rA hb3 r3 hob3 k3 o3 g3 s3 O2 R2 C2 OB2 d0;go_wp2_with fail;generalize w3.setCell ⟨X.b,0,none⟩ (.slice a3 (r.length+1) cp3)=w4 at *;obtain ⟨af,cf,ef⟩:=zl R3.out.hf;have c0:w4.cell? ⟨X.b,1,none⟩=some X.fv:=zf R3.out.hb rfl;simp only at ef;rw [ef] at c0;have b0:w4.cell? ⟨w.heap.size,0,none⟩=some (.int .i64 o):=zf OB3.out rfl;have b1:w4.cell? ⟨w.heap.size,1,none⟩=some (.int .i64 (a:Int)):=zf OB3.out rfl;have b2:w4.cell? ⟨w.heap.size,2,none⟩=some (.int .i64 (n:Int)):=zf OB3.out rfl;have hb4:base<=w4.heap.size:=by have:=R3.out.bb;have:=zr R3.out.hb;omega
  have o4:=R3.out.hf;simp only [ef] at o4;have O4:=ze o4;have EF:=ze ef;clear o4 ef c3 f3;refine Zk (N:=48) [.rd [0,1,2,3,4,5],.ef 6,.ef 7,.ef 8,.ef 9,.ef 10] 10 (fun w'=>w'.cell? ⟨X.b,1,none⟩=some (.slice af r.length cf)∧w'.cell? ⟨w.heap.size,0,none⟩=some (.int .i64 o)∧w'.cell? ⟨w.heap.size,1,none⟩=some (.int .i64 (a:Int))∧w'.cell? ⟨w.heap.size,2,none⟩=some (.int .i64 (n:Int))) (by kernel_rfl) (by kernel_rfl) (by kernel_rfl) (by kernel_rfl) (by kernel_rfl) (Nat.le_of_ble_eq_true rfl) ⟨c0,b0,b1,b2⟩ ?_;refine xu (A:=?A0) ?h10 ?h20
  case h10=>
   rintro w' ⟨q0,q1,q2,q3⟩ K hK;simp only [zM,zqT,zqU,zqV,zqW,zqX]
   repeat still_step
   refine wpStill_nil ?_;exact hK
  refine zJ rfl ?_;go_wp2_with fail;have kb:=(zw (fun _=>False) w4).alloc (.cells #[.int .i64 o,.int .i64 (a:Int),.int .i64 (n:Int)] 214);refine ⟨by first | exact .inr ⟨zj kb (fun e=>e) c0,zj kb (fun e=>e) b0,zj kb (fun e=>e) b1,zj kb (fun e=>e) b2⟩ | exact ⟨zj kb (fun e=>e) c0,zj kb (fun e=>e) b0,zj kb (fun e=>e) b1,zj kb (fun e=>e) b2⟩,?_⟩;refine zJ rfl ?_;refine Zq rfl (.tmp 42) (.tmp 44) 209 rfl 214 3 24 Tryz.underlying209 Tryz.elemOrigin base _ _ _ rfl (zn O4.out kb (fun _ _ e=>e)) _ [.int .i64 o,.int .i64 (a:Int),.int .i64 (n:Int)] 214 (0,0) rfl (zh _ _) rfl (by intro u hu;simp at hu;rcases hu with rfl | rfl | rfl <;> rfl) (by omega) (by unfold maxLen;omega) (by simp;omega) ?_;intro v5 w5 o5 g5 s5;have r4:=R3.out.chg kb (fun _ _ e=>e);have hb5:=(Chg.of_grown g5).obj (by rw [<- EF.out];exact r4.nfb) r4.hb;have c5:w5.cell? ⟨X.b,1,none⟩=some X.fv:=zf hb5 rfl;have f5:w5.frozen? ⟨X.b,1,none⟩=false:=zm hb5;have r5:=r4.stepF o5 (by simp only [EF.out];exact g5) (by simp only [EF.out];exact s5)
  have hob5:=(Chg.of_grown g5).obj (fun e=>by
   have h1:=H.out.hf.lt w.heap.size (by rw [EF.out];exact e);omega) (kb.obj (fun e=>e) OB3.out)
  obtain ⟨a5,cp5,rfl⟩:=zl o5;have d0:w5.cell? ⟨w.heap.size,0,none⟩=some (.int .i64 o):=zf hob5 rfl;have d1:w5.cell? ⟨w.heap.size,1,none⟩=some (.int .i64 (a:Int)):=zf hob5 rfl;have d2:w5.cell? ⟨w.heap.size,2,none⟩=some (.int .i64 (n:Int)):=zf hob5 rfl;rw [EF.out] at c5;have k5:Chg X.own wa (w5.setCell ⟨X.b,1,none⟩ (.slice a5 (r.length+1) cp5)):=(((C3.out.drew).alloc (.cells #[.int .i64 o,.int .i64 (a:Int),.int .i64 (n:Int)] 214)).grown g5 (fun k hk _=>.inr (.inr (.inr (by rw [EF.out];exact hk))))).setCell (fun _=>.inl rfl) _
  have NW5:=ze (show ∀ k,(Value.slice a5 (r.length+1) cp5).ownBlock=some k->X.own k∨w.heap.size<=k from fun k hk=>by
   rcases s5 with q | q
   ·exact .inl (.inr (.inr (.inr (by rw [EF.out];exact q.symm.trans hk))))
   ·have h1:=q k hk
    have h2:=C3.out.size;simp at h1;exact .inr (by omega))
  have R5:=ze r5;have C5:=ze k5;clear r4 r5 k5 hb5 hob5 o5 g5 s5 kb;go_wp2_with fail;refine ⟨by first | exact .inr ⟨c5,d0,d1,d2⟩ | exact ⟨c5,d0,d1,d2⟩,?_⟩;refine zJ rfl ?_;go_wp2_with fail;refine ⟨by first | exact .inr ⟨c5,d0,d1,d2⟩ | exact ⟨c5,d0,d1,d2⟩,?_⟩;refine zJ rfl ?_;go_wp2_with fail;refine ⟨by first | exact .inr ⟨c5,d0,d1,d2⟩ | exact ⟨c5,d0,d1,d2⟩,?_⟩;refine zJ rfl ?_;refine ZR rfl 209 (.tmp 47) (.tmp 45) rfl X.b 1 rfl (.slice a5 (r.length+1) cp5) rfl rfl rfl Tryz.sizeOrigins _ c5 f5 ?_;intro w6 hw6;rw [<- hw6] at R5 C5;clear hw6 c5 f5;refine ⟨.inl rfl,yA ?_⟩;go_wp2;refine bodyPost_end (results_none rfl _ _ _) rfl ?_;refine ⟨⟨_,rfl⟩,⟨X.b,.slice a3 (r.length+1) cp3,.slice a5 (r.length+1) cp5,X.bm⟩,rfl,rfl,?_,?_,?_⟩
  ·rw [PR.out]
   unfold zfO;rw [zq3,List.length_singleton,zbF,ze0,zhy];exact R5.out
  ·refine Chg.trans ?_ C5.out
   rw [<- HW.out];exact zi _ w _
  ·rintro k (rfl | rfl | hk | hk)
   ·exact .inl (.inl rfl)
   ·exact .inl (.inr (.inl rfl))
   ·exact NW3.out k hk
   ·exact NW5.out k hk
theorem zbv.rowOwn {w:World} {base:Nat} {X:RB} {n1 n2 n3:Nat} {xs ys:List Value} {f:Lit->Option (DataW Unit)} (h:zbv w base X n1 xs n2 ys n3 f) {k:Nat}:X.own k↔(k=X.b∨∃ o v,w.cell? ⟨X.b,o,none⟩=some v∧Zo v=some k):=by
 constructor
 ·rintro (rfl | rfl | hk | hk)
  ·exact .inl rfl
  ·exact .inr ⟨2,.map (some X.bm),zf h.hb rfl,rfl⟩
  ·exact .inr ⟨0,X.wv,zf h.hb rfl,yR hk⟩
  ·exact .inr ⟨1,X.fv,zf h.hb rfl,yR hk⟩
 ·rintro (rfl | ⟨o,v,hc,hv⟩)
  ·exact .inl rfl
  ·have e:w.cell? ⟨X.b,o,none⟩=#[X.wv,X.fv,.map (some X.bm)][o]?:=by simp [World.cell?,h.hb]
   rw [e] at hc;obtain ⟨aw,cw,ew⟩:=zl h.hw;obtain ⟨af,cf,ef⟩:=zl h.hf;rcases o with _ | _ | _ | o
   ·simp at hc;subst hc;rw [ew] at hv;exact .inr (.inr (.inl (by rw [ew];cases aw <;> simp_all [Zo,Value.ownBlock])))
   ·simp at hc;subst hc;rw [ef] at hv;exact .inr (.inr (.inr (by rw [ef];cases af <;> simp_all [Zo,Value.ownBlock])))
   ·simp at hc;subst hc;exact .inr (.inl (by simp [Zo] at hv;exact hv.symm))
   ·simp at hc
attribute [local go_sem] Oper.semAt_some

theorem zls (w:World) (m:Option Addr) (v:Value) (s:ByteArray) (la:Option Addr) (n c:Nat) (hv:v=.slice la n c):
  Calls Tryz.prog 159 #[.pointer m,v,.string s] w fun e w'=>e=.returned (.func (.func 169) #[] #[.pointer (some ⟨w.heap.size,0,none⟩),.pointer (some ⟨w.heap.size+2,0,none⟩),.pointer (some ⟨w.heap.size+1,0,none⟩)]) ∧
   ((w.alloc (.cells #[.pointer m] 233)).alloc (.cells #[v] 22)).alloc (.cells #[.string s] 57)=w':=by
 subst hv;go_enter Tryz.func159,Tryz.ntmps159;go_wp2;go_ret;exact ⟨rfl,rfl⟩
def rowOwn (b:Nat) (W:World) (k:Nat):Prop:=k=b∨∃ o v,W.cell? ⟨b,o,none⟩=some v∧Zo v=some k
structure KpR (b:Nat) (W W':World):Prop where
 size:W.heap.size<=W'.heap.size
 cells:∀ k cs t fz,W.heap[k]? = some (.cells cs t fz)->¬ rowOwn b W k->W'.heap[k]? = some (.cells cs t fz)
 own:∀ k,rowOwn b W' k->rowOwn b W k∨W.heap.size<=k
theorem KpR.trans {b:Nat} {A B C:World} (h:KpR b A B) (k:KpR b B C):KpR b A C:=by
 refine ⟨Nat.le_trans h.size k.size,fun i cs t fz hi hn=>?_,fun i hi=>?_⟩
 ·refine k.cells i cs t fz (h.cells i cs t fz hi hn) (fun e=>?_)
  rcases h.own i e with q | q
  ·exact hn q
  ·have:=zr hi;omega
 ·rcases k.own i hi with q | q
  ·exact h.own i q
  ·exact .inr (Nat.le_trans h.size q)
theorem zkf {b l:Nat} {W:World} {o':Obj} (hb:b≠l) {k:Nat}:rowOwn b (W.putObj l o') k↔rowOwn b W k:=by
 unfold rowOwn;have e:∀ o,(W.putObj l o').cell? ⟨b,o,none⟩=W.cell? ⟨b,o,none⟩:=fun o=>World.cell?_of_block (w:=W) (World.putObj_heap_other hb);simp only [e]
theorem zpu {b B:Nat} (hb:b < B):∀ (W:World) (l:Nat) (o o':Obj),B<=l->W.heap[l]? = some o->o.isCells=false->o.isWalk=false->KpR b W (W.putObj l o'):=by
 intro W l o o' hl ho hc _;refine ⟨by simp,fun k cs t fz hk hn=>?_,fun k hk=>.inl ((zkf (by omega)).1 hk)⟩;rw [World.putObj_heap_other]
 ·exact hk
 ·rintro rfl
  rw [hk] at ho;cases ho;cases hc
abbrev zc7:={ x:(Nat × Nat) × Wd // x.2.length<=1000 }
def zqx (x:zc7):Array Value:=#[.agg #[.int .i64 (x.1.1.1:Int),.int .i64 (x.1.1.2:Int)],.string (bar x.1.2)]
theorem Xb {b:Nat} {W W':World} (h:Chg (fun _=>False) W W') (hb:b < W.heap.size) {k:Nat}:rowOwn b W' k↔rowOwn b W k:=by
 unfold rowOwn;have e:∀ o,W'.cell? ⟨b,o,none⟩=W.cell? ⟨b,o,none⟩:=fun o=>World.cell?_of_block (w:=W) (h.block b hb (fun e=>e));simp only [e]
theorem zgh {b:Nat} {W W':World} (h:Chg (fun _=>False) W W') (hb:b < W.heap.size):KpR b W W':=
 ⟨h.size,fun _ _ _ _ hk _=>h.obj (fun e=>e) hk,fun _ hk=>.inl ((Xb h hb).1 hk)⟩
theorem KpR.cell {b g o:Nat} {W W':World} {v:Value} (h:KpR b W W') (hn:¬ rowOwn b W g) (hc:W.cell? ⟨g,o,none⟩=some v):W'.cell? ⟨g,o,none⟩=some v:=by
 have hlt:=World.block_lt_of_cell? W _ hc;obtain ⟨ob,ho⟩:∃ ob,W.heap[g]? = some ob:=⟨_,Array.getElem?_eq_getElem hlt⟩;cases ob with
 | cells cs t fz=>
  rw [<- hc];exact World.cell?_of_block (w:=W) ((h.cells g cs t fz ho hn).trans ho.symm)
 | _=>simp [World.cell?,ho] at hc
theorem Chg.grownNone {W W':World} (h:Chg (fun _=>False) W W'):W.grownBy W' none:=⟨h.os,h.tape,h.output,h.size,fun k hk _=>h.block k hk (fun e=>e)⟩
theorem Zn {a:ByteArray} (h:Zp a.data.toList=true):a.size<=16∧a.size % 2=0:=by
 obtain ⟨h1,_,h3,_⟩:=(Zh _).1 h;unfold zz at h3;rw [zA] at h1 h3;omega
theorem zn4 {R:List zF} {s:ByteArray} {x1 x2:Nat} (h:(x1,x2)∈zhl (yW (R.map Zw)) s.data.toList):∃ a bb,R[x2]? = some (a,bb)∧x1+zz a.data.toList<=zz s.data.toList∧Zp a.data.toList=true∧Zp bb.data.toList=true∧zz bb.data.toList<=zz a.data.toList:=by
 obtain ⟨_,h2,h3⟩:=Xd.1 h;rw [yd,zq4] at h2;have hr:R[x2]? = some R[x2]:=zq0 h2;have hru:yp (R.map Zw) x2=Zw R[x2]:=by unfold yp;rw [zq6,zrb,hr];rfl
 rw [zcn,hru] at h3;obtain ⟨a,bb,e⟩:∃ a bb,R[x2]=(a,bb):=⟨_,_,rfl⟩;rw [e] at hr h3;cases hc:Zx (Zw (a,bb)) with
 | false=>
  rw [hc] at h3;have:=(YB _ _ _).1 h3;have h5:=(xj this.1).1;simp at h5
 | true=>
  rw [hc,if_pos rfl] at h3;obtain ⟨g1,g2,g3⟩:=(YB _ _ _).1 h3;obtain ⟨k1,k2,k3⟩:=(Xf _).1 hc;refine ⟨a,bb,hr,?_,k1,k2,k3⟩;have:=xj g1;unfold Zw at g2 this;simp only at g2 this;unfold zz at g2 ⊢;omega
def zlt (R:List zF) (s:ByteArray) (h:∀ x∈ZV (R.map Zw) s.data.toList,x.2.length<=1000):List zc7:=(ZV (R.map Zw) s.data.toList).attach.map fun x=>⟨x.1,h x.1 x.2⟩
theorem zj2 (R:List zF) (s:ByteArray) (h:∀ x∈ZV (R.map Zw) s.data.toList,x.2.length<=1000):(zlt R s h).map (·.1)=ZV (R.map Zw) s.data.toList:=by
 unfold zlt;rw [List.map_map];exact List.attach_map_subtype_val _
set_option maxHeartbeats 1600000 in
set_option maxRecDepth 100000 in
theorem zlu (l b base N mm:Nat) (B:MB) (cs:List (Value × Value)) (W:World) (R:List zF) (la:Option Addr) (cap:Nat) (s:ByteArray) (xs:List zc7)
  (hx:xs.map (·.1)=ZV (R.map Zw) s.data.toList) (hmay:Zp s.data.toList=true) (hR:R.length<=400) (hRs:∀ r∈R,r.1.size<=400)
  (hm:Zf W base B cs (Zl (yW (R.map Zw)) (yW (R.map Zw)).length) (Zi (yW (R.map Zw)) (yW (R.map Zw)).length))
  (c1:W.cell? ⟨N,0,none⟩=some (.pointer (some ⟨B.b,0,none⟩))) (c2:W.cell? ⟨N+1,0,none⟩=some (.slice la R.length cap)) (c3:W.cell? ⟨N+2,0,none⟩=some (.string s))
  (hRu:zX W (.slice la R.length cap) (fun k=>¬ rowOwn b W k) R) (hb:b < W.heap.size) (hn2:¬ rowOwn b W (N+1)) (hn3:¬ rowOwn b W (N+2)) (hown:∀ k,rowOwn b W k->k < W.heap.size)
  (J Jx:List zc7->World->Prop) (hJ:AbidesFrom W.heap.size J)
  (hY:∀ pre x W1,J pre W1->pre.length < xs.length->YieldAt Fence.wide mm Tryz.prog l (zqx x) W1 fun e W'=>
   (e=.returned (.bool true)∧J (pre++[x]) W'∧KpR b W1 W')∨(e=.returned (.bool false)∧Jx (pre++[x]) W'))
  (h0:J [] W):
  Calls Tryz.prog 169 #[.func (.yield l) #[] #[],.pointer (some ⟨N,0,none⟩),.pointer (some ⟨N+2,0,none⟩),.pointer (some ⟨N+1,0,none⟩)] W fun e W'=>(∃ v,e=.returned v) ∧
   ((∃ ys,ys=xs∧J ys W')∨(∃ pre,pre <+: xs∧Jx pre W')):=by
 have hs8:s.size<=16:=by
  have:=((Zh s.data.toList).1 hmay).2.2.1;have h1:=((Zh s.data.toList).1 hmay).1;unfold zz at this;rw [zA] at this h1;omega
 have hs2:s.size % 2=0:=by have h1:=((Zh s.data.toList).1 hmay).1;rw [zA] at h1;exact h1
 have ALL:=ze (zpQ W base B cs (yW (R.map Zw)) s hm (by omega) (by rw [yd,zq4];omega));have HX:=ze hx;have HMAY:=ze hmay;have HRS:=ze hRs;have HRU:=ze hRu;have HJ:=ze hJ;have HY:=ze hY;have H0:=ze h0;have HOWN:=ze hown;have HN2:=ze hn2;have HN3:=ze hn3;have C2:=ze c2;have C3:=ze c3;clear hx hmay hRs hm hRu hJ hY h0 hown hn2 hn3 c2;go_enter Tryz.func169,Tryz.ntmps169;go_wp2_with fail;(with_reducible refine ALL.out.mono ?_);rintro e w5 ⟨va,rfl,o5,k5⟩;obtain ⟨aa,ca,rfl⟩:=zl o5;have O5:=ze o5;have K5:=ze k5;have J5:=ze (HJ.out [] W w5 none H0.out k5.grownNone (fun r e=>by cases e));have OW5:=ze (fun k=>Xb (k:=k) k5 hb);clear o5 k5 ALL c1 c3
 have hHl:(zhl (yW (R.map Zw)) s.data.toList).length<=100000:=by
  have h1:=zaz (yW (R.map Zw)) s.data.toList (zz s.data.toList);have h2:zz s.data.toList<=8:=by unfold zz;rw [zA];omega
  rw [yd,zq4] at h1;have h3:=Nat.mul_le_mul h2 hR;unfold zhl;omega
 generalize hH:zhl (yW (R.map Zw)) s.data.toList=H at *;have HH:=ze hH;clear hH;go_wp2;go_loopw [14] (fun iv wr=>∃ k:Nat,k<=H.length∧iv=.int .i64 k∧Hid (KpR b w5 wr∧J (xs.take k) wr)) (fun iv _=>H.length - (intOf iv).toNat)
 case atStart=>exact ⟨0,by omega,rfl,ze ⟨zgh (Chg.refl _ _) (by have:=K5.out.size;omega),J5.out⟩⟩
 case round=>
  obtain ⟨k,hk,rfl,HR⟩:=hrel;by_cases hlt:k < H.length
  ·obtain ⟨g,rfl⟩:=ZA O5.out (by omega)
   obtain ⟨x1,x2,a,bb,x,lb,lo,hxk,rfl,hle,⟨ha,hbm,hco,hx2⟩,c0,c1,r0,r1,b1,b2,hval⟩:∃ (x1 x2:Nat) (a bb:ByteArray) (x:zc7) (lb lo:Nat),xs[k]? = some x∧la=some ⟨lb,lo,none⟩∧x1+zz a.data.toList<=zz s.data.toList∧(Zp a.data.toList=true∧Zp bb.data.toList=true∧zz bb.data.toList<=zz a.data.toList∧x2 < R.length) ∧
     wr.cell? ⟨g,k*2,none⟩=some (.int .i64 (x1:Int))∧wr.cell? ⟨g,k*2+1,none⟩=some (.int .i64 (x2:Int))∧wr.cell? ⟨lb,lo+x2*2,none⟩=some (.string a)∧wr.cell? ⟨lb,lo+x2*2+1,none⟩=some (.string bb)∧wr.cell? ⟨N+1,0,none⟩=some (.slice la R.length cap)∧wr.cell? ⟨N+2,0,none⟩=some (.string s) ∧
     x.1=((x1,x2),yi s.data.toList x1 (zz a.data.toList) bb.data.toList):=by
    obtain ⟨hkp,_⟩:=HR.out;obtain ⟨x1,x2,hx⟩:∃ x1 x2,H[k]? = some (x1,x2):=⟨_,_,zq0 hlt⟩;obtain ⟨a,bb,hr,hle,hq⟩:=zn4 (R:=R) (s:=s) (by rw [HH.out];exact zq2 hx);obtain ⟨lac,capc,el,_,hru⟩:=HRU.out;cases el;obtain ⟨lb,lo,rfl,hlb,q1,q2,_⟩:=hru x2 (a,bb) hr
    have hxs:(xs.map (·.1))[k]? = some ((x1,x2),zeY (R.map Zw) s.data.toList (x1,x2)):=by
     rw [HX.out];unfold ZV;rw [HH.out,zrb,hx];rfl
    rw [zrb,Option.map_eq_some_iff] at hxs;obtain ⟨x,hxk,hxv⟩:=hxs
    have ng:¬ rowOwn b w5 g:=fun e=>by
     have h1:=HOWN.out g ((OW5.out g).1 e);have h2:=(O5.out.lt g rfl).1;omega
    refine ⟨x1,x2,a,bb,x,lb,lo,hxk,rfl,hle,⟨hq.1,hq.2.1,hq.2.2,(zq1.1 hr).1⟩,hkp.cell ng (by rw [O5.out.cellAt (k*2) (by omega),Nat.mul_comm];exact (zbo H k _ hx).1),hkp.cell ng (by rw [O5.out.cellAt (k*2+1) (by omega),Nat.mul_comm k 2];exact (zbo H k _ hx).2),hkp.cell (fun e=>hlb ((OW5.out lb).1 e)) (zj K5.out (fun e=>e) q1),hkp.cell (fun e=>hlb ((OW5.out lb).1 e)) (zj K5.out (fun e=>e) q2),hkp.cell (fun e=>HN2.out ((OW5.out _).1 e)) (zj K5.out (fun e=>e) C2.out),hkp.cell (fun e=>HN3.out ((OW5.out _).1 e)) (zj K5.out (fun e=>e) C3.out),?_⟩;rw [hxv];unfold zeY;rw [show yp (R.map Zw) x2=Zw (a,bb) by unfold yp;rw [zq6,zrb,hr];rfl];rfl
   obtain ⟨hkp,hj⟩:=HR.out;have sa:a.size<=16∧a.size % 2=0:=Zn ha;have sb:bb.size<=16∧bb.size % 2=0:=Zn hbm;have LEN:=ze (fun w=>ZO w a (by unfold maxLen;omega))
   have h8:zz s.data.toList - zz a.data.toList+zz bb.data.toList<=8:=by
    have:=((Zh s.data.toList).1 HMAY.out).2.2.1;omega
   have SWP:=ze (fun w=>zh4 w s bb x1 (zz a.data.toList) (by omega) (by omega) hs2 sb.2 hle h8);have hal:zz a.data.toList<=8:=by unfold zz;rw [zA];omega
   have hx1:x1<=8:=by
    have:=((Zh s.data.toList).1 HMAY.out).2.2.1;omega
   generalize hwc:(wr.alloc (.cells #[.int .i64 (x1:Int),.int .i64 (x2:Int)] 248)).alloc (.cells #[.string a,.string bb] 66)=wc;have kc:Chg (fun _=>False) wr wc:=by rw [<- hwc];exact (zi _ _ _).alloc _
   have e1:=zj (zi (fun _=>False) wr (.cells #[.int .i64 (x1:Int),.int .i64 (x2:Int)] 248)) (fun e=>e) r0;have e2:=zj (zi (fun _=>False) wr (.cells #[.int .i64 (x1:Int),.int .i64 (x2:Int)] 248)) (fun e=>e) r1;have e3:=zj (zi (fun _=>False) wr (.cells #[.int .i64 (x1:Int),.int .i64 (x2:Int)] 248)) (fun e=>e) b1;have e4:=zj kc (fun e=>e) b2;rw [<- hwc] at e4;have KC:=ze kc;have HWC:=ze hwc;have HKP:=ze hkp;have HJK:=ze hj;have HVAL:=ze hval;have HXK:=ze hxk;clear hwc kc hkp hj hval hxk HR ha hbm h8 hle hco;generalize zz a.data.toList=na at *;go_wp2_with fail;go_quiet ((first | (go_at_call 80;exact YP (fun n=>LEN.out _)) | (go_at_call 130;exact yK (fun n=>SWP.out _))));rename_i nq;go_upto_region 6 with fail;have kq:=KC.out.drewN nq;have J1:=HJ.out _ wr _ none HJK.out kq.grownNone (fun r e=>by cases e)
   have f0:(wc.drewN nq).cell? ⟨wr.heap.size,0,none⟩=some (.int .i64 (x1:Int)):=by
    rw [<- HWC.out];exact zf (za1 nq (Ze _ (zh wr _))) rfl
   have f1:(wc.drewN nq).cell? ⟨wr.heap.size,1,none⟩=some (.int .i64 (x2:Int)):=by
    rw [<- HWC.out];exact zf (za1 nq (Ze _ (zh wr _))) rfl
   rw [HWC.out];generalize wc.drewN nq=w1 at *
   obtain ⟨fn,tmps,assign,body,hy,hRd⟩:=HY.out (xs.take k) x w1 J1 (by
    have:=(zq1.1 HXK.out).1;rw [zq5];omega)
   unfold zqx at hy;rw [HVAL.out] at hy;unfold bar at hy;dsimp only at hy;have HRD:=ze hRd;have KQ:=ze kq;clear hRd J1 kq;refine (wpIn_wide (n:=mm+1)).1 ?_
   gi_wp2
   refine (HRD.out).mono ?_;rintro e w2 (⟨rfl,hj2,hk2⟩ | ⟨rfl,hjx⟩)
   ·have J2:=ze hj2
    have K2:=ze ((HKP.out.trans (zgh KQ.out (by have:=HKP.out.size;have:=K5.out.size;omega))).trans hk2);clear hj2 hk2
    gi_wp2
    go_wp2;go_roundw
    case rel=>exact ⟨k+1,by omega,by go_num,ze ⟨K2.out,by rw [zri,HXK.out];exact J2.out⟩⟩
    case measure=>simp [intOf];omega
   ·have JX:=ze hjx
    clear hjx
    gi_wp2
    go_wp2;refine bodyPost_ret (results_none rfl _ _ _) rfl ?_;exact ⟨⟨_,rfl⟩,.inr ⟨_,by rw [show xs.take k++[x]=xs.take (k+1) by rw [zri,HXK.out];rfl];exact List.take_prefix _ _,JX.out⟩⟩
  ·obtain rfl:k=H.length:=by omega
   have hxl:xs.length=H.length:=by
    have:=congrArg List.length HX.out;rw [zq4] at this;unfold ZV at this;rw [zq4,HH.out] at this;exact this
   have JE:=ze (show J xs wr by have:=HR.out.2;rw [<- hxl,zrk] at this;exact this);clear HR hxl;go_wp2;refine bodyPost_end (results_none rfl _ _ _) rfl ?_;exact ⟨⟨_,rfl⟩,.inl ⟨xs,rfl,JE.out⟩⟩
attribute [local go_sem] Oper.semAt_some

def zoT (base bnd i:Nat) (r:List Ent) (X:RB) (w:World) (pre:List zc7) (W:World):Prop:=
 ∃ r' X',ZQ bnd i (pre.map (·.1)) r=some r'∧zfO W base X' r'∧X'.b=X.b∧X'.bm=X.bm∧r'.length<=bnd∧(∀ k,X'.own k->X.own k∨w.heap.size<=k)∧Chg X.own w W
def zoS (bnd i:Nat) (r:List Ent) (X:RB) (b6 b7:Nat) (w:World) (c:Code) (pre:List zc7) (W:World):Prop:=
 c=.ret∧ZQ bnd i (pre.map (·.1)) r=none∧W.heap[b6]? = some (.cells #[.pointer none] 206 (0,0))∧W.heap[b7]? = some (.cells #[.int .i64 12] 32 (0,0))∧Chg (fun k=>X.own k∨k=b6∨k=b7) w W
theorem zC {w:World} {base:Nat} {e:TypeId} {size n:Nat} {xs:List Value} {v:Value} (h:w.ownsRow base e size v n xs) {k:Nat} (hk:v.ownBlock=some k):∃ cs,w.heap[k]? = some (.cells cs e (0,0)):=by
 obtain ⟨_,⟨rfl,_⟩ | ⟨g,cap,cur,rfl,_,hg,_⟩⟩:=h
 ·cases hk
 ·cases hk;exact ⟨cur,hg⟩
theorem zfz {base bnd i:Nat} {r:List Ent} {X:RB} {w:World} (hX:∀ k,X.own k->k < w.heap.size):OwnFrom w.heap.size (zoT base bnd i r X w):=by
 rintro pre W W' row ⟨r',X',h1,h2,h3,h4,h5,h6,h7⟩ hg hr
 have hno:∀ k,X'.own k->row≠some k:=by
  rintro k (rfl | rfl | hk | hk) e
  ·obtain ⟨_,o,ho,hc⟩:=hr _ e
   rw [h2.hb] at ho;cases ho;cases hc
  ·have:=(hr _ e).1
   have:=hX X.bm (.inr (.inl rfl));omega
  ·obtain ⟨cs,hcs⟩:=zC h2.hw hk
   obtain ⟨_,o,ho,hc⟩:=hr _ e;rw [hcs] at ho;cases ho;cases hc
  ·obtain ⟨cs,hcs⟩:=zC h2.hf hk
   obtain ⟨_,o,ho,hc⟩:=hr _ e;rw [hcs] at ho;cases ho;cases hc
 exact ⟨r',X',h1,zbv.chg h2 (Chg.of_grown hg) (fun k hk e=>hno k hk e),h3,h4,h5,h6,h7.grown hg (fun k hk hlt=>by have:=(hr k hk).1;omega)⟩
theorem zkI {bnd i:Nat} {r:List Ent} {X:RB} {b6 b7:Nat} {w:World} (h6:b6 < w.heap.size) (h7:b7 < w.heap.size) (c:Code):OwnFrom w.heap.size (zoS bnd i r X b6 b7 w c):=by
 rintro pre W W' row ⟨q1,q2,q3,q4,q5⟩ hg hr;have hne:∀ k,k < w.heap.size->row≠some k:=fun k hk e=>by have:=(hr k e).1;omega
 exact ⟨q1,q2,(Chg.of_grown hg).obj (hne b6 h6) q3,(Chg.of_grown hg).obj (hne b7 h7) q4,q5.grown hg (fun k hk hlt=>by have:=(hr k hk).1;omega)⟩
attribute [local go_sem] Oper.semAt_some

theorem Zf.chgS {S:Nat->Prop} {w w':World} {base:Nat} {B:MB} {cs:List (Value × Value)} {ps:List (List Nat)} {wh:List Nat->List Nat} (h:Zf w base B cs ps wh) (hc:Chg S w w') (hs:∀ k,base<=k->k < w.heap.size->¬ S k):Zf w' base B cs ps wh:=by
 refine ⟨hc.obj (hs _ h.bb (zr h.hb)) h.hb,zn h.hg hc (fun k hk=>hs k (h.hg.lt k hk).1 (h.hg.lt k hk).2),h.len,fun k p c hp hcc=>?_,fun k p c hp hcc=>zn (h.ew k p c hp hcc) hc (fun x hx=>hs x ((h.ew k p c hp hcc).lt x hx).1 ((h.ew k p c hp hcc).lt x hx).2),h.ap,h.ag,h.bg,h.bb⟩;exact (h.em k p c hp hcc).chg hc (fun x hx=>hs x (h.blt (yg hcc) (xK hx)).1 (h.blt (yg hcc) (xK hx)).2)
theorem za4 {F:Fence} {n:Nat} {P:Program} {fn:Func} {tmps:Array Value} {R:Ending->World->Prop}:∀ (Ds:List Nat) (W:World),Ds.Nodup->(∀ D∈Ds,W.heap[D]? = some (.deferred (some [])))->(∀ W',Chg (fun k=>k∈Ds) W W'->LeavesInM F n P fn tmps R [] .returning W')->LeavesInM F n P fn tmps R (Ds.map fun D=>{ target:=.collected D,args:=#[] }) .returning W
 | [],W,_,_,h=>h W (Chg.refl _ _)
 | D :: Ds,W,hn,hd,h=>by
  refine ⟨by simp,.inl ⟨D,_,rfl,run_takeDeferred (hd D List.mem_cons_self),?_⟩⟩;rw [List.nodup_cons] at hn;refine za4 Ds _ hn.2 (fun E hE=>?_) (fun W' hc=>h W' ?_)
  ·rw [World.putObj_heap_other (show E≠D from fun e=>hn.1 (by rw [<- e];exact hE))];exact hd E (List.mem_cons_of_mem _ hE)
  ·refine ((Chg.of_grown (grownBy_putObj' W D (.deferred none))).mono (fun k _ e=>?_)).trans (hc.mono (fun k _ e=>List.mem_cons_of_mem _ e))
   cases e;exact List.mem_cons_self
theorem zh5 (n b base N:Nat) (B:MB) (cs:List (Value × Value)) (w0:World) (R:List zF) (la:Option Addr) (cap:Nat) (s:ByteArray) (xs:List zc7)
  (hx:xs.map (·.1)=ZV (R.map Zw) s.data.toList) (hmay:Zp s.data.toList=true) (hR:R.length<=400) (hRs:∀ r∈R,r.1.size<=400)
  (hm:Zf w0 base B cs (Zl (yW (R.map Zw)) (yW (R.map Zw)).length) (Zi (yW (R.map Zw)) (yW (R.map Zw)).length))
  (c1:w0.cell? ⟨N,0,none⟩=some (.pointer (some ⟨B.b,0,none⟩))) (c2:w0.cell? ⟨N+1,0,none⟩=some (.slice la R.length cap)) (c3:w0.cell? ⟨N+2,0,none⟩=some (.string s))
  (hRu:zX w0 (.slice la R.length cap) (fun k=>¬ rowOwn b w0 k) R) (hb:b < w0.heap.size) (hn2:¬ rowOwn b w0 (N+1)) (hn3:¬ rowOwn b w0 (N+2)) (hown:∀ k,rowOwn b w0 k->k < w0.heap.size):
  SeqStopsK Fence.wide n Tryz.prog 169 #[.pointer (some ⟨N,0,none⟩),.pointer (some ⟨N+2,0,none⟩),.pointer (some ⟨N+1,0,none⟩)] zqx (KpR b) (fun ys=>ys=xs) (fun pre=>pre <+: xs) xs.length w0:=by
 intro l J Jx W hbel hJ hJx hY h0;have kc:Chg (fun _=>False) w0 W:=Chg.of_below hbel;have ee:(fun k=>¬ rowOwn b w0 k)=(fun k=>¬ rowOwn b W k):=funext fun k=>propext (not_congr (Xb kc hb).symm);refine callsIn_wide.2 (zlu l b base N (n - 1) B cs W R la cap s xs hx hmay hR hRs (hm.chg kc) (zj kc (fun e=>e) c1) (zj kc (fun e=>e) c2) (zj kc (fun e=>e) c3) ?_ (zq7 hb kc.size) (fun e=>hn2 ((Xb kc hb).1 e)) (fun e=>hn3 ((Xb kc hb).1 e)) (fun k hk=>zq7 (hown k ((Xb kc hb).1 hk)) kc.size) J Jx hJ hY h0);rw [<- ee];exact hRu.chg kc (fun _ _ e=>e)
theorem zjm {r:List Ent} (e:Ent):(znh r e).length=if e.1∈zv r then r.length else r.length+1:=by
 unfold znh;split <;> simp
theorem zn2 {bnd i:Nat} {pre:List zc7} {x:zc7} {r r':List Ent} (h:ZQ bnd i (pre.map (·.1)) r=some r') (hp:(znh r' (x.1.2,((i:Int),x.1.1))).length<=bnd):ZQ bnd i ((pre++[x]).map (·.1)) r=some (znh r' (x.1.2,((i:Int),x.1.1))):=by
 rw [List.map_append,Yg,h];show ZQ bnd i [x.1] r'=_;obtain ⟨⟨⟨a,n⟩,v⟩,hv⟩:=x;rw [zjm] at hp;unfold ZQ znh;simp only at hp ⊢;split
 ·rfl
 ·rename_i hn
  rw [if_neg hn] at hp;rw [if_neg (by omega)];rfl
theorem zkH {bnd i:Nat} {pre:List zc7} {x:zc7} {r r':List Ent} (h:ZQ bnd i (pre.map (·.1)) r=some r') (hl:r'.length<=bnd) (hp:bnd < (znh r' (x.1.2,((i:Int),x.1.1))).length):ZQ bnd i ((pre++[x]).map (·.1)) r=none:=by
 rw [List.map_append,Yg,h];show ZQ bnd i [x.1] r'=_;obtain ⟨⟨⟨a,n⟩,v⟩,hv⟩:=x;rw [zjm] at hp;unfold ZQ;simp only at hp ⊢;split at hp
 ·omega
 ·rename_i hn
  rw [if_neg hn,if_pos (by omega)]
theorem zaj {bnd i:Nat} {l m:List ((Nat × Nat) × Wd)} {r:List Ent} (h:l <+: m) (hn:ZQ bnd i l r=none):ZQ bnd i m r=none:=by
 obtain ⟨t,rfl⟩:=h;rw [Yg,hn];rfl
theorem zet {b i:Nat}:∀ {l:List ((Nat × Nat) × Wd)} {r r':List Ent},ZQ b i l r=some r'->∀ v∈zv r',v∈zv r∨∃ h,(h,v)∈l
 | [],r,r',he,v,hv=>by cases he;exact .inl hv
 | (s,u) :: t,r,r',he,v,hv=>by
  unfold ZQ at he;split at he
  ·rcases zet he v hv with h | ⟨h,q⟩
   ·exact .inl h
   ·exact .inr ⟨h,List.mem_cons_of_mem _ q⟩
  ·split at he
   ·cases he
   ·rcases zet he v hv with h | ⟨h,q⟩
    ·rw [Yc,zrc,List.mem_singleton] at h
     rcases h with h | rfl
     ·exact .inl h
     ·exact .inr ⟨s,List.mem_cons_self⟩
    ·exact .inr ⟨h,List.mem_cons_of_mem _ q⟩
theorem zaw {fn:Func} {p q:Tmp} {t u:TypeId} (h:fn.results=#[.cell p t,.cell q u]) (tmps:Array Value) (P:Program) (w:World):
  (results fn tmps).run P w =
   ((asAddr (tmps.getD p undef)).run P w).andThen fun a w₁=>((loadVar t a).run P w₁).andThen fun v w₂=>((asAddr (tmps.getD q undef)).run P w₂).andThen fun b w₃=>((loadVar u b).run P w₃).andThen fun y w₄=>.ok (.tuple #[v,y]) w₄:=by
 simp only [results,h];simp [Sem.run_bind,Result.andThen]
theorem zav {w:World} {base:Nat} {X:RB} {r:List Ent} (h:zfO w base X r) {k:Nat} {o:Obj} (ho:w.heap[k]? = some o) (hc:o.isCells=false) (hk:X.own k):k=X.bm:=by
 rcases hk with rfl | rfl | hk | hk
 ·rw [h.hb] at ho;cases ho;cases hc
 ·rfl
 ·obtain ⟨cs,hcs⟩:=zC h.hw hk
  rw [hcs] at ho;cases ho;cases hc
 ·obtain ⟨cs,hcs⟩:=zC h.hf hk
  rw [hcs] at ho;cases ho;cases hc
theorem zhi {W1 W2:World} {base B:Nat} {X:RB} {r:List Ent} {S:Nat->Prop} (h:zfO W1 base X r) (hB:X.bm < B) (hc:Chg S W1 W2) (hS:∀ k,S k->X.own k∨k < B):KeepsFrom B W1 W2:=
 ⟨hc.size,fun k o hk ho hoc=>hc.obj (fun e=>by
  rcases hS k e with e | e
  ·have:=zav h ho hoc e;omega
  ·omega) ho⟩
theorem zqd {W1 W2:World} {base:Nat} {X X2:RB} {r r2:List Ent} (h:zfO W1 base X r) (h2:zfO W2 base X2 r2) (hb:X2.b=X.b) (hc:Chg X.own W1 W2) (ho:∀ k,X2.own k->X.own k∨W1.heap.size<=k):KpR X.b W1 W2:=by
 refine ⟨hc.size,fun k cs t fz hk hn=>hc.obj (fun e=>hn (h.rowOwn.1 e)) hk,fun k hk=>?_⟩;rw [<- hb] at hk;rcases ho k (h2.rowOwn.2 hk) with e | e
 ·exact .inl (h.rowOwn.1 e)
 ·exact .inr e
theorem xE {w:World} {base base':Nat} {e:TypeId} {size n:Nat} {xs:List Value} {v:Value} (h:w.ownsRow base e size v n xs) (hb:base'<=base):w.ownsRow base' e size v n xs:=by
 obtain ⟨h1,h2 | ⟨g,cap,cur,h3,hg,q⟩⟩:=h
 ·exact ⟨h1,.inl h2⟩
 ·exact ⟨h1,.inr ⟨g,cap,cur,h3,Nat.le_trans hb hg,q⟩⟩
theorem zfO.down {w:World} {base base':Nat} {X:RB} {r:List Ent} (h:zfO w base X r) (hb:base'<=base):zfO w base' X r:=
 ⟨h.hb,xE h.hw hb,xE h.hf hb,h.hm,Nat.le_trans hb h.bb,Nat.le_trans hb h.bm,h.nwf,h.nwb,h.nfb⟩
end Go.Proofs.YthdfplafihmejaaGreat
