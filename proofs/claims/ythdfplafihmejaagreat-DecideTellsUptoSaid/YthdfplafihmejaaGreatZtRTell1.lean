/-
  Package reach: walkAll. Package reach: walkAll where it is asked wrongly; All.
-/
import Derived.Test.YthdfplafihmejaaGreatZtRRow
namespace Go.Proofs.YthdfplafihmejaaGreat
open Go.RowKit Go.Maps
attribute [local go_sem] Oper.semAt_some

theorem zks:zbH []=fun _=>none:=by
 funext kl
 unfold zbH;rw [dif_neg];rintro ⟨v,hv,_⟩;simp [zv] at hv
def zqL (lo:Nat) (W:World) (ds:List Deferred):Prop:=
 ∃ Ds:List Nat,ds=Ds.map (fun D=>{ target:=.collected D,args:=#[] })∧Ds.Nodup∧∀ D∈Ds,lo<=D∧W.heap[D]? = some (.deferred (some []))
structure zqr (w w3:World) (X3:RB) (R:List zF) (s:ByteArray) (bnd bi:Nat) (r:List Ent) (X:RB) (ds:List Deferred) (W:World):Prop where
 row:zfO W w.heap.size X r
 xb:X.b=X3.b
 xm:X.bm=X3.bm
 goes:zbN (R.map Zw) s.data.toList bnd=xP (R.map Zw) bnd (bnd - ds.length) ds.length r
 le:ds.length<=bnd
 len:r.length<=bnd
 may:∀ u∈zv r,Zp u=true
 box:W.heap[bi]? = some (.cells #[.int .i64 (ds.length:Int)] 3 (0,0))
 hbi:w3.heap.size<=bi
 nbi:¬ X.own bi
 own:∀ k,X.own k->X3.own k∨w3.heap.size<=k
 chg:Chg X3.own w3 W
 marks:zqL w3.heap.size W ds
theorem zo8 {W:World} {base:Nat} {X:RB} {r:List Ent} (h:zfO W base X r) {i:Nat} (hi:i < r.length):∀ g c,X.wv=.slice (some ⟨g,0,none⟩) r.length c->W.cell? ⟨g,i,none⟩=some (.string (bar (zS r i))):=by
 intro g c e;have ho:=h.hw;rw [e] at ho;rw [ho.cellAt i (by omega)];unfold yX zS;rw [zrb,zq6,zq0 hi];rfl
theorem zX.imp {w:World} {v:Value} {G G':Nat->Prop} {R:List zF} (h:zX w v G R) (hg:∀ k,G k->G' k):zX w v G' R:=by
 obtain ⟨la,cap,h1,h2,h3⟩:=h;exact ⟨la,cap,h1,h2,fun j r hj=>by obtain ⟨lb,lo,q1,q2,q3⟩:=h3 j r hj;exact ⟨lb,lo,q1,hg _ q2,q3⟩⟩
theorem zpc (w:World) (base:Nat) (hb:base<=w.heap.size) (o:Obj):zfO (((w.alloc (.map #[] 0)).alloc (.cells #[.slice none 0 0,.slice none 0 0,.map (some w.heap.size)] 212)).alloc o) base ⟨w.heap.size+1,.slice none 0 0,.slice none 0 0,w.heap.size⟩ []:=by
 refine ⟨Ze o (zcT _ _ _),World.ownsRow_nil _ _ _ _,World.ownsRow_nil _ _ _ _,?_,by show base<=w.heap.size+1;omega,hb,(fun x h=>by cases h),(fun h=>by cases h),(fun h=>by cases h)⟩;rw [zks];exact (XB.made _ _ _ w).chg (((zi (fun _=>False) _ _)).alloc o) (fun e=>e)
def zpS (w:World) (o:Option (List Ent)) (e:Ending) (w':World):Prop:=
 Chg (fun _=>False) w w'∧(∀ r,o=some r->∃ X,e=.returned (.tuple #[.pointer (some ⟨X.b,0,none⟩),.int .i64 0])∧zfO w' w.heap.size X r)∧(o=none->e=.returned (.tuple #[.pointer none,.int .i64 12]))
theorem zat {w w1:World} {v:Value} {R:List zF} (h:zX w v (· < w.heap.size) R) (k:Chg (fun _=>False) w w1):zX w1 v (· < w1.heap.size) R:=by
 obtain ⟨la,cap,q1,q2,q3⟩:=h;exact ⟨la,cap,q1,q2,fun j r hj=>by obtain ⟨lb,lo,z1,z2,z3,z4,z5⟩:=q3 j r hj;exact ⟨lb,lo,z1,zq7 z2 k.size,zj k (fun e=>e) z3,zj k (fun e=>e) z4,z5⟩⟩
set_option maxHeartbeats 1600000 in
set_option maxRecDepth 100000 in
theorem zdT (w:World) (v:Value) (R:List zF) (s:ByteArray) (bnd:Nat) (hv:zX w v (· < w.heap.size) R) (hR:R.length<=400) (hRs:∀ r∈R,r.1.size<=400) (hmay:Zp s.data.toList=true) (h1:1<=bnd) (h2:bnd<=5000):
  Calls Tryz.prog 138 #[v,.string s,.int .i64 (bnd:Int)] w (zpS w (zbN (R.map Zw) s.data.toList bnd)):=by
 have HV:=ze hv;obtain ⟨la,cap,rfl,hl0,_⟩:=hv;have hs8:=Zn hmay;have MAY:=ze (fun w=>zap w s (by unfold maxLen;omega));rw [hmay] at MAY;have HMAY:=ze hmay;have HRS:=ze hRs;clear hmay hRs;have g1:decide ((bnd:Int) < 1)=false:=by rw [decide_eq_false_iff_not];omega
 have g2:decide ((5000:Int) < (bnd:Int))=false:=by rw [decide_eq_false_iff_not];omega
 refine (callsIn_wide (n:=5)).1 (callsIn_of_wp_marks Tryz.func138 rfl trivial (wpIn_wide.2 ?_) rfl);simp only [Tryz.ntmps138,List.size_toArray,List.length_cons,List.length_nil,Nat.reduceAdd,Nat.reduceSub,Array.replicate_succ,Array.replicate_zero,List.push_toArray,List.append_toArray,List.nil_append,List.cons_append];go_wp2_with fail;(with_reducible refine (MAY.out _).mono ?_);rintro e w1 ⟨rfl,k1⟩;have o5:=k1.obj (fun e=>e) (Ze (.cells #[.int .i64 0] 32) (Ze (.cells #[.pointer none] 206) (zh w (.cells #[.int .i64 (bnd:Int)] 3))));have d5:w1.cell? ⟨w.heap.size,0,none⟩=some (.int .i64 (bnd:Int)):=zf o5 rfl;have K1:=ze ((((zi (fun _=>False) w (.cells #[.int .i64 (bnd:Int)] 3)).alloc (.cells #[.pointer none] 206)).alloc (.cells #[.int .i64 0] 32)).trans k1);have O5:=ze o5;have K1b:=ze (show w.heap.size+3<=w1.heap.size from by have:=k1.size;simp at this;exact this);have o6:=k1.obj (fun e=>e) (Ze (.cells #[.int .i64 0] 32) (zh (w.alloc (.cells #[.int .i64 (bnd:Int)] 3)) (.cells #[.pointer none] 206)));have o7:=k1.obj (fun e=>e) (zh ((w.alloc (.cells #[.int .i64 (bnd:Int)] 3)).alloc (.cells #[.pointer none] 206)) (.cells #[.int .i64 0] 32));rw [zq8] at o6;rw [zq8,zq8] at o7;have O6:=ze o6;have O7:=ze o7;clear o6 o7;clear k1 o5;have g3:decide (400 < R.length)=false:=by rw [decide_eq_false_iff_not];omega
 have g4:decide ((400:Int) < (R.length:Int))=false:=by rw [decide_eq_false_iff_not];omega
 have MACH:=ze (ziw w1 (.slice la R.length cap) R (zat HV.out K1.out) hR HRS.out);have hmm:=@run_makeMap Tryz.prog;go_wp2_with fail;(with_reducible refine MACH.out.mono ?_);rintro e w2 ⟨B,cs,rfl,m2,k2⟩;have M2:=ze m2;have K2:=ze k2;clear m2 k2 MACH;have hsz2:w.heap.size+3<=w2.heap.size:=Nat.le_trans (by have:=K1b.out;omega) K2.out.size;have PUT:=ze (zjg _ w2.heap.size ⟨w2.heap.size+1,.slice none 0 0,.slice none 0 0,w2.heap.size⟩ [] s (-1) 0 0 (zpc w2 w2.heap.size (zrj _) (.cells #[.pointer (some ⟨w2.heap.size+1,0,none⟩)] 206)) (by omega) (by simp));rw [show ((0:Nat):Int)=0 from rfl] at PUT;go_wp2_with fail;(with_reducible refine PUT.out.mono ?_);rintro e w3 ⟨⟨v3,rfl⟩,X,hXb,hXm,r3,k3,n3⟩
 have k3':Chg (fun _=>False) w2 w3:=(((zi (fun _=>False) w2 (.map #[] 0)).alloc (.cells #[.slice none 0 0,.slice none 0 0,.map (some w2.heap.size)] 212)).alloc (.cells #[.pointer (some ⟨w2.heap.size+1,0,none⟩)] 206)).next k3 (fun k hk e=>by
  rcases e with rfl | rfl | e | e
  ·exact absurd hk (by show ¬ (w2.heap.size+1 < w2.heap.size);omega)
  ·exact absurd hk (by show ¬ (w2.heap.size < w2.heap.size);omega)
  ·cases e
  ·cases e)
 have K3:=ze (K2.out.trans k3');have K23:=ze k3';have hs3:w2.heap.size+3<=w3.heap.size:=by have:=k3.size;simp at this;exact this
 have hnew:=zh ((w2.alloc (.map #[] 0)).alloc (.cells #[.slice none 0 0,.slice none 0 0,.map (some w2.heap.size)] 212)) (.cells #[.pointer (some ⟨w2.heap.size+1,0,none⟩)] 206);rw [zq8,zq8] at hnew
 have O9:=ze (k3.obj (fun e=>by
  rcases e with e | e | e | e
  ·exact absurd e (by show ¬ (w2.heap.size+1+1=w2.heap.size+1);omega)
  ·exact absurd e (by show ¬ (w2.heap.size+1+1=w2.heap.size);omega)
  ·cases e
  ·cases e) hnew)
 clear hnew;obtain ⟨X3,hX3⟩:∃ X3,X3=X:=⟨_,rfl⟩;have R3:=ze (show zfO w3 w2.heap.size X3 (Yn s.data.toList) from by rw [hX3];exact r3);have HXB:=ze (show X3.b=w2.heap.size+1 from by rw [hX3];exact hXb)
 have OW3:=ze (show ∀ k,X3.own k->w2.heap.size<=k∧k < w3.heap.size∧k≠w2.heap.size+1+1 from fun k hk=>⟨(zbv.own_lt R3.out hk).1,(zbv.own_lt R3.out hk).2,fun e=>by
  subst hX3;rcases n3 k hk with (q | q | q | q) | q
  ·have:k=w2.heap.size+1:=q
   omega
  ·have:k=w2.heap.size:=q
   omega
  ·cases q
  ·cases q
  ·simp at q;omega⟩)
 clear k3 k3' r3 hXb hXm n3 PUT hmm hX3;go_wp2_with fail;refine wp_loop (fun a W=>∃ (bi:Nat) (r:List Ent) (X:RB) (ds:List Deferred) (u11 u12 u37 u38 u39 u40 u41 u42 u43 u44 u45 u46 u47 u48 u49 u50 u51 u52 u53 u54 u55 u56 u57 u58 u59 u60 u61 u62 u63 u64 u65 u66 u67 u68 u69 u70 u71 u72:Value),a={ tmps:=#[.slice la R.length cap,.string s,.int .i64 (bnd:Int),undef,undef,.pointer (some ⟨w.heap.size,0,none⟩),.pointer (some ⟨w.heap.size+1,0,none⟩),.pointer (some ⟨w.heap.size+1+1,0,none⟩),.pointer (some ⟨B.b,0,none⟩),.pointer (some ⟨w2.heap.size+1+1,0,none⟩),.pointer (some ⟨bi,0,none⟩),u11,u12,.bool false,.string s,.bool true,.bool false,.bool false,.int .i64 (bnd:Int),.bool false,.bool false,.int .i64 (bnd:Int),.bool false,.bool false,.bool false,.slice la R.length cap,.int .i64 (R.length:Int),.bool false,.slice la R.length cap,.pointer (some ⟨B.b,0,none⟩),.map (some w2.heap.size),.agg #[.slice none 0 0,.slice none 0 0,.map (some w2.heap.size)],.pointer (some ⟨w2.heap.size+1,0,none⟩),.pointer (some ⟨w2.heap.size+1,0,none⟩),.string s,.agg #[.int .i64 (-1),.int .i64 0,.int .i64 0],v3,u37,u38,u39,u40,u41,u42,u43,u44,u45,u46,u47,u48,u49,u50,u51,u52,u53,u54,u55,u56,u57,u58,u59,u60,u61,u62,u63,u64,u65,u66,u67,u68,u69,u70,u71,u72],defers:=ds }∧Hid (zqr w2 w3 X3 R s bnd bi r X ds W)) (fun a _=>bnd+1 - a.defers.length) ?start ?round
 case start=>
  refine ⟨w3.heap.size,Yn s.data.toList,X3,[],undef,undef,undef,undef,undef,undef,undef,undef,undef,undef,undef,undef,undef,undef,undef,undef,undef,undef,undef,undef,undef,undef,undef,undef,undef,undef,undef,undef,undef,undef,undef,undef,undef,undef,undef,undef,undef,undef,rfl,ze ?_⟩;refine ⟨zbv.chg R3.out (zi (fun _=>False) _ _) (fun _ _ e=>e),rfl,rfl,rfl,by simp,by simpa [Yn] using h1,?_,zh _ _,zrj _,?_,fun k hk=>.inl hk,zi _ _ _,[],rfl,by simp,by simp⟩
  ·intro u hu
   simp [Yn,zv] at hu;subst hu;exact HMAY.out
  ·intro hk
   have:=(OW3.out _ hk).2.1;omega
 case round=>
  rintro a W ⟨bi,r,X,ds,u11,u12,u37,u38,u39,u40,u41,u42,u43,u44,u45,u46,u47,u48,u49,u50,u51,u52,u53,u54,u55,u56,u57,u58,u59,u60,u61,u62,u63,u64,u65,u66,u67,u68,u69,u70,u71,u72,rfl,HI⟩;have hxb:X.b=w2.heap.size+1:=HI.out.xb.trans HXB.out;have db:W.cell? ⟨bi,0,none⟩=some (.int .i64 (ds.length:Int)):=zf HI.out.box rfl;have d9:W.cell? ⟨w2.heap.size+1+1,0,none⟩=some (.pointer (some ⟨w2.heap.size+1,0,none⟩)):=zf (HI.out.chg.obj (fun e=>(OW3.out _ e).2.2 rfl) O9.out) rfl;obtain ⟨aw,cw,ew⟩:=zl HI.out.row.hw;have dw:W.cell? ⟨w2.heap.size+1,0,none⟩=some (.slice aw r.length cw):=by rw [<- hxb,<- ew];exact zf HI.out.row.hb rfl
  have hrl:=HI.out.len;have hdl:=HI.out.le;have EW:=ze ew;have HXB2:=ze hxb;clear ew hxb;by_cases hi:ds.length < r.length
  ·go_wp2_with fail
   go_quiet (fail);rename_i nq;go_wp2_with fail;obtain ⟨gw,rfl⟩:=ZA (by rw [<- EW.out];exact HI.out.row.hw) (by omega);have hrc:=zo8 HI.out.row hi;rw [EW.out] at hrc;have e1:W.cell? ⟨gw,ds.length,none⟩=some (.string (bar (zS r ds.length))):=hrc gw _ rfl;have STP:=ze (fun w=>zls w (some ⟨B.b,0,none⟩) (.slice la R.length cap) (bar (zS r ds.length)) la R.length cap rfl);refine ZK 9 (by kernel_rfl) (by kernel_rfl) ?_
   repeat still_step
   refine wpStill_nil ?_;go_wp2_with fail;have kd:Chg (fun _=>False) W (W.drewN (nq+1)):=(Chg.refl _ W).drewN (nq+1);generalize W.drewN (nq+1)=Wd at *;(with_reducible refine (STP.out _).mono ?_);rintro e w5 ⟨rfl,hw5⟩;go_wp2_with fail;have k5:Chg (fun _=>False) W w5:=by rw [<- hw5];exact ((kd.alloc _).alloc _).alloc _
   have n1:w5.cell? ⟨Wd.heap.size,0,none⟩=some (.pointer (some ⟨B.b,0,none⟩)):=by rw [<- hw5];exact zf (Ze _ (Ze _ (zh Wd _))) rfl
   have n2:w5.cell? ⟨Wd.heap.size+1,0,none⟩=some (.slice la R.length cap):=by rw [<- hw5];exact zf (Ze _ (zcT Wd _ _)) rfl
   have n3:w5.cell? ⟨Wd.heap.size+2,0,none⟩=some (.string (bar (zS r ds.length))):=by
    have:=zcT (Wd.alloc (.cells #[.pointer (some ⟨B.b,0,none⟩)] 233)) (.cells #[.slice la R.length cap] 22) (.cells #[.string (bar (zS r ds.length))] 57);rw [zq8] at this;rw [<- hw5];exact zf this rfl
   have s5:w5.heap.size=Wd.heap.size+3:=by rw [<- hw5];simp
   have sd:=kd.size;have s3:=HI.out.chg.size;have hlW:∀ k,X.own k->w2.heap.size<=k∧k < W.heap.size:=fun k hk=>zbv.own_lt HI.out.row hk;have hXO:∀ k,X.own k->X3.own k∨w3.heap.size<=k:=HI.out.own;have row5:=zbv.chg HI.out.row k5 (fun _ _ e=>e);have hwd:=Xa hi;have hmw:Zp (bar (zS r ds.length)).data.toList=true:=by rw [yB];exact HI.out.may _ hwd
   have hst:∀ x∈ZV (R.map Zw) (bar (zS r ds.length)).data.toList,Zp x.2=true:=fun x hx=>(zfW hmw ⟨x.1,hx⟩).1
   obtain ⟨xs,hxs⟩:∃ xs:List zc7,xs.map (·.1)=ZV (R.map Zw) (bar (zS r ds.length)).data.toList:=⟨zlt R _ (fun x hx=>by
    have:=((Zh _).1 (hst x hx)).2.2.1;unfold zz at this;omega),zj2 _ _ _⟩
   have kW:Chg (fun _=>False) w W:=(K1.out.trans K3.out).next HI.out.chg (fun k hk e=>by have:=(OW3.out k e).1;omega)
   have mach5:=(M2.out.chgS ((K23.out.mono (fun _ _ e=>e.elim)).trans HI.out.chg) (fun k _ hk e=>by have:=(OW3.out k e).1;omega)).chg k5;have rul5:=zX.imp (HV.out.chg (kW.trans k5) (fun _ _ e=>e)) (G':=fun k=>¬ rowOwn X.b w5 k) (fun k hk e=>by have:=(hlW k (row5.rowOwn.2 e)).1;omega);have oW:∀ k o,k < w2.heap.size->w1.heap[k]? = some o->w5.heap[k]? = some o:=fun k o hk ho=>k5.obj (fun e=>e) (HI.out.chg.obj (fun e=>by have:=(OW3.out _ e).1;omega) (K3.out.obj (fun e=>e) ho));have p5:=oW _ _ (by omega) O5.out;have p6:=oW _ _ (by omega) O6.out;have p7:=oW _ _ (by omega) O7.out;have p9:=k5.obj (fun e=>e) (HI.out.chg.obj (fun e=>(OW3.out _ e).2.2 rfl) O9.out);have pb:=k5.obj (fun e=>e) HI.out.box;have hbW:bi < W.heap.size:=zr HI.out.box
   have hnX:∀ k,k < w2.heap.size∨k=w2.heap.size+1+1∨k=bi->¬ X.own k:=by
    rintro k (hk | rfl | rfl) e
    ·have:=(hlW k e).1;omega
    ·rcases hXO _ e with e | e
     ·exact (OW3.out _ e).2.2 rfl
     ·omega
    ·exact HI.out.nbi e
   refine (wpIn_wide (n:=5)).1 ?_
   refine wpIn_rangeFunc_ownH (n:=5) rfl (by decide) (gf:=169) (lb:=#[.pointer (some ⟨Wd.heap.size,0,none⟩),.pointer (some ⟨Wd.heap.size+2,0,none⟩),.pointer (some ⟨Wd.heap.size+1,0,none⟩)]) rfl trivial (enters_of Tryz.func169 (by kernel_rfl) rfl)
    (zh5 4 X.b _ Wd.heap.size B cs w5 R la cap _ xs hxs hmw hR HRS.out mach5 n1 n2 n3 rul5 (by have:=(hlW X.b (.inl rfl)).2;omega) (fun e=>by have:=(hlW _ (row5.rowOwn.2 e)).2;omega) (fun e=>by have:=(hlW _ (row5.rowOwn.2 e)).2;omega) (fun k e=>by have:=(hlW _ (row5.rowOwn.2 e)).2;omega))
    KpR.trans (zpu (by have:=(hlW X.b (.inl rfl)).2;omega)) (Below.refl _ _) (fun _=>rfl)
    (zoT w2.heap.size bnd ds.length r X w5) (zoS bnd ds.length r X (w.heap.size+1) (w.heap.size+1+1) w5)
    (zfz (fun k hk=>by have:=(hlW k hk).2;omega)) (fun c=>zkI (by omega) (by omega) c)
    ⟨r,X,rfl,row5,rfl,rfl,hrl,fun k hk=>.inl hk,Chg.refl _ _⟩
    (fun x a' W1=>∃ Bx,W1.heap[Bx]? = some (.cells #[.int .i64 (x.1.1.1:Int),.int .i64 (x.1.1.2:Int)] 153 (0,0))∧a'={ tmps:=#[.slice la R.length cap,.string s,.int .i64 (bnd:Int),undef,undef,.pointer (some ⟨w.heap.size,0,none⟩),.pointer (some ⟨w.heap.size+1,0,none⟩),.pointer (some ⟨w.heap.size+1+1,0,none⟩),.pointer (some ⟨B.b,0,none⟩),.pointer (some ⟨w2.heap.size+1+1,0,none⟩),.pointer (some ⟨bi,0,none⟩),.pointer (some ⟨Bx,0,none⟩),.string (bar x.1.2),.bool false,.string s,.bool true,.bool false,.bool false,.int .i64 (bnd:Int),.bool false,.bool false,.int .i64 (bnd:Int),.bool false,.bool false,.bool false,.slice la R.length cap,.int .i64 (R.length:Int),.bool false,.slice la R.length cap,.pointer (some ⟨B.b,0,none⟩),.map (some w2.heap.size),.agg #[.slice none 0 0,.slice none 0 0,.map (some w2.heap.size)],.pointer (some ⟨w2.heap.size+1,0,none⟩),.pointer (some ⟨w2.heap.size+1,0,none⟩),.string s,.agg #[.int .i64 (-1),.int .i64 0,.int .i64 0],v3,.int .i64 (ds.length:Int),.pointer (some ⟨w2.heap.size+1,0,none⟩),.pointer (some ⟨w2.heap.size+1,0,none⟩),.pointer (some ⟨w2.heap.size+1,0,none⟩),.slice (some ⟨gw,0,none⟩) r.length cw,.int .i64 (r.length:Int),.bool true,u44,u45,.pointer (some ⟨B.b,0,none⟩),.slice la R.length cap,.pointer (some ⟨w2.heap.size+1,0,none⟩),.pointer (some ⟨w2.heap.size+1,0,none⟩),.pointer (some ⟨w2.heap.size+1,0,none⟩),.slice (some ⟨gw,0,none⟩) r.length cw,.int .i64 (ds.length:Int),.pointer (some ⟨gw,ds.length,none⟩),.string (bar (zS r ds.length)),.func (.func 169) #[] #[.pointer (some ⟨Wd.heap.size,0,none⟩),.pointer (some ⟨Wd.heap.size+2,0,none⟩),.pointer (some ⟨Wd.heap.size+1,0,none⟩)],.agg #[.int .i64 (x.1.1.1:Int),.int .i64 (x.1.1.2:Int)],.string (bar x.1.2),u58,u59,u60,u61,u62,u63,u64,u65,u66,u67,u68,u69,u70,u71,u72],defers:=[] })
    ?hAx ?assign ?body ?done ?stop
   case hAx=>
    rintro x a' _ W1 W2 row ⟨Bx,hob,ha⟩ hg hr;exact ⟨Bx,(Chg.of_grown hg).obj (fun e=>by obtain ⟨_,o,ho,hc⟩:=hr _ e;rw [hob] at ho;cases ho;cases hc) hob,ha⟩
   case assign=>
    rintro l pre x W1 K hIp hK;have hI2:=hIp;obtain ⟨r',X',q1,q2,q3,q4,q5,q6,q7⟩:=hI2;have hb1:X.b < W1.heap.size:=by rw [<- q3];exact zr q2.hb
    unfold zqx
    gi_wp2
    exact hK _ _ ((KeepsOthers.alloc _ _).from _) (zgh (zi _ _ _) hb1) (OwnFrom.alloc (zfz (fun k hk=>by have:=(hlW k hk).2;omega)) _ hIp) ⟨W1.heap.size,zh _ _,rfl⟩
   case body=>
    rintro l pre x a' W1 hl ⟨rr,hrr⟩ ⟨r',X',q1,q2,q3,q4,q5,q6,q7⟩ ⟨Bx,hob,rfl⟩ hlt
    have hnX':∀ k,k < w2.heap.size∨k=w2.heap.size+1+1∨k=bi->¬ X'.own k:=fun k hk e=>by
     rcases q6 k e with e | e
     ·exact hnX k hk e
     ·rcases hk with hk | rfl | rfl <;> omega
    have m5:=q7.obj (hnX _ (.inl (by omega))) p5;have m6:=q7.obj (hnX _ (.inl (by omega))) p6;have m7:=q7.obj (hnX _ (.inl (by omega))) p7;have m9:=q7.obj (hnX _ (.inr (.inl rfl))) p9;have mb:=q7.obj (hnX _ (.inr (.inr rfl))) pb;have c9:W1.cell? ⟨w2.heap.size+1+1,0,none⟩=some (.pointer (some ⟨w2.heap.size+1,0,none⟩)):=zf m9 rfl;have cb:W1.cell? ⟨bi,0,none⟩=some (.int .i64 (ds.length:Int)):=zf mb rfl;have cx0:W1.cell? ⟨Bx,0,none⟩=some (.int .i64 (x.1.1.1:Int)):=zf hob rfl;have cx1:W1.cell? ⟨Bx,1,none⟩=some (.int .i64 (x.1.1.2:Int)):=zf hob rfl;have PUT:=ze (zjg W1 w2.heap.size X' r' (bar x.1.2) (ds.length:Int) x.1.1.1 x.1.1.2 q2 (by rw [<- zA,yB];have:=x.2;omega) (by omega));rw [q3,HXB2.out,yB] at PUT
    gi_wp2_with fail
    refine ⟨trivial,?_⟩;(with_reducible refine (CallsIn.inRound l (callsIn_wide.2 PUT.out)).mono ?_);rintro e W2 ⟨⟨vv,rfl⟩,X2,z1,z2,z3,z4,z5⟩;clear PUT;have hgo:=fun hp=>zn2 (x:=x) q1 hp;have hover:=fun hp=>zkH (x:=x) q1 q5 hp;obtain ⟨p,hp⟩:∃ p,p=znh r' (x.1.2,((ds.length:Int),x.1.1)):=⟨_,rfl⟩;replace z3:zfO W2 w2.heap.size X2 p:=by rw [hp];exact z3
    rw [<- hp] at hgo hover;clear hp;obtain ⟨aw2,cw2,ew2⟩:=zl z3.hw;have dw2:W2.cell? ⟨w2.heap.size+1,0,none⟩=some (.slice aw2 p.length cw2):=by rw [<- z1,<- ew2];exact zf z3.hb rfl
    have d92:=zj z4 (hnX' _ (.inr (.inl rfl))) c9;have o52:=z4.obj (hnX' _ (.inl (by omega))) m5;have d52:W2.cell? ⟨w.heap.size,0,none⟩=some (.int .i64 (bnd:Int)):=zf o52 rfl;have o62:=z4.obj (hnX' _ (.inl (by omega))) m6;have o72:=z4.obj (hnX' _ (.inl (by omega))) m7;have kx2:Chg X.own w5 W2:=q7.next z4 (fun k hk e=>by rcases q6 k e with e | e;exact e;omega)
    have EW2:=ze ew2;have kpr:=zqd q2 z3 (z1.trans (HXB2.out.symm.trans q3.symm)) z4 z5;rw [q3] at kpr;have KPR:=ze kpr;have Z3:=ze z3
    have Z5:=ze (fun k (hk:X2.own k)=>show X.own k∨w5.heap.size<=k from by
     rcases z5 k hk with e | e
     ·exact q6 k e
     ·exact .inr (Nat.le_trans q7.size e))
    have KX2:=ze kx2;have Z4:=ze z4;have O62:=ze o62;have O72:=ze o72;have f62:W2.frozen? ⟨w.heap.size+1,0,none⟩=false:=by simp [World.frozen?,o62]
    have f72:W2.frozen? ⟨w.heap.size+1+1,0,none⟩=false:=by simp [World.frozen?,o72]
    have d62:W2.cell? ⟨w.heap.size+1,0,none⟩=some (.pointer none):=zf o62 rfl;have d72:W2.cell? ⟨w.heap.size+1+1,0,none⟩=some (.int .i64 0):=zf o72 rfl;have hbm:X'.bm < w5.heap.size:=by rw [q4];have:=(hlW X.bm (.inr (.inl rfl))).2;omega
    have Q2:=ze q2;have Z1:=ze (show X2.b=X.b from z1.trans HXB2.out.symm);have Z2:=ze (show X2.bm=X.bm from z2.trans q4);have HGO:=ze hgo;have HOV:=ze hover;clear hgo hover kpr z1 z2 z3 z4 z5 kx2 o52 o62 o72 ew2 m5 m6 m7 m9 mb q2 c9 cb cx0 cx1 hob hrr;have K5S:=ze (show w2.heap.size<=w5.heap.size by omega);have hmx:Tryz.prog.follows .mixedOrders=true:=by kernel_rfl
    by_cases hov:bnd < p.length
    ·have g5:decide ((bnd:Int) < (p.length:Int))=true:=by rw [zra];omega
     gi_wp2
     gi_region_with_o (fail)
     all_goals gi_wp2
     all_goals refine ⟨zhi (S:=fun k=>X'.own k∨k < w2.heap.size) Q2.out hbm ?_ (fun k hk=>hk.imp id (fun h=>by have:=K5S.out;omega)),rfl,HOV.out hov,?_,?_,?_⟩
     all_goals first
      | exact (((Z4.out.mono (fun k _ e=>.inl e)).setCell (p:=⟨w.heap.size+1,0,none⟩) (fun _=>.inr (by show w.heap.size+1 < w2.heap.size;omega)) _).setCell (p:=⟨w.heap.size+1+1,0,none⟩) (fun _=>.inr (by show w.heap.size+1+1 < w2.heap.size;omega)) _).drew
      | exact (((KX2.out.mono (fun k _ e=>.inl e)).setCell (p:=⟨w.heap.size+1,0,none⟩) (fun _=>.inr (.inl rfl)) _).setCell (p:=⟨w.heap.size+1+1,0,none⟩) (fun _=>.inr (.inr rfl)) _).drew
      | exact (ZY 0 _ (show w.heap.size+1≠w.heap.size+1+1 by omega)).trans (zt O62.out (.pointer none))
      | exact zt ((ZY 0 _ (show w.heap.size+1+1≠w.heap.size+1 by omega)).trans O72.out) (.int .i64 12)
    ·have g5:decide ((bnd:Int) < (p.length:Int))=false:=by rw [decide_eq_false_iff_not];omega
     gi_wp2
     gi_region_with_o (fail)
     all_goals gi_wp2
     all_goals refine ⟨zhi Q2.out hbm (Z4.out.drewN 1) (fun k hk=>.inl hk),?_,p,X2,HGO.out (by omega),zbv.chg Z3.out ((Chg.refl (fun _=>False) W2).drewN 1) (fun _ _ e=>e),Z1.out,Z2.out,by omega,Z5.out,KX2.out.drewN 1⟩
     all_goals exact KPR.out.trans (zgh ((Chg.refl (fun _=>False) W2).drewN 1) (by have:=KPR.out.size;have:=zr Z3.out.hb;rw [Z1.out] at this;exact this))
   case done=>
    rintro D ys W1 hD rfl ⟨r',X',q1,q2,q3,q4,q5,q6,q7⟩ hK;have mb:=q7.obj (hnX _ (.inr (.inr rfl))) pb;have cb:W1.cell? ⟨bi,0,none⟩=some (.int .i64 (ds.length:Int)):=zf mb rfl;have Q1:=ze q1;have Q2:=ze q2;have Q7:=ze q7;have HK:=ze hK;clear q1 q2 q7 hK mb;go_wp2_with fail;have OLD:=HI.out;obtain ⟨Ds,hds,hnd,hD1⟩:=OLD.marks;refine ⟨⟨_,r',X',_,_,_,_,_,_,_,_,_,_,_,_,_,_,_,_,_,_,_,_,_,_,_,_,_,_,_,_,_,_,_,_,_,_,_,_,_,_,_,rfl,ze ?_⟩,by simp;omega⟩;have kn:Chg X.own w5 (W1.alloc (.cells #[.int .i64 ((ds.length:Int)+1)] 3)):=Q7.out.alloc _;have h5W1:=Q7.out.size;refine ⟨zbv.chg Q2.out (zi (fun _=>False) _ _) (fun _ _ e=>e),q3.trans OLD.xb,q4.trans OLD.xm,?_,by simp;omega,q5,?_,by rw [List.length_cons];exact zh _ _,by omega,fun e=>by have:=(zbv.own_lt Q2.out e).2;omega,fun k hk=>?_,?_,D :: Ds,by rw [hds];rfl,List.nodup_cons.2 ⟨fun h=>by have:=zr (hD1 D h).2;omega,hnd⟩,fun E hE=>?_⟩
    ·have e:=hxs
     rw [yB] at e;rw [OLD.goes,show bnd - ds.length=(bnd - ds.length - 1)+1 by omega,xP,if_pos hi,<- e,Q1.out,List.length_cons,show bnd - (ds.length+1)=bnd - ds.length - 1 by omega];rfl
    ·intro u hu
     rcases zet Q1.out u hu with h | ⟨h,hh⟩
     ·exact OLD.may u h
     ·rw [hxs] at hh
      exact hst (h,u) hh
    ·rcases q6 k hk with h | h
     ·exact OLD.own k h
     ·exact .inr (by omega)
    ·exact (OLD.chg.next k5 (fun _ _ e=>e.elim)).next kn (fun k hk e=>(OLD.own k e).resolve_right (by omega))
    ·rcases List.mem_cons.1 hE with rfl | hE
     ·exact ⟨by omega,Ze _ HK.out⟩
     ·obtain ⟨z1,z2⟩:=hD1 E hE
      refine ⟨z1,kn.obj (fun e=>?_) (k5.obj (fun e=>e) z2)⟩;have:=zav OLD.row z2 rfl e;have:=(OW3.out X3.bm (.inr (.inl rfl))).2.1;rw [<- OLD.xm] at this;omega
   case stop=>
    rintro D c pre W1 hD hSp ⟨rfl,y1,y2,y3,y4⟩ hK
    have hnone:zbN (R.map Zw) s.data.toList bnd=none:=by
     rw [HI.out.goes,show bnd - ds.length=(bnd - ds.length - 1)+1 by omega,xP,if_pos hi]
     have:ZQ bnd ds.length (ZV (R.map Zw) (zS r ds.length)) r=none:=by
      have e:=hxs;rw [yB] at e;rw [<- e];exact zaj (List.IsPrefix.map _ hSp) y1
     rw [this];rfl
    have Y2:=ze y2;have Y3:=ze y3;have Y4:=ze y4;have HK:=ze hK;have HNONE:=ze hnone;have KW5:=ze (kW.trans k5);clear y1 y2 y3 y4 hK hnone
    gi_wp2
    obtain ⟨Ds,hds,hnd,hD1⟩:=HI.out.marks;show LeavesInM _ _ _ _ _ _ _ .returning W1;rw [show ({ target:=.collected D,args:=#[] }:Deferred) :: ds=(D :: Ds).map (fun D=>{ target:=.collected D,args:=#[] }) by rw [hds];rfl]
    have hge:∀ E∈D :: Ds,w3.heap.size<=E:=fun E hE=>by
     rcases List.mem_cons.1 hE with rfl | hE
     ·omega
     ·exact (hD1 E hE).1
    refine za4 (D :: Ds) W1 (List.nodup_cons.2 ⟨fun h=>by have:=zr (hD1 D h).2;omega,hnd⟩) (fun E hE=>?_) (fun W' hc=>?_)
    ·rcases List.mem_cons.1 hE with rfl | hE
     ·exact HK.out
     ·obtain ⟨z1,z2⟩:=hD1 E hE
      refine Y4.out.obj (fun e=>?_) (k5.obj (fun e=>e) z2);rcases e with e | rfl | rfl
      ·have:=zav HI.out.row z2 rfl e
       have:=(OW3.out X3.bm (.inr (.inl rfl))).2.1;rw [<- HI.out.xm] at this;omega
      ·omega
      ·omega
    ·have v6:=hc.obj (fun e=>by have:=hge _ e;omega) Y2.out
     have v7:=hc.obj (fun e=>by have:=hge _ e;omega) Y3.out;have u6:W'.cell? ⟨w.heap.size+1,0,none⟩=some (.pointer none):=zf v6 rfl;have u7:W'.cell? ⟨w.heap.size+1+1,0,none⟩=some (.int .i64 12):=zf v7 rfl;refine ⟨.tuple #[.pointer none,.int .i64 12],by rw [zaw rfl];go_simp,?_⟩;refine ⟨(KW5.out.next Y4.out (fun k hk e=>?_)).next hc (fun k hk e=>by have:=hge _ e;omega),(fun r h=>by rw [HNONE.out] at h;cases h),fun _=>rfl⟩;rcases e with e | rfl | rfl
     ·have:=(hlW k e).1;omega
     ·omega
     ·omega
  ·have oW:∀ k o,k < w2.heap.size->w1.heap[k]? = some o->W.heap[k]? = some o:=fun k o hk ho=>HI.out.chg.obj (fun e=>by have:=(OW3.out _ e).1;omega) (K3.out.obj (fun e=>e) ho)
   have p6:=oW _ _ (by omega) O6.out;have p7:=oW _ _ (by omega) O7.out;have d6:W.cell? ⟨w.heap.size+1,0,none⟩=some (.pointer none):=zf p6 rfl;have d7:W.cell? ⟨w.heap.size+1+1,0,none⟩=some (.int .i64 0):=zf p7 rfl;have f6:W.frozen? ⟨w.heap.size+1,0,none⟩=false:=by simp [World.frozen?,p6]
   have f7:W.frozen? ⟨w.heap.size+1+1,0,none⟩=false:=by simp [World.frozen?,p7]
   go_wp2_with fail;go_quiet (fail);rename_i nq;go_wp2_with fail;obtain ⟨Ds,hds,hnd,hD1⟩:=HI.out.marks;have kW:Chg (fun _=>False) w W:=(K1.out.trans K3.out).next HI.out.chg (fun k hk e=>by have:=(OW3.out k e).1;omega)
   have hsome:zbN (R.map Zw) s.data.toList bnd=some r:=by
    rw [HI.out.goes];cases hf:bnd - ds.length with
    | zero=>rfl
    | succ f=>rw [xP,if_neg hi]
   refine show LeavesInM _ _ _ _ _ _ _ .returning _ from ?_;generalize hWe:((W.drewN nq).setCell ⟨w.heap.size+1,0,none⟩ (.pointer (some ⟨w2.heap.size+1,0,none⟩))).setCell ⟨w.heap.size+1+1,0,none⟩ (.int .i64 0)=We
   have ke:Chg (fun k=>k=w.heap.size+1∨k=w.heap.size+1+1) W We:=by
    rw [<- hWe];exact ((((Chg.refl _ W).drewN nq).setCell (p:=⟨w.heap.size+1,0,none⟩) (fun _=>.inl rfl) _).setCell (p:=⟨w.heap.size+1+1,0,none⟩) (fun _=>.inr rfl) _)
   have e6:We.heap[w.heap.size+1]? = some (.cells #[.pointer (some ⟨w2.heap.size+1,0,none⟩)] 206 (0,0)):=by
    rw [<- hWe];exact (ZY 0 _ (show w.heap.size+1≠w.heap.size+1+1 by omega)).trans (zt (za1 nq p6) (.pointer (some ⟨w2.heap.size+1,0,none⟩)))
   have e7:We.heap[w.heap.size+1+1]? = some (.cells #[.int .i64 0] 32 (0,0)):=by
    rw [<- hWe];exact zt ((ZY 0 _ (show w.heap.size+1+1≠w.heap.size+1 by omega)).trans (za1 nq p7)) (.int .i64 0)
   have re:=zbv.chg HI.out.row ke (fun k hk e=>by have:=(zbv.own_lt HI.out.row hk).1;rcases e with rfl | rfl <;> omega);have s3:=HI.out.chg.size;show LeavesInM _ _ _ _ _ _ ds .returning We;rw [hds];refine za4 Ds We hnd (fun E hE=>ke.obj (fun e=>by have:=(hD1 E hE).1;rcases e with rfl | rfl <;> omega) (hD1 E hE).2) (fun W' hc=>?_);have v6:=hc.obj (fun e=>by have:=(hD1 _ e).1;omega) e6;have v7:=hc.obj (fun e=>by have:=(hD1 _ e).1;omega) e7;have u6:W'.cell? ⟨w.heap.size+1,0,none⟩=some (.pointer (some ⟨w2.heap.size+1,0,none⟩)):=zf v6 rfl;have u7:W'.cell? ⟨w.heap.size+1+1,0,none⟩=some (.int .i64 0):=zf v7 rfl;refine ⟨.tuple #[.pointer (some ⟨w2.heap.size+1,0,none⟩),.int .i64 0],by rw [zaw rfl];go_simp,?_⟩;refine ⟨(kW.next ke (fun k hk e=>by rcases e with rfl | rfl <;> omega)).next hc (fun k hk e=>by have:=(hD1 _ e).1;omega),fun r2 h=>?_,fun h=>by rw [hsome] at h;cases h⟩;rw [hsome] at h;cases h;refine ⟨X,by rw [HXB2.out],zfO.down (zbv.chg re hc (fun k hk e=>?_)) (by omega)⟩;obtain ⟨z1,z2⟩:=hD1 k e;have:=zav HI.out.row z2 rfl hk;have:=(OW3.out X3.bm (.inr (.inl rfl))).2.1;rw [<- HI.out.xm] at this;omega
attribute [local go_sem] Oper.semAt_some

def yI (may:Bool) (b:Int) (n:Nat):Int:=if may then (if b < 1∨5000 < b then 1 else if 400 < n then 3 else 0) else 2
def zng (w:World) (k:Int) (e:Ending) (w':World):Prop:=e=.returned (.tuple #[.pointer none,.int .i64 k])∧Chg (fun _=>False) w w'
set_option maxHeartbeats 1600000 in
set_option maxRecDepth 100000 in
theorem zh2 (w:World) (la:Option Addr) (n cap:Nat) (s:ByteArray) (b:Int) (hs:s.size<=maxLen) (hn:n<=maxLen) (h:yI (Zp s.data.toList) b n≠0):
  Calls Tryz.prog 138 #[.slice la n cap,.string s,.int .i64 b] w (zng w (yI (Zp s.data.toList) b n)):=by
 have MAY:=ze (fun w=>zap w s hs);generalize hk:yI (Zp s.data.toList) b n=k at *;have HK:=ze hk;have H:=ze h;clear h hk;unfold maxLen at hn;refine (callsIn_wide (n:=5)).1 (callsIn_of_wp_marks Tryz.func138 rfl trivial (wpIn_wide.2 ?_) rfl);simp only [Tryz.ntmps138,List.size_toArray,List.length_cons,List.length_nil,Nat.reduceAdd,Nat.reduceSub,Array.replicate_succ,Array.replicate_zero,List.push_toArray,List.append_toArray,List.nil_append,List.cons_append];go_wp2_with fail;(with_reducible refine (MAY.out _).mono ?_);rintro e w1 ⟨rfl,k1⟩;have o5:=k1.obj (fun e=>e) (Ze (.cells #[.int .i64 0] 32) (Ze (.cells #[.pointer none] 206) (zh w (.cells #[.int .i64 b] 3))));have d5:w1.cell? ⟨w.heap.size,0,none⟩=some (.int .i64 b):=zf o5 rfl;have K1:=ze ((((zi (fun _=>False) w (.cells #[.int .i64 b] 3)).alloc (.cells #[.pointer none] 206)).alloc (.cells #[.int .i64 0] 32)).trans k1);have K1b:=ze (show w.heap.size+3<=w1.heap.size from by have:=k1.size;simp at this;exact this);have o6:=k1.obj (fun e=>e) (Ze (.cells #[.int .i64 0] 32) (zh (w.alloc (.cells #[.int .i64 b] 3)) (.cells #[.pointer none] 206)));have o7:=k1.obj (fun e=>e) (zh ((w.alloc (.cells #[.int .i64 b] 3)).alloc (.cells #[.pointer none] 206)) (.cells #[.int .i64 0] 32));rw [zq8] at o6;rw [zq8,zq8] at o7;have O6:=ze o6;have O7:=ze o7;have d6:w1.cell? ⟨w.heap.size+1,0,none⟩=some (.pointer none):=zf o6 rfl;have d7:w1.cell? ⟨w.heap.size+1+1,0,none⟩=some (.int .i64 0):=zf o7 rfl;have f6:w1.frozen? ⟨w.heap.size+1,0,none⟩=false:=by simp [World.frozen?,o6]
 have f7:w1.frozen? ⟨w.heap.size+1+1,0,none⟩=false:=by simp [World.frozen?,o7]
 have FIN:=ze (show ∀ k:Int,∀ W,W=((w1.setCell ⟨w.heap.size+1,0,none⟩ (.pointer none)).setCell ⟨w.heap.size+1+1,0,none⟩ (.int .i64 k))->W.cell? ⟨w.heap.size+1,0,none⟩=some (.pointer none)∧W.cell? ⟨w.heap.size+1+1,0,none⟩=some (.int .i64 k)∧Chg (fun _=>False) w W from fun k W hW=>by
  subst hW;refine ⟨zf ((ZY 0 _ (show w.heap.size+1≠w.heap.size+1+1 by omega)).trans (zt O6.out (.pointer none))) rfl,zf (zt ((ZY 0 _ (show w.heap.size+1+1≠w.heap.size+1 by omega)).trans O7.out) (.int .i64 k)) rfl,?_⟩;exact (K1.out.setCell (p:=⟨w.heap.size+1,0,none⟩) (fun h=>absurd h (by show ¬ (w.heap.size+1 < w.heap.size);omega)) _).setCell (p:=⟨w.heap.size+1+1,0,none⟩) (fun h=>absurd h (by show ¬ (w.heap.size+1+1 < w.heap.size);omega)) _)
 clear o6 o7 k1 o5
 have FIN2:=ze (show ∀ (k:Int) (tmps:Array Value) (W:World),tmps[6]? = some (.pointer (some ⟨w.heap.size+1,0,none⟩))->tmps[7]? = some (.pointer (some ⟨w.heap.size+1+1,0,none⟩))->W=((w1.setCell ⟨w.heap.size+1,0,none⟩ (.pointer none)).setCell ⟨w.heap.size+1+1,0,none⟩ (.int .i64 k))->LeavesInM Fence.wide 5 Tryz.prog Tryz.f138 tmps (zng w k) [] .returning W from fun k tmps W t6 t7 hW=>by
  obtain ⟨u6,u7,kk⟩:=FIN.out k _ hW;refine ⟨.tuple #[.pointer none,.int .i64 k],?_,rfl,kk⟩;rw [zaw rfl];go_simp)
 cases hm:Zp s.data.toList with
 | false=>
  rw [hm] at MAY HK;obtain rfl:k=2:=HK.out.symm;go_wp2;refine show LeavesInM _ _ _ _ _ _ _ .returning _ from ?_;refine FIN2.out 2 _ _ ?_ ?_ rfl
  all_goals rfl
 | true=>
  rw [hm] at MAY HK;by_cases h1:b < 1
  ·have g1:decide (b < 1)=true:=by rw [zra];exact h1
   obtain rfl:k=1:=by rw [<- HK.out];simp [yI,h1]
   clear h1;go_wp2;refine show LeavesInM _ _ _ _ _ _ _ .returning _ from ?_;refine FIN2.out 1 _ _ ?_ ?_ rfl
   all_goals rfl
  ·by_cases h2:5000 < b
   ·have g1:decide (b < 1)=false:=by rw [decide_eq_false_iff_not];exact h1
    have g2:decide (5000 < b)=true:=by rw [zra];exact h2
    obtain rfl:k=1:=by rw [<- HK.out];simp [yI,h2]
    clear h1 h2;go_wp2;refine show LeavesInM _ _ _ _ _ _ _ .returning _ from ?_;refine FIN2.out 1 _ _ ?_ ?_ rfl
    all_goals rfl
   ·have g1:decide (b < 1)=false:=by rw [decide_eq_false_iff_not];exact h1
    have g2:decide (5000 < b)=false:=by rw [decide_eq_false_iff_not];exact h2
    have h3:400 < n:=by
     by_cases h3:400 < n
     ·exact h3
     ·exact absurd (by rw [<- HK.out];simp [yI,h1,h2,h3]) H.out
    have g3:decide (400 < n)=true:=by rw [zra];exact h3
    have g4:decide ((400:Int) < (n:Int))=true:=by rw [zra];omega
    obtain rfl:k=3:=by rw [<- HK.out];simp [yI,h1,h2,h3]
    clear h1 h2;go_wp2;refine show LeavesInM _ _ _ _ _ _ _ .returning _ from ?_;refine FIN2.out 3 _ _ ?_ ?_ rfl
    all_goals rfl
structure zbA (w:World) (v:Value) (R:List zF) (s:ByteArray):Prop where
 rules:zX w v (· < w.heap.size) R
 few:(R.length<=400∧∀ r∈R,r.1.size<=400)∨400 < R.length
 word:s.size<=maxLen
theorem zbA.chg {w w1:World} {v:Value} {R:List zF} {s:ByteArray} (h:zbA w v R s) (k:Chg (fun _=>False) w w1):zbA w1 v R s:=⟨zat h.rules k,h.few,h.word⟩
def zdz (R:List zF) (s:ByteArray) (b:Int):Option (List Ent):=zbN (R.map Zw) s.data.toList b.toNat
def zH (R:List zF) (s:ByteArray) (b:Int):Int:=if yI (Zp s.data.toList) b R.length=0 then (if zdz R s b=none then 12 else 0) else yI (Zp s.data.toList) b R.length
theorem ZE {m:Bool} {b:Int} {n:Nat} (h:yI m b n=0):m=true∧1<=b∧b<=5000∧n<=400:=by
 unfold yI at h;cases m with
 | false=>simp at h
 | true=>
  by_cases h1:b < 1∨5000 < b
  ·simp [h1] at h
  ·by_cases h2:400 < n
   ·simp [h1,h2] at h
   ·exact ⟨rfl,by omega,by omega,by omega⟩
theorem Zb {R:List zF} {s:ByteArray} {b:Int} (h:zH R s b=0):yI (Zp s.data.toList) b R.length=0∧∃ r,zdz R s b=some r:=by
 unfold zH at h;by_cases h1:yI (Zp s.data.toList) b R.length=0
 ·rw [if_pos h1] at h
  cases h2:zdz R s b with
  | none=>rw [h2] at h;simp at h
  | some r=>exact ⟨h1,r,rfl⟩
 ·rw [if_neg h1] at h
  exact absurd h h1
section
variable {w:World} {v:Value} {R:List zF} {s:ByteArray} {b:Int}
theorem zdU (hA:zbA w v R s) {k:Int} (h:zH R s b=k) (hk:k≠0):Calls Tryz.prog 138 #[v,.string s,.int .i64 b] w (zng w k):=by
 unfold zH at h;by_cases h1:yI (Zp s.data.toList) b R.length=0
 ·rw [if_pos h1] at h
  have h2:zdz R s b=none:=by
   cases h2:zdz R s b with
   | none=>rfl
   | some r=>rw [h2] at h;simp at h;exact absurd h.symm hk
  rw [if_pos h2] at h;subst h;obtain ⟨m1,m2,m3,m4⟩:=ZE h1;obtain ⟨f1,f2⟩:=hA.few.resolve_right (by omega);obtain ⟨n,rfl⟩:∃ n:Nat,b=n:=⟨b.toNat,by omega⟩;refine (zdT w v R s n hA.rules f1 f2 m1 (by omega) (by omega)).mono fun e w' h=>?_;unfold zdz at h2;rw [Int.toNat_natCast] at h2;rw [h2] at h;exact ⟨h.2.2 rfl,h.1⟩
 ·rw [if_neg h1] at h
  obtain ⟨la,cap,rfl,q1,q2⟩:=hA.rules;rw [<- h];exact zh2 w la R.length cap s b hA.word q1 h1
def zpU (w:World) (r:List Ent) (e:Ending) (w':World):Prop:=∃ X,e=.returned (.tuple #[.pointer (some ⟨X.b,0,none⟩),.int .i64 0])∧zfO w' w.heap.size X r∧Chg (fun _=>False) w w'
theorem zcJ (hA:zbA w v R s) (h:zH R s b=0) {r:List Ent} (hr:zdz R s b=some r):Calls Tryz.prog 138 #[v,.string s,.int .i64 b] w (zpU w r):=by
 obtain ⟨h1,_⟩:=Zb h;obtain ⟨m1,m2,m3,m4⟩:=ZE h1;obtain ⟨f1,f2⟩:=hA.few.resolve_right (by omega);obtain ⟨n,rfl⟩:∃ n:Nat,b=n:=⟨b.toNat,by omega⟩;refine (zdT w v R s n hA.rules f1 f2 m1 (by omega) (by omega)).mono fun e w' h=>?_;unfold zdz at hr;rw [Int.toNat_natCast] at hr;rw [hr] at h;obtain ⟨X,q1,q2⟩:=h.2.1 r rfl;exact ⟨X,q1,q2,h.1⟩
set_option maxRecDepth 100000 in
theorem ziV (hA:zbA w v R s) {k:Int} (h:zH R s b=k) (hk:k≠0):Calls Tryz.prog 121 #[v,.string s,.int .i64 b] w fun e w'=>e=.returned (.tuple #[.slice none 0 0,.int .i64 k])∧Chg (fun _=>False) w w':=by
 have W:=ze (zdU hA h hk);have g:(k != 0)=true:=by rw [zre];exact hk
 obtain ⟨la,cap,rfl,_,_⟩:=hA.rules;clear hA h hk;go_enter Tryz.func121,Tryz.ntmps121;go_wp2_with fail;(with_reducible refine W.out.mono ?_);rintro e w' ⟨rfl,kc⟩;go_wp2;go_ret2;exact ⟨rfl,kc⟩
set_option maxRecDepth 100000 in
theorem zm2 (hA:zbA w v R s) (h:zH R s b=0) {r:List Ent} (hr:zdz R s b=some r):Calls Tryz.prog 121 #[v,.string s,.int .i64 b] w fun e w'=>∃ va,e=.returned (.tuple #[va,.int .i64 0])∧w'.ownsRow w.heap.size 57 1 va r.length (yX r)∧Chg (fun _=>False) w w':=by
 have W:=ze (zcJ hA h hr);obtain ⟨la,cap,rfl,_,_⟩:=hA.rules;clear hA h hr;go_enter Tryz.func121,Tryz.ntmps121;go_wp2_with fail;(with_reducible refine W.out.mono ?_);rintro e w' ⟨X,rfl,hX,kc⟩;have c0:w'.cell? ⟨X.b,0,none⟩=some X.wv:=zf hX.hb rfl;obtain ⟨aw,cw,ew⟩:=zl hX.hw;rw [ew] at c0;have HX:=ze hX;have EW:=ze ew;clear hX ew;go_wp2;go_ret2;exact ⟨_,rfl,by rw [<- EW.out];exact HX.out.hw,kc⟩
end
theorem Tryz.elemStep:Zt Tryz.prog 153 2 16:=Zj (z:=.agg #[.int .i64 0,.int .i64 0]) (by kernel_rfl) rfl (by decide)
def Yl (w:World) (v:Value) (G:Nat->Prop) (L:List (Int × Int)):Prop:=
 ∃ la cap,v=.slice la L.length cap∧L.length<=maxLen∧∀ (j:Nat) x,L[j]? = some x->∃ lb lo,la=some ⟨lb,lo,none⟩∧G lb∧w.cell? ⟨lb,lo+j*2,none⟩=some (.int .i64 x.1)∧w.cell? ⟨lb,lo+j*2+1,none⟩=some (.int .i64 x.2)
theorem Yl.chg {S:Nat->Prop} {w w':World} {v:Value} {G:Nat->Prop} {L:List (Int × Int)} (h:Yl w v G L) (hc:Chg S w w') (hs:∀ k,G k->¬ S k):Yl w' v G L:=by
 obtain ⟨la,cap,h1,h2,h3⟩:=h;exact ⟨la,cap,h1,h2,fun j r hj=>by obtain ⟨lb,lo,q1,q2,q3,q4⟩:=h3 j r hj;exact ⟨lb,lo,q1,q2,zj hc (hs lb q2) q3,zj hc (hs lb q2) q4⟩⟩
theorem zic {R:List zF} {k:Nat} {r:zF} (h:R[k]? = some r):yp (R.map Zw) k=Zw r:=by
 unfold yp;rw [zq6,zrb,h];rfl
theorem zi2 {R:List zF} {k:Nat} {r:zF} (h:R[k]? = some r) (u:Wd) (a:Nat):zeY (R.map Zw) u (a,k)=yi u a (zz r.1.data.toList) r.2.data.toList:=by
 unfold zeY;rw [zic h];rfl
end Go.Proofs.YthdfplafihmejaaGreat
