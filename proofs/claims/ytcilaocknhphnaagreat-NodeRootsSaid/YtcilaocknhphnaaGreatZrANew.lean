/-
  Package acl: clone, may, Same, find. Package acl: find, Add. Package acl: New.
-/
import Derived.Test.YtcilaocknhphnaaGreatZrAEnt
namespace Go.Proofs.YtcilaocknhphnaaGreat
open Go.RowKit Go.Maps
set_option maxRecDepth 100000 in
theorem xU (w:World) (g o n c:Nat) (G:Nat->Prop) (l:List ByteArray) (hv:zB w (.slice (some ⟨g,o,none⟩) n c) G l) (hl:l.length<=1000):
  Calls Tryz.prog 166 #[.slice (some ⟨g,o,none⟩) n c] w fun e w'=>∃ v,e=.returned v∧w'.ownsRow w.heap.size 29 1 v l.length (zV l)∧Chg (fun _=>False) w w':=by
 have SRC:=zf (xQ hv);obtain ⟨la,cap,e,hl0,_⟩:=hv;cases e;have EQN:=fun w=>Lib.run_eql_slice_nil (P:=Tryz.prog) w 32 _ (some ⟨g,o,none⟩) l.length c 0 0 Tryz.underlying32;go_enter Tryz.func166,Tryz.ntmps166;go_wp2_with (at_builtin;refine ZH rfl (.tmp 5) (.tmp 6) 32 rfl 29 1 16 Tryz.underlying32 Tryz.elemWord w.heap.size _ 0 [] rfl (ya _ _ _ _ (zhb _)) (some ⟨g,o,none⟩) l.length c (zV l) rfl ?a1 ?a2 ?a3 ?a4 ?a5 ?a6 ?a7 ?nx1)
 case a1=>unfold zV;rw [zgW];omega
 case a2=>
  intro j u hj;obtain ⟨g',o',e,c1⟩:=SRC.out j u hj;exact ⟨g',o',e,zi (zj (fun _=>False) w _) (fun e=>e) c1⟩
 case a3=>intro e;cases e
 case a4=>exact YU l
 case a5=>omega
 case a6=>unfold maxLen;omega
 case a7=>simp
 intro v8 w8 o8 g8;obtain ⟨a8,c8,rfl⟩:=zq o8
 have k8:Chg (fun _=>False) w w8:=(zj (fun _=>False) w (.cells #[] 29)).next (Chg.of_grown g8) (fun x hx e=>by
  have e2:w.heap.size=x:=by simpa [Value.ownBlock] using e
  omega)
 have K8:=zf k8;have O8:=zf (show w8.ownsRow w.heap.size 29 1 (.slice a8 (0+l.length) c8) l.length (zV l) from by simpa using o8);clear o8 g8 k8;go_wp2;go_ret;exact ⟨_,rfl,(by have:=O8.out;rw [Nat.zero_add] at this;exact this),K8.out⟩
set_option maxRecDepth 100000 in
theorem zdc (w:World) (x:zO) (a:Option Addr) (n c:Nat) (G:Nat->Prop) (hv:ZV w (.slice a n c) G x.2) (h1:1<=x.2.length) (h2:x.2.length<=1000):
  Calls Tryz.prog 297 #[.agg #[.int .i64 x.1,.slice a n c]] w fun e w'=>∃ v,e=.returned (.agg #[.int .i64 x.1,v])∧w'.ownsRow w.heap.size 29 1 v x.2.length (zV x.2)∧Chg (fun _=>False) w w':=by
 obtain ⟨g,o,rfl,hg⟩:=hv.some (by omega);have CL:=zf (fun w1 (k:Chg (fun _=>False) w w1)=>xU w1 g o n c G x.2 (hv.at_.chg k (fun _ _ e=>e)) h2);clear hv;obtain ⟨op,l⟩:=x;simp only at CL h1 h2 ⊢;go_enter Tryz.func297,Tryz.ntmps297;go_wp2_with fail;have k1:=((zj (fun _=>False) w (.cells #[.int .i64 op,.slice (some ⟨g,o,none⟩) n c] 34)).alloc (.cells #[.int .i64 0,.slice none 0 0] 34));have C1:=zf (CL.out _ k1);have K1:=zf k1;clear k1 CL;(with_reducible refine C1.out.mono ?_);rintro e w2 ⟨v2,rfl,o2,k2⟩;obtain ⟨a2,c2,rfl⟩:=zq o2;have o6:=k2.obj (fun e=>e) (Zg (.cells #[.int .i64 0,.slice none 0 0] 34) (zh w (.cells #[.int .i64 op,.slice (some ⟨g,o,none⟩) n c] 34)));have o7:=k2.obj (fun e=>e) (zh (w.alloc (.cells #[.int .i64 op,.slice (some ⟨g,o,none⟩) n c] 34)) (.cells #[.int .i64 0,.slice none 0 0] 34));rw [zg0] at o7;have c0:w2.cell? ⟨w.heap.size,0,none⟩=some (.int .i64 op):=zg o6 rfl;have c1:w2.cell? ⟨w.heap.size,1,none⟩=some (.slice (some ⟨g,o,none⟩) n c):=zg o6 rfl;have d0:w2.cell? ⟨w.heap.size+1,0,none⟩=some (.int .i64 0):=zg o7 rfl;have d1:w2.cell? ⟨w.heap.size+1,1,none⟩=some (.slice none 0 0):=zg o7 rfl;have f0:=zn (o:=0) o6;have f1:=zn (o:=1) o6;have e0:=zn (o:=0) o7;have e1:=zn (o:=1) o7;have O2:=zf o2;have O7:=zf o7;have K2:=zf (K1.out.trans k2);clear o6 o7 o2 k2 K1 C1
 have HO:=zf (show ∀ W,W=(((w2.setCell ⟨w.heap.size,1,none⟩ (.slice a2 l.length c2)).setCell ⟨w.heap.size+1,0,none⟩ (.int .i64 op)).setCell ⟨w.heap.size+1,1,none⟩ (.slice a2 l.length c2))->World.ownsRow W w.heap.size 29 1 (.slice a2 l.length c2) l.length (zV l)∧Chg (fun _=>False) w W∧W.cell? ⟨w.heap.size+1,0,none⟩=some (.int .i64 op)∧W.cell? ⟨w.heap.size+1,1,none⟩=some (.slice a2 l.length c2) from fun W hW=>by
  subst hW
  have kk:Chg (fun k=>k=w.heap.size∨k=w.heap.size+1) w2 (((w2.setCell ⟨w.heap.size,1,none⟩ (.slice a2 l.length c2)).setCell ⟨w.heap.size+1,0,none⟩ (.int .i64 op)).setCell ⟨w.heap.size+1,1,none⟩ (.slice a2 l.length c2)):=
   (((Chg.refl _ w2).setCell (p:=⟨w.heap.size,1,none⟩) (fun _=>.inl rfl) _).setCell (p:=⟨w.heap.size+1,0,none⟩) (fun _=>.inr rfl) _).setCell (p:=⟨w.heap.size+1,1,none⟩) (fun _=>.inr rfl) _
  have ob:=zk (o:=1) (zk (o:=0) ((Xw 1 (.slice a2 l.length c2) (show w.heap.size+1≠w.heap.size by omega)).trans O7.out) (.int .i64 op)) (.slice a2 l.length c2);refine ⟨zai (zo O2.out kk (fun k hk e=>?_)) (by simp;omega),K2.out.next kk (fun k hk e=>by omega),zg ob rfl,zg ob rfl⟩;have:=(O2.out.lt k hk).1;simp at this;omega)
 clear O2 K2 O7;go_wp2;obtain ⟨W,hW⟩:∃ W,W=(((w2.setCell ⟨w.heap.size,1,none⟩ (.slice a2 l.length c2)).setCell ⟨w.heap.size+1,0,none⟩ (.int .i64 op)).setCell ⟨w.heap.size+1,1,none⟩ (.slice a2 l.length c2)):=⟨_,rfl⟩;obtain ⟨h1,h2,z0,z1⟩:=HO.out W hW;rw [<- hW];clear hW HO;refine bodyPost_ret (v:=.agg #[.int .i64 op,.slice a2 l.length c2]) (by simp [results,Tryz.results297,go_sem,z0,z1]) rfl ?_;exact ⟨_,rfl,h1,h2⟩
theorem zd4 {x:zO} (h:¬ (0<=x.1∧x.1 < 8)):zaq x=false:=by
 rw [<- zhf,ZU];exact fun q=>h q.1
theorem zcC {x:zO} (h:0<=x.1∧x.1 < 8):zaq x=zbJ x.2:=by
 rw [Bool.eq_iff_iff,ZU];exact ⟨fun q=>q.2,fun q=>⟨h,q⟩⟩
set_option maxRecDepth 100000 in
theorem zfb (w:World) (x:zO) (a:Option Addr) (n c:Nat) (G:Nat->Prop) (hv:zB w (.slice a n c) G x.2):
  Calls Tryz.prog 295 #[.agg #[.int .i64 x.1,.slice a n c]] w fun e w'=>e=.returned (.bool (zaq x))∧Chg (fun _=>False) w w':=by
 have k1:=zj (fun _=>False) w (.cells #[.int .i64 x.1,.slice a n c] 34);have MAY:=zf (YW _ _ G x.2 (hv.chg k1 (fun _ _ e=>e)));have YES:=zf (fun h=>zcC (x:=x) h);have NO:=zf (fun h=>zd4 (x:=x) h);have K1:=zf k1;clear k1 hv;generalize zaq x=b at *;obtain ⟨op,l⟩:=x;simp only at MAY YES NO K1 ⊢;by_cases h0:0<=op
 ·have g0:decide (0<=op)=true:=zgQ h0
  by_cases h1:op < 8
  ·have g1:decide (op < 8)=true:=zgQ h1
   rw [<- YES.out ⟨h0,h1⟩] at MAY;clear h0 h1 YES NO;go_enter Tryz.func295,Tryz.ntmps295;go_wp2_with fail;(with_reducible refine MAY.out.mono ?_);rintro e w2 ⟨rfl,d2⟩;have K2:=zf (K1.out.trans d2.chg);clear d2 MAY K1;cases b
   all_goals
    go_wp2;go_ret;exact ⟨rfl,K2.out⟩
  ·have g1:decide (op < 8)=false:=zgR h1
   obtain rfl:=NO.out (fun q=>h1 q.2);clear h0 h1 YES NO MAY;go_enter Tryz.func295,Tryz.ntmps295;go_wp2;go_ret;exact ⟨rfl,K1.out⟩
 ·have g0:decide (0<=op)=false:=zgR h0
  obtain rfl:=NO.out (fun q=>h0 q.1);clear h0 YES NO MAY;go_enter Tryz.func295,Tryz.ntmps295;go_wp2;go_ret;exact ⟨rfl,K1.out⟩
def eqB (x y:zO):Bool:=decide (x=y)
theorem zfn {x y:zO} (h:x.1≠y.1):eqB x y=false:=zgR (fun e=>h (by rw [e]))
theorem zd3 {x y:zO} (h:x.1=y.1):eqB x y=Xr x.2 y.2:=by
 unfold eqB Xr;rw [Bool.eq_iff_iff,decide_eq_true_eq,decide_eq_true_eq];exact ⟨fun e=>by rw [e],fun e=>Prod.ext h e⟩
set_option maxRecDepth 100000 in
theorem zd1 (w:World) (x y:zO) (a b:Option Addr) (n c m d:Nat) (G G':Nat->Prop) (hv:zB w (.slice a n c) G x.2) (hu:zB w (.slice b m d) G' y.2):
  Calls Tryz.prog 285 #[.agg #[.int .i64 x.1,.slice a n c],.agg #[.int .i64 y.1,.slice b m d]] w fun e w'=>e=.returned (.bool (eqB x y))∧Chg (fun _=>False) w w':=by
 have k1:=(zj (fun _=>False) w (.cells #[.int .i64 x.1,.slice a n c] 34)).alloc (.cells #[.int .i64 y.1,.slice b m d] 34);have EQ:=zf (zd2 _ _ _ G G' x.2 y.2 (hv.chg k1 (fun _ _ e=>e)) (hu.chg k1 (fun _ _ e=>e)));have YES:=zf (fun h=>zd3 (x:=x) (y:=y) h);have NO:=zf (fun h=>zfn (x:=x) (y:=y) h);have K1:=zf k1;clear k1 hv hu;generalize eqB x y=r at *;obtain ⟨op,l⟩:=x;obtain ⟨oq,k⟩:=y;simp only at EQ YES NO K1 ⊢;by_cases h0:op=oq
 ·have g0:(op == oq)=true:=beq_iff_eq.2 h0
  rw [<- YES.out h0] at EQ;clear h0 YES NO;go_enter Tryz.func285,Tryz.ntmps285;go_wp2_with fail;(with_reducible refine EQ.out.mono ?_);rintro e w2 ⟨rfl,d2⟩;have K2:=zf (K1.out.trans d2.chg);clear d2 EQ K1;cases r
  all_goals
   go_wp2;go_ret;exact ⟨rfl,K2.out⟩
 ·have g0:(op == oq)=false:=zg1.2 h0
  obtain rfl:=NO.out h0;clear h0 YES NO EQ;go_enter Tryz.func285,Tryz.ntmps285;go_wp2;go_ret;exact ⟨rfl,K1.out⟩
set_option maxRecDepth 100000 in
theorem zd0 (w:World) (x y:zO) (a b:Option Addr) (n c m d p:Nat) (G G':Nat->Prop) (hp:w.heap[p]? = some (.cells #[.int .i64 x.1,.slice a n c] 34 (0,0))) (hv:zB w (.slice a n c) G x.2) (hu:zB w (.slice b m d) G' y.2):
  Calls Tryz.prog 327 #[.agg #[.int .i64 y.1,.slice b m d],.pointer (some ⟨p,0,none⟩)] w fun e w'=>e=.returned (.bool (eqB x y))∧Chg (fun _=>False) w w':=by
 have k1:=zj (fun _=>False) w (.cells #[.int .i64 y.1,.slice b m d] 34);have SA:=zf (zd1 _ x y a b n c m d G G' (hv.chg k1 (fun _ _ e=>e)) (hu.chg k1 (fun _ _ e=>e)));have o1:=k1.obj (fun e=>e) hp;have c0:(w.alloc (.cells #[.int .i64 y.1,.slice b m d] 34)).cell? ⟨p,0,none⟩=some (.int .i64 x.1):=zg o1 rfl;have c1:(w.alloc (.cells #[.int .i64 y.1,.slice b m d] 34)).cell? ⟨p,1,none⟩=some (.slice a n c):=zg o1 rfl;have K1:=zf k1;clear k1 hv hu o1 hp;generalize eqB x y=r at *;obtain ⟨op,l⟩:=x;obtain ⟨oq,k⟩:=y;simp only at SA K1 c0 c1 ⊢;go_enter Tryz.func327,Tryz.ntmps327;go_wp2_with fail;(with_reducible refine SA.out.mono ?_);rintro e w2 ⟨rfl,k2⟩;go_wp2;go_ret;exact ⟨rfl,K1.out.trans k2⟩
def ze1 (L:List zO) (x:zO):Int:=if x∈L then (L.idxOf x:Nat) else -1
set_option maxHeartbeats 1000000 in
set_option maxRecDepth 100000 in
theorem zc3 (w:World) (v:Value) (x:zO) (L:List zO) (a:Option Addr) (n c p:Nat) (G G':Nat->Prop) (hp:w.heap[p]? = some (.cells #[.int .i64 x.1,.slice a n c] 34 (0,0))) (hv:zB w (.slice a n c) G x.2) (hL:zW w v G' L):
  Calls Tryz.prog 326 #[v,.func (.func 327) #[] #[.pointer (some ⟨p,0,none⟩)]] w fun e w'=>e=.returned (.int .i64 (ze1 L x))∧Chg (fun _=>False) w w':=by
 obtain ⟨la,cap,rfl,hl0,hl1⟩:=hL.shape;have HL:=zf hL;have FI:=zf (fun w1 (k:Chg (fun _=>False) w w1) y b m d (hu:zB w1 (.slice b m d) G' y.2)=>zd0 w1 x y a b n c m d p G G' (k.obj (fun e=>e) hp) (hv.chg k (fun _ _ e=>e)) hu);unfold maxLen at hl1;clear hL hv hp;go_enter Tryz.func326,Tryz.ntmps326;go_wp2;go_loopw [8] (fun iv wr=>∃ k:Nat,k<=L.length∧iv=.int .i64 k∧Hid ((∀ j,j < k->L[j]?≠some x)∧Chg (fun _=>False) w wr)) (fun iv _=>L.length - (intOf iv).toNat)
 case atStart=>exact ⟨0,by omega,rfl,zf ⟨fun j hj=>by omega,Chg.refl _ _⟩⟩
 case round=>
  obtain ⟨k,hk,rfl,HI⟩:=hrel;by_cases hlt:k < L.length
  ·obtain ⟨y,hy⟩:∃ y,L[k]? = some y:=⟨_,zgS hlt⟩
   obtain ⟨g,o,sa,sc,rfl,_,c0,c1,hs⟩:=(HL.out.chg HI.out.2 (fun _ _ e=>e)).get hy;have F:=zf (FI.out wr HI.out.2 y sa _ sc hs.at_);by_cases hxy:x=y
   ·have hb:eqB x y=true:=zgQ hxy
    rw [hb] at F
    have R:=zf (show ze1 L x=(k:Int) by
     have:=zf3 (hxy ▸ hy) HI.out.1;unfold ze1;rw [if_pos this.1,this.2])
    have KC:=zf HI.out.2;clear hb hy hs FI HI hxy;obtain ⟨op,l⟩:=y;simp only at F c0 c1;go_wp2_with fail;(with_reducible refine F.out.mono ?_);rintro e w2 ⟨rfl,k2⟩;go_wp2;go_ret;exact ⟨by rw [R.out];rfl,KC.out.trans k2⟩
   ·have hb:eqB x y=false:=zgR hxy
    rw [hb] at F
    have HI2:=zf (show ∀ j,j < k+1->L[j]?≠some x from fun j hj=>by
     rcases Nat.lt_or_ge j k with q | q
     ·exact HI.out.1 j q
     ·obtain rfl:j=k:=by omega
      rw [hy];exact fun e=>hxy (Option.some.inj e).symm)
    have KC:=zf HI.out.2;clear hb hy hs HI hxy;obtain ⟨op,l⟩:=y;simp only at F c0 c1;go_wp2_with fail;(with_reducible refine F.out.mono ?_);rintro e w2 ⟨rfl,k2⟩;have K2:=zf (KC.out.trans k2);clear k2;go_wp2;go_roundw
    case rel=>exact ⟨k+1,by omega,by go_num,zf ⟨HI2.out,K2.out⟩⟩
    case measure=>simp [intOf];omega
  ·obtain rfl:k=L.length:=by omega
   have R:=zf (show ze1 L x=-1 from if_neg (zcy HI.out.1));go_wp2;go_ret;exact ⟨by rw [R.out];rfl,HI.out.2⟩
structure ZN (w:World) (b:Nat) (ty:TypeId) (G:Nat->Prop) (L:List zO) (ver:Nat):Prop where
 obj:∃ es,w.heap[b]? = some (.cells #[es,.int .i64 (ver:Int)] ty (0,0))∧zW w es G L
 out:¬ G b
theorem ZN.chg {S:Nat->Prop} {w w':World} {b:Nat} {ty:TypeId} {G:Nat->Prop} {L:List zO} {ver:Nat} (h:ZN w b ty G L ver) (hc:Chg S w w') (hb:¬ S b) (hs:∀ k,G k->¬ S k):ZN w' b ty G L ver:=by
 obtain ⟨⟨es,h1,h2⟩,h3⟩:=h;exact ⟨⟨es,hc.obj hb h1,h2.chg hc hs⟩,h3⟩
theorem ZN.up {w:World} {b:Nat} {ty:TypeId} {G G':Nat->Prop} {L:List zO} {ver:Nat} (h:ZN w b ty G L ver) (hg:∀ k,G k->G' k) (hb:¬ G' b):ZN w b ty G' L ver:=by
 obtain ⟨⟨es,h1,h2⟩,h3⟩:=h;exact ⟨⟨es,h1,h2.up hg⟩,hb⟩
theorem ZN.lt {w:World} {b:Nat} {ty:TypeId} {G:Nat->Prop} {L:List zO} {ver:Nat} (h:ZN w b ty G L ver):b < w.heap.size:=by
 obtain ⟨⟨es,h1,h2⟩,h3⟩:=h;exact zl h1
theorem ZN.open {w:World} {b:Nat} {ty:TypeId} {G:Nat->Prop} {L:List zO} {ver:Nat} (h:ZN w b ty G L ver):
  ∃ la cap,w.heap[b]? = some (.cells #[.slice la L.length cap,.int .i64 (ver:Int)] ty (0,0))∧zW w (.slice la L.length cap) G L∧L.length<=cap∧cap<=maxLen:=by
 obtain ⟨⟨es,h1,h2⟩,h3⟩:=h;obtain ⟨la,cap,rfl,q1,q2⟩:=h2.shape;exact ⟨la,cap,h1,h2,q1,q2⟩
set_option maxRecDepth 100000 in
theorem zdM (w:World) (b:Nat) (ty:TypeId) (x:zO) (L:List zO) (ver:Nat) (a:Option Addr) (n c:Nat) (G G':Nat->Prop) (hl:ZN w b ty G L ver) (hv:zB w (.slice a n c) G' x.2):
  Calls Tryz.prog 296 #[.pointer (some ⟨b,0,none⟩),.agg #[.int .i64 x.1,.slice a n c]] w fun e w'=>e=.returned (.int .i64 (ze1 L x))∧Chg (fun _=>False) w w':=by
 obtain ⟨la,cap,h1,h2,_⟩:=hl.open
 have k1:=zj (fun _=>False) w (.cells #[.int .i64 x.1,.slice a n c] 34);have IX:=zf (zc3 _ _ x L a n c w.heap.size G' G (zh w (.cells #[.int .i64 x.1,.slice a n c] 34)) (hv.chg k1 (fun _ _ e=>e)) (h2.chg k1 (fun _ _ e=>e)));have K1:=zf k1;have c0:(w.alloc (.cells #[.int .i64 x.1,.slice a n c] 34)).cell? ⟨b,0,none⟩=some (.slice la L.length cap):=zg (k1.obj (fun e=>e) h1) rfl;clear k1 hl hv h1 h2;generalize ze1 L x=r at *;obtain ⟨op,l⟩:=x;simp only at IX K1 c0 ⊢;go_enter Tryz.func296,Tryz.ntmps296;go_wp2_with fail;(with_reducible refine IX.out.mono ?_);rintro e w2 ⟨rfl,k2⟩;go_wp2;go_ret;exact ⟨rfl,K1.out.trans k2⟩
def zgn (e:Int) (ver:Nat):Nat:=if e=0 then ver+1 else ver
def yC (w:World) (b:Nat) (ty:TypeId) (G:Nat->Prop) (k:Int) (L:List zO) (ver:Nat) (e:Ending) (w':World):Prop:=
 e=.returned (.int .i64 k)∧ZN w' b ty (fun k=>G k∨(w.heap.size<=k∧k < w'.heap.size)) L (zgn k ver)∧Chg (·=b) w w'
theorem ZA {w w':World} {b:Nat} {ty:TypeId} {G:Nat->Prop} {k:Int} {L:List zO} {ver:Nat} (hl:ZN w b ty G L ver) (hk:k≠0) (hc:Chg (fun _=>False) w w'):yC w b ty G k L ver (.returned (.int .i64 k)) w':=by
 refine ⟨rfl,?_,hc.mono (fun _ _ e=>e.elim)⟩;unfold zgn;rw [if_neg hk];exact (hl.chg hc (fun e=>e) (fun _ _ e=>e)).up (fun _ h=>.inl h) (fun h=>h.elim hl.out (fun h=>by have:=hl.lt;omega))
theorem zfI {L:List zO} {x:zO} (h:x∈L):ze1 L x=((L.idxOf x:Nat):Int)∧L.idxOf x < L.length∧L[L.idxOf x]? = some x:=by
 have h1:=List.idxOf_lt_length_of_mem h;exact ⟨if_pos h,h1,by rw [zgS h1,List.getElem_idxOf h1]⟩
theorem Tryz.sizeEntries:(Tryz.prog.info? 35).map (·.size)=some 1:=by kernel_rfl
set_option maxHeartbeats 4000000 in
set_option maxRecDepth 100000 in
theorem zfM (w:World) (b:Nat) (ty:TypeId) (x:zO) (L:List zO) (ver:Nat) (a:Option Addr) (n c:Nat) (G G':Nat->Prop) (hl:ZN w b ty G L ver) (hver:ver<=1000000) (hv:ZV w (.slice a n c) G' x.2):
  Calls Tryz.prog 256 #[.pointer (some ⟨b,0,none⟩),.agg #[.int .i64 x.1,.slice a n c]] w (yC w b ty G (yD x L) (xD x L) ver):=by
 obtain ⟨la,cap,h1,h2,hcap,hcm⟩:=hl.open
 have hbl:=hl.lt;unfold maxLen at hcm;have k1:=zj (fun _=>False) w (.cells #[.int .i64 x.1,.slice a n c] 34);have K1:=zf k1;have MAY:=zf (zfb _ x a n c G' (hv.at_.chg k1 (fun _ _ e=>e)));have FI:=zf (fun w1 (k:Chg (fun _=>False) w w1)=>zdM w1 b ty x L ver a n c G G' (hl.chg k (fun e=>e) (fun _ _ e=>e)) (hv.at_.chg k (fun _ _ e=>e)));have c0:(w.alloc (.cells #[.int .i64 x.1,.slice a n c] 34)).cell? ⟨b,0,none⟩=some (.slice la L.length cap):=zg (k1.obj (fun e=>e) h1) rfl;have X1:=zf (zh w (.cells #[.int .i64 x.1,.slice a n c] 34));have HL:=zf hl;have HV:=zf hv;have H1:=zf h1;have H2:=zf h2;clear k1 hl hv h1 h2;cases hm:zaq x with
 | false=>
  have R:yD x L=2:=by unfold yD;rw [hm];rfl
  have RL:xD x L=L:=by unfold xD;rw [R];rfl
  rw [R,RL];rw [hm] at MAY;clear R RL hm FI;obtain ⟨op,l⟩:=x;simp only at MAY K1 c0 ⊢;go_enter Tryz.func256,Tryz.ntmps256;go_wp2_with fail;(with_reducible refine MAY.out.mono ?_);rintro e w2 ⟨rfl,k2⟩;go_wp2;go_ret;exact ZA HL.out (by omega) (K1.out.trans k2)
 | true=>
  rw [hm] at MAY;have HM:=zf hm;clear hm;by_cases hin:x∈L
  ·have R:yD x L=11:=by unfold yD;rw [if_pos HM.out,if_pos hin]
   have RL:xD x L=L:=by unfold xD;rw [R];rfl
   obtain ⟨e1,e2,_⟩:=zfI hin;have g:decide (0<=ze1 L x)=true:=by rw [e1];exact zgQ (by omega)
   rw [R,RL];clear R RL hin e1 e2;obtain ⟨op,l⟩:=x;simp only at MAY K1 c0 FI ⊢;go_enter Tryz.func256,Tryz.ntmps256;go_wp2_with fail;(with_reducible refine MAY.out.mono ?_);rintro e w2 ⟨rfl,k2⟩;have o2:=k2.obj (fun e=>e) X1.out;have d0:w2.cell? ⟨w.heap.size,0,none⟩=some (.int .i64 op):=zg o2 rfl;have d1:w2.cell? ⟨w.heap.size,1,none⟩=some (.slice a n c):=zg o2 rfl;have K2:=zf (K1.out.trans k2);have F2:=zf (FI.out w2 K2.out);clear o2 k2 K1 FI MAY;go_wp2_with fail;(with_reducible refine F2.out.mono ?_);rintro e w3 ⟨rfl,k3⟩;go_wp2;go_ret;exact ZA HL.out (by omega) (K2.out.trans k3)
  ·have hi:ze1 L x=-1:=if_neg hin
   rw [hi] at FI;have HIN:=zf hin;clear hi hin;by_cases hmany:12<=L.length
   ·have R:yD x L=3:=by unfold yD;rw [if_pos HM.out,if_neg HIN.out,if_pos hmany]
    have RL:xD x L=L:=by unfold xD;rw [R];rfl
    have g:decide (12<=(L.length:Int))=true:=by rw [decide_eq_true_eq];omega
    rw [R,RL];clear R RL;obtain ⟨op,l⟩:=x;simp only at MAY K1 c0 FI ⊢;go_enter Tryz.func256,Tryz.ntmps256;go_wp2_with fail;(with_reducible refine MAY.out.mono ?_);rintro e w2 ⟨rfl,k2⟩;have o2:=k2.obj (fun e=>e) X1.out;have d0:w2.cell? ⟨w.heap.size,0,none⟩=some (.int .i64 op):=zg o2 rfl;have d1:w2.cell? ⟨w.heap.size,1,none⟩=some (.slice a n c):=zg o2 rfl;have K2:=zf (K1.out.trans k2);have F2:=zf (FI.out w2 K2.out);clear o2 k2 K1 FI MAY;go_wp2_with fail;(with_reducible refine F2.out.mono ?_);rintro e w3 ⟨rfl,k3⟩;go_wp2;go_ret;exact ZA HL.out (by omega) (K2.out.trans k3)
   ·have R:yD x L=0:=by unfold yD;rw [if_pos HM.out,if_neg HIN.out,if_neg hmany]
    have RL:xD x L=L++[x]:=by unfold xD;rw [R];rfl
    have g:decide (12<=(L.length:Int))=false:=by rw [decide_eq_false_iff_not];omega
    obtain ⟨hs1,hs2⟩:=YC (ZU.1 HM.out).2;have hL11:L.length<=11:=by omega
    have CL:=zf (fun w1 (k:Chg (fun _=>False) w w1)=>zdc w1 x a n c G' (HV.out.chg k (fun _ _ e=>e)) hs1 (by omega))
    have SZ:=zf (show ∀ s∈x.2,s.size<=maxLen from fun s hs=>by
     obtain ⟨j,hj⟩:=List.mem_iff_getElem?.1 hs;obtain ⟨_,_,_,_,hc⟩:=HV.out.at_;obtain ⟨_,_,_,_,_,q⟩:=hc j s hj;exact q)
    rw [R,RL];clear R RL hs1 hs2 hmany
    have ENT:=zf (show ∀ W v base E,Chg (fun _=>False) w W->W.ownsRow base 29 1 v x.2.length (zV x.2)->zaY w G E L->zaY W (fun k=>G k∨(base<=k∧k < W.heap.size)) (E++[(x.1,v)]) (L++[x]) from fun W v base E hc ho hE=>
     ((hE.chg hc (fun _ _ e=>e)).up (fun _ h=>.inl h)).snoc rfl ((yK ho SZ.out).up (fun k hk=>.inr (ho.lt k hk))))
    obtain ⟨op,l⟩:=x;simp only at MAY K1 c0 FI CL ENT ⊢;go_enter Tryz.func256,Tryz.ntmps256;go_wp2_with fail;(with_reducible refine MAY.out.mono ?_);rintro e w2 ⟨rfl,k2⟩;have o2:=k2.obj (fun e=>e) X1.out;have d0:w2.cell? ⟨w.heap.size,0,none⟩=some (.int .i64 op):=zg o2 rfl;have d1:w2.cell? ⟨w.heap.size,1,none⟩=some (.slice a n c):=zg o2 rfl;have K2:=zf (K1.out.trans k2);have F2:=zf (FI.out w2 K2.out);have X2:=zf o2;clear o2 k2 K1 FI MAY;go_wp2_with fail;(with_reducible refine F2.out.mono ?_);rintro e w3 ⟨rfl,k3⟩;have K3:=zf (K2.out.trans k3);have o3:=k3.obj (fun e=>e) X2.out;have d0:w3.cell? ⟨w.heap.size,0,none⟩=some (.int .i64 op):=zg o3 rfl;have d1:w3.cell? ⟨w.heap.size,1,none⟩=some (.slice a n c):=zg o3 rfl;have c0:w3.cell? ⟨b,0,none⟩=some (.slice la L.length cap):=zg (K3.out.obj (fun e=>e) H1.out) rfl;clear o3 k3 K2 X2 F2;go_wp2_with fail;have hb3:w.heap.size<=w3.heap.size:=K3.out.size;refine Zf (N:=44) [.rd [0,1,2,3,4,5,6,7,8],.ef 9,.ef 10,.ef 11,.ef 12,.ef 13,.ef 14] 14 (fun w'=>w'.cell? ⟨b,0,none⟩=some (.slice la L.length cap)∧w'.cell? ⟨w.heap.size,0,none⟩=some (.int .i64 op)∧w'.cell? ⟨w.heap.size,1,none⟩=some (.slice a n c)) (by kernel_rfl) (by kernel_rfl) (by kernel_rfl) (by kernel_rfl) (by kernel_rfl) (Nat.le_of_ble_eq_true rfl) ⟨c0,d0,d1⟩ ?_;refine YD (A:=?A1) ?h1 ?h2
    case h1=>
     rintro w' ⟨z0,z1,z2⟩ K hK;simp only [zJ,zgL,zgM,zgN,zgO,zgP]
     repeat still_step
     refine wpStill_nil ?_;exact hK
    have e0:w3.drew.cell? ⟨b,0,none⟩=some (.slice la L.length cap):=c0;have e1:w3.drew.cell? ⟨w.heap.size,0,none⟩=some (.int .i64 op):=d0;have e2:w3.drew.cell? ⟨w.heap.size,1,none⟩=some (.slice a n c):=d1;have KD:=zf (K3.out.drew);have C3:=zf (CL.out w3.drew KD.out);have hbd:w.heap.size<=w3.drew.heap.size:=hb3;clear c0 d0 d1 CL K3 hb3;generalize w3.drew=wd at *;refine zz rfl ?_;go_wp2_with fail;(with_reducible refine C3.out.mono ?_);rintro e w4 ⟨v4,rfl,o4,k4⟩;obtain ⟨a4,c4,rfl⟩:=zq o4;have K4:=zf (KD.out.trans k4);have O4:=zf o4;have f0:=zi k4 (fun e=>e) e0;have f1:=zi k4 (fun e=>e) e1;have f2:=zi k4 (fun e=>e) e2;have hb4:w.heap.size<=w4.heap.size:=K4.out.size;clear o4 k4 e0 e1 e2 C3 KD;go_wp2_with fail;refine ⟨.inr ⟨f0,f1,f2⟩,?_⟩;refine zz rfl ?_;go_wp2_with fail;have ca:=zj (fun _=>False) w4 (.cells #[.int .i64 op,.slice a4 l.length c4] 34);have e0:=zi ca (fun e=>e) f0;have e1:=zi ca (fun e=>e) f1;have e2:=zi ca (fun e=>e) f2;refine ⟨.inr ⟨e0,e1,e2⟩,?_⟩;have K5:=zf (K4.out.trans ca);have B5:=zf (zh w4 (.cells #[.int .i64 op,.slice a4 l.length c4] 34));have O5:=zf (zo O4.out ca (fun _ _ e=>e))
    obtain ⟨EN,hEN⟩:∃ E,E.length=L.length∧zaY w G E L∧(la=none->L.length=0)∧∀ (j:Nat) u,(zH E)[j]? = some u->∃ lb lo,la=some ⟨lb,lo,none⟩∧w.cell? ⟨lb,lo+j,none⟩=some u:=by
     obtain ⟨E,la',cap',e,q1,q2,q3,q4,q5⟩:=H2.out;cases e;exact ⟨E,q4.len,q4,fun e=>by have:=q3 e;omega,fun j u hj=>by obtain ⟨lb,lo,r1,_,r2⟩:=q5 j u hj;exact ⟨lb,lo,r1,r2⟩⟩
    have HEN:=zf hEN;clear hEN f0 f1 f2 ca K4 O4;refine zz rfl ?_
    refine za2 rfl (.tmp 30) (.tmp 33) 35 rfl 34 2 32 Tryz.underlying35 Tryz.elemEntry la L.length (zH EN) rfl (by rw [Zi,HEN.out.1]) (fun j u hj=>by obtain ⟨lb,lo,r1,r2⟩:=HEN.out.2.2.2 j u hj;exact ⟨lb,lo,r1,zi K5.out (fun e=>e) r2⟩) HEN.out.2.2.1 w4.heap.size 0 1 1 [.int .i64 op,.slice a4 l.length c4] rfl rfl (fun j u hj=>by rw [Nat.zero_add];exact zg B5.out (by simpa using hj)) (by omega) (by
      intro u hu;rcases zg4.1 hu with q | q
      ·exact Yd HEN.out.2.1.one u q
      ·simp at q
       rcases q with rfl | rfl <;> rfl) (by omega) (by unfold maxLen;omega) ?_
    intro v6 w6 o6 k6 hs6;have e0:=zi k6 (fun e=>e) e0;have e1:=zi k6 (fun e=>e) e1;have e2:=zi k6 (fun e=>e) e2;obtain ⟨a6,c6,rfl⟩:=zq o6
    have o6b:w6.ownsRow w4.heap.size 34 2 (.slice a6 (L.length+1) c6) (EN++[(op,Value.slice a4 l.length c4)]).length (zH (EN++[(op,Value.slice a4 l.length c4)])):=by
     rw [yA,zgV,HEN.out.1];exact zai o6 (by simp)
    have en6:=ENT.out w6 _ _ EN (K5.out.trans k6) (zo O5.out k6 (fun _ _ e=>e)) HEN.out.2.1;have O6:=zf o6b;have EN6:=zf en6;have K6:=zf (K5.out.trans k6);have hb6:w4.heap.size<=w6.heap.size:=by simp at hs6;omega
    have B6:=zf (K6.out.obj (fun e=>e) H1.out);clear o6 o6b en6 k6 hs6 K5 O5 B5 HEN ENT;go_wp2_with fail;refine ⟨.inr ⟨e0,e1,e2⟩,?_⟩;refine zz rfl ?_;go_wp2_with fail;refine ⟨.inr ⟨e0,e1,e2⟩,?_⟩;refine zz rfl ?_;go_wp2_with fail;refine ⟨.inr ⟨e0,e1,e2⟩,?_⟩;refine zz rfl ?_;refine Za rfl 35 (.tmp 36) (.tmp 34) rfl b 0 rfl (.slice a6 (L.length+1) c6) rfl rfl rfl Tryz.sizeEntries _ e0 (zn B6.out) ?_;intro w7 hw7;refine ⟨.inl rfl,ZI ?_⟩;have o7:w7.heap[b]? = some (.cells #[.slice a6 (L.length+1) c6,.int .i64 (ver:Int)] ty (0,0)):=by rw [hw7];exact zk B6.out _
    have k7:Chg (·=b) w6 w7:=by rw [hw7];exact zy _ _ _ _
    have d1:w7.cell? ⟨b,1,none⟩=some (.int .i64 (ver:Int)):=zg o7 rfl;have fz1:w7.frozen? ⟨b,1,none⟩=false:=zn o7
    have FIN:=zf (show yC w b ty G 0 (L++[(op,l)]) ver (.returned (.int .i64 0)) (w7.setCell ⟨b,1,none⟩ (.int .i64 ((ver:Int)+1))) from by
     have k8:=k7.trans (zy w7 b 1 (.int .i64 ((ver:Int)+1)));have hw8:(w7.setCell ⟨b,1,none⟩ (.int .i64 ((ver:Int)+1))).heap.size=w6.heap.size:=by rw [hw7];simp [World.setCell]
     refine ⟨rfl,⟨⟨_,zk (o:=1) o7 _,?_⟩,?_⟩,(K6.out.mono (fun _ _ e=>e.elim)).next k8 (fun k hk e=>e)⟩
     ·have hnb:∀ k,(G k∨(w.heap.size<=k∧k < w6.heap.size))->¬ k=b:=fun k h e=>by
       rcases h with h | h
       ·exact HL.out.out (e ▸ h)
       ·omega
      refine zW.chg (S:=(·=b)) (w:=w6) ?_ k8 ?_
      ·rw [hw8]
       exact xg (G:=fun k=>G k∨(w.heap.size<=k∧k < w6.heap.size)) O6.out (EN6.out.up (fun k h=>h.imp id (fun h=>by omega))) (fun k hk=>.inr (by have:=O6.out.lt k hk;omega))
      ·rw [hw8];exact hnb
     ·intro h
      rcases h with h | h
      ·exact HL.out.out h
      ·omega)
    clear o7 k7 hw7 e0 e1 e2 O6 EN6 K6 B6;go_wp2;go_ret;exact FIN.out
def zgw (w w':World) (b:Nat) (k:Nat):Prop:=w.heap.size<=k∧k < w'.heap.size∧k≠b
def zcE (w:World) (ty:TypeId) (l:List zO) (e:Ending) (w':World):Prop:=
 (YJ [] l=0->∃ b,e=.returned (.tuple #[.pointer (some ⟨b,0,none⟩),.int .i64 0])∧w.heap.size<=b∧ZN w' b ty (zgw w w' b) l 0) ∧
 (YJ [] l≠0->e=.returned (.tuple #[.pointer none,.int .i64 (YJ [] l)]))∧Chg (fun _=>False) w w'
structure zaX (w:World) (ty:TypeId) (l:List zO) (k:Nat) (wr:World):Prop where
 lst:ZN wr w.heap.size ty (zgw w wr w.heap.size) (l.take k) k
 chg:Chg (fun _=>False) w wr
 err:YJ [] l=YJ (l.take k) (l.drop k)
theorem Xd (w:World) (ty:TypeId) (l:List zO):zaX w ty l 0 (w.alloc (.cells #[.slice none 0 0,.int .i64 0] ty)):=
 ⟨⟨⟨_,zh w _,by rw [List.take_zero];exact XQ _ _⟩,fun h=>h.2.2 rfl⟩,zj _ _ _,by rw [List.take_zero,List.drop_zero]⟩
theorem zaX.next {w wr w':World} {ty:TypeId} {l:List zO} {k:Nat} {x:zO} {e:Ending} (h:zaX w ty l k wr) (hx:l[k]? = some x) (h0:yD x (l.take k)=0) (hc:Chg (fun _=>False) wr w') {w2:World} (hr:yC w' w.heap.size ty (zgw w wr w.heap.size) (yD x (l.take k)) (xD x (l.take k)) k e w2):zaX w ty l (k+1) w2:=by
 obtain ⟨_,h2,h3⟩:=hr;have hw:=h.lst.lt;have hw2:=hc.size;have hw3:=h3.size;have hs:=h.chg.size;refine ⟨?_,(h.chg.trans hc).next h3 (fun k hk e=>by omega),?_⟩
 ·unfold xD zgn at h2
  rw [if_pos h0,if_pos h0] at h2;rw [show l.take (k+1)=l.take k++[x] by rw [zha,hx];rfl];refine h2.up (fun q hq=>?_) (fun h=>h.2.2 rfl);rcases hq with ⟨q1,q2,q3⟩ | hq
  ·exact ⟨q1,by omega,q3⟩
  ·exact ⟨by omega,hq.2,by omega⟩
 ·rw [h.err,zbg hx,if_pos h0]
theorem zaX.err_of {w wr:World} {ty:TypeId} {l:List zO} {k:Nat} {x:zO} (h:zaX w ty l k wr) (hx:l[k]? = some x) (h0:yD x (l.take k)≠0):YJ [] l=yD x (l.take k):=by
 rw [h.err,zbg hx,if_neg h0]
theorem XO {w w' w2:World} {ty:TypeId} {l:List zO} {k:Int} (he:YJ [] l=k) (hk:k≠0) (hc:Chg (fun _=>False) w w') (hc2:Chg (fun x=>w.heap.size<=x) w' w2):zcE w ty l (.returned (.tuple #[.pointer none,.int .i64 k])) w2:=
 ⟨fun h=>absurd (he ▸ h) hk,fun _=>by rw [he],hc.next hc2 (fun x hx e=>by omega)⟩
theorem Xc {w wr:World} {ty:TypeId} {l:List zO} (h:zaX w ty l l.length wr):zcE w ty l (.returned (.tuple #[.pointer (some ⟨w.heap.size,0,none⟩),.int .i64 0])) (wr.setCell ⟨w.heap.size,1,none⟩ (.int .i64 0)):=by
 have he:=h.err;rw [List.drop_length] at he;have hl:=h.lst;rw [zhc] at hl;obtain ⟨⟨es,h1,h2⟩,h3⟩:=hl;have k8:=zy wr w.heap.size 1 (.int .i64 0);have hsz:(wr.setCell ⟨w.heap.size,1,none⟩ (.int .i64 0)).heap.size=wr.heap.size:=by simp [World.setCell]
 refine ⟨fun _=>⟨_,rfl,zhb _,⟨⟨es,zk (o:=1) h1 _,?_⟩,fun h=>h.2.2 rfl⟩⟩,fun h=>absurd he h,h.chg.next k8 (fun x hx e=>by omega)⟩;refine (h2.chg k8 (fun k hk e=>hk.2.2 e)).up (fun k hk=>⟨hk.1,by rw [hsz];exact hk.2.1,hk.2.2⟩)
set_option maxHeartbeats 2000000 in
set_option maxRecDepth 100000 in
theorem zeV (w:World) (v:Value) (l:List zO) (G:Nat->Prop) (hl:zW w v G l) (hlen:l.length<=1000):
  Calls Tryz.prog 206 #[v] w (zcE w 362 l):=by
 obtain ⟨la,cap,rfl,hcap,hcm⟩:=hl.shape;have HL:=zf hl;clear hl;unfold maxLen at hcm;go_enter Tryz.func206,Tryz.ntmps206;go_wp2;go_loopw [12] (fun iv wr=>∃ (k:Nat),k<=l.length∧iv=.int .i64 k∧Hid (zaX w 362 l k wr)) (fun iv _=>l.length - (intOf iv).toNat)
 case atStart=>exact ⟨0,by omega,rfl,zf (Xd _ _ _)⟩
 case round=>
  obtain ⟨k,hk,rfl,HI⟩:=hrel;have hwb:=HI.out.lst.lt;by_cases hlt:k < l.length
  ·obtain ⟨x,hx⟩:∃ x,l[k]? = some x:=⟨_,zgS hlt⟩
   obtain ⟨g,o,sa,sc,rfl,_,d0,d1,hs⟩:=(HL.out.chg HI.out.chg (fun _ _ e=>e)).get hx;have ka:=zj (fun _=>False) wr (.cells #[.int .i64 x.1,.slice sa x.2.length sc] 34);have AD:=zf (zfM (wr.alloc (.cells #[.int .i64 x.1,.slice sa x.2.length sc] 34)) w.heap.size 362 x (l.take k) k sa x.2.length sc _ G (HI.out.lst.chg ka (fun e=>e) (fun _ _ e=>e)) (by omega) (hs.chg ka (fun _ _ e=>e)));have NX:=zf (fun h0 w2 e hr=>HI.out.next (e:=e) hx h0 ka (w2:=w2) hr);have ER:=zf (fun h0=>HI.out.err_of hx h0);have KC:=zf (HI.out.chg.trans ka);have hb1:=HI.out.chg.size;clear HI hs hx ka;generalize hk:yD x (l.take k)=ek at *;have HEK:=zf hk;obtain ⟨op,ls⟩:=x;simp only at d0 d1 AD NX;by_cases h0:ek=0
   ·have NX2:=zf (NX.out h0)
    subst h0;clear NX ER hk;go_wp2_with fail;(with_reducible refine AD.out.mono ?_);rintro e w4 hr;have N4:=zf (NX2.out w4 e hr);obtain ⟨rfl,_,_⟩:=hr;clear AD NX2;go_wp2;go_roundw
    case rel=>exact ⟨k+1,by omega,by go_num,N4⟩
    case measure=>simp [intOf];omega
   ·have ER2:=zf (ER.out h0)
    have g1:(ek != 0)=true:=by rw [zg6];exact h0
    have g2:(ek == 0)=false:=by rw [zg1];exact h0
    have H0:=zf h0;clear NX ER h0 hk;go_wp2_with fail;(with_reducible refine AD.out.mono ?_);rintro e w4 ⟨rfl,_,k4⟩;have K4:=zf k4;clear k4 AD;go_wp2;go_ret2;exact XO ER2.out H0.out KC.out (K4.out.mono (fun x _ e=>by omega))
  ·obtain rfl:k=l.length:=by omega
   obtain ⟨⟨es,h1,h2⟩,h3⟩:=HI.out.lst;have f1:=zn (o:=1) h1;have c1:wr.cell? ⟨w.heap.size,1,none⟩=some (.int .i64 (l.length:Int)):=zg h1 rfl;have FIN:=zf (Xc HI.out);clear HI h1 h2 h3;go_wp2;go_ret2;exact FIN.out
end Go.Proofs.YtcilaocknhphnaaGreat
