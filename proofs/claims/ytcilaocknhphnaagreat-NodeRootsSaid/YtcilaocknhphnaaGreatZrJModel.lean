/-
  Rows of objects that grow. Package record: Decode, of a record's bytes. Layer 20 in plain Lean: what a device and its journal do, as functions on lists. No program in sight.
-/
import Derived.Test.YtcilaocknhphnaaGreatZrCCert1
import Derived.Test.YtcilaocknhphnaaGreatZrNAt
import Derived.Test.YtcilaocknhphnaaGreatZrNIn3
namespace Go.Proofs.YtcilaocknhphnaaGreat
open Go.RowKit Go.Maps
def yb:List (Int × Value × Int)->List Value
  | []=>[]
  | x :: l=>.int .i64 x.1 :: x.2.1 :: .int .i64 x.2.2 :: yb l
theorem YG:∀ l m,yb (l++m)=yb l++yb m
  | [],m=>rfl
  | x :: l,m=>by simp only [List.cons_append,yb,YG l m]
theorem XN:∀ (l:List (Int × Value × Int)) (j:Nat) x,l[j]? = some x->(yb l)[j*3]? = some (.int .i64 x.1)∧(yb l)[j*3+1]? = some x.2.1∧(yb l)[j*3+2]? = some (.int .i64 x.2.2)
  | [],j,x,h=>by simp at h
  | y :: l,0,x,h=>by simp at h;subst h;exact ⟨rfl,rfl,rfl⟩
  | y :: l,j+1,x,h=>by
    obtain ⟨h1,h2,h3⟩:=XN l j x (by simpa using h);refine ⟨?_,?_,?_⟩
    · rw [show (j+1)*3=j*3+3 by omega];exact h1
    · rw [show (j+1)*3+1=j*3+1+3 by omega];exact h2
    · rw [show (j+1)*3+2=j*3+2+3 by omega];exact h3
structure zbM (w:World) (G:Nat->Prop) (E:List (Int × Value × Int)) (L:List yE):Prop where
  len:E.length=L.length
  obj:∀ (j:Nat) e x,E[j]? = some e->L[j]? = some x->e.1=x.val∧e.2.2=x.ver∧zW w e.2.1 G x.ents
theorem zbM.nil (w:World) (G:Nat->Prop):zbM w G [] []:=⟨rfl,fun j e x h=>by simp at h⟩
theorem zbM.one {w:World} {G:Nat->Prop} {E:List (Int × Value × Int)} {L:List yE} (h:zbM w G E L):∀ e∈E,e.2.1.oneCell'=true:=by
  intro e he;obtain ⟨j,hj⟩:=List.mem_iff_getElem?.1 he;have hl:=(zgT.1 hj).1;obtain ⟨_,_,q⟩:=h.obj j e _ hj (zgS (by rw [<- h.len];exact hl));obtain ⟨a,c,e2,_⟩:=q.shape;rw [e2];rfl
theorem zbM.chg {S:Nat->Prop} {w w':World} {G:Nat->Prop} {E:List (Int × Value × Int)} {L:List yE} (h:zbM w G E L) (hc:Chg S w w') (hs:∀ k,G k->¬ S k):zbM w' G E L:=
  ⟨h.len,fun j e x h1 h2=>⟨(h.obj j e x h1 h2).1,(h.obj j e x h1 h2).2.1,(h.obj j e x h1 h2).2.2.chg hc hs⟩⟩
theorem zbM.up {w:World} {G G':Nat->Prop} {E:List (Int × Value × Int)} {L:List yE} (h:zbM w G E L) (hg:∀ k,G k->G' k):zbM w G' E L:=
  ⟨h.len,fun j e x h1 h2=>⟨(h.obj j e x h1 h2).1,(h.obj j e x h1 h2).2.1,(h.obj j e x h1 h2).2.2.up hg⟩⟩
theorem zbM.snoc {w:World} {G:Nat->Prop} {E:List (Int × Value × Int)} {L:List yE} (h:zbM w G E L) {x:yE} {v:Value} (hx:zW w v G x.ents):zbM w G (E++[(x.val,v,x.ver)]) (L++[x]):=by
  refine ⟨by simp [h.len],fun j e' x' q1 q2=>?_⟩;rcases Nat.lt_or_ge j E.length with q | q
  · rw [List.getElem?_append_left q] at q1
    rw [List.getElem?_append_left (by rw [<- h.len];exact q)] at q2;exact h.obj j e' x' q1 q2
  · rw [List.getElem?_append_right q] at q1
    rw [List.getElem?_append_right (by rw [<- h.len];exact q)] at q2
    have hj:j - E.length=0:=by
      have:=(zgT.1 q1).1;simp at this;omega
    rw [hj] at q1;rw [<- h.len,hj] at q2;simp at q1 q2;subst q1 q2;exact ⟨rfl,rfl,hx⟩
theorem Tryz.elemObject:zP Tryz.prog 37 3 40:=zK (z:=.agg #[.int .i64 0,.slice none 0 0,.int .i64 0]) (by kernel_rfl) rfl (by decide)
theorem zc0 {w:World} {base:Nat} {v:Value} {G:Nat->Prop} {E:List (Int × Value × Int)} {L:List yE} (h:w.ownsRow base 37 3 v E.length (yb E)) (hE:zbM w G E L) (hG:∀ k,v.ownBlock=some k->G k):zN w v G L:=by
  have h0:=h;obtain ⟨h1,⟨rfl,h2⟩ | ⟨g,cap,cur,rfl,hg,hh,q1,q2,q3,q4⟩⟩:=h
  · have hn:L=[]:=List.eq_nil_of_length_eq_zero (by rw [<- hE.len,h2])
    subst hn;exact zc1 w G
  · refine ⟨_,cap,by rw [hE.len],by rw [<- hE.len];exact q1,q2,(fun e=>by cases e),fun j x hj=>?_⟩
    have hjl:=(zgT.1 hj).1;obtain ⟨e,he⟩:∃ e,E[j]? = some e:=⟨_,zgS (by rw [hE.len];exact hjl)⟩;obtain ⟨r1,r2,r3⟩:=hE.obj j e x he hj;obtain ⟨g1,g2,g3⟩:=XN E j e he;have hlt:j < E.length:=by rw [hE.len];exact hjl
    refine ⟨g,0,e.2.1,rfl,hG g rfl,?_,?_,?_,r3⟩
    · rw [Nat.zero_add,h0.cellAt (j:=j*3) (by omega),g1,r1]
    · rw [Nat.zero_add,h0.cellAt (j:=j*3+1) (by omega),g2]
    · rw [Nat.zero_add,h0.cellAt (j:=j*3+2) (by omega),g3,r2]
def GEs (w:World) (T:Nat) (val ver:Int) (ev:Value) (E:List (Int × Value)) (L:List zO):Prop:=
  w.heap[T]? = some (.cells #[.int .i64 val,ev,.int .i64 ver] 37 (0,0))∧w.ownsRow T 34 2 ev E.length (zH E) ∧
    zaY w (fun k=>T < k∧k < w.heap.size∧ev.ownBlock≠some k) E L
def GE (w:World) (T:Nat) (val ver:Int) (L:List zO):Prop:=∃ ev E,GEs w T val ver ev E L
theorem GEs.ne {w:World} {T:Nat} {val ver:Int} {ev:Value} {E:List (Int × Value)} {L:List zO} (h:GEs w T val ver ev E L) {k:Nat} (hk:ev.ownBlock=some k):T < k∧k < w.heap.size:=by
  have h1:=h.2.1.lt k hk;refine ⟨?_,h1.2⟩;rcases Nat.lt_or_ge T k with q | q
  · exact q
  · have:k=T:=by omega
    subst this;obtain ⟨cs,hcs⟩:=ZJ h.2.1 hk;rw [h.1] at hcs;cases hcs
theorem GEs.chg {S:Nat->Prop} {w w':World} {T:Nat} {val ver:Int} {ev:Value} {E:List (Int × Value)} {L:List zO} (h:GEs w T val ver ev E L) (hc:Chg S w w') (hs:∀ k,T<=k->k < w.heap.size->¬ S k):GEs w' T val ver ev E L:=
  ⟨hc.obj (hs T (zhb _) (zl h.1)) h.1,zo h.2.1 hc (fun k hk=>hs k (Nat.le_of_lt (h.ne hk).1) (h.ne hk).2),
    (h.2.2.chg hc (fun k hk=>hs k (Nat.le_of_lt hk.1) hk.2.1)).up (fun k hk=>⟨hk.1,zgZ hk.2.1 hc.size,hk.2.2⟩)⟩
theorem GE.chg {S:Nat->Prop} {w w':World} {T:Nat} {val ver:Int} {L:List zO} (h:GE w T val ver L) (hc:Chg S w w') (hs:∀ k,T<=k->k < w.heap.size->¬ S k):GE w' T val ver L:=by
  obtain ⟨ev,E,h⟩:=h;exact ⟨ev,E,h.chg hc hs⟩
theorem zfm (w:World) (val ver:Int):GE (w.alloc (.cells #[.int .i64 val,.slice none 0 0,.int .i64 ver] 37)) w.heap.size val ver []:=
  ⟨.slice none 0 0,[],zh _ _,World.ownsRow_nil _ _ _ _,⟨rfl,fun j e x h=>by simp at h⟩⟩
theorem GEs.push {w3 w4:World} {T:Nat} {val ver:Int} {ev ev':Value} {E:List (Int × Value)} {L:List zO} (h:GEs w3 T val ver ev E L) {x:zO} {sv:Value}
    (hs:ZV w3 sv (fun k=>T < k∧k < w3.heap.size∧ev.ownBlock≠some k) x.2) (ho:w4.ownsRow T 34 2 ev' (E.length+1) (zH E++[.int .i64 x.1,sv])) (hg:Chg (fun k=>ev.ownBlock=some k) w3 w4) (sn:Zd w3 ev ev'):
    GEs (w4.setCell ⟨T,1,none⟩ ev') T val ver ev' (E++[(x.1,sv)]) (L++[x])∧Chg (fun k=>T<=k) w3 (w4.setCell ⟨T,1,none⟩ ev'):=by
  have h4:=hg.obj (fun e=>by have:=(h.ne e).1;omega) h.1;have kc:=zy w4 T 1 ev';have hz:(w4.setCell ⟨T,1,none⟩ ev').heap.size=w4.heap.size:=by simp [World.setCell]
  have hz4:=hg.size
  have hne:∀ k,ev'.ownBlock=some k->k≠T:=fun k hk e=>by
    subst e;obtain ⟨cs,hcs⟩:=ZJ ho hk;rw [h4] at hcs;cases hcs
  have hup:∀ k,(T < k∧k < w3.heap.size∧ev.ownBlock≠some k)->(T < k∧k < (w4.setCell ⟨T,1,none⟩ ev').heap.size∧ev'.ownBlock≠some k):=fun k hk=>by
    refine ⟨hk.1,by omega,fun e=>?_⟩;rcases sn with q | q
    · rw [q] at e;exact hk.2.2 e
    · have:=q k e;omega
  have EE:zH (E++[(x.1,sv)])=zH E++[.int .i64 x.1,sv]:=by rw [yA];rfl
  refine ⟨⟨zk (o:=1) h4 ev',?_,?_⟩,(hg.mono (fun k _ e=>Nat.le_of_lt (h.ne e).1)).trans (kc.mono (fun k _ e=>by show T<=k;omega))⟩
  · rw [EE,zgV]
    exact zo ho kc (fun k hk e=>hne k hk e)
  · have q1:=(((h.2.2.chg hg (fun k hk e=>hk.2.2 e)).chg kc (fun k hk e=>by have:=hk.1;omega)).up hup)
    have q2:=((hs.chg hg (fun k hk e=>hk.2.2 e)).chg kc (fun k hk e=>by have:=hk.1;omega)).up hup;exact q1.snoc rfl q2
theorem GEs.done {w:World} {T:Nat} {val ver:Int} {ev:Value} {E:List (Int × Value)} {L:List zO} (h:GEs w T val ver ev E L):zW w ev (fun k=>T < k∧k < w.heap.size) L:=
  xg h.2.1 (h.2.2.up (fun k hk=>⟨hk.1,hk.2.1⟩)) (fun k hk=>h.ne hk)
def GOs (w:World) (R:Nat) (boot:Int) (ov:Value) (E:List (Int × Value × Int)) (L:List yE):Prop:=
  w.heap[R]? = some (.cells #[.int .i64 boot,ov] 40 (0,0))∧w.ownsRow R 37 3 ov E.length (yb E) ∧
    zbM w (fun k=>R < k∧k < w.heap.size∧ov.ownBlock≠some k) E L
def GO (w:World) (R:Nat) (boot:Int) (L:List yE):Prop:=∃ ov E,GOs w R boot ov E L
theorem GOs.ne {w:World} {R:Nat} {boot:Int} {ov:Value} {E:List (Int × Value × Int)} {L:List yE} (h:GOs w R boot ov E L) {k:Nat} (hk:ov.ownBlock=some k):R < k∧k < w.heap.size:=by
  have h1:=h.2.1.lt k hk;refine ⟨?_,h1.2⟩;rcases Nat.lt_or_ge R k with q | q
  · exact q
  · have:k=R:=by omega
    subst this;obtain ⟨cs,hcs⟩:=ZJ h.2.1 hk;rw [h.1] at hcs;cases hcs
theorem GOs.chg {S:Nat->Prop} {w w':World} {R:Nat} {boot:Int} {ov:Value} {E:List (Int × Value × Int)} {L:List yE} (h:GOs w R boot ov E L) (hc:Chg S w w') (hs:∀ k,R<=k->k < w.heap.size->¬ S k):GOs w' R boot ov E L:=
  ⟨hc.obj (hs R (zhb _) (zl h.1)) h.1,zo h.2.1 hc (fun k hk=>hs k (Nat.le_of_lt (h.ne hk).1) (h.ne hk).2),
    (h.2.2.chg hc (fun k hk=>hs k (Nat.le_of_lt hk.1) hk.2.1)).up (fun k hk=>⟨hk.1,zgZ hk.2.1 hc.size,hk.2.2⟩)⟩
theorem GO.chg {S:Nat->Prop} {w w':World} {R:Nat} {boot:Int} {L:List yE} (h:GO w R boot L) (hc:Chg S w w') (hs:∀ k,R<=k->k < w.heap.size->¬ S k):GO w' R boot L:=by
  obtain ⟨ov,E,h⟩:=h;exact ⟨ov,E,h.chg hc hs⟩
theorem zfl (w:World) (boot:Int):GO (w.alloc (.cells #[.int .i64 boot,.slice none 0 0] 40)) w.heap.size boot []:=
  ⟨.slice none 0 0,[],zh _ _,World.ownsRow_nil _ _ _ _,zbM.nil _ _⟩
theorem GOs.push {w3 w4:World} {R:Nat} {boot:Int} {ov ov':Value} {E:List (Int × Value × Int)} {L:List yE} (h:GOs w3 R boot ov E L) {x:yE} {ev:Value}
    (hs:zW w3 ev (fun k=>R < k∧k < w3.heap.size∧ov.ownBlock≠some k) x.ents) (ho:w4.ownsRow R 37 3 ov' (E.length+1) (yb E++[.int .i64 x.val,ev,.int .i64 x.ver])) (hg:Chg (fun k=>ov.ownBlock=some k) w3 w4) (sn:Zd w3 ov ov'):
    GOs (w4.setCell ⟨R,1,none⟩ ov') R boot ov' (E++[(x.val,ev,x.ver)]) (L++[x])∧Chg (fun k=>R<=k) w3 (w4.setCell ⟨R,1,none⟩ ov'):=by
  have h4:=hg.obj (fun e=>by have:=(h.ne e).1;omega) h.1;have kc:=zy w4 R 1 ov';have hz:(w4.setCell ⟨R,1,none⟩ ov').heap.size=w4.heap.size:=by simp [World.setCell]
  have hz4:=hg.size
  have hne:∀ k,ov'.ownBlock=some k->k≠R:=fun k hk e=>by
    subst e;obtain ⟨cs,hcs⟩:=ZJ ho hk;rw [h4] at hcs;cases hcs
  have hup:∀ k,(R < k∧k < w3.heap.size∧ov.ownBlock≠some k)->(R < k∧k < (w4.setCell ⟨R,1,none⟩ ov').heap.size∧ov'.ownBlock≠some k):=fun k hk=>by
    refine ⟨hk.1,by omega,fun e=>?_⟩;rcases sn with q | q
    · rw [q] at e;exact hk.2.2 e
    · have:=q k e;omega
  have EE:yb (E++[(x.val,ev,x.ver)])=yb E++[.int .i64 x.val,ev,.int .i64 x.ver]:=by rw [YG];rfl
  refine ⟨⟨zk (o:=1) h4 ov',?_,?_⟩,(hg.mono (fun k _ e=>Nat.le_of_lt (h.ne e).1)).trans (kc.mono (fun k _ e=>by show R<=k;omega))⟩
  · rw [EE,zgV]
    exact zo ho kc (fun k hk e=>hne k hk e)
  · have q1:=(((h.2.2.chg hg (fun k hk e=>hk.2.2 e)).chg kc (fun k hk e=>by have:=hk.1;omega)).up hup)
    have q2:=((hs.chg hg (fun k hk e=>hk.2.2 e)).chg kc (fun k hk e=>by have:=hk.1;omega)).up hup;exact q1.snoc q2
theorem GOs.done {w:World} {R:Nat} {boot:Int} {ov:Value} {E:List (Int × Value × Int)} {L:List yE} (h:GOs w R boot ov E L):zN w ov (fun k=>R < k∧k < w.heap.size) L:=
  zc0 h.2.1 (h.2.2.up (fun k hk=>⟨hk.1,hk.2.1⟩)) (fun k hk=>h.ne hk)
theorem zbp {α:Type} {f:α->List UInt8} {l:List α} {k:Nat} {x:α} (hx:l[k]? = some x):(l.drop k).flatMap f=f x++(l.drop (k+1)).flatMap f:=by
  obtain ⟨h1,h2⟩:=zgT.1 hx;rw [List.drop_eq_getElem_cons h1,h2];rfl
theorem zcZ {w:World} {base:Nat} {e:TypeId} {size n n' c:Nat} {xs:List Value} {a:Option Addr} (h:w.ownsRow base e size (.slice a n' c) n xs):(a=none∧c=0)∨∃ g,a=some ⟨g,0,none⟩∧base<=g∧g < w.heap.size:=by
  obtain ⟨_,⟨e,_⟩ | ⟨g,cap,cur,e,hb,hg,_⟩⟩:=h
  · cases e;exact .inl ⟨rfl,rfl⟩
  · cases e;exact .inr ⟨g,rfl,hb,zl hg⟩
set_option maxHeartbeats 8000000 in
set_option maxRecDepth 100000 in
theorem zcU (w:World) (r:xK) (s:ByteArray) (hs:s.data.toList=xH r) (hr:Yl r=true) (hz:s.size<=1000000):
    Calls Tryz.prog 58 #[.string s] w fun e w'=>∃ oa oc,e=.returned (.tuple #[.agg #[.int .i64 r.boot,.slice oa r.objs.length oc],.int .i64 0])∧zN w' (.slice oa r.objs.length oc) (fun k=>w.heap.size<=k∧k < w'.heap.size) r.objs∧((oa=none∧oc=0)∨∃ g,oa=some ⟨g,0,none⟩∧w.heap.size<=g∧g < w'.heap.size)∧Chg (fun _=>False) w w':=by
  have HR:=zf hr;obtain ⟨m1,m2,m3,m4⟩:=Zv.1 hr;have M4:=zf m4;have hd0:s.data.toList.drop 0=zZ r.boot.toNat++(zZ r.objs.length++r.objs.flatMap zaZ):=by rw [List.drop_zero,hs];rfl
  have MAY:=zf (fun (W:World) oa oc G (h:zN W (.slice oa r.objs.length oc) G r.objs)=>XI W r oa oc G h (fun o ho=>by have:=(yq (m4 o ho)).2;omega));clear hs hr m4;obtain ⟨boot,objs⟩:=r;simp only at *;obtain ⟨bo,rfl⟩:∃ bo:Nat,boot=(bo:Int):=⟨boot.toNat,by omega⟩;rw [show ((bo:Int)).toNat=bo from by omega] at hd0;have HD0:=zf hd0;have FR:=zf (ze6 (w.alloc (.cells #[.int .i64 0,.slice none 0 0] 40)) s);have ka:=zj (fun _=>False) w (.cells #[.int .i64 0,.slice none 0 0] 40);have OA:=zf (zh w (.cells #[.int .i64 0,.slice none 0 0] 40));have KA:=zf ka;have za:w.heap.size < (w.alloc (.cells #[.int .i64 0,.slice none 0 0] 40)).heap.size:=by rw [zg0];omega
  clear hd0 ka;go_enter Tryz.func58,Tryz.ntmps58;go_wp2_with fail;generalize hA0:w.heap.size=A0 at *;have HA0:=zf hA0;clear hA0;generalize w.alloc (.cells #[.int .i64 0,.slice none 0 0] 40)=w1 at *;(with_reducible refine FR.out.mono ?_);rintro e w2 ⟨rfl,i2,k2,z2⟩;generalize hI:w1.heap.size=I at *;clear hI;have OA2:=zf (k2.obj (fun e=>e) OA.out);have K2:=zf (KA.out.trans k2);have N1:=zf (Ya w2 I s 0 bo 40 _ i2 HD0.out (by omega) (by omega) hz);have hd1:=ZF HD0.out;have ps1:=yd HD0.out (YI _);have HD1:=zf hd1;clear FR i2 k2 OA KA HD0 hd1;go_wp2_with fail;(with_reducible refine N1.out.mono ?_);rintro e w3 ⟨rfl,i3,k3⟩;have z3:w2.heap.size<=w3.heap.size:=k3.size;have kb:=zj (fun _=>False) w3 (.cells #[.int .i64 (bo:Int),.slice none 0 0] 40);have zb:w3.heap.size < (w3.alloc (.cells #[.int .i64 (bo:Int),.slice none 0 0] 40)).heap.size:=by rw [zg0];omega
  have GO4:=zf (zfl w3 (bo:Int));have I4:=i3.chg kb (fun e=>e);have OA4:=zf (kb.obj (fun e=>e) (k3.obj (fun e=>by omega) OA2.out));have K4:=zf (show Chg (fun k=>A0<=k) w (w3.alloc (.cells #[.int .i64 (bo:Int),.slice none 0 0] 40)) from ((K2.out.mono (fun _ _ e=>e.elim)).trans (k3.mono (fun k _ e=>by show A0<=k;omega))).trans (kb.mono (fun _ _ e=>e.elim)));have N2:=zf (Ya _ I s _ objs.length 4 _ I4 HD1.out (by omega) (by omega) hz);have hd2:=ZF HD1.out;have ps2:=yd HD1.out (YI _);have HD2:=zf hd2;clear i3 k3 kb OA2 K2 N1 HD1 hd2 I4;go_wp2_with fail;generalize w3.heap.size=R at *;generalize w3.alloc (.cells #[.int .i64 (bo:Int),.slice none 0 0] 40)=w4 at *;(with_reducible refine N2.out.mono ?_);rintro e w5 ⟨rfl,i5,k5⟩;have z5:w4.heap.size<=w5.heap.size:=k5.size;have I5:=zf i5;have GO5:=zf (GO4.out.chg k5 (fun k h1 h2 e=>by omega));have OA5:=zf (k5.obj (fun e=>by omega) OA4.out);have K5:=zf (K4.out.trans (k5.mono (fun k _ e=>by show A0<=k;omega)));generalize (0+(zZ bo).length+(zZ objs.length).length)=pos at *;clear i5 k5 N2 GO4 OA4 K4 ps1;go_wp2;go_loopw [14] (fun iv wr=>∃ k pos:Nat,k<=objs.length∧iv=.int .i64 (k:Int)∧Hid (s.data.toList.drop pos=(objs.drop k).flatMap zaZ∧pos<=s.size∧xx wr I s pos∧GO wr R (bo:Int) (objs.take k))∧Hid (wr.heap[A0]? = some (.cells #[.int .i64 0,.slice none 0 0] 40 (0,0)))∧Hid (Chg (fun k=>A0<=k) w wr)) (fun iv _=>objs.length - (intOf iv).toNat)
  case atStart=>exact ⟨0,pos,by omega,rfl,zf ⟨by simpa using HD2.out,by omega,I5.out,by simpa using GO5.out⟩,OA5,K5⟩
  case round=>
    clear I5 GO5 OA5 K5 HD2 ps2;obtain ⟨k,pos,hk,rfl,HI,HA,HC⟩:=hrel;by_cases hlt:k < objs.length
    · obtain ⟨o,ho⟩:∃ o,objs[k]? = some o:=⟨_,zgS hlt⟩
      have hob:=M4.out o (zgU ho);obtain ⟨v1,v2,_⟩:=xI.1 hob;obtain ⟨EB,e12⟩:=yq hob;have EB:=zf EB;have TK:=zf (show objs.take (k+1)=objs.take k++[o] from by rw [zha,ho];rfl);obtain ⟨hd,_,hin,hgo⟩:=HI.out;rw [zbp ho] at hd;generalize hRST:(objs.drop (k+1)).flatMap zaZ=RST at *;have HRST:=zf hRST;clear hRST;have hRw:R < wr.heap.size:=by obtain ⟨_,_,q⟩:=hgo;exact zl q.1
      have hIw:=zl hin;obtain ⟨val,ver,ents⟩:=o;simp only at *;obtain ⟨va,rfl⟩:∃ va:Nat,val=(va:Int):=⟨val.toNat,by omega⟩;obtain ⟨vb,rfl⟩:∃ vb:Nat,ver=(vb:Int):=⟨ver.toNat,by omega⟩
      have hd:s.data.toList.drop pos=zZ va++(zZ vb++(zZ ents.length++(ents.flatMap zbr++RST))):=by
        rw [hd];unfold zaZ;simp only [List.append_assoc];rfl
      have N1:=zf (Ya wr I s pos va 4611686018427387904 _ hin hd (by omega) (by omega) hz);have HD1:=zf (ZF hd);have GO0:=zf hgo;clear hd hin hgo HI hob ho;go_wp2_with fail;(with_reducible refine N1.out.mono ?_);rintro e w6 ⟨rfl,i6,k6⟩;have z6:wr.heap.size<=w6.heap.size:=k6.size;have N2:=zf (Ya w6 I s _ vb 4611686018427387904 _ i6 HD1.out (by omega) (by omega) hz);have HD2:=zf (ZF HD1.out);have K6:=zf k6;clear N1 HD1 i6 k6;go_wp2_with fail;(with_reducible refine N2.out.mono ?_);rintro e w7 ⟨rfl,i7,k7⟩;have z7:w6.heap.size<=w7.heap.size:=k7.size;have kb:=zj (fun _=>False) w7 (.cells #[.int .i64 (va:Int),.slice none 0 0,.int .i64 (vb:Int)] 37);have zb:w7.heap.size < (w7.alloc (.cells #[.int .i64 (va:Int),.slice none 0 0,.int .i64 (vb:Int)] 37)).heap.size:=by rw [zg0];omega
      have GE8:=zf (zfm w7 (va:Int) (vb:Int));have I8:=i7.chg kb (fun e=>e);have K8:=zf (show Chg (fun k=>k=I) wr (w7.alloc (.cells #[.int .i64 (va:Int),.slice none 0 0,.int .i64 (vb:Int)] 37)) from (K6.out.trans k7).trans (kb.mono (fun _ _ e=>e.elim)));have N3:=zf (Ya _ I s _ ents.length 12 _ I8 HD2.out (by omega) (by omega) hz);have HD3:=zf (ZF HD2.out);have ps3:=yd HD2.out (YI _);clear N2 HD2 i7 k7 K6 kb I8;go_wp2_with fail;generalize w7.heap.size=T at *;generalize w7.alloc (.cells #[.int .i64 (va:Int),.slice none 0 0,.int .i64 (vb:Int)] 37)=w8 at *;(with_reducible refine N3.out.mono ?_);rintro e w9 ⟨rfl,i9,k9⟩;have z9:w8.heap.size<=w9.heap.size:=k9.size;have I9:=zf i9;have GE9:=zf (GE8.out.chg k9 (fun k h1 h2 e=>by omega));have K9:=zf (K8.out.trans k9);have hd3:=HD3.out;have hps:pos+(zZ va).length+(zZ vb).length+(zZ ents.length).length<=s.size:=by omega
      generalize pos+(zZ va).length+(zZ vb).length+(zZ ents.length).length=pos2 at *;have HD3:=zf hd3;clear i9 k9 N3 GE8 K8 hd3 ps3;generalize wr=wo at *;go_wp2;go_loopw [23] (fun jv wr=>∃ j pos:Nat,j<=ents.length∧jv=.int .i64 (j:Int)∧Hid (s.data.toList.drop pos=(ents.drop j).flatMap zbr++RST∧pos<=s.size∧xx wr I s pos∧GE wr T (va:Int) (vb:Int) (ents.take j))∧Hid (Chg (fun x=>x=I∨T<=x) w9 wr)) (fun jv _=>ents.length - (intOf jv).toNat)
      case atStart=>exact ⟨0,pos2,by omega,rfl,zf ⟨by simpa using HD3.out,hps,I9.out,by simpa using GE9.out⟩,zf (Chg.refl _ _)⟩
      case round=>
        clear I9 GE9 HD3 hps;obtain ⟨j,pos,hj,rfl,HI,HC9⟩:=hrel;have zr:w9.heap.size<=wr.heap.size:=HC9.out.size;obtain ⟨hd,hps,hin,ev,E,hge⟩:=HI.out;have HGE:=zf hge;have hEl:E.length=j:=by have:=hge.2.2.len;rw [zgX] at this;omega
        have HIN:=zf hin;obtain ⟨ea,ec,rfl⟩:=zq hge.2.1;rw [hEl] at HGE;have c1:=zg (o:=1) HGE.out.1 rfl;by_cases hlt2:j < ents.length
        · obtain ⟨x,hx⟩:∃ x,ents[j]? = some x:=⟨_,zgS hlt2⟩
          obtain ⟨⟨x1,x2⟩,x3⟩:=ZU.1 (EB.out x (zgU hx));have TX:=zf (show ents.take (j+1)=ents.take j++[x] from by rw [zha,hx];rfl);rw [zbp hx] at hd;obtain ⟨op,who⟩:=x;simp only at *;obtain ⟨on,rfl⟩:∃ on:Nat,op=(on:Int):=⟨op.toNat,by omega⟩
          have hd:s.data.toList.drop pos=zZ on++(zco who++((ents.drop (j+1)).flatMap zbr++RST)):=by
            rw [hd];unfold zbr;simp only [List.append_assoc];rfl
          generalize hRS:(ents.drop (j+1)).flatMap zbr++RST=RS2 at *;have HRS:=zf hRS;clear hRS
          have SZW:=zf (show ∀ y∈who,y.size<=maxLen from fun y hy=>by
            have:=Xe (yJ x3 hy);unfold maxLen;rw [<- zt];omega)
          have kd:=zA (fun _=>False) wr;have N1:=zf (Ya wr.drew I s pos on 7 _ (hin.chg kd (fun e=>e)) hd (by omega) (by omega) hz);have HD1:=zf (ZF hd);have HGd:=zf (HGE.out.chg kd (fun k h1 h2 e=>e));have KD:=zf (HC9.out.trans (kd.mono (fun _ _ e=>e.elim)));have zd:w9.heap.size<=wr.drew.heap.size:=zr;clear hd hin hge HI hx kd;go_wp2_with fail;refine Zf (N:=53) [.rd [0,1,2,4],.ef 3,.ef 5,.ef 6,.ef 7,.ef 8,.ef 9,.ef 10] 10 (fun W=>W.cell? ⟨T,1,none⟩=some (.slice ea j ec)) (by kernel_rfl) (by kernel_rfl) (by kernel_rfl) (by kernel_rfl) (by kernel_rfl) (Nat.le_of_ble_eq_true rfl) c1 ?_;refine YD (A:=?A1) ?h1 ?h2
          case h1=>
            rintro w' z0 K hK;simp only [zJ,zgL,zgM,zgN,zgO,zgP]
            repeat still_step
            refine wpStill_nil ?_;exact hK
          clear c1 HIN HGE HC9 zr;generalize wr.drew=wd at *;refine zz rfl ?_;go_wp2_with fail;(with_reducible refine N1.out.mono ?_);rintro e wa ⟨rfl,ia,ka⟩;have za:wd.heap.size<=wa.heap.size:=ka.size;have HGa:=zf (HGd.out.chg ka (fun k h1 h2 e=>by omega));have Ka:=zf (KD.out.trans (ka.mono (fun k _ e=>.inl e)));have SE:=zf (ze0 wa I s _ who _ ia HD1.out x3 hz);have HD2:=zf (ZF HD1.out);have ps4:=yd HD1.out (by unfold zco;simp);have ca:=zg (o:=1) HGa.out.1 rfl;clear ia ka N1 HGd KD HD1;go_wp2_with fail
          first | refine ⟨.inr ca,?_⟩ | refine ⟨ca,?_⟩
          refine zz rfl ?_;go_wp2_with fail;(with_reducible refine SE.out.mono ?_);rintro e wb ⟨sv,rfl,ob,ib,kb⟩;have zb:wa.heap.size<=wb.heap.size:=kb.size;have HGb:=zf (HGa.out.chg kb (fun k h1 h2 e=>by omega));have Kb:=zf (Ka.out.trans (kb.mono (fun k _ e=>.inl e)))
          have SA:=zf ((yK ob SZW.out).up (G':=fun k=>T < k∧k < wb.heap.size∧(Value.slice ea j ec).ownBlock≠some k) (fun k hk=>by
            have h1:=ob.lt k hk;have h2:T < wa.heap.size:=zl HGa.out.1;exact ⟨by omega,h1.2,fun e=>by have:=(HGa.out.ne e).2;omega⟩))
          have Ib:=zf ib;have cb:=zg (o:=1) HGb.out.1 rfl;obtain ⟨sa,sc,rfl⟩:=zq ob;clear ib ob kb SE HGa Ka ca;go_wp2_with fail
          first | refine ⟨.inr cb,?_⟩ | refine ⟨cb,?_⟩
          refine zz rfl ?_;go_wp2_with fail
          first | refine ⟨.inr cb,?_⟩ | refine ⟨cb,?_⟩
          refine zz rfl ?_;have kc:=zj (fun _=>False) wb (.cells #[.int .i64 (on:Int),.slice sa who.length sc] 34);have zc:wb.heap.size < (wb.alloc (.cells #[.int .i64 (on:Int),.slice sa who.length sc] 34)).heap.size:=by rw [zg0];omega
          have HGc:=zf (HGb.out.chg kc (fun k h1 h2 e=>e));have SAc:=zf ((SA.out.chg kc (fun k hk e=>e)).up (G':=fun k=>T < k∧k < (wb.alloc (.cells #[.int .i64 (on:Int),.slice sa who.length sc] 34)).heap.size∧(Value.slice ea j ec).ownBlock≠some k) (fun k hk=>⟨hk.1,by omega,hk.2.2⟩));have Ic:=zf (Ib.out.chg kc (fun e=>e));have Kc:=zf (Kb.out.trans (kc.mono (fun _ _ e=>e.elim)));have OX:=zf (zh wb (.cells #[.int .i64 (on:Int),.slice sa who.length sc] 34));have cc:=zg (o:=1) HGc.out.1 rfl;have hTb:T < wb.heap.size:=zl HGb.out.1;clear kc HGb SA Ib Kb cb;go_wp2_with fail;generalize hXX:wb.heap.size=X at *;have HX:=zf hXX;clear hXX;generalize wb.alloc (.cells #[.int .i64 (on:Int),.slice sa who.length sc] 34)=wc at *
          first | refine ⟨.inr cc,?_⟩ | refine ⟨cc,?_⟩
          refine zz rfl ?_;have OWN:=HGc.out.2.1;rw [hEl] at OWN;refine zR rfl (.tmp 26) (.tmp 32) 35 rfl 34 2 32 Tryz.underlying35 Tryz.elemEntry T (.slice ea j ec) j (zH E) rfl OWN X [.int .i64 (on:Int),.slice sa who.length sc] 34 (0,0) rfl OX.out rfl (by intro u hu;simp at hu;rcases hu with rfl | rfl <;> rfl) (by omega) (by unfold maxLen;omega) (by omega) ?_;intro v5 w10 o5 g5 sn;obtain ⟨a5,c5,rfl⟩:=zq o5;obtain ⟨p1,p2⟩:=HGc.out.push (x:=((on:Int),who)) (ev':=.slice a5 (j+1) c5) SAc.out (by rw [hEl];exact o5) (Chg.of_grown g5) sn;rw [<- TX.out] at p1;have P1:=zf p1;have P2:=zf (Kc.out.trans (p2.mono (fun k _ e=>.inr e)));have P3:=zf (Ic.out.chg p2 (fun (e:T<=I)=>by omega));have h10:=(Chg.of_grown g5).obj (fun e=>by have:=(HGc.out.ne e).1;omega) HGc.out.1;have q1:=zg (o:=1) h10 rfl;have f1:=zn (o:=1) h10;clear p1 p2 o5 g5 sn OWN OX HGc SAc Ic Kc cc h10;go_wp2_with fail
          first | refine ⟨.inr q1,?_⟩ | refine ⟨q1,?_⟩
          refine zz rfl ?_;go_wp2_with fail
          first | refine ⟨.inr q1,?_⟩ | refine ⟨q1,?_⟩
          refine zz rfl ?_;refine Za rfl 35 (.tmp 34) (.tmp 33) rfl T 1 rfl (.slice a5 (j+1) c5) rfl rfl rfl Tryz.sizeEntries _ q1 f1 ?_;intro w11 hw11;rw [<- hw11] at P1 P2 P3
          first | refine ⟨.inl rfl,ZI ?_⟩ | (unfold xE;refine ZI ?_)
          clear hw11 q1 f1;go_wp2;go_roundw
          case rel=>exact ⟨j+1,_,by omega,by go_num,zf ⟨by rw [HRS.out];exact HD2.out,by omega,P3.out,_,_,P1.out⟩,P2⟩
          case measure=>simp [intOf];omega
        · obtain rfl:j=ents.length:=by omega
          have hd2:s.data.toList.drop pos=RST:=by rw [hd,List.drop_length];rfl
          have HD2:=zf hd2;have hwT:wo.heap.size<=T:=by omega
          have KW:=zf (show Chg (fun x=>x=I∨T<=x) wo wr from (K9.out.mono (fun _ _ e=>.inl e)).trans HC9.out);have hgo:=GO0.out;obtain ⟨ov,EO,hgo0⟩:=hgo;obtain ⟨oa,oc,rfl⟩:=zq hgo0.2.1;have hEO:EO.length=k:=by have:=hgo0.2.2.len;rw [zgX] at this;omega
          have OVT:=zf (fun q (hq:(Value.slice oa EO.length oc).ownBlock=some q)=>show q < T from by have:=(hgo0.ne hq).2;omega);have hgw:=hgo0.chg KW.out (fun k h1 h2 e=>by omega);rw [hEO] at hgw OVT;have HGW:=zf hgw;have HAW:=zf (KW.out.obj (fun e=>by omega) HA.out);have hge2:=HGE.out;rw [zhc] at hge2;have EA:=hge2.done;have HGE2:=zf hge2;have r1:=zg (o:=1) hgw.1 rfl;have t0:=zg (o:=0) hge2.1 rfl;have t2:=zg (o:=2) hge2.1 rfl;have hTw:T < wr.heap.size:=zl hge2.1;have kx:=zj (fun _=>False) wr (.cells #[.int .i64 (va:Int),.slice ea ents.length ec,.int .i64 (vb:Int)] 37);have zx:wr.heap.size < (wr.alloc (.cells #[.int .i64 (va:Int),.slice ea ents.length ec,.int .i64 (vb:Int)] 37)).heap.size:=by rw [zg0];omega
          have HGX:=zf (hgw.chg kx (fun k h1 h2 e=>e));have EAX:=zf ((EA.chg kx (fun k hk e=>e)).up (G':=fun y=>R < y∧y < (wr.alloc (.cells #[.int .i64 (va:Int),.slice ea ents.length ec,.int .i64 (vb:Int)] 37)).heap.size∧(Value.slice oa k oc).ownBlock≠some y) (fun q hq=>⟨by omega,by omega,fun e=>by have:=OVT.out q e;omega⟩));have kxw:=zf kx;clear hd hd2 hgo0 hgw hge2 EA kx HI hin HGE HC9 GO0;have OWN:=HGX.out.2.1;rw [hEO] at OWN;go_wp2_with (at_builtin;refine zR rfl (.tmp 37) (.tmp 39) 38 rfl 37 3 40 Tryz.underlying38 Tryz.elemObject R (.slice oa k oc) k (yb EO) rfl OWN wr.heap.size [.int .i64 (va:Int),.slice ea ents.length ec,.int .i64 (vb:Int)] 37 (0,0) rfl ?b2 rfl ?b3 ?b4 ?b5 ?b6 ?b7)
          case b2=>exact zh _ _
          case b3=>intro u hu;simp at hu;rcases hu with rfl | rfl | rfl <;> rfl
          case b4=>omega
          case b5=>unfold maxLen;omega
          case b6=>omega
          intro v5 w10 o5 g5 sn;obtain ⟨a5,c5,rfl⟩:=zq o5;obtain ⟨p1,p2⟩:=HGX.out.push (x:=⟨(va:Int),(vb:Int),ents⟩) (ov':=.slice a5 (k+1) c5) EAX.out (by rw [hEO];exact o5) (Chg.of_grown g5) sn;rw [<- TK.out] at p1;have P1:=zf p1;have P3:=zf ((HIN.out.chg kxw.out (fun e=>e)).chg p2 (fun (e:R<=I)=>by omega));have P4:=zf (p2.obj (fun (e:R<=A0)=>by omega) (kxw.out.obj (fun e=>e) HAW.out));have P2:=zf (HC.out.trans ((KW.out.mono (fun x _ e=>by show A0<=x;rcases e with e | e <;> omega)).trans ((kxw.out.mono (fun _ _ e=>e.elim)).trans (p2.mono (fun x _ e=>by show A0<=x;have:R<=x:=e;omega)))));have h10:=(Chg.of_grown g5).obj (fun e=>by have:=(HGX.out.ne e).1;omega) HGX.out.1;have q1:=zg (o:=1) h10 rfl;have f1:=zn (o:=1) h10;clear p1 p2 o5 g5 sn OWN HGX EAX h10 kxw HAW HIN HGE2 HGW KW HC HA K9;go_wp2;go_roundw
          case rel=>exact ⟨k+1,pos,by omega,by go_num,zf ⟨by rw [HRST.out];exact HD2.out,hps,P3.out,_,_,P1.out⟩,P4,P2⟩
          case measure=>simp [intOf];omega
    · obtain rfl:k=objs.length:=by omega
      obtain ⟨hd,hps,hin,hgo⟩:=HI.out
      have hpos:pos=s.size:=by
        have:=congrArg List.length hd;rw [List.length_drop,List.drop_length,zt] at this;simp at this;omega
      subst hpos;have DN:=zf (zdT wr I s hin hz);have GOw:=zf hgo;clear hd hin hgo HI hps;go_wp2_with fail;(with_reducible refine DN.out.mono ?_);rintro e wf ⟨rfl,_,kf⟩;obtain ⟨ov,EO,hgo⟩:=GOw.out.chg kf (fun k h1 h2 e=>e);rw [zhc] at hgo;have HAf:=zf (kf.obj (fun e=>e) HA.out);have Kf:=zf (HC.out.trans (kf.mono (fun _ _ e=>e.elim)));obtain ⟨oa,oc,rfl⟩:=zq hgo.2.1;have hEO:EO.length=objs.length:=hgo.2.2.len;rw [hEO] at hgo;have MY:=zf (MAY.out wf oa oc _ hgo.done);have r0:=zg (o:=0) hgo.1 rfl;have r1:=zg (o:=1) hgo.1 rfl;have HGf:=zf hgo;clear kf hgo GOw DN HA HC MAY;go_wp2_with fail;(with_reducible refine MY.out.mono ?_);rintro e wg ⟨rfl,kg⟩;rw [HR.out];have hgg:=HGf.out.chg kg (fun k h1 h2 e=>e);have HAg:=kg.obj (fun e=>e) HAf.out;have Kg:=zf (Kf.out.trans (kg.mono (fun _ _ e=>e.elim)));have s0:=zg (o:=0) hgg.1 rfl;have s1:=zg (o:=1) hgg.1 rfl;have a0:=zg (o:=0) HAg rfl;have a1:=zg (o:=1) HAg rfl;have fa0:=zn (o:=0) HAg;have fa1:=zn (o:=1) HAg;have HGG:=zf hgg;have HAG:=zf HAg;clear kg hgg HAg HGf HAf Kf MY r0 r1;go_wp2;have kc:=(zy wg A0 0 (.int .i64 (bo:Int))).trans (zy (wg.setCell ⟨A0,0,none⟩ (.int .i64 (bo:Int))) A0 1 (.slice oa objs.length oc));have OF:=zk (o:=1) (zk (o:=0) HAG.out (.int .i64 (bo:Int))) (.slice oa objs.length oc);have z0:=zg (o:=0) OF rfl;have z1:=zg (o:=1) OF rfl;have GG:=HGG.out.chg kc (fun q h1 h2 (e:q=A0)=>by omega);have BS:=zcZ GG.2.1;have GF:=GG.done;have KF:=(Chg.refl (fun _=>False) w).next (Kg.out.trans (kc.mono (fun q _ (e:q=A0)=>by show A0<=q;omega))) (fun q hq (e:A0<=q)=>by have:=HA0.out;omega)
      have GF:=zf (GF.up (G':=fun q=>w.heap.size<=q∧q < _) (fun q hq=>⟨by have:=HA0.out;omega,hq.2⟩));refine bodyPost_ret (v:=.tuple #[.agg #[.int .i64 (bo:Int),.slice oa objs.length oc],.int .i64 0]) (by simp [results,Tryz.results58,go_sem,z0,z1]) rfl ?_;exact ⟨oa,oc,rfl,GF.out,BS.imp id (fun ⟨g,h1,h2,h3⟩=>⟨g,h1,by have:=HA0.out;omega,h3⟩),KF⟩

structure Dev where
  now:List (List UInt8)
  sure:List (List UInt8)
  pend:List Bool
  fuse:Int
  on:Bool
  dead:Bool

def zbI:List UInt8:=List.replicate 32 0
def pad (s:List UInt8):List UInt8:=s++List.replicate (32 - s.length) 0
def Dev.new (n:Nat):Dev:=⟨List.replicate n zbI,List.replicate n zbI,List.replicate n false,0,false,false⟩
structure Dev.Ok (n:Nat) (d:Dev):Prop where
  lo:3<=n
  hi:n<=65
  lnow:d.now.length=n
  lsure:d.sure.length=n
  lpend:d.pend.length=n
  wnow:∀ s∈d.now,s.length=32
  wsure:∀ s∈d.sure,s.length=32
  fuse0:0<=d.fuse
  fuse1:d.fuse<=9223372036854775807

def Dev.stops (d:Dev):Bool:=d.dead || (d.on && d.fuse == 0)
def Dev.burnt (d:Dev):Dev:=if d.stops then { d with dead:=true } else { d with fuse:=if d.on then d.fuse - 1 else d.fuse }
def Dev.put (d:Dev) (i:Nat) (s:List UInt8):Dev:={ d with now:=d.now.set i (pad s),pend:=d.pend.set i true }
def Dev.settle (d:Dev):Dev:={ d with sure:=d.now,pend:=List.replicate d.pend.length false }
def Dev.write (d:Dev) (i:Int) (s:List UInt8):Dev × Int:=
  if d.dead then (d,20)
  else if i < 0∨(d.now.length:Int)<=i then (d,5)
  else if 32 < s.length then (d,4)
  else if d.stops then (d.burnt,20)
  else (d.burnt.put i.toNat s,0)
def Dev.barrier (d:Dev):Dev × Int:=if d.stops then (d.burnt,20) else (d.burnt.settle,0)
def Dev.read (d:Dev) (i:Int):List UInt8:=if i < 0∨(d.now.length:Int)<=i then [] else d.now.getD i.toNat []
def Dev.setFuse (d:Dev) (n:Int):Dev:=if d.dead then d else { d with fuse:=max n 0,on:=decide (0<=n) }
def zgJ (p:List Bool) (i:Nat):Nat:=(p.take i).countP id
def zce (d:Dev) (keep:List Bool) (i:Nat):List UInt8:=
  if d.pend.getD i false && !keep.getD (zgJ d.pend i) false then d.sure.getD i [] else d.now.getD i []
def Ye (d:Dev) (keep:List Bool) (j:Nat):List (List UInt8):=(List.range d.now.length).map fun i=>if i < j then zce d keep i else d.now.getD i []
def Dev.crash (d:Dev) (keep:List Bool):Dev:=
  { now:=Ye d keep d.now.length,sure:=Ye d keep d.now.length,pend:=List.replicate d.pend.length false,fuse:=0,on:=false,dead:=false }
def zfX (p:List Bool) (j:Nat):List Nat:=(List.range j).filter fun i=>p.getD i false
def Dev.pending (d:Dev):List Nat:=zfX d.pend d.pend.length
theorem zcY (s:List UInt8) (h:s.length<=32):(pad s).length=32:=by simp [pad];omega
theorem Ym:zbI.length=32:=by simp [zbI]
theorem Dev.ok_new (n:Nat) (h:3<=n) (h':n<=65):(Dev.new n).Ok n:=by
  refine ⟨h,h',by simp [Dev.new],by simp [Dev.new],by simp [Dev.new],?_,?_,by simp [Dev.new],by simp [Dev.new]⟩
  all_goals intro s hs;simp only [Dev.new] at hs;rw [List.eq_of_mem_replicate hs];exact Ym
theorem Dev.Ok.burnt {n:Nat} {d:Dev} (h:d.Ok n):d.burnt.Ok n:=by
  unfold Dev.burnt;split
  · exact ⟨h.lo,h.hi,h.lnow,h.lsure,h.lpend,h.wnow,h.wsure,h.fuse0,h.fuse1⟩
  · rename_i hs
    have h0:=h.fuse0;have h1:=h.fuse1;refine ⟨h.lo,h.hi,h.lnow,h.lsure,h.lpend,h.wnow,h.wsure,?_,?_⟩ <;> dsimp only <;> split
    · rename_i ho;simp [Dev.stops,ho] at hs;omega
    · exact h0
    · omega
    · exact h1
theorem Dev.Ok.put {n:Nat} {d:Dev} (h:d.Ok n) (i:Nat) (s:List UInt8) (hs:s.length<=32):(d.put i s).Ok n:=by
  refine ⟨h.lo,h.hi,by simp [Dev.put,h.lnow],h.lsure,by simp [Dev.put,h.lpend],?_,h.wsure,h.fuse0,h.fuse1⟩;intro x hx;rcases List.mem_or_eq_of_mem_set hx with hx | rfl
  · exact h.wnow x hx
  · exact zcY s hs
theorem Dev.Ok.settle {n:Nat} {d:Dev} (h:d.Ok n):d.settle.Ok n:=
  ⟨h.lo,h.hi,h.lnow,h.lnow,by simp [Dev.settle,h.lpend],h.wnow,h.wnow,h.fuse0,h.fuse1⟩
theorem Dev.Ok.setFuse {n:Nat} {d:Dev} (h:d.Ok n) (m:Int) (hm:m<=9223372036854775807):(d.setFuse m).Ok n:=by
  unfold Dev.setFuse;split
  · exact h
  · exact ⟨h.lo,h.hi,h.lnow,h.lsure,h.lpend,h.wnow,h.wsure,by dsimp only;omega,by dsimp only;omega⟩
theorem ZD {l:List (List UInt8)} (h:∀ s∈l,s.length=32) {i:Nat} (hi:i < l.length):(l.getD i []).length=32:=by
  rw [List.getD_eq_getElem?_getD,List.getElem?_eq_getElem hi];exact h _ (List.getElem_mem hi)
theorem zcd {n:Nat} {d:Dev} (h:d.Ok n) (keep:List Bool) {i:Nat} (hi:i < n):(zce d keep i).length=32:=by
  unfold zce;split
  · exact ZD h.wsure (by rw [h.lsure];exact hi)
  · exact ZD h.wnow (by rw [h.lnow];exact hi)
theorem xu {n:Nat} {d:Dev} (h:d.Ok n) (keep:List Bool) (j:Nat):∀ s∈Ye d keep j,s.length=32:=by
  intro s hs;simp only [Ye,List.mem_map,List.mem_range] at hs;obtain ⟨i,hi,rfl⟩:=hs;rw [h.lnow] at hi;split
  · exact zcd h keep hi
  · exact ZD h.wnow (by rw [h.lnow];exact hi)
theorem Dev.Ok.crash {n:Nat} {d:Dev} (h:d.Ok n) (keep:List Bool):(d.crash keep).Ok n:=
  ⟨h.lo,h.hi,by simp [Dev.crash,Ye,h.lnow],by simp [Dev.crash,Ye,h.lnow],by simp [Dev.crash,h.lpend],xu h keep _,xu h keep _,by simp [Dev.crash],by simp [Dev.crash]⟩
theorem ZE {l:List (List UInt8)} (h:∀ s∈l,s.length=32):l.flatten.length=32*l.length:=by
  induction l with
  | nil=>rfl
  | cons x r ih=>simp [h x (by simp),ih (fun s hs=>h s (by simp [hs]))];omega
theorem YO (l:List (List UInt8)) (i:Nat):l.flatten=(l.take i).flatten++(l.drop i).flatten:=by
  rw [<- List.flatten_append,List.take_append_drop]
theorem zbn {l:List (List UInt8)} (h:∀ s∈l,s.length=32) {i:Nat} (hi:i<=l.length):(l.take i).flatten=l.flatten.take (32*i):=by
  have hl:(l.take i).flatten.length=32*i:=by
    rw [ZE (fun s hs=>h s (List.mem_of_mem_take hs)),List.length_take];omega
  rw [YO l i,List.take_append_of_le_length (Nat.le_of_eq hl.symm),List.take_of_length_le (Nat.le_of_eq hl)]
theorem xt {l:List (List UInt8)} (h:∀ s∈l,s.length=32) {i:Nat} (hi:i<=l.length):(l.drop i).flatten=l.flatten.drop (32*i):=by
  have hl:(l.take i).flatten.length=32*i:=by
    rw [ZE (fun s hs=>h s (List.mem_of_mem_take hs)),List.length_take];omega
  rw [YO l i,List.drop_append_of_le_length (Nat.le_of_eq hl.symm),List.drop_of_length_le (Nat.le_of_eq hl),List.nil_append]
theorem zca {l:List (List UInt8)} (h:∀ s∈l,s.length=32) {i:Nat} (hi:i < l.length):l.getD i []=(l.flatten.drop (32*i)).take 32:=by
  rw [<- xt h (Nat.le_of_lt hi)]
  have:l.drop i=l.getD i [] :: l.drop (i+1):=by
    rw [List.getD_eq_getElem?_getD,List.getElem?_eq_getElem hi,Option.getD_some,List.getElem_cons_drop]
  rw [this,List.flatten_cons,List.take_append_of_le_length (by rw [ZD h hi];exact Nat.le_refl _),List.take_of_length_le (by rw [ZD h hi];exact Nat.le_refl _)]
theorem zb9 {l:List (List UInt8)} (h:∀ s∈l,s.length=32) {i:Nat} (hi:i < l.length) (x:List UInt8):
    (l.set i x).flatten=l.flatten.take (32*i)++(x++l.flatten.drop (32*i+32)):=by
  rw [List.set_eq_take_append_cons_drop,if_pos hi,List.flatten_append,List.flatten_cons,zbn h (Nat.le_of_lt hi),xt h (by omega)];rw [show 32*(i+1)=32*i+32 from by omega]
def be (l:List UInt8):Nat:=l.foldl (fun x b=>x*256+b.toNat) 0
def ze2 (n:Nat):Int:=if n < 9223372036854775808 then (n:Int) else (n:Int) - 18446744073709551616
def zfT (l:List UInt8):Int:=ze2 (be (l.take 8))
def xA (l:List UInt8):Nat:=(l.getD 8 0).toNat
def Yj (l:List UInt8):Nat:=(l.getD 9 0).toNat*256+(l.getD 10 0).toNat
def Dev.m (d:Dev):Nat:=(d.now.length - 1) / 2
def Dev.areaTo (d:Dev) (h i:Nat):List UInt8:=(List.range i).flatMap fun i=>d.now.getD (1+h*d.m+i) []
def Dev.area (d:Dev) (h:Nat):List UInt8:=d.areaTo h d.m
def Dev.hd (d:Dev):List UInt8:=d.now.getD 0 []
def Dev.bad (d:Dev):Prop:=1 < xA d.hd∨d.m*32 < Yj d.hd
def Dev.text (d:Dev):List UInt8:=(d.area (xA d.hd)).take (Yj d.hd)
theorem zfK (l:List UInt8) (c:UInt8):be (l++[c])=be l*256+c.toNat:=by simp [be,List.foldl_append]
theorem zgt (l:List UInt8):be l < 256 ^ l.length:=by
  have key:∀ (l:List UInt8) (x:Nat),l.foldl (fun x b=>x*256+b.toNat) x < (x+1)*256 ^ l.length:=by
    intro l;induction l with
    | nil=>intro x;simp
    | cons c r ih=>
      intro x;rw [List.foldl_cons,List.length_cons,Nat.pow_succ];have h1:=ih (x*256+c.toNat);have h2:(x*256+c.toNat+1)*256 ^ r.length<=(x+1)*256*256 ^ r.length:=Nat.mul_le_mul_right _ (by have:=c.toNat_lt;omega)
      calc _ < _:=h1
        _<=_:=h2
        _=_:=by rw [Nat.mul_assoc,Nat.mul_comm 256]
  have:=key l 0
  simpa [be] using this
theorem Dev.areaTo_succ (d:Dev) (h i:Nat):d.areaTo h (i+1)=d.areaTo h i++d.now.getD (1+h*d.m+i) []:=by
  unfold Dev.areaTo;rw [List.range_succ,List.flatMap_append];simp
theorem Dev.areaTo_length {n:Nat} {d:Dev} (ok:d.Ok n) (h:Nat) (hh:h<=1):∀ i,i<=d.m->(d.areaTo h i).length=32*i
  | 0,_=>by simp [Dev.areaTo]
  | i+1,hi=>by
    rw [Dev.areaTo_succ,List.length_append,Dev.areaTo_length ok h hh i (by omega),ZD ok.wnow]
    · omega
    · have:d.m=(d.now.length - 1) / 2:=rfl
      have hm:h*d.m<=d.m:=by rcases (by omega:h=0∨h=1) with rfl | rfl <;> omega
      omega
theorem ze3 (l:List UInt8):Yj l < 65536:=by
  unfold Yj;have:=(l.getD 9 0).toNat_lt;have:=(l.getD 10 0).toNat_lt;omega
def Zx (x:Int) (i:Nat):Nat:=(x % 18446744073709551616).toNat / 2 ^ (8*(7 - i)) % 256
def zm (x:Int) (half n:Nat):List UInt8:=((List.range 8).map fun i=>UInt8.ofNat (Zx x i))++[UInt8.ofNat half,UInt8.ofNat (n / 256),UInt8.ofNat n]
theorem ZR (x:Int) (half n:Nat):(zm x half n).length=11:=by simp [zm]
def zeZ:Nat->Dev->Nat->List UInt8->Dev × Int
  | 0,d,_,_=>d.barrier
  | k+1,d,a,s=>
    if s.length=0 then d.barrier
    else if (d.write a (s.take 32)).2=0 then zeZ k (d.write a (s.take 32)).1 (a+1) (s.drop 32) else d.write a (s.take 32)
def Dev.lay (d:Dev) (a:Nat) (s:List UInt8):Dev × Int:=zeZ (s.length+1) d a s
theorem zeY:∀ (k m:Nat) (d:Dev) (a:Nat) (s:List UInt8),s.length < k->s.length < m->zeZ k d a s=zeZ m d a s:=by
  intro k;induction k with
  | zero=>intro m d a s h;omega
  | succ k ih=>
    intro m d a s h hm;obtain ⟨m,rfl⟩:∃ m',m=m'+1:=⟨m - 1,by omega⟩;rw [zeZ,zeZ];by_cases h0:s.length=0
    · rw [if_pos h0,if_pos h0]
    · rw [if_neg h0,if_neg h0]
      split
      · exact ih m _ _ _ (by rw [List.length_drop];omega) (by rw [List.length_drop];omega)
      · rfl
theorem zdP (k:Nat) (d:Dev) (a:Nat) (s:List UInt8) (h:s.length < k):zeZ k d a s=d.lay a s:=zeY _ _ _ _ _ h (by omega)
theorem zb5 (d:Dev) (a:Nat) (s:List UInt8) (h:0 < s.length):d.lay a s=if (d.write a (s.take 32)).2=0 then Dev.lay (d.write a (s.take 32)).1 (a+1) (s.drop 32) else d.write a (s.take 32):=by
  conv=>lhs;unfold Dev.lay
  rw [zeZ,if_neg (by omega)];split
  · exact zdP _ _ _ _ (by rw [List.length_drop];omega)
  · rfl
theorem zdO (d:Dev) (a:Nat) (s:List UInt8) (h:s.length=0):d.lay a s=d.barrier:=by
  unfold Dev.lay;rw [zeZ,if_pos h]
structure Jr where
  number:Int
  half:Nat
  text:ByteArray

def commit (d:Dev) (j:Jr) (s:ByteArray):Dev × Int × Jr:=
  if d.dead then (d,20,j)
  else if d.m*32 < s.size then (d,4,j)
  else if 4611686018427387904<=j.number then (d,3,j)
  else
    let a:=d.lay (1+(1 - j.half)*d.m) s.data.toList
    if a.2≠0 then (a.1,a.2,j)
    else
      let b:=a.1.write 0 (zm (j.number+1) (1 - j.half) s.size)
      if b.2≠0 then (b.1,b.2,j)
      else
        let c:=b.1.barrier
        if c.2≠0 then (c.1,c.2,j) else (c.1,0,⟨j.number+1,1 - j.half,s⟩)
theorem Dev.Ok.write {n:Nat} {d:Dev} (h:d.Ok n) (i:Int) (s:List UInt8):(d.write i s).1.Ok n:=by
  unfold Dev.write;split
  · exact h
  split
  · exact h
  split
  · exact h
  split
  · exact h.burnt
  · exact h.burnt.put _ _ (by omega)
theorem Dev.Ok.barrier {n:Nat} {d:Dev} (h:d.Ok n):d.barrier.1.Ok n:=by
  unfold Dev.barrier;split
  · exact h.burnt
  · exact h.burnt.settle
end Go.Proofs.YtcilaocknhphnaaGreat
