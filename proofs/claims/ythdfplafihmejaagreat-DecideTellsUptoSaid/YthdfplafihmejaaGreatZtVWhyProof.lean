/-
  What the arguments' readings say: what is asked, small in the whole. What the arguments' readings say: a why. What Make makes, by computing. Layer 17: awake, in plain Lean. Layer 17: awake, walked. DecideWhy, walked. Each grant has a why that the look takes, and the look takes none, where the answer is Deny. (Where what is read is of bulk at most 1048576.)
-/
import Derived.Test.YthdfplafihmejaaGreatZtQSame
import Derived.Test.YthdfplafihmejaaGreatRows
import Derived.Test.YthdfplafihmejaaGreatZtUPlainY
import Derived.Test.YthdfplafihmejaaGreatZtVPlain
import Derived.Test.YthdfplafihmejaaGreatZtVPlain2
import Derived.Test.YthdfplafihmejaaGreatZtVWrap
import Derived.Test.YthdfplafihmejaaGreatZtCLike
import Derived.Deep.CondSized
namespace Go.Proofs.YthdfplafihmejaaGreat
open Go.ChangeShapes Go.WideShapes Go.ChangeAt Go.RowKit
theorem zor {H:Type} (d:DataW H):1<=Rows.uptoBulk d:=by
 cases d with
 | lit l=>cases l <;> simp [Rows.uptoBulk]
 | nil=>simp [Rows.uptoBulk]
 | ptr d=>simp [Rows.uptoBulk]
 | slice elems spare=>simp [Rows.uptoBulk]
 | agg parts=>simp [Rows.uptoBulk]
 | iface t d=>simp [Rows.uptoBulk]
 | map entries=>simp [Rows.uptoBulk]
 | held h=>simp [Rows.uptoBulk]
theorem zcx {H:Type} {d:DataW H} {l:List (DataW H)} (h:d∈l):Rows.uptoBulk d<=Rows.uptoBulkAll l:=by
 induction l with
 | nil=>cases h
 | cons x r ih=>
  simp only [Rows.uptoBulkAll];cases List.mem_cons.1 h with
  | inl e=>subst e;omega
  | inr e=>have:=ih e;omega
theorem zos {H:Type} (l:List (DataW H)):l.length<=Rows.uptoBulkAll l:=by
 induction l with
 | nil=>simp [Rows.uptoBulkAll]
 | cons x r ih=>have:=zor x;simp only [Rows.uptoBulkAll,List.length_cons];omega
section
variable {W:World} {H:Type} {enc:TypeId × Value->H} {P:Program}
theorem zah {t e:TypeId} {fuel:Nat} {a:Option Addr} {n c:Nat} {x:DataW H × List MemPlace} (ht:P.underlying t=some (.slice e)) (h:DataW.trod enc P W 0 (fun _=>true) true fuel t [.slice a n c]=some x):n<=Rows.uptoBulk x.1:=by
 rcases Deep.open_slice ht h with ⟨hcs,_⟩ | ⟨_,len,cap,m,k,D,Pl,hcs,_,_,_,_,hd,_⟩
 · simp at hcs;omega
 · simp at hcs
   obtain ⟨_,rfl,_⟩:=hcs;rw [hd];simp only [Rows.uptoBulk];have:=zos ((List.range n).map D);rw [zq4,List.length_range] at this;omega
theorem zgP {t e:TypeId} {fuel:Nat} {g o n c:Nat} {x:DataW H × List MemPlace} (ht:P.underlying t=some (.slice e)) (h:DataW.trod enc P W 0 (fun _=>true) true fuel t [.slice (some ⟨g,o,none⟩) n c]=some x) {j:Nat} (hj:j < n):
  ∃ k cs y,DataW.trod enc P W 0 (fun _=>true) true k e cs=some y∧Rows.uptoBulk y.1<=Rows.uptoBulk x.1∧∀ i,i < P.cellsOf e->W.cell? ⟨g,o+j*P.cellsOf e+i,none⟩=cs[i]?:=by
 rcases Deep.open_slice ht h with ⟨hcs,_⟩ | ⟨ad,len,cap,m,k,D,Pl,hcs,_,hl,_,hm,hd,hel⟩
 · simp at hcs
 · simp at hcs
   obtain ⟨rfl,rfl,rfl⟩:=hcs;simp at hm;obtain ⟨cs,h1,h2⟩:=hel j (by omega);refine ⟨k,cs,_,h2,?_,fun i hi=>?_⟩
   · rw [hd]
     simp only [Rows.uptoBulk];have:=zcx (d:=D j) (l:=(List.range n).map D) (List.mem_map.2 ⟨j,List.mem_range.2 hj,rfl⟩);omega
   · have g:=(World.cells?_some h1).2.2 i hi
     simp only [yN] at g;exact g
theorem zd0 {t:TypeId} {fs:Array Field} {fuel:Nat} {cs:List Value} {x:DataW H × List MemPlace} (ht:P.underlying t=some (.struct fs)) (h:DataW.trod enc P W 0 (fun _=>true) true fuel t cs=some x) {i:Nat} {f:Field} (hf:fs[i]? = some f):
  ∃ k y,DataW.trod enc P W 0 (fun _=>true) true k f.type ((cs.drop f.offset).take (P.cellsOf f.type))=some y∧Rows.uptoBulk y.1<=Rows.uptoBulk x.1∧y.1∈(match x.1 with | .agg l=>l | _=>[]):=by
 obtain ⟨xs,n,_,rfl,hl,hlen,hp⟩:=DataW.trod_struct ht h
 have hi:i < xs.length:=by
  rw [hlen];exact (Array.getElem?_eq_some_iff.1 hf).1
 obtain ⟨y,hy⟩:∃ y,xs[i]? = some y:=⟨_,zq0 hi⟩;have hm:y.1∈xs.map (·.1):=List.mem_map.2 ⟨y,zq2 hy,rfl⟩;refine ⟨n,y,?_,?_,hm⟩
 · rw [hp i f hf];exact hy
 · simp only [Rows.uptoBulk]
   have:=zcx hm;omega
end
theorem drop_one {l:List Value} {i:Nat} {v:Value} (h:l[i]? = some v):(l.drop i).take 1=[v]:=by
 have hl:=(zq1.1 h).1;rw [List.drop_eq_getElem_cons hl,(zq1.1 h).2];rfl
section
variable {W:World} {H:Type} {enc:TypeId × Value->H}
theorem zmR {a:Option Addr} {n c:Nat} {d:DataW H} {ps:List MemPlace} {G:Nat->Prop} {P:List (zq × Value)} (h:DataW.Trod enc Tryz.prog W 0 (fun _=>true) true 23 (.slice a n c) d ps) (hP:ym W (.slice a n c) G P):P.length<=Rows.uptoBulk d∧∀ x∈zk P,x.fr.length<=Rows.uptoBulk d:=by
 obtain ⟨fuel,hf⟩:=h;have hf':DataW.trod enc Tryz.prog W 0 (fun _=>true) true fuel 23 [.slice a n c]=some (d,ps):=hf;obtain ⟨la,cap,e,_,hc⟩:=hP;cases e;refine ⟨zah Tryz.underlying23 hf',fun x hx=>?_⟩;unfold zk at hx;obtain ⟨p,hp,rfl⟩:=List.mem_map.1 hx;obtain ⟨j,hj⟩:=List.mem_iff_getElem?.1 hp;obtain ⟨g,o,sa,sc,rfl,_,_,_,_,_,c3,_⟩:=hc j p hj;obtain ⟨k,cs,y,h1,h2,h3⟩:=zgP Tryz.underlying23 hf' (zq1.1 hj).1;rw [Tryz.cellsCert] at h3;have e3:cs[3]? = some (.slice sa p.1.fr.length sc):=by rw [<- h3 3 (by decide)];exact c3
 obtain ⟨k2,z,z1,z2,_⟩:=zd0 (i:=3) Tryz.underlying64 h1 rfl;have z1:DataW.trod enc Tryz.prog W 0 (fun _=>true) true k2 26 ((cs.drop 3).take (Tryz.prog.cellsOf 26))=some z:=z1;rw [Tryz.cellsSet,drop_one e3] at z1;have h4:=zah Tryz.underlying26 z1;have h5:Rows.uptoBulk y.1<=Rows.uptoBulk d:=h2;omega
theorem zof {a:Option Addr} {n c:Nat} {d:DataW H} {ps:List MemPlace} {G:Nat->Prop} {L:List Za} (h:DataW.Trod enc Tryz.prog W 0 (fun _=>true) true 24 (.slice a n c) d ps) (hL:ZI W (.slice a n c) G L):L.length<=Rows.uptoBulk d∧∀ x∈L,x.2.length<=Rows.uptoBulk d:=by
 obtain ⟨fuel,hf⟩:=h;have hf':DataW.trod enc Tryz.prog W 0 (fun _=>true) true fuel 24 [.slice a n c]=some (d,ps):=hf;obtain ⟨la,cap,e,_,_⟩:=hL.shape;cases e;refine ⟨zah Tryz.underlying24 hf',fun x hx=>?_⟩;obtain ⟨j,hj⟩:=List.mem_iff_getElem?.1 hx;obtain ⟨g,o,sa,sc,rfl,_,_,c1,_⟩:=hL.get hj;obtain ⟨k,cs,y,h1,h2,h3⟩:=zgP Tryz.underlying24 hf' (zq1.1 hj).1;rw [Tryz.cellsEntry] at h3;have e1:cs[1]? = some (.slice sa x.2.length sc):=by rw [<- h3 1 (by decide)];exact c1
 obtain ⟨k2,z,z1,z2,_⟩:=zd0 (i:=1) Tryz.underlying56 h1 rfl;have z1:DataW.trod enc Tryz.prog W 0 (fun _=>true) true k2 26 ((cs.drop 1).take (Tryz.prog.cellsOf 26))=some z:=z1;rw [Tryz.cellsSet,drop_one e1] at z1;have h4:=zah Tryz.underlying26 z1;have h5:Rows.uptoBulk y.1<=Rows.uptoBulk d:=h2;omega
theorem zdG {t e:TypeId} {fuel:Nat} {v:Value} {x:DataW H × List MemPlace} (ht:Tryz.prog.underlying t=some (.slice e)) (h:DataW.trod enc Tryz.prog W 0 (fun _=>true) true fuel t [v]=some x):∃ a n c,v=.slice a n c:=by
 rcases Deep.open_slice ht h with ⟨hcs,_⟩ | ⟨_,_,_,_,_,_,_,hcs,_⟩
 · simp at hcs;exact ⟨_,_,_,hcs⟩
 · simp at hcs;exact ⟨_,_,_,hcs⟩
structure zhO (W:World) (v:Value) (ra:Option Addr) (R:List zF) (rc:Nat) (pv lv cv:Value) (P:List (zq × Value)) (L:List Za) (op:Int) (c:List ByteArray) (b:Int):Prop where
 val:v=.agg #[.slice ra R.length rc,pv,lv,.int .i64 op,cv,.int .i64 b]
 rules:zjK W (.slice ra R.length rc) R
 fit:zjJ R
 certs:zjP W pv P
 cfit:zdK P
 ents:ZI W lv (· < W.heap.size) L
 set:xf W cv (· < W.heap.size) c
 up:zqN R (zk P) L c
theorem Tryz.cellsAsk:Tryz.prog.cellsOf 28=6:=by kernel_rfl
theorem Tryz.cellsRules:Tryz.prog.cellsOf 22=1:=by kernel_rfl
theorem Tryz.cellsCerts:Tryz.prog.cellsOf 23=1:=by kernel_rfl
theorem Tryz.cellsEntries:Tryz.prog.cellsOf 24=1:=by kernel_rfl
set_option maxRecDepth 100000 in
theorem zhD {cs:Array Value} {d:DataW H} {ps:List MemPlace} (h:DataW.Trod enc Tryz.prog W 0 (fun _=>true) true 28 (.agg cs) d ps) (hb:Rows.uptoBulk d<=1048576) (hw:∀ x∈d.weights Tryz.prog 28,x<=reachBytes):
  ∃ ra R rc pv lv cv P L op c b,zhO W (.agg cs) ra R rc pv lv cv P L op c b:=by
 obtain ⟨fuel,hf⟩:=h;have hf':DataW.trod enc Tryz.prog W 0 (fun _=>true) true fuel 28 cs.toList=some (d,ps):=hf;obtain ⟨xs,n,_,he,hl,hlen,hp⟩:=DataW.trod_struct Tryz.underlying28 hf';rw [Tryz.cellsAsk] at hl
 have hcs:∃ c0 c1 c2 c3 c4 c5,cs=#[c0,c1,c2,c3,c4,c5]:=by
  match cs,hl with
  | ⟨[c0,c1,c2,c3,c4,c5]⟩,_=>exact ⟨c0,c1,c2,c3,c4,c5,rfl⟩
 obtain ⟨c0,c1,c2,c3,c4,c5,rfl⟩:=hcs
 match xs,hlen with
 | [y0,y1,y2,y3,y4,y5],_=>
 have ed:d=.agg [y0.1,y1.1,y2.1,y3.1,y4.1,y5.1]:=congrArg Prod.fst he;subst ed;have t0:DataW.trod enc Tryz.prog W 0 (fun _=>true) true n 22 [c0]=some y0:=hp 0 _ rfl;have t1:DataW.trod enc Tryz.prog W 0 (fun _=>true) true n 23 [c1]=some y1:=hp 1 _ rfl;have t2:DataW.trod enc Tryz.prog W 0 (fun _=>true) true n 24 [c2]=some y2:=hp 2 _ rfl;have t3:DataW.trod enc Tryz.prog W 0 (fun _=>true) true n 3 [c3]=some y3:=hp 3 _ rfl;have t4:DataW.trod enc Tryz.prog W 0 (fun _=>true) true n 26 [c4]=some y4:=hp 4 _ rfl;have t5:DataW.trod enc Tryz.prog W 0 (fun _=>true) true n 3 [c5]=some y5:=hp 5 _ rfl;obtain ⟨a0,n0,k0,rfl⟩:=zdG Tryz.underlying22 t0;obtain ⟨a1,n1,k1,rfl⟩:=zdG Tryz.underlying23 t1;obtain ⟨a2,n2,k2,rfl⟩:=zdG Tryz.underlying24 t2;obtain ⟨a4,n4,k4,rfl⟩:=zdG Tryz.underlying26 t4;obtain ⟨op,e3,_,_⟩:=DataW.trod_int Tryz.underlying3 t3;obtain ⟨b,e5,_,_⟩:=DataW.trod_int Tryz.underlying3 t5;simp at e3 e5;subst e3 e5;have T0:DataW.Trod enc Tryz.prog W 0 (fun _=>true) true 22 (.slice a0 n0 k0) y0.1 y0.2:=⟨n,t0⟩;have T1:DataW.Trod enc Tryz.prog W 0 (fun _=>true) true 23 (.slice a1 n1 k1) y1.1 y1.2:=⟨n,t1⟩;have T2:DataW.Trod enc Tryz.prog W 0 (fun _=>true) true 24 (.slice a2 n2 k2) y2.1 y2.2:=⟨n,t2⟩;have T4:DataW.Trod enc Tryz.prog W 0 (fun _=>true) true 26 (.slice a4 n4 k4) y4.1 y4.2:=⟨n,t4⟩;simp only [DataW.weights,Tryz.underlying28,List.map_cons,List.map_nil,DataW.weightsEach,zrc] at hw;obtain ⟨R,hR,hRf⟩:=zib T0;obtain ⟨P,hP,hPf⟩:=ziN T1;obtain ⟨L,hL⟩:=zkX T2;obtain ⟨c,hc⟩:=zlC T4;obtain ⟨la,cap,e,_⟩:=hR.at_;cases e;simp only [Rows.uptoBulk,Rows.uptoBulkAll] at hb;have b0:=zah Tryz.underlying22 t0;obtain ⟨b1,f1⟩:=zmR T1 hP.at_;obtain ⟨b2,f2⟩:=zof T2 hL;have b4:=zah Tryz.underlying26 t4;have e4:n4=c.length:=by obtain ⟨_,_,e,_⟩:=hc.at_;cases e;rfl
 refine ⟨a0,R,k0,_,_,_,P,L,op,c,b,rfl,hR,hRf (fun x hx=>hw x (.inl hx)),hP,hPf (fun x hx=>hw x (.inr (.inl hx))),hL,hc,⟨by omega,by rw [zQ];omega,by omega,by omega,fun k hk=>by have:=f1 k hk;omega,fun x hx=>by have:=f2 x hx;omega⟩⟩
end
open Go.Maps
section
variable {W:World} {H:Type} {enc:TypeId × Value->H}
instance:Inhabited zL:=⟨⟨[],[]⟩⟩
theorem Tryz.cellsWhy:Tryz.prog.cellsOf 39=3:=by kernel_rfl
theorem Tryz.cellsProof17:Tryz.prog.cellsOf 83=2:=by kernel_rfl
def zoO (W:World) (v:Value) (y:zdL):Prop:=∃ tv pv,v=.agg #[.int .i64 y.entry,tv,pv]∧zby W tv pv (· < W.heap.size) y∧∀ p∈y.proofs,xz p
end
deriving instance DecidableEq for zP
deriving instance DecidableEq for zL
def zmN (roots:Int) (C:List zq) (p:zL):Bool:=decide (0<=roots) && (((List.range p.items.length).all fun k=>match p.items[k]? with
 | some x=>zes roots C p.items k x
 | none=>true) && yP roots (tot C p.items p.items.length) p.steps)
theorem zk6 {roots:Int} {C:List zq} {p:zL}:zmN roots C p=true↔yF roots C p:=by
 unfold zmN;rw [zrl,zrl,decide_eq_true_eq,zrh];constructor
 ·rintro ⟨h1,h2,h3⟩
  refine ⟨h1,fun k x hx=>?_,h3⟩;have:=h2 k (List.mem_range.2 (zq1.1 hx).1);rw [hx] at this;exact this
 ·rintro ⟨h1,h2,h3⟩
  refine ⟨h1,fun k _=>?_,h3⟩;cases hx:p.items[k]? with
  | none=>rfl
  | some x=>exact h2 k x hx
theorem znU {R:List zF} {C:List zq} {x u:ByteArray} {b:Int} {s:ASt} {q:zL} (h1:Zc R C b=.ok s) (h2:ZU s.rules x u b=0) (h3:zmN R.length C (yh R C b s x u)=true) (h4:zgE R.length C (yh R C b s x u)=q):xl R C x u b=(0,q):=by
 unfold xl;rw [h1];simp only;rw [if_pos h2,if_pos (zk6.1 h3),h4]
def zoI (x:Except Int ASt) (s:ASt):Bool:=match x with
 | .ok t=>decide (t.order=s.order) && decide (t.rules=s.rules)
 | .error _=>false
theorem zl9 {x:Except Int ASt} {s:ASt} (h:zoI x s=true):x=.ok s:=by
 unfold zoI at h;cases x with
 | error e=>cases h
 | ok t=>
  simp only [zrl,decide_eq_true_eq] at h;cases t;cases s;simp at h;rw [h.1,h.2]
deriving instance DecidableEq for zgA
def k17 (i:Nat):ByteArray:=⟨#[32,UInt8.ofNat i]⟩
def n17:ByteArray:=⟨#[96,1]⟩
def zeJ:List zF:=[(n17,k17 1)]
def zeK:List zq:=[⟨6,8193,k17 2,[n17],0,0,0⟩]
def ze9:List Za:=[(0,[n17])]
def zk9:ASt:=⟨[0],[(n17,k17 1),(n17,k17 2)]⟩
def zmW:zL:=⟨[⟨0,[[(0,0)]]⟩],[(0,1)]⟩
theorem zot:Zc zeJ zeK 9=.ok zk9:=zl9 (by decide +kernel)
theorem zmV:xl zeJ zeK n17 (k17 2) 9=(0,zmW):=znU zot (by decide +kernel) (by decide +kernel) (by decide +kernel)
theorem zoL:yG zeJ zeK ze9 0 [k17 2] 9=(0,⟨1,0,false,zk9.rules⟩):=by decide +kernel
theorem zpL:yG zeJ zeK ze9 0 [k17 3] 9=(0,⟨0,-1,false,zk9.rules⟩):=by decide +kernel
theorem zqj:yG zeJ zeK ze9 0 [n17] 1=(0,⟨1,0,true,[]⟩):=by decide +kernel
theorem zqi:yG zeJ zeK ze9 0 [k17 3] 1=(0,⟨2,0,false,[]⟩):=by decide +kernel
def ze8:zdL:=⟨0,[0],[zmW]⟩
theorem zqk:Yt zeJ zeK ze9 0 [k17 2] 9=(1,ze8,0):=by
 unfold Yt;rw [zoL,if_pos ⟨rfl,rfl⟩];have t:toW ⟨1,0,false,zk9.rules⟩ 9 [k17 2] n17=0:=by decide +kernel
 have w:zgK ze9 0=[n17]:=rfl;unfold zhZ;simp only [w,List.map_cons,List.map_nil,t];unfold zg6;rw [if_neg (by decide),t];show ((1:Int),(⟨0,[0],[(xl zeJ zeK n17 (k17 2) 9).2]⟩:zdL),(0:Int))=_;rw [zmV];rfl
theorem zqh:Yt zeJ zeK ze9 0 [n17] 1=(1,⟨0,[0],[⟨[],[]⟩]⟩,0):=by
 unfold Yt;rw [zqj,if_pos ⟨rfl,rfl⟩];have t:toW ⟨1,0,true,[]⟩ 1 [n17] n17=0:=by decide +kernel
 have w:zgK ze9 0=[n17]:=rfl;unfold zhZ;simp only [w,List.map_cons,List.map_nil,t];unfold zg6;rw [if_pos rfl];rfl
theorem zql:zfI zeJ zeK ze9 0 [k17 2] ze8=0:=by decide +kernel
theorem zpM:zfI zeJ zeK ze9 0 [k17 3] ze8=13:=by decide +kernel
theorem zbR (w:World) (i:Nat) (z:Int) (hz:z=i) (x:ByteArray) (hi:i < 100) (hx:(⟨(Zg [8192+i]).toArray⟩:ByteArray)=x):Calls Tryz.prog 29 #[.int .i64 z] w fun e w'=>e=.returned (.string x)∧Chg (fun _=>False) w w':=by
 subst hz;have w1:IntKind.i64.wrap (8192+(i:Int))=((8192+i:Nat):Int):=by rw [IntKind.wrap_i64];omega
 have w2:IntKind.u16.wrap ((8192+i:Nat):Int)=((8192+i:Nat):Int):=by show ((8192+i:Nat):Int) % 65536=_;omega
 have OF:=ze (zl8 w (8192+i) _ rfl x (by omega) hx);clear hx;go_enter Tryz.func29,Tryz.ntmps29;generalize 8192+i=n at *;go_wp2_with fail;(with_reducible refine OF.out.mono ?_);rintro e w2 ⟨rfl,k2⟩;go_wp2;go_ret;exact ⟨rfl,k2⟩
theorem zoe {w:World} {b:Nat} {op:Int} {sv:Value} {l:List ByteArray} {G:Nat->Prop} (ho:w.heap[b]? = some (.cells #[.int .i64 op,sv] 56 (0,0))) (hs:xf w sv G l) (hb:G b):ZI w (.slice (some ⟨b,0,none⟩) 1 1) G [(op,l)]:=by
 refine ⟨[(op,sv)],some ⟨b,0,none⟩,1,rfl,by simp,by simp [maxLen],(fun e=>by cases e),⟨rfl,fun j e x h1 h2=>?_⟩,fun j u hj=>⟨b,0,rfl,hb,?_⟩⟩
 · cases j with
   | zero=>cases h1;cases h2;exact ⟨rfl,hs⟩
   | succ j=>simp at h1
 · rw [Nat.zero_add]
   exact zf ho (by simpa [yk] using hj)
theorem zcw {w:World} {b:Nat} {a0 a1 a2 a3 a4 a5:Value} {t:TypeId} {f:Nat × Nat} (h:w.heap[b]? = some (.cells #[a0,a1,a2,a3,a4,a5] t f)):w.cell? ⟨b,0,none⟩=some a0∧w.cell? ⟨b,1,none⟩=some a1∧w.cell? ⟨b,2,none⟩=some a2∧w.cell? ⟨b,3,none⟩=some a3∧w.cell? ⟨b,4,none⟩=some a4∧w.cell? ⟨b,5,none⟩=some a5:=
 ⟨zf (o:=0) h rfl,zf (o:=1) h rfl,zf (o:=2) h rfl,zf (o:=3) h rfl,zf (o:=4) h rfl,zf (o:=5) h rfl⟩
theorem zfj {w W:World} {ra:Option Addr} {R:List zF} {rc:Nat} {v:Value} {P:List (zq × Value)} (h:Yb w ra R rc v P (· < w.heap.size)) (k:Chg (fun _=>False) w W):Yb W ra R rc v P (· < W.heap.size):=
 ⟨(h.rules.chg k (fun _ _ e=>e)).imp (fun _ hj=>zq7 hj k.size),h.nil,h.many,h.size,(h.certs.chg k (fun _ _ e=>e)).up (fun _ hj=>zq7 hj k.size),h.few,fun _ hj=>hj⟩
theorem zoW (w:World) (a:ByteArray) (hs:a.size<=100):zx (w.alloc (.cells #[.string a] 57)) (.slice (some ⟨w.heap.size,0,none⟩) 1 1) (· < (w.alloc (.cells #[.string a] 57)).heap.size) [a]:=
 (zcc w a hs).at_.up (fun k hk=>by rw [hk,zq8];omega)
theorem ziT {w:World} {ba:Nat} {a0 a1 a2 a3 a4 a5:Value} {x:ByteArray} (ho:w.heap[ba]? = some (.cells #[a0,a1,a2,a3,a4,a5] 28 (0,0))) (hx:x.size<=100) (W:World) (hW:W=(w.alloc (.cells #[.string x] 57)).setCell ⟨ba,4,none⟩ (.slice (some ⟨w.heap.size,0,none⟩) 1 1)):
  W.heap[ba]? = some (.cells #[a0,a1,a2,a3,.slice (some ⟨w.heap.size,0,none⟩) 1 1,a5] 28 (0,0))∧Chg (fun j=>j=ba) w W∧zx W (.slice (some ⟨w.heap.size,0,none⟩) 1 1) (· < W.heap.size) [x]:=by
 subst hW;have ka:=zi (fun _=>False) w (.cells #[.string x] 57);have hl:=zr ho;have kc:=zG (w.alloc (.cells #[.string x] 57)) ba 4 (.slice (some ⟨w.heap.size,0,none⟩) 1 1);refine ⟨zt (o:=4) (ka.obj (fun e=>e) ho) _,(ka.mono (fun _ _ e=>e.elim)).trans kc,?_⟩;refine ((zcc w x hx).at_.chg kc (fun k hk e=>by omega)).up (fun k hk=>?_);have:=kc.size;rw [zq8] at this;omega
set_option maxHeartbeats 8000000 in
set_option maxRecDepth 100000 in
theorem zeI (w:World):Calls Tryz.prog 9 #[] w fun e w'=>e=.returned (.bool true)∧Chg (fun _=>False) w w':=by
 obtain ⟨y,hy⟩:∃ y,y=n17:=⟨_,rfl⟩;obtain ⟨x1,hx1⟩:∃ y,y=k17 1:=⟨_,rfl⟩;obtain ⟨x2,hx2⟩:∃ y,y=k17 2:=⟨_,rfl⟩;obtain ⟨x3,hx3⟩:∃ y,y=k17 3:=⟨_,rfl⟩;obtain ⟨zy,z1,z2,z3⟩:y.size<=100∧x1.size<=100∧x2.size<=100∧x3.size<=100:=by subst hy hx1 hx2 hx3;decide +kernel
 obtain ⟨CC,hCC⟩:∃ CC:List zq,CC=[⟨6,8193,x2,[y],0,0,0⟩]:=⟨_,rfl⟩;have EE:=ze (show Yt [(y,x1)] CC [(0,[y])] 0 [x2] 9=(1,⟨0,[0],[zmW]⟩,0) by subst hCC hy hx1 hx2;exact zqk);have EZ:=ze (show Yt [(y,x1)] CC [(0,[y])] 0 [y] 1=(1,⟨0,[0],[⟨[],[]⟩]⟩,0) by subst hCC hy hx1 hx2;exact zqh);have D1:=ze (show yG [(y,x1)] CC [(0,[y])] 0 [x2] 9=(0,⟨1,0,false,zk9.rules⟩) by subst hCC hy hx1 hx2;exact zoL);have D3:=ze (show yG [(y,x1)] CC [(0,[y])] 0 [x3] 9=(0,⟨0,-1,false,zk9.rules⟩) by subst hCC hy hx1 hx2 hx3;exact zpL);have DO:=ze (show yG [(y,x1)] CC [(0,[y])] 0 [x3] 1=(0,⟨2,0,false,[]⟩) by subst hCC hy hx1 hx2 hx3;exact zqi);have C1:=ze (show zfI [(y,x1)] CC [(0,[y])] 0 [x2] ze8=0 by subst hCC hy hx1 hx2;exact zql);have C3:=ze (show zfI [(y,x1)] CC [(0,[y])] 0 [x3] ze8=13 by subst hCC hy hx1 hx2 hx3;exact zpM);have O1:=ze (zl8 w 24577 24577 rfl y (by decide) (by rw [hy];rfl));have KW1:=ze (fun w=>zbR w 1 1 rfl x1 (by decide) (by rw [hx1];rfl));have KW2:=ze (fun w=>zbR w 2 2 rfl x2 (by decide) (by rw [hx2];rfl));have KW3:=ze (fun w=>zbR w 3 3 rfl x3 (by decide) (by rw [hx3];rfl));clear hy hx1 hx2 hx3;have e1:∀ args w,(callFunc 29 args).run Tryz.prog w=.ok (.enter 29 args) w:=enters_of Tryz.func29 (by kernel_rfl) rfl;go_enter Tryz.func9,Tryz.ntmps9;go_wp2_with fail;(with_reducible refine O1.out.mono ?_);rintro e w1 ⟨rfl,k1⟩;have K1:=ze k1;clear k1 O1;go_wp2_with fail;(with_reducible refine (KW1.out _).mono ?_);rintro e w2 ⟨rfl,k2⟩;have K2:=ze (K1.out.trans k2);clear k2 K1;go_wp2_with fail;have kr:=zi (fun _=>False) w2 (.cells #[.string y,.string x1] 66);have OR3:=ze (show (w2.alloc (.cells #[.string y,.string x1] 66)).ownsRow w2.heap.size 66 2 (.slice (some ⟨w2.heap.size,0,none⟩) 1 1) 1 (zD [(y,x1)]) from zis rfl (by decide));have K3:=ze (K2.out.trans kr);clear kr K2;generalize w2.alloc (.cells #[.string y,.string x1] 66)=w3 at *;generalize w2.heap.size=gr at *;(with_reducible refine (KW2.out _).mono ?_);rintro e w4 ⟨rfl,k4⟩;have K4:=ze (K3.out.trans k4);have OR4:=ze (zn OR3.out k4 (fun _ _ e=>e));clear k4 K3 OR3;obtain ⟨w5,hw5⟩:∃ W,W=w4.alloc (.cells #[.string y] 57):=⟨_,rfl⟩;obtain ⟨w6,hw6⟩:∃ W,W=w5.alloc (.cells #[.int .i64 6,.int .u16 8193,.string x2,.slice (some ⟨w4.heap.size,0,none⟩) 1 1,.int .i64 0,.int .i64 0,.int .i64 0] 64):=⟨_,rfl⟩;obtain ⟨w7,hw7⟩:∃ W,W=w6.alloc (.cells #[.string y] 57):=⟨_,rfl⟩;obtain ⟨w8,hw8⟩:∃ W,W=w7.alloc (.cells #[.int .i64 0,.slice (some ⟨w6.heap.size,0,none⟩) 1 1] 56):=⟨_,rfl⟩;have s5:w5.heap.size=w4.heap.size+1:=by rw [hw5,zq8]
 have s6:w6.heap.size=w4.heap.size+1+1:=by rw [hw6,zq8,s5]
 have s7:w7.heap.size=w4.heap.size+1+1+1:=by rw [hw7,zq8,s6]
 have s8:w8.heap.size=w4.heap.size+1+1+1+1:=by rw [hw8,zq8,s7]
 have q5:Chg (fun _=>False) w4 w5:=by rw [hw5];exact zi _ _ _
 have q6:Chg (fun _=>False) w5 w6:=by rw [hw6];exact zi _ _ _
 have q7:Chg (fun _=>False) w6 w7:=by rw [hw7];exact zi _ _ _
 have q8:Chg (fun _=>False) w7 w8:=by rw [hw8];exact zi _ _ _
 obtain ⟨PP,hPP⟩:∃ PP:List (zq × Value),PP=[(⟨6,8193,x2,[y],0,0,0⟩,.slice (some ⟨w4.heap.size,0,none⟩) 1 1)]:=⟨_,rfl⟩;have HCP:zk PP=CC:=by subst hPP hCC;rfl
 have HPL:PP.length=1:=by subst hPP;rfl
 have SA:xf w8 (.slice (some ⟨w4.heap.size,0,none⟩) 1 1) (· < w8.heap.size) [y]:=by
  have:=zcc w4 y zy;rw [<- hw5] at this;exact (this.chg (q6.trans (q7.trans q8)) (fun _ _ e=>e)).up (fun k hk=>by rw [hk];omega)
 have SB:xf w8 (.slice (some ⟨w6.heap.size,0,none⟩) 1 1) (· < w8.heap.size) [y]:=by
  have:=zcc w6 y zy;rw [<- hw7] at this;exact (this.chg q8 (fun _ _ e=>e)).up (fun k hk=>by rw [hk];omega)
 have CA:ym w8 (.slice (some ⟨w5.heap.size,0,none⟩) 1 1) (· < w8.heap.size) PP:=by
  have ow:w6.ownsRow w5.heap.size 64 7 (.slice (some ⟨w5.heap.size,0,none⟩) 1 1) PP.length (zbP PP):=by rw [hw6];subst hPP;exact zis rfl (by decide)
  have ow8:=zn ow (q7.trans q8) (fun _ _ e=>e)
  have st:zqp w8 (· < w8.heap.size) PP:=fun p hp=>by
   rw [hPP,List.mem_singleton] at hp;subst hp;exact ⟨_,_,rfl,SA,by simp only;unfold maxLen;omega,by simp⟩
  exact (ziM ow8 st).up (fun k hk=>hk.elim id (fun e=>(ow8.lt k e).2))
 have EA:ZI w8 (.slice (some ⟨w7.heap.size,0,none⟩) 1 1) (· < w8.heap.size) [(0,[y])]:=by
  refine zoe ?_ SB (by omega);rw [hw8];exact zh _ _
 have OR8:=zn OR4.out (q5.trans (q6.trans (q7.trans q8))) (fun _ _ e=>e)
 have RA:=ze (show Yb w8 (some ⟨gr,0,none⟩) [(y,x1)] 1 (.slice (some ⟨w5.heap.size,0,none⟩) 1 1) PP (· < w8.heap.size) from
  ⟨(Xm OR8 (fun r hr=>by rw [List.mem_singleton] at hr;subst hr;unfold maxLen;simp only;omega)).imp (fun k hk=>(OR8.lt k hk).2),(fun e=>by cases e),(by simp),(fun _ r hr=>by rw [List.mem_singleton] at hr;subst hr;simp only;omega),CA,(by rw [HPL];omega),fun k hk=>hk⟩)
 have ENT:=ze EA;have K8:=ze (K4.out.trans (q5.trans (q6.trans (q7.trans q8))));have HCPH:=ze HCP;have HPLH:=ze HPL;rw [s5] at RA;rw [s7] at ENT;rw [s6,hw7,hw6,hw5] at hw8;clear hPP hCC OR4 OR8 CA EA SA SB HCP HPL q5 q6 q7 q8 K4 s5 s6 s7 s8;have HW8:=ze hw8;clear hw8 hw5 hw6 hw7;go_wp2_with fail;rw [<- HW8.out];clear HW8;generalize w4.heap.size+1+1+1=be at *;generalize w4.heap.size+1=bc at *
 have ASK:=ze (fun W (k:Chg (fun _=>False) w8 W) cv c (hc:zx W cv (· < W.heap.size) c)=>show zgC W (some ⟨gr,0,none⟩) [(y,x1)] 1 (.slice (some ⟨bc,0,none⟩) 1 1) (.slice (some ⟨be,0,none⟩) 1 1) cv PP [(0,[y])] c (· < W.heap.size) from
  ⟨zfj RA.out k,(ENT.out.chg k (fun _ _ e=>e)).up (fun _ hj=>zq7 hj k.size),by simp,hc⟩)
 have DEC:=ze (fun W (k:Chg (fun _=>False) w8 W) cv c b q (hc:zx W cv (· < W.heap.size) c) (hq:yG [(y,x1)] CC [(0,[y])] 0 c b=q)=>show Calls Tryz.prog 11 #[.agg #[.slice (some ⟨gr,0,none⟩) 1 1,.slice (some ⟨bc,0,none⟩) 1 1,.slice (some ⟨be,0,none⟩) 1 1,.int .i64 0,cv,.int .i64 b]] W (fun e w'=>e=.returned (.tuple #[.int .i64 q.2.ans,.int .i64 q.1])∧Chg (fun _=>False) W w') from by
  have:=zjH W (some ⟨gr,0,none⟩) [(y,x1)] 1 _ _ cv PP [(0,[y])] 0 c b _ (ASK.out W k cv c hc);rw [HCPH.out,hq] at this;exact this)
 have EXP:=ze (fun W (k:Chg (fun _=>False) w8 W) cv c b q (hc:zx W cv (· < W.heap.size) c) (hq:Yt [(y,x1)] CC [(0,[y])] 0 c b=q)=>show Calls Tryz.prog 13 #[.agg #[.slice (some ⟨gr,0,none⟩) 1 1,.slice (some ⟨bc,0,none⟩) 1 1,.slice (some ⟨be,0,none⟩) 1 1,.int .i64 0,cv,.int .i64 b]] W (zjO W q) from by
  have:=zgs W (some ⟨gr,0,none⟩) [(y,x1)] 1 _ _ cv PP [(0,[y])] 0 c b _ (ASK.out W k cv c hc);rw [HCPH.out,hq] at this;exact this)
 have CHK:=ze (fun W (k:Chg (fun _=>False) w8 W) cv c q tv pv (hc:zx W cv (· < W.heap.size) c) (hw:zby W tv pv (· < W.heap.size) ze8) (hq:zfI [(y,x1)] CC [(0,[y])] 0 c ze8=q)=>show Calls Tryz.prog 18 #[.slice (some ⟨gr,0,none⟩) 1 1,.slice (some ⟨bc,0,none⟩) 1 1,.slice (some ⟨be,0,none⟩) 1 1,.int .i64 0,cv,.agg #[.int .i64 0,tv,pv]] W (fun e w'=>e=.returned (.int .i64 q)∧Chg (fun _=>False) W w') from by
  have R:=zfj RA.out k
  have:=zff W (some ⟨gr,0,none⟩) [(y,x1)] 1 _ _ cv tv pv PP [(0,[y])] 0 c ze8 _ _ ⟨R.rules,R.nil,by simp,R.certs,R.few⟩ (ASK.out W k cv c hc).ents (by simp) hc hw ⟨fun p hp=>by
   have e:p=zmW:=by simpa [ze8] using hp
   rw [e];decide⟩
  rw [HCPH.out,hq] at this;exact this)
 clear RA ENT HCPH HPLH ASK;(with_reducible refine (KW2.out _).mono ?_);rintro e w9 ⟨rfl,k9⟩;have SC:=zoW w9 x2 z2;have ka:=zi (fun _=>False) w9 (.cells #[.string x2] 57);have SCH:=ze SC;have KA:=ze (k9.trans ka);have hg:w9.heap.size < (w9.alloc (.cells #[.string x2] 57)).heap.size:=by rw [zq8];omega
 have eg:(w9.alloc (.cells #[.string x2] 57)).heap.size=w9.heap.size+1:=zq8 _ _;have kb:=zi (fun _=>False) (w9.alloc (.cells #[.string x2] 57)) (.cells #[.slice (some ⟨gr,0,none⟩) 1 1,.slice (some ⟨bc,0,none⟩) 1 1,.slice (some ⟨be,0,none⟩) 1 1,.int .i64 0,.slice (some ⟨w9.heap.size,0,none⟩) 1 1,.int .i64 9] 28);have oa:=zh (w9.alloc (.cells #[.string x2] 57)) (.cells #[.slice (some ⟨gr,0,none⟩) 1 1,.slice (some ⟨bc,0,none⟩) 1 1,.slice (some ⟨be,0,none⟩) 1 1,.int .i64 0,.slice (some ⟨w9.heap.size,0,none⟩) 1 1,.int .i64 9] 28);rw [eg] at oa;have OA:=ze oa;have SC11:=ze ((SC.chg kb (fun _ _ e=>e)).up (fun j hj=>zq7 hj kb.size));have K11:=ze (KA.out.trans kb);have A8:=ze (show w8.heap.size<=w9.heap.size+1 from by have:=k9.size;omega);clear KW2 SC ka SCH KA kb oa eg k9 hg;go_wp2_with fail;generalize (w9.alloc (.cells #[.string x2] 57)).alloc (.cells #[.slice (some ⟨gr,0,none⟩) 1 1,.slice (some ⟨bc,0,none⟩) 1 1,.slice (some ⟨be,0,none⟩) 1 1,.int .i64 0,.slice (some ⟨w9.heap.size,0,none⟩) 1 1,.int .i64 9] 28)=w11 at *;generalize w9.heap.size+1=ba at *;generalize w9.heap.size=g9 at *;have X:=ze (EXP.out w11 K11.out _ [x2] 9 _ SC11.out EE.out);(with_reducible refine X.out.mono ?_);rintro e w12 ⟨k12,tv,pv,rfl,hy⟩;clear X EE;have HY:=ze hy;obtain ⟨ta,tc,e1',_,_⟩:=hy.ways;have e1':tv=.slice ta 1 tc:=e1';subst e1';obtain ⟨qa,qc,e2,_,hps⟩:=hy.proofs;have e2:pv=.slice qa 1 qc:=e2;subst e2;obtain ⟨lb,lo,iv,sv,rfl,hlb,_,p1,hpp⟩:=hps 0 zmW rfl;obtain ⟨s1,s3,e3⟩:=hpp.steps.shape;have e3:sv=.slice s1 1 s3:=e3;subst e3;have hba:ba < w11.heap.size:=zr OA.out;have kb:=zi (fun _=>False) w12 (.cells #[.int .i64 0,.slice ta 1 tc,.slice (some ⟨lb,lo,none⟩) 1 qc] 39);have ob:=zh w12 (.cells #[.int .i64 0,.slice ta 1 tc,.slice (some ⟨lb,lo,none⟩) 1 qc] 39);have OA13:=ze ((k12.trans kb).obj (fun e=>e) OA.out);have SC13:=ze ((SC11.out.chg (k12.trans kb) (fun _ _ e=>e)).up (fun j hj=>zq7 hj (k12.trans kb).size));have K13:=ze (K11.out.trans (k12.trans kb));have HY13:=ze ((HY.out.chg kb (fun _ _ e=>e)).up (fun j hj=>zq7 hj.2 kb.size));have hb5:ba < w12.heap.size:=zq7 hba k12.size;have hlb5:ba < lb:=zq7 hba hlb.1
 have FY:=ze (fun (W:World) (k:Chg (fun j=>j=ba) (w12.alloc (.cells #[.int .i64 0,.slice ta 1 tc,.slice (some ⟨lb,lo,none⟩) 1 qc] 39)) W)=>
  And.intro (show W.heap[w12.heap.size]? = some (.cells #[.int .i64 0,.slice ta 1 tc,.slice (some ⟨lb,lo,none⟩) 1 qc] 39 (0,0)) from k.obj (fun e=>by omega) ob)
   (And.intro (show W.cell? ⟨lb,lo+1,none⟩=some (.slice s1 1 s3) from zj k (fun e=>by omega) (zj kb (fun e=>e) (by simpa using p1)))
    (show zby W (.slice ta 1 tc) (.slice (some ⟨lb,lo,none⟩) 1 qc) (· < W.heap.size) ze8 from ((HY.out.chg kb (fun _ _ e=>e)).chg k (fun j hj e=>by have:=hj.1;omega)).up (fun j hj=>zq7 hj.2 (Nat.le_trans kb.size k.size)))))
 have AW:=ze (show ba < (w12.alloc (.cells #[.int .i64 0,.slice ta 1 tc,.slice (some ⟨lb,lo,none⟩) 1 qc] 39)).heap.size from by have:=kb.size;omega);obtain ⟨c0,c1,c2,c3,c4,c5⟩:=zcw OA13.out;clear hy hps hpp p1 kb ob k12 OA SC11 K11 HY HY13 hba hb5 hlb5 hlb;go_wp2_with fail;generalize w12.alloc (.cells #[.int .i64 0,.slice ta 1 tc,.slice (some ⟨lb,lo,none⟩) 1 qc] 39)=w13 at *;generalize w12.heap.size=b5 at *;have X:=ze (DEC.out w13 K13.out _ [x2] 9 _ SC13.out D1.out);(with_reducible refine X.out.mono ?_);rintro e w14 ⟨rfl,k14⟩;have OA14:=ze (k14.obj (fun e=>e) OA13.out);have SC14:=ze ((SC13.out.chg k14 (fun _ _ e=>e)).up (fun j hj=>zq7 hj k14.size));have K14:=ze (K13.out.trans k14);have B14:=ze (show Chg (fun j=>j=ba) w13 w14 from k14.mono (fun _ _ e=>e.elim));clear X D1 k14 c0 c1 c2 c3 c4 c5 OA13 SC13 K13;obtain ⟨c0,c1,c2,c3,c4,c5⟩:=zcw OA14.out;obtain ⟨fy,fs,fw⟩:=FY.out w14 B14.out;have y0:=zf (o:=0) fy rfl;have y1:=zf (o:=1) fy rfl;have y2:=zf (o:=2) fy rfl;have X:=ze (CHK.out w14 K14.out _ [x2] _ _ _ SC14.out fw C1.out);clear fy fs fw C1;go_wp2_with fail;(with_reducible refine X.out.mono ?_);rintro e w15 ⟨rfl,k15⟩;have OA15:=ze (k15.obj (fun e=>e) OA14.out);have K15:=ze (K14.out.trans k15);have B15:=ze (show Chg (fun j=>j=ba) w13 w15 from B14.out.trans (k15.mono (fun _ _ e=>e.elim)));clear X k15 c0 c1 c2 c3 c4 c5 y0 y1 y2 OA14 SC14 K14 B14;go_wp2_with fail;(with_reducible refine (KW3.out _).mono ?_);rintro e w16 ⟨rfl,k16⟩;have O16:=ze (k16.obj (fun e=>e) OA15.out);have K16:=ze (K15.out.trans k16);have B16:=ze (show Chg (fun j=>j=ba) w13 w16 from B15.out.trans (k16.mono (fun _ _ e=>e.elim)));clear k16 OA15 K15 B15;have ka:=zi (fun _=>False) w16 (.cells #[.string x3] 57);have oa:=ka.obj (fun e=>e) O16.out;obtain ⟨c0,c1,c2,c3,c4,c5⟩:=zcw oa;have f4:=zm (o:=4) oa;go_wp2_with fail;obtain ⟨W,hW⟩:∃ W,W=(w16.alloc (.cells #[.string x3] 57)).setCell ⟨ba,4,none⟩ (.slice (some ⟨w16.heap.size,0,none⟩) 1 1):=⟨_,rfl⟩;obtain ⟨o',k',s'⟩:=ziT O16.out z3 W hW;rw [<- hW];have O18:=ze o';have S18:=ze s';have K18:=ze (K16.out.next k' (fun k hk e=>by have:=A8.out;omega));have B18:=ze (B16.out.trans k');clear hW o' k' s' O16 K16 B16 ka oa c0 c1 c2 c3 c4 c5 f4;generalize w16.heap.size=g18 at *;generalize W=w18 at *;have X:=ze (DEC.out w18 K18.out _ [x3] 9 _ S18.out D3.out);(with_reducible refine X.out.mono ?_);rintro e w19 ⟨rfl,k19⟩;have O19:=ze (k19.obj (fun e=>e) O18.out);have S19:=ze ((S18.out.chg k19 (fun _ _ e=>e)).up (fun j hj=>zq7 hj k19.size));have K19:=ze (K18.out.trans k19);have B19:=ze (B18.out.trans (k19.mono (T:=fun j=>j=ba) (fun _ _ e=>e.elim)));clear X D3 k19 O18 S18 K18 B18;obtain ⟨c0,c1,c2,c3,c4,c5⟩:=zcw O19.out;obtain ⟨fy,fs,fw⟩:=FY.out w19 B19.out;have y0:=zf (o:=0) fy rfl;have y1:=zf (o:=1) fy rfl;have y2:=zf (o:=2) fy rfl;have X:=ze (CHK.out w19 K19.out _ [x3] _ _ _ S19.out fw C3.out);clear fy fs fw C3;go_wp2_with fail;(with_reducible refine X.out.mono ?_);rintro e w20 ⟨rfl,k20⟩;have O20:=ze (k20.obj (fun e=>e) O19.out);have K20:=ze (K19.out.trans k20);have B20:=ze (B19.out.trans (k20.mono (T:=fun j=>j=ba) (fun _ _ e=>e.elim)));clear X k20 c0 c1 c2 c3 c4 c5 y0 y1 y2 O19 S19 K19 B19;have ka:=zi (fun _=>False) w20 (.cells #[.string y] 57);have oa:=ka.obj (fun e=>e) O20.out;obtain ⟨c0,c1,c2,c3,c4,c5⟩:=zcw oa;have f4:=zm (o:=4) oa;have f5:=zm (o:=5) oa;go_wp2_with fail;obtain ⟨W,hW⟩:∃ W,W=(w20.alloc (.cells #[.string y] 57)).setCell ⟨ba,4,none⟩ (.slice (some ⟨w20.heap.size,0,none⟩) 1 1):=⟨_,rfl⟩;obtain ⟨o',k',s'⟩:=ziT O20.out zy W hW;rw [<- hW];have kc:=zG W ba 5 (.int .i64 1);have O23:=ze (zt (o:=5) o' (.int .i64 1))
 have S23:=ze (show zx (W.setCell ⟨ba,5,none⟩ (.int .i64 1)) (.slice (some ⟨w20.heap.size,0,none⟩) 1 1) (· < (W.setCell ⟨ba,5,none⟩ (.int .i64 1)).heap.size) [y] from by
  subst hW;have kk:=zG (w20.alloc (.cells #[.string y] 57)) ba 4 (.slice (some ⟨w20.heap.size,0,none⟩) 1 1);have hl:=zr O20.out;refine (((zcc w20 y zy).at_.chg kk (fun k hk e=>by omega)).chg kc (fun k hk e=>by omega)).up (fun k hk=>?_);have h1:=kk.size;have h2:=kc.size;rw [zq8] at h1;omega)
 have K23:=ze ((K20.out.next k' (fun k hk e=>by have:=A8.out;omega)).next kc (fun k hk e=>by have:=A8.out;omega));have B23:=ze ((B20.out.trans k').trans kc);clear hW o' k' s' kc O20 K20 B20 ka oa c0 c1 c2 c3 c4 c5 f4 f5;generalize w20.heap.size=g20 at *;generalize W.setCell ⟨ba,5,none⟩ (.int .i64 1)=w23 at *;have X:=ze (EXP.out w23 K23.out _ [y] 1 _ S23.out EZ.out);(with_reducible refine X.out.mono ?_);rintro e w24 ⟨k24,tv2,pv2,rfl,hy⟩;have HY:=ze hy;obtain ⟨ta2,tc2,e1',_,_⟩:=hy.ways;have e1':tv2=.slice ta2 1 tc2:=e1';subst e1';obtain ⟨qa2,qc2,e2,_,hps⟩:=hy.proofs;have e2:pv2=.slice qa2 1 qc2:=e2;subst e2;obtain ⟨lb2,lo2,iv2,sv2,rfl,hlb,_,p1,hpp⟩:=hps 0 ⟨[],[]⟩ rfl;obtain ⟨s4,s6,e3⟩:=hpp.steps.shape;have e3:sv2=.slice s4 0 s6:=e3;subst e3;have hba:ba < w23.heap.size:=zr O23.out;have kb:=zi (fun _=>False) w24 (.cells #[.int .i64 0,.slice ta2 1 tc2,.slice (some ⟨lb2,lo2,none⟩) 1 qc2] 39);have ob:=zh w24 (.cells #[.int .i64 0,.slice ta2 1 tc2,.slice (some ⟨lb2,lo2,none⟩) 1 qc2] 39);have O25:=ze ((k24.trans kb).obj (fun e=>e) O23.out);have K25:=ze (K23.out.trans (k24.trans kb));have B25:=ze (B23.out.trans ((k24.trans kb).mono (T:=fun j=>j=ba) (fun _ _ e=>e.elim)));have hb5:ba < w24.heap.size:=zq7 hba k24.size;have hlb5:ba < lb2:=zq7 hba hlb.1
 have FZ:=ze (fun (W:World) (k:Chg (fun j=>j=ba) (w24.alloc (.cells #[.int .i64 0,.slice ta2 1 tc2,.slice (some ⟨lb2,lo2,none⟩) 1 qc2] 39)) W)=>
  And.intro (show W.heap[w24.heap.size]? = some (.cells #[.int .i64 0,.slice ta2 1 tc2,.slice (some ⟨lb2,lo2,none⟩) 1 qc2] 39 (0,0)) from k.obj (fun e=>by omega) ob)
   (show W.cell? ⟨lb2,lo2+1,none⟩=some (.slice s4 0 s6) from zj k (fun e=>by omega) (zj kb (fun e=>e) (by simpa using p1))))
 obtain ⟨c0,c1,c2,c3,c4,c5⟩:=zcw O25.out;clear X EZ hy hps hpp p1 kb ob k24 O23 S23 K23 B23 HY hba hb5 hlb5 hlb;go_wp2_with fail;clear c0 c1 c2 c3 c4 c5;generalize w24.alloc (.cells #[.int .i64 0,.slice ta2 1 tc2,.slice (some ⟨lb2,lo2,none⟩) 1 qc2] 39)=w25 at *;generalize w24.heap.size=b14 at *;(with_reducible refine (KW3.out _).mono ?_);rintro e w26 ⟨rfl,k26⟩;have O26:=ze (k26.obj (fun e=>e) O25.out);have K26:=ze (K25.out.trans k26);have B26:=ze (B25.out.trans (k26.mono (T:=fun j=>j=ba) (fun _ _ e=>e.elim)));have Z26:=ze (show Chg (fun j=>j=ba) w25 w26 from k26.mono (fun _ _ e=>e.elim));clear k26 O25 K25 B25;have ka:=zi (fun _=>False) w26 (.cells #[.string x3] 57);have oa:=ka.obj (fun e=>e) O26.out;obtain ⟨c0,c1,c2,c3,c4,c5⟩:=zcw oa;have f4:=zm (o:=4) oa;go_wp2_with fail;obtain ⟨W,hW⟩:∃ W,W=(w26.alloc (.cells #[.string x3] 57)).setCell ⟨ba,4,none⟩ (.slice (some ⟨w26.heap.size,0,none⟩) 1 1):=⟨_,rfl⟩;obtain ⟨o',k',s'⟩:=ziT O26.out z3 W hW;rw [<- hW];have S28:=ze s';have K28:=ze (K26.out.next k' (fun k hk e=>by have:=A8.out;omega));have B28:=ze (B26.out.trans k');have Z28:=ze (Z26.out.trans k');clear hW o' k' s' O26 K26 B26 Z26 ka oa c0 c1 c2 c3 c4 c5 f4;generalize w26.heap.size=g28 at *;generalize W=w28 at *;have X:=ze (DEC.out w28 K28.out _ [x3] 1 _ S28.out DO.out);(with_reducible refine X.out.mono ?_);rintro e w29 ⟨rfl,k29⟩;have K29:=ze (K28.out.trans k29);obtain ⟨fy,fs,_⟩:=FY.out w29 (B28.out.trans (k29.mono (T:=fun j=>j=ba) (fun _ _ e=>e.elim)));obtain ⟨fz,fs2⟩:=FZ.out w29 (Z28.out.trans (k29.mono (T:=fun j=>j=ba) (fun _ _ e=>e.elim)));have y1:=zf (o:=1) fy rfl;have y2:=zf (o:=2) fy rfl;have w2:=zf (o:=2) fz rfl;clear X DO k29 S28 K28 B28 Z28 fy fz FY FZ DEC EXP CHK;go_wp2;go_ret;exact ⟨rfl,K8.out.trans K29.out⟩
theorem zle.small {R:List zF} {C:List zq} {L:List Za} {c:List ByteArray} (h:zle R C L c) (h4:R.length<=400):∀ r∈R,r.1.size<=100∧r.2.size<=100:=by
 have:=h.word;rwa [List.take_of_length_le (by omega)] at this
theorem zle.ask {R:List zF} {P:List (zq × Value)} {L:List Za} {c:List ByteArray} (h:zle R (zk P) L c) {w W:World} {xv:Value} {ra:Option Addr} {rc:Nat} {pv lv cv:Value} {op b:Int} (hx:zhO w xv ra R rc pv lv cv P L op c b) (k:Chg (fun _=>False) w W):zgC W ra R rc pv lv cv P L c (· < W.heap.size):=
 ⟨⟨(hx.rules.at_.chg k (fun _ _ e=>e)).imp (fun _ hj=>zq7 hj k.size),fun e=>hx.rules.nil _ _ (by rw [e]),by have:=hx.fit.2;omega,fun h4 r hr=>by have:=(h.small h4 r hr).1;omega,(hx.certs.at_.chg k (fun _ _ e=>e)).up (fun _ hj=>zq7 hj k.size),by have:=h.certs;rw [zQ] at this;omega,fun _ hj=>hj⟩,
  (hx.ents.chg k (fun _ _ e=>e)).up (fun _ hj=>zq7 hj k.size),by have:=h.ents;omega,(hx.set.at_.chg k (fun _ _ e=>e)).up (fun _ hj=>zq7 hj k.size)⟩
theorem zfy {w W:World} {xv:Value} {ra:Option Addr} {R:List zF} {rc:Nat} {pv lv cv:Value} {P:List (zq × Value)} {L:List Za} {op:Int} {c:List ByteArray} {b:Int} (hx:zhO w xv ra R rc pv lv cv P L op c b) (k:Chg (fun _=>False) w W):Calls Tryz.prog 10 #[.agg #[.slice ra R.length rc,pv,lv,.int .i64 op,cv,.int .i64 b]] W (zfP W R (zk P) L c):=
 ziz W ra R rc pv lv cv P L op b c ((hx.rules.at_.chg k (fun _ _ e=>e)).imp (fun _ hj=>zq7 hj k.size)) ((hx.certs.at_.chg k (fun _ _ e=>e)).up (fun _ hj=>zq7 hj k.size)) ((hx.ents.chg k (fun _ _ e=>e)).up (fun _ hj=>zq7 hj k.size)) ((hx.set.chg k (fun _ _ e=>e)).up (fun _ hj=>zq7 hj k.size)) hx.up
end Go.Proofs.YthdfplafihmejaaGreat
