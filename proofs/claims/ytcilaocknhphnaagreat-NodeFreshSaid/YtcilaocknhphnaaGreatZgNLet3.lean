/-
  AEnt: what else. The reference's acl: may, Same, Add. The reference's acl: New. Package record: May; the reference's May. Package record: Encode. Package letter: certificates that are written. Package letter: a message that opens a channel, or hands certificates over, is right; its bytes.
-/
import Derived.Test.YtcilaocknhphnaaGreatZgCSet
import Derived.Test.YtcilaocknhphnaaGreatZgRBase
import Derived.Test.YtcilaocknhphnaaGreatZgURun
import Derived.Test.YtcilaocknhphnaaGreatZgDCheckZ
import Derived.Test.YtcilaocknhphnaaGreatZgANew
namespace Go.Proofs.YtcilaocknhphnaaGreat
open Go.RowKit Go.Maps
theorem zbf (w:World) (n:Int):Calls Tryz.prog 164 #[.int .i64 n] w fun e w'=>e=.returned (.bool (xL n))∧w=w':=by
 by_cases h0:0<=n
 ·have g0:decide (0<=n)=true:=zlx h0
  have R:=zf (show xL n=decide (n<=4611686018427387904) by unfold xL;rw [g0];rfl);go_enter Tryz.func164,Tryz.ntmps164;go_wp2;go_ret;exact ⟨by rw [R.out];rfl,rfl⟩
 ·have g0:decide (0<=n)=false:=zly h0
  have R:=zf (show xL n=false by unfold xL;rw [g0];rfl);go_enter Tryz.func164,Tryz.ntmps164;go_wp2;go_ret;exact ⟨by rw [R.out];rfl,rfl⟩
theorem zgz {r:zcn} {k:Nat} {o:Yr} (hk:r.objs[k]? = some o) (h:∀ x∈r.objs.take k,zaE x=true) (ho:zaE o=true):∀ x∈r.objs.take (k+1),zaE x=true:=by
 intro x hx;rw [zlR,hk] at hx;rcases zlL.1 hx with hx | hx
 ·exact h x hx
 ·simp at hx;subst hx;exact ho
theorem zhZ {r:zcn} {o:Yr} (hm:o∈r.objs) (ho:zaE o=false):xF r=false:=by
 cases h:xF r with
 | false=>rfl
 | true=>rw [(yE.1 h).2.2.2 o hm] at ho;cases ho
set_option maxHeartbeats 4000000 in
set_option maxRecDepth 100000 in
theorem zbg (w:World) (r:zcn) (oa:Option Addr) (oc:Nat) (G:Nat->Prop) (h:ZC w (.slice oa r.objs.length oc) G r.objs) (hf:∀ o∈r.objs,o.ents.length<=1000):
  Calls Tryz.prog 130 #[.agg #[.int .i64 r.boot,.slice oa r.objs.length oc]] w fun e w'=>e=.returned (.bool (xF r))∧Chg (fun _=>False) w w':=by
 have H:=zf h;have kb:=zi (fun _=>False) w (.cells #[.int .i64 r.boot,.slice oa r.objs.length oc] 40);have OB:=zf (zh w (.cells #[.int .i64 r.boot,.slice oa r.objs.length oc] 40));have KB:=zf kb;have hlm:r.objs.length<=maxLen:=by obtain ⟨_,_,e,h1,h2,_⟩:=h.shape;cases e;omega
 unfold maxLen at hlm;have c0:=zg (o:=0) OB.out rfl;have c1:=zg (o:=1) OB.out rfl;have HF:=zf hf;have B0:=zf (fun q:r.boot < 0=>show xF r=false by unfold xF;rw [zly (p:=0<=r.boot) (by omega)];rfl);have B1:=zf (fun q:40 < r.boot=>show xF r=false by unfold xF;rw [zly (p:=r.boot<=40) (by omega)];simp);have B2:=zf (fun q:4 < r.objs.length=>show xF r=false by unfold xF;rw [zly (p:=r.objs.length<=4) (by omega)];simp);have FIN:=zf (fun (a:0<=r.boot) (b:r.boot<=40) (c:r.objs.length<=4) (d:∀ x∈r.objs,zaE x=true)=>show xF r=true from yE.2 ⟨a,b,c,d⟩);have BAD:=zf (fun (o:Yr) (hm:o∈r.objs) (ho:zaE o=false)=>zhZ hm ho);obtain ⟨boot,objs⟩:=r;simp only at *;clear h kb hf;go_enter Tryz.func130,Tryz.ntmps130;by_cases q0:boot < 0
 ·have g0:decide (boot < 0)=true:=zlx q0
  go_wp2;go_ret;exact ⟨by rw [B0.out q0];rfl,KB.out⟩
 have g0:decide (boot < 0)=false:=zly q0;by_cases q1:40 < boot
 ·have g1:decide (40 < boot)=true:=zlx q1
  go_wp2;go_ret;exact ⟨by rw [B1.out q1];rfl,KB.out⟩
 have g1:decide (40 < boot)=false:=zly q1;by_cases q2:4 < objs.length
 ·have g2:decide (4 < (objs.length:Int))=true:=zlx (by omega)
  go_wp2;go_ret;exact ⟨by rw [B2.out q2];rfl,KB.out⟩
 have g2:decide (4 < (objs.length:Int))=false:=zly (by omega);have FIN2:=zf (FIN.out (by omega) (by omega) (by omega));clear B0 B1 B2 FIN;go_wp2;go_loopw [24] (fun iv wr=>∃ k:Nat,k<=objs.length∧iv=.int .i64 k∧Hid (∀ x∈objs.take k,zaE x=true)∧Hid (Chg (fun _=>False) w wr)) (fun iv _=>objs.length - (intOf iv).toNat)
 case atStart=>exact ⟨0,by omega,rfl,zf (fun x hx=>by simp at hx),KB⟩
 case round=>
  obtain ⟨k,hk,rfl,HA,HC⟩:=hrel;clear c0 c1;have hsz:w.heap.size<=wr.heap.size:=HC.out.size;by_cases hlt:k < objs.length
  ·obtain ⟨o,ho⟩:∃ o,objs[k]? = some o:=⟨_,zlz hlt⟩
   obtain ⟨g,p,ea,ec,rfl,_,d0,d1,d2,he⟩:=(H.out.chg HC.out (fun _ _ e=>e)).get ho;have hmem:=zlB ho;have ka:=zi (fun _=>False) wr (.cells #[.int .i64 o.val,.slice ea o.ents.length ec,.int .i64 o.ver] 37);have LN:=zf (zie (wr.alloc (.cells #[.int .i64 o.val,.slice ea o.ents.length ec,.int .i64 o.ver] 37)) _ o.ents G (he.chg ka (fun _ _ e=>e)) (HF.out o hmem));have KA:=zf (HC.out.trans ka);have RV:=zf (fun w=>zbf w o.val);have RW:=zf (fun w=>zbf w o.ver);have NXT:=zf (fun q:zaE o=true=>zgz (r:=⟨boot,objs⟩) ho HA.out q);have BD:=zf (BAD.out o hmem);have O1:=zf (fun q:xL o.val=false=>show zaE o=false by unfold zaE;rw [q];rfl);have O2:=zf (fun q:xL o.ver=false=>show zaE o=false by unfold zaE;rw [q];simp);have O3:=zf (fun q:za3 [] o.ents≠0=>show zaE o=false by unfold zaE;rw [zly q];simp);have O4:=zf (fun (a:xL o.val=true) (b:xL o.ver=true) (c:za3 [] o.ents=0)=>show zaE o=true by unfold zaE;rw [a,b,zlx c];rfl);clear ho he ka HA HC hmem;obtain ⟨val,ver,ents⟩:=o;simp only at *;generalize hbv:xL val=bv at *;generalize hbw:xL ver=bw at *;cases bv with
   | false=>
    go_wp2_with fail;(with_reducible refine (RV.out _).mono ?_);rintro e w2 ⟨rfl,rfl⟩;go_wp2;go_ret;exact ⟨by rw [BD.out (O1.out (by first | rfl | trivial))];rfl,KA.out⟩
   | true=>
    cases bw with
    | false=>
     go_wp2_with fail;(with_reducible refine (RV.out _).mono ?_);rintro e w2 ⟨rfl,rfl⟩;go_wp2_with fail;(with_reducible refine (RW.out _).mono ?_);rintro e w2 ⟨rfl,rfl⟩;go_wp2;go_ret;exact ⟨by rw [BD.out (O2.out (by first | rfl | trivial))];rfl,KA.out⟩
    | true=>
     go_wp2_with fail;(with_reducible refine (RV.out _).mono ?_);rintro e w2 ⟨rfl,rfl⟩;go_wp2_with fail;(with_reducible refine (RW.out _).mono ?_);rintro e w2 ⟨rfl,rfl⟩;go_wp2_with fail;(with_reducible refine LN.out.mono ?_);rintro e w2 ⟨r1,r2,k2⟩;have K2:=zf (KA.out.trans k2);by_cases hn:za3 [] ents=0
     ·obtain ⟨nb,rfl,_,_⟩:=r1 hn
      have NX:=zf (NXT.out (O4.out (by first | rfl | trivial) (by first | rfl | trivial) hn));clear r1 r2 k2 LN RV RW KA NXT BD O1 O2 O3 O4 hn;go_wp2;go_roundw
      case rel=>exact ⟨k+1,by omega,by go_num,NX,K2⟩
      case measure=>simp [intOf];omega
     ·obtain rfl:=r2 hn
      have BB:=zf (BD.out (O3.out hn));have g3:(za3 [] ents != 0)=true:=by rw [zlN];exact hn
      have g4:(za3 [] ents == 0)=false:=by rw [zlI];exact hn
      generalize za3 [] ents=ne at *;clear r1 r2 k2 LN RV RW KA NXT BD O1 O2 O3 O4 hn;go_wp2;go_ret;exact ⟨by rw [BB.out];rfl,K2.out⟩
  ·obtain rfl:k=objs.length:=by omega
   have DONE:=zf (FIN2.out (by have:=HA.out;rw [zlT] at this;exact this));clear HA;go_wp2;go_ret;exact ⟨by rw [DONE.out];rfl,HC.out⟩
theorem zex {l:List ByteArray} (h:xw l=true):(xK l).length<=273:=by
 have h1:=yS l (fun x hx=>Zm h hx);have h2:l.length<=16:=(xY h).2;unfold xK;rw [List.length_cons];omega
theorem ziA {x:ZE} (h:zec x=true):(zc8 x).length<=282:=by
 obtain ⟨h1,h2⟩:=Yj.1 h;have:=zex h2;have:=zbo (z:=x.1) (by omega);unfold zc8;rw [zlC];omega
theorem zaN:∀ (l:List ZE),(∀ x∈l,zec x=true)->(l.flatMap zc8).length<=282*l.length
 | [],_=>by simp
 | x :: l,h=>by
  have h1:=ziA (h x List.mem_cons_self);have h2:=zaN l (fun y hy=>h y (List.mem_cons_of_mem _ hy));rw [List.flatMap_cons,zlC,List.length_cons];omega
theorem zh9 {o:Yr} (h:zaE o=true):(zcm o).length<=3411:=by
 obtain ⟨h1,h2,_⟩:=zaj.1 h;obtain ⟨h3,h4⟩:=Yv h;have:=zaN o.ents h3;have:=zbo (z:=o.val) h1.2;have:=zbo (z:=o.ver) h2.2;have:=(YX (n:=o.ents.length) (by omega)).2;unfold zcm;simp only [zlC];omega
theorem Xg:∀ (l:List Yr),(∀ x∈l,zaE x=true)->(l.flatMap zcm).length<=3411*l.length
 | [],_=>by simp
 | x :: l,h=>by
  have h1:=zh9 (h x List.mem_cons_self);have h2:=Xg l (fun y hy=>h y (List.mem_cons_of_mem _ hy));rw [List.flatMap_cons,zlC,List.length_cons];omega
theorem zc3 {α:Type} {f:α->List UInt8} {l:List α} {k:Nat} {x:α} (hx:l[k]? = some x):(l.take (k+1)).flatMap f=(l.take k).flatMap f++f x:=by
 rw [zlR,hx,List.flatMap_append];simp
set_option maxHeartbeats 4000000 in
set_option maxRecDepth 100000 in
theorem zbh (w:World) (r:zcn) (oa:Option Addr) (oc:Nat) (G:Nat->Prop) (h:ZC w (.slice oa r.objs.length oc) G r.objs) (hf:∀ o∈r.objs,o.ents.length<=1000) (hG:∀ k,G k->k < w.heap.size):
  Calls Tryz.prog 55 #[.agg #[.int .i64 r.boot,.slice oa r.objs.length oc]] w fun e w'=>
   ((xF r=true∧e=.returned (.tuple #[.string ⟨(YI r).toArray⟩,.int .i64 0]))∨(xF r=false∧e=.returned (.tuple #[.string ⟨#[]⟩,.int .i64 2])))∧Chg (fun _=>False) w w':=by
 have H:=zf h;have HG:=zf hG;have kb:=zi (fun _=>False) w (.cells #[.int .i64 r.boot,.slice oa r.objs.length oc] 40);have OB:=zf (zh w (.cells #[.int .i64 r.boot,.slice oa r.objs.length oc] 40));have sz0:(w.alloc (.cells #[.int .i64 r.boot,.slice oa r.objs.length oc] 40)).heap.size=w.heap.size+1:=zlH _ _;have MY:=zf (zbg (w.alloc (.cells #[.int .i64 r.boot,.slice oa r.objs.length oc] 40)) r oa oc G (h.chg kb (fun _ _ e=>e)) hf);have KB:=zf kb;have RE:=zf (show YI r=zW r.boot.toNat++(zW r.objs.length++r.objs.flatMap zcm) from rfl);have RM:=zf (fun e:xF r=true=>yE.1 e);generalize YI r=re at *;generalize xF r=rb at *;obtain ⟨boot,objs⟩:=r;simp only at *;have c0:=zg (o:=0) OB.out rfl;have c1:=zg (o:=1) OB.out rfl;clear h kb hf hG;go_enter Tryz.func55,Tryz.ntmps55;go_wp2_with fail;(with_reducible refine MY.out.mono ?_);rintro e w1 ⟨rfl,k1⟩;clear MY c0 c1;cases rb with
 | false=>
  have K:=zf (KB.out.trans k1);go_wp2;go_ret2
  first | exact ⟨.inr ⟨rfl,rfl⟩,K.out⟩ | exact ⟨rfl,K.out⟩
 | true=>
  obtain ⟨m1,m2,m3,m4⟩:=RM.out rfl;have M4:=zf m4;have K01:=zf (KB.out.trans k1);have OB1:=zf (k1.obj (fun e=>e) OB.out);have hz1:w.heap.size+1<=w1.heap.size:=by have:=k1.size;omega
  clear RM m4 KB OB k1 sz0;have ka:=zi (fun _=>False) w1 (.cells #[.int .i64 0,.slice none 0 0] 255);have hsz2:(w1.alloc (.cells #[.int .i64 0,.slice none 0 0] 255)).heap.size=w1.heap.size+1:=zlH _ _;have N1:=zf (zgi (w1.alloc (.cells #[.int .i64 0,.slice none 0 0] 255)) (fun k=>w1.heap.size<=k) w1.heap.size [] boot ⟨⟨_,zh _ _,World.ownsRow_nil _ _ _ _,fun k e=>by cases e⟩,zlS _⟩ (fun k hk=>by rw [hsz2] at hk;show w1.heap.size<=k;omega) m1 (by omega) (by simp));have KA:=zf (K01.out.trans ka);have OB2:=zf (ka.obj (fun e=>e) OB1.out);have b0:=zg (o:=0) OB2.out rfl;clear ka OB1 K01;go_wp2_with fail;generalize w1.alloc (.cells #[.int .i64 0,.slice none 0 0] 255)=w2 at *;generalize hB:w1.heap.size=B at *;clear hB b0;(with_reducible refine N1.out.mono ?_);rintro e w3 ⟨rfl,o3,k3⟩;have hz3:w2.heap.size<=w3.heap.size:=k3.size;have OB3:=zf (k3.obj (fun e=>by omega) OB2.out);have b1:=zg (o:=1) OB3.out rfl;have K3:=zf (show Chg (fun k=>B<=k) w w3 from (KA.out.mono (fun _ _ e=>e.elim)).trans k3);have N2:=zf (xj w3 (fun k=>B<=k) B _ objs.length o3 (fun k hk=>by show B<=k;omega) (by omega) (by have:=zbo (z:=boot) (by omega);simp;omega));clear o3 k3 N1 KA OB2;go_wp2_with fail;(with_reducible refine N2.out.mono ?_);rintro e w4 ⟨rfl,o4,k4⟩;have O4:=zf o4;have K4:=zf (K3.out.trans k4);have hz4:B < w4.heap.size:=by have:=k4.size;omega
  have OB4:=k4.obj (fun e=>by omega) OB3.out;have b1':=zg (o:=1) OB4 rfl;have HW:=zf (fun (w':World) (k:Chg (fun k=>B<=k) w w')=>H.out.chg k (fun k hk e=>by have:=HG.out k hk;omega))
  have LL:=zf (show ([]++zW boot.toNat++zW objs.length).length<=18∧1<=([]++zW boot.toNat++zW objs.length).length from by
   have:=zbo (z:=boot) (by omega);have:=YX (n:=objs.length) (by omega);simp only [zlC,List.length_nil];omega)
  have RE2:=zf (show ([]++zW boot.toNat++zW objs.length)++objs.flatMap zcm=re from by rw [RE.out];simp);generalize []++zW boot.toNat++zW objs.length=p0 at *;clear o4 k4 N2 b1 OB3 OB4 K3 RE hz3;go_wp2;clear b1';go_loopw [22] (fun iv wr=>∃ k:Nat,k<=objs.length∧iv=.int .i64 k∧Hid (xA wr (fun k=>B<=k) B (p0++(objs.take k).flatMap zcm))∧Hid (Chg (fun k=>B<=k) w wr)) (fun iv _=>objs.length - (intOf iv).toNat)
  case atStart=>exact ⟨0,by omega,rfl,zf (by simpa using O4.out),K4⟩
  case round=>
   clear O4 K4 hz4;obtain ⟨k,hk,rfl,HO,HC⟩:=hrel;have hBr:B < wr.heap.size:=zu HO.out.row.choose_spec.1;by_cases hlt:k < objs.length
   ·obtain ⟨o,ho⟩:∃ o,objs[k]? = some o:=⟨_,zlz hlt⟩
    obtain ⟨g,p,ea,ec,rfl,_,d0,d1,d2,he⟩:=(HW.out _ HC.out).get ho;have hob:=M4.out o (zlB ho);obtain ⟨v1,v2,_⟩:=zaj.1 hob;obtain ⟨EB,e12⟩:=Yv hob;have EB:=zf EB;have FT:=zf (show p0++(objs.take (k+1)).flatMap zcm=(p0++(objs.take k).flatMap zcm)++zcm o from by rw [zc3 ho,List.append_assoc]);have L0:=Xg (objs.take k) (fun y hy=>M4.out y (List.mem_of_mem_take hy));rw [zlE] at L0;have OE:=zf (show zcm o=zW o.val.toNat++(zW o.ver.toNat++(zW o.ents.length++o.ents.flatMap zc8)) from rfl);have LC:(p0++(objs.take k).flatMap zcm).length<=15000:=by rw [zlC];have:=LL.out;omega
    generalize p0++(objs.take k).flatMap zcm=cur at *;generalize zcm o=oe at *;obtain ⟨val,ver,ents⟩:=o;simp only at *;have ka:=zi (fun _=>False) wr (.cells #[.int .i64 val,.slice ea ents.length ec,.int .i64 ver] 37);have sz:=zlH wr (.cells #[.int .i64 val,.slice ea ents.length ec,.int .i64 ver] 37);have OBJ:=zf (zh wr (.cells #[.int .i64 val,.slice ea ents.length ec,.int .i64 ver] 37));have O1:=zf ((HO.out.to (T:=fun k=>B<=k∧k≠wr.heap.size) (fun k hk e=>⟨e,by omega⟩)).chg ka (fun _ _ e=>e));have K1:=zf (HC.out.trans (ka.mono (fun _ _ e=>e.elim)));have HE:=zf (he.chg ka (fun _ _ e=>e));have p0':=zg (o:=0) OBJ.out rfl;have N1:=zf (zgi _ _ B cur val O1.out (fun k hk=>⟨by omega,by omega⟩) v1.1 v1.2 (by omega));clear ka he hob;go_wp2_with fail;generalize hT:wr.heap.size=T at *;generalize wr.alloc (.cells #[.int .i64 val,.slice ea ents.length ec,.int .i64 ver] 37)=wa at *;(with_reducible refine N1.out.mono ?_);rintro e w5 ⟨rfl,o5,k5⟩;have z5:wa.heap.size<=w5.heap.size:=k5.size;have OB5:=k5.obj (fun e=>e.2 rfl) OBJ.out;have q2:=zg (o:=2) OB5 rfl;have N2:=zf (zgi w5 _ B _ ver o5 (fun k hk=>⟨by omega,by omega⟩) v2.1 v2.2 (by have:=zbo (z:=val) v1.2;rw [zlC];omega));have K5:=zf k5;clear o5 k5 N1 O1 p0';go_wp2_with fail;(with_reducible refine N2.out.mono ?_);rintro e w6 ⟨rfl,o6,k6⟩;have z6:w5.heap.size<=w6.heap.size:=k6.size;have OB6:=k6.obj (fun e=>e.2 rfl) OB5;have q1:=zg (o:=1) OB6 rfl;have N3:=zf (xj w6 _ B _ ents.length o6 (fun k hk=>⟨by omega,by omega⟩) (by omega) (by have:=zbo (z:=val) v1.2;have:=zbo (z:=ver) v2.2;rw [zlC,zlC];omega));have K6:=zf (K5.out.trans k6);clear o6 k6 N2 OB5 q2 K5;go_wp2_with fail;(with_reducible refine N3.out.mono ?_);rintro e w7 ⟨rfl,o7,k7⟩;have z7:w6.heap.size<=w7.heap.size:=k7.size;have OB7:=k7.obj (fun e=>e.2 rfl) OB6;have q1':=zg (o:=1) OB7 rfl;have O7:=zf o7;have K7:=zf (K6.out.trans k7)
    have LD:(cur++zW val.toNat++zW ver.toNat++zW ents.length).length<=15027:=by
     have:=zbo (z:=val) v1.2;have:=zbo (z:=ver) v2.2;have:=(YX (n:=ents.length) (by omega)).2;simp only [zlC];omega
    have OE2:=zf (show (cur++zW val.toNat++zW ver.toNat++zW ents.length)++ents.flatMap zc8=cur++oe from by rw [OE.out];simp);generalize cur++zW val.toNat++zW ver.toNat++zW ents.length=cur2 at *;clear o7 k7 N3 OB6 q1 K6 OBJ OE;go_wp2;clear q1';go_loopw [39] (fun jv wr=>∃ j:Nat,j<=ents.length∧jv=.int .i64 j∧Hid (xA wr (fun k=>B<=k∧k≠T) B (cur2++(ents.take j).flatMap zc8))∧Hid (Chg (fun k=>B<=k∧k≠T) wa wr)) (fun jv _=>ents.length - (intOf jv).toNat)
    case atStart=>exact ⟨0,by omega,rfl,zf (by simpa using O7.out),K7⟩
    case round=>
     clear O7 K7;obtain ⟨j,hj,rfl,HO2,HC2⟩:=hrel;have z8:wa.heap.size<=wr.heap.size:=HC2.out.size;by_cases hlt2:j < ents.length
     ·obtain ⟨x,hx⟩:∃ x,ents[j]? = some x:=⟨_,zlz hlt2⟩
      obtain ⟨g2,p2,sa,sc,rfl,_,e0,e1,hs⟩:=(HE.out.chg HC2.out (fun k hk e=>by have:=HG.out k hk;omega)).get hx;obtain ⟨⟨x1,x2⟩,x3⟩:=Yj.1 (EB.out x (zlB hx));have L1:=zaN (ents.take j) (fun y hy=>EB.out y (List.mem_of_mem_take hy));rw [zlE] at L1;have FX:=zf (show cur2++(ents.take (j+1)).flatMap zc8=(cur2++(ents.take j).flatMap zc8)++zW x.1.toNat++xK x.2 from by rw [zc3 hx];unfold zc8;simp);have LE:(cur2++(ents.take j).flatMap zc8).length<=20000:=by rw [zlC];omega
      generalize cur2++(ents.take j).flatMap zc8=cur3 at *;obtain ⟨op,who⟩:=x;simp only at *;have kb:=zi (fun _=>False) wr (.cells #[.int .i64 op,.slice sa who.length sc] 34);have szb:=zlH wr (.cells #[.int .i64 op,.slice sa who.length sc] 34);have OBX:=zf (zh wr (.cells #[.int .i64 op,.slice sa who.length sc] 34));have O8:=zf ((HO2.out.to (T:=fun k=>B<=k∧k≠T∧k≠wr.heap.size) (fun k hk e=>⟨e.1,e.2,by omega⟩)).chg kb (fun _ _ e=>e));have K8:=zf (HC2.out.trans (kb.mono (fun _ _ e=>e.elim)));have HS8:=zf (hs.at_.chg kb (fun _ _ e=>e));have y0:=zg (o:=0) OBX.out rfl;have N4:=zf (zgi _ _ B cur3 op O8.out (fun k hk=>⟨by omega,by omega,by omega⟩) x1 (by omega) (by omega));clear kb hs hx HO2 HC2;go_wp2_with fail;generalize hT2:wr.heap.size=T2 at *;generalize wr.alloc (.cells #[.int .i64 op,.slice sa who.length sc] 34)=wb at *;(with_reducible refine N4.out.mono ?_);rintro e w9 ⟨rfl,o9,k9⟩;have z9:wb.heap.size<=w9.heap.size:=k9.size;have OB9:=k9.obj (fun e=>e.2.2 rfl) OBX.out;have y1:=zg (o:=1) OB9 rfl;have N5:=zf (zhR w9 _ B _ who sa who.length sc G o9 (fun k hk=>⟨by omega,by omega,by omega⟩) (HS8.out.chg k9 (fun k hk e=>by have:=HG.out k hk;omega)) (fun k hk e=>by have:=HG.out k hk;omega) x3 (by have:=zbo (z:=op) (by omega);rw [zlC];omega));have K9:=zf (K8.out.trans (k9.mono (fun k _ e=>⟨e.1,e.2.1⟩)));clear o9 k9 N4 O8 y0 K8;go_wp2_with fail;(with_reducible refine N5.out.mono ?_);rintro e w10 ⟨rfl,o10,k10⟩;rw [<- FX.out] at o10;have O10:=zf (o10.to (T:=fun k=>B<=k∧k≠T) (fun k _ e=>⟨e.1,e.2.1⟩));have K10:=zf (K9.out.trans (k10.mono (fun k _ e=>⟨e.1,e.2.1⟩)));clear o10 k10 N5 K9 y1 OB9 FX;go_wp2;go_roundw
      case rel=>exact ⟨j+1,by omega,by go_num,O10,K10⟩
      case measure=>simp [intOf];omega
     ·obtain rfl:j=ents.length:=by omega
      have FO:=HO2.out;rw [zlT,OE2.out,<- FT.out] at FO;have FO:=zf (FO.to (T:=fun k=>B<=k) (fun k _ e=>e.1));have KO:=zf (K1.out.trans (HC2.out.mono (fun k _ e=>e.1)));clear HO2 HC2 OE2 FT K1;go_wp2;go_roundw
      case rel=>exact ⟨k+1,by omega,by go_num,FO,KO⟩
      case measure=>simp [intOf];omega
   ·obtain rfl:k=objs.length:=by omega
    have FO:=HO.out;rw [zlT,RE2.out] at FO;have DN:=zf (zaD wr 0 B re FO.at_ (by rw [<- RE2.out,zlC];have:=LL.out;omega) (by rw [<- RE2.out,zlC];have:=LL.out;have:=Xg objs M4.out;omega));clear FO HO;go_wp2_with fail;(with_reducible refine DN.out.mono ?_);rintro e w9 ⟨rfl,rfl⟩;go_wp2;go_ret2;have KF:=(Chg.refl (fun _=>False) w).next HC.out (fun k hk (e:B<=k)=>by omega)
    first | exact ⟨.inl ⟨rfl,rfl⟩,KF⟩ | exact ⟨rfl,KF⟩
set_option maxHeartbeats 2000000 in
set_option maxRecDepth 100000 in
theorem zgI (w:World) (S:Nat->Prop) (b:Nat) (s:List UInt8) (t:ByteArray) (h:xA w S b s) (hS:∀ k,w.heap.size<=k->S k) (ht:t.size<=10000) (hs:s.length<=80000):
  Calls Tryz.prog 302 #[.pointer (some ⟨b,0,none⟩),.string t] w fun e w'=>e=.returned (.tuple #[])∧xA w' S b (s++YS t.data.toList)∧Chg S w w':=by
 have HS:=zf hS;have hbase:=h.base;have hnl:(zW t.size).length<=9:=Zl 8 _ (by omega);have NM:=zf (xj w S b s t.size h hS (by omega) (by omega));clear h;go_enter Tryz.func302,Tryz.ntmps302;go_wp2_with fail;(with_reducible refine NM.out.mono ?_);rintro e w1 ⟨rfl,h1,k1⟩;have K1:=zf k1;obtain ⟨v,q1,q2,q3⟩:=h1.row;have OS:=zf q3;have HSW:=zf (fun k (hk:w1.heap.size<=k)=>HS.out k (Nat.le_trans k1.size hk));have WE:=zf (Yf w1 b v q1);have OB:=zf q1;have OR:=zf q2;obtain ⟨va,vc,rfl⟩:=zl q2;have c1:=zg (o:=1) q1 rfl;have hl1:(s++zW t.size).length<=80009:=by rw [zlC];omega
 generalize hsl:s++zW t.size=s1 at *;have HSL:=zf hsl;clear hsl h1 q1 q2 q3 k1 NM;go_wp2_with fail;(with_reducible refine WE.out.mono ?_);rintro e w2 ⟨rfl,rfl⟩;clear WE;go_wp2_with (at_builtin;refine yW rfl (.tmp 16) (.tmp 17) 23 9 rfl 5 Tryz.underlying23 Tryz.underlying9 Tryz.infoByte 0 _ s1.length (zE s1) rfl OR.out t rfl ?e1 ?e2 ?e3)
 case e1=>omega
 case e2=>omega
 intro v9 w9 o9 g9 sn9;obtain ⟨a9,c9,rfl⟩:=zl o9
 have o9b:w9.ownsRow 0 5 1 (.slice a9 (s1.length+t.size) c9) (s1++t.data.toList).length (zE (s1++t.data.toList)):=by
  rw [ZK,zlC,zz];exact o9
 obtain ⟨h9,r1,r2⟩:=xo hbase OB.out OR.out o9b (Chg.of_grown g9) OS.out (zfg sn9 OS.out HSW.out);have EQ:s1++t.data.toList=s++YS t.data.toList:=by rw [<- HSL.out];unfold YS;rw [zz];simp
 rw [EQ] at r1;have R3:=zf r1;have R4:=zf (K1.out.trans r2);have q1:=zg (o:=1) h9 rfl;have f1:=zk (o:=1) h9;clear h9 r1 r2 o9b o9 g9 OB OR K1 c1 EQ HSL;go_wp2;go_end0;exact ⟨rfl,R3.out,R4.out⟩
def zjT (b:Nat):Value:=.func (.func 131) #[.pointer (some ⟨b,0,none⟩)] #[]
theorem Yl {c:zF} (h:Zj c=true):(Zk c).length<=400:=by
 have hm:=ZO h;have h1:=Zl 8 c.kind.toNat (by have:=hm.k7;omega);have h2:=Zl 8 c.sg (by have:=hm.sg;omega);have h3:=xV hm.sp;have h4:=zex hm.fr;have h5:=Zl 8 c.f.toNat (by have:=hm.f1;omega);have h6:=Zl 8 (c.t - c.f).toNat (by have:=hm.t1;have:=hm.f0;omega);have h7:=Zl 8 c.n.toNat (by have:=hm.n1;omega);unfold Zk;simp only [zlC];omega
theorem zha {L:List zF} {k:Nat} {c:zF} (hx:L[k]? = some c):((L.take (k+1)).flatMap fun c=>YS (Zk c))=((L.take k).flatMap fun c=>YS (Zk c))++YS (Zk c):=by
 rw [zlR,hx,List.flatMap_append];simp
theorem zge {c:zF} (h:Zj c=true):(YS (Zk c)).length<=409:=by
 have h1:=Yl h;have h2:=Zl 8 (Zk c).length (by omega);unfold YS;rw [zlC];omega
theorem zaM:∀ (L:List zF),(∀ c∈L,Zj c=true)->(L.flatMap fun c=>YS (Zk c)).length<=409*L.length
 | [],_=>by simp
 | c :: r,h=>by
  rw [List.flatMap_cons,zlC,List.length_cons];have h1:=zge (h c (by simp));have h2:=zaM r (fun x hx=>h x (by simp [hx]));omega
set_option maxHeartbeats 2000000 in
set_option maxRecDepth 100000 in
theorem zaH (w:World) (S:Nat->Prop) (b:Nat) (s:List UInt8) (v:Value) (G:Nat->Prop) (P:List (zF × Value)) (h:xA w S b s) (hS:∀ k,w.heap.size<=k->S k) (hv:yo w v G P) (hG:∀ k,G k->k < w.heap.size∧¬ S k) (hl:P.length<=8) (hc:∀ p∈P,Zj p.1=true) (hs:s.length<=1000):
  Calls Tryz.prog 265 #[.pointer (some ⟨b,0,none⟩),zjT b,v] w fun e w'=>e=.returned (.tuple #[])∧xA w' S b (s++zbD (P.map Prod.fst))∧Chg S w w':=by
 have HS:=zf hS;have HV:=zf hv;have HG:=zf hG;have HC:=zf hc
 have FL:=zf (fun k=>zaM ((P.map Prod.fst).take k) (fun c hx=>by
  obtain ⟨p,hp,rfl⟩:=List.mem_map.1 (List.mem_of_mem_take hx);exact hc p hp))
 obtain ⟨la,cap,rfl,hl0,_⟩:=hv;have hnl:(zW P.length).length<=9:=Zl 8 _ (by omega);have NM:=zf (xj w S b s P.length h hS (by omega) (by omega));unfold maxLen at hl0;unfold zjT;clear h hc;go_enter Tryz.func265,Tryz.ntmps265;go_wp2_with fail;(with_reducible refine NM.out.mono ?_);rintro e w1 ⟨rfl,h1,k1⟩;have H1:=zf h1;have K1:=zf k1;clear h1 k1 NM;go_wp2;go_loopw [16] (fun iv wr=>∃ k:Nat,k<=P.length∧iv=.int .i64 k∧Hid (xA wr S b (s++(zW P.length++((P.map Prod.fst).take k).flatMap fun c=>YS (Zk c)))∧Chg S w wr)) (fun iv _=>P.length - (intOf iv).toNat)
 case atStart=>exact ⟨0,by omega,rfl,zf ⟨by simpa using H1.out,K1.out⟩⟩
 case round=>
  obtain ⟨k,hk,rfl,HI⟩:=hrel;by_cases hlt:k < P.length
  ·obtain ⟨p,hp⟩:∃ p,P[k]? = some p:=⟨_,zlz hlt⟩
   have hcb:=HC.out p (zlB hp);have FT:=zf (zha (L:=P.map Prod.fst) (k:=k) (c:=p.1) (by rw [zlK,hp];rfl));obtain ⟨_,_,e1,_,hcl⟩:=HV.out.chg HI.out.2 (fun k e=>(HG.out k e).2);cases e1;obtain ⟨g,o,sa,sc,rfl,hg,e2,c0,c1,c2,c3,c4,c5,c6,hca⟩:=hcl k p hp;obtain ⟨⟨kind,sg,sp,fr,f,t,n⟩,pv⟩:=p;simp only at e2 c0 c1 c2 c3 c4 c5 c6 hca hcb FT;subst e2;have ka:=zi (fun _=>False) wr (.cells #[.int .i64 kind,.int .u16 (sg:Int),.string sp,.slice sa fr.length sc,.int .i64 f,.int .i64 t,.int .i64 n] 103);have hw:w.heap.size<=wr.heap.size:=HI.out.2.size;have EN:=xt _ ⟨kind,sg,sp,fr,f,t,n⟩ sa sc G (hca.chg ka (fun _ _ e=>e)) (fun k e=>by have:=(HG.out k e).1;have:=ka.size;omega);rw [hcb] at EN;unfold Zn XX at EN;have EN:=zf EN;have cl4:=Yl hcb;generalize hce:Zk ⟨kind,sg,sp,fr,f,t,n⟩=ce at *;have ss:(⟨ce.toArray⟩:ByteArray).size=ce.length:=by simp [ByteArray.size]
   have OA:=zf (HI.out.1.chg ka (fun _ _ e=>e));have KA:=zf (HI.out.2.trans (ka.mono (T:=S) (fun _ _ e=>e.elim)))
   have LN:=zf (show (s++(zW P.length++((P.map Prod.fst).take k).flatMap fun c=>YS (Zk c))).length<=80000 from by
    have:=FL.out k;rw [zlC,zlC];rw [zlE] at this;omega)
   clear hca hcl ka hp HI hce;go_wp2_with fail;(with_reducible refine EN.out.mono ?_);rintro e w2 ⟨(⟨_,rfl⟩ | ⟨q,_⟩),k2⟩
   rotate_left
   ·cases q
   have O2:=OA.out.chg k2 (fun _ _ e=>e);have K2:=zf (KA.out.trans (k2.mono (T:=S) (fun _ _ e=>e.elim)));have TX:=zf (zgI w2 S b _ ⟨ce.toArray⟩ O2 (fun k hk=>HS.out k (Nat.le_trans K2.out.size hk)) (by omega) LN.out);clear k2 O2 OA KA EN c0 c1 c2 c3 c4 c5 c6;go_wp2_with fail;(with_reducible refine TX.out.mono ?_);rintro e w3 ⟨rfl,h3,k3⟩
   have NX:=zf (show xA w3 S b (s++(zW P.length++((P.map Prod.fst).take (k+1)).flatMap fun c=>YS (Zk c)))∧Chg S w w3 from ⟨by
    rw [FT.out];have:=h3
    simpa [List.append_assoc] using this,K2.out.trans k3⟩)
   clear h3 k3 K2 TX;go_wp2;go_roundw
   case rel=>exact ⟨k+1,by omega,by go_num,NX⟩
   case measure=>simp [intOf];omega
  ·obtain rfl:k=P.length:=by omega
   have R:=zf (show xA wr S b (s++zbD (P.map Prod.fst))∧Chg S w wr from ⟨by
    have:=HI.out.1;unfold zbD;rwa [List.take_of_length_le (by simp),zlD] at *,HI.out.2⟩)
   clear HI;go_wp2;go_end0;exact ⟨rfl,R.out.1,R.out.2⟩
set_option maxHeartbeats 2000000 in
set_option maxRecDepth 100000 in
theorem zd5 (w:World) (c:Nat) (v:Value) (G:Nat->Prop) (P:List (zF × Value)) (hc:c / 8192=2) (hv:yo w v G P) (hl:P.length<=8) (hb:∀ p∈P,Zj p.1=true):
  Calls Tryz.prog 216 #[ziE 1 c v] w fun e w'=>e=.returned (.bool true)∧Chg (fun _=>False) w w':=by
 have CH:=zf (fun w=>zcZ w c (by omega));rw [show decide (c / 8192=2)=true from zlx hc] at CH;have CE:=zf (fun w' (k:Chg (fun _=>False) w w')=>zfF w' v G P (hv.chg k (fun _ _ e=>e)) hl hb);have BA:=zf (fun w=>zgT w 1);obtain ⟨la,cap,rfl,hl0,_⟩:=hv;have ka:=zi (fun _=>False) w (.cells #[.int .i64 1,.int .u16 (c:Int),.int .i64 0,.int .i64 0,.int .i64 0,.int .i64 0,.int .i64 0,.slice none 0 0,.int .i64 0,.int .i64 0,.string ⟨#[]⟩,.slice la P.length cap] 61);have kb:=zi (fun _=>False) (w.alloc (.cells #[.int .i64 1,.int .u16 (c:Int),.int .i64 0,.int .i64 0,.int .i64 0,.int .i64 0,.int .i64 0,.slice none 0 0,.int .i64 0,.int .i64 0,.string ⟨#[]⟩,.slice la P.length cap] 61)) (.cells #[.int .i64 1,.int .u16 0,.int .i64 0,.int .i64 0,.int .i64 0,.int .i64 0,.int .i64 0,.slice none 0 0,.int .i64 0,.int .i64 0,.string ⟨#[]⟩,.slice none 0 0] 61);have oa:=kb.obj (fun e=>e) (zh w (.cells #[.int .i64 1,.int .u16 (c:Int),.int .i64 0,.int .i64 0,.int .i64 0,.int .i64 0,.int .i64 0,.slice none 0 0,.int .i64 0,.int .i64 0,.string ⟨#[]⟩,.slice la P.length cap] 61));have ob:=zh (w.alloc (.cells #[.int .i64 1,.int .u16 (c:Int),.int .i64 0,.int .i64 0,.int .i64 0,.int .i64 0,.int .i64 0,.slice none 0 0,.int .i64 0,.int .i64 0,.string ⟨#[]⟩,.slice la P.length cap] 61)) (.cells #[.int .i64 1,.int .u16 0,.int .i64 0,.int .i64 0,.int .i64 0,.int .i64 0,.int .i64 0,.slice none 0 0,.int .i64 0,.int .i64 0,.string ⟨#[]⟩,.slice none 0 0] 61);rw [zlH] at ob;have K1:=zf (ka.trans kb);have OB:=zf ob;have d11:=zg (o:=11) oa rfl;clear hb ka kb oa ob;unfold ziE zjR at *;go_enter Tryz.func216,Tryz.ntmps216;go_wp2_with fail;(with_reducible refine (CH.out _).mono ?_);rintro e w2 ⟨rfl,rfl⟩;go_wp2_with fail;(with_reducible refine (CE.out _ K1.out).mono ?_);rintro e w2 ⟨rfl,k2⟩;have K2:=zf (K1.out.trans k2);have o2:=k2.obj (fun e=>e) OB.out;have c0:=zg (o:=0) o2 rfl;have c1:=zg (o:=1) o2 rfl;have c2:=zg (o:=2) o2 rfl;have c3:=zg (o:=3) o2 rfl;have c4:=zg (o:=4) o2 rfl;have c5:=zg (o:=5) o2 rfl;have c6:=zg (o:=6) o2 rfl;have c7:=zg (o:=7) o2 rfl;have c8:=zg (o:=8) o2 rfl;have c9:=zg (o:=9) o2 rfl;have c10:=zg (o:=10) o2 rfl;have c11:=zg (o:=11) o2 rfl;clear k2 K1 OB CE d11 o2;go_wp2_with fail;(with_reducible refine (BA.out _).mono ?_);rintro e w3 ⟨rfl,k3⟩;have K3:=zf (K2.out.trans k3);clear k3 K2 BA c0 c1 c2 c3 c4 c5 c6 c7 c8 c9 c10 c11;go_wp2;go_ret;exact ⟨rfl,K3.out⟩
set_option maxHeartbeats 2000000 in
set_option maxRecDepth 100000 in
theorem zd4 (w:World) (S:Nat->Prop) (b:Nat) (c:Nat) (v:Value) (G:Nat->Prop) (P:List (zF × Value)) (hc:c < 65536) (h:xA w S b []) (hS:∀ k,w.heap.size<=k->S k) (hv:yo w v G P) (hG:∀ k,G k->k < w.heap.size∧¬ S k) (hl:P.length<=8) (hb:∀ p∈P,Zj p.1=true):
  Calls Tryz.prog 217 #[.pointer (some ⟨b,0,none⟩),zjT b,ziE 1 c v] w fun e w'=>e=.returned (.tuple #[])∧xA w' S b (Yu c (P.map Prod.fst))∧Chg S w w':=by
 have HV:=zf hv;have HG:=zf hG;obtain ⟨la,cap,rfl,hl0,_⟩:=hv;have ka:=zi (fun _=>False) w (.cells #[.int .i64 1,.int .u16 (c:Int),.int .i64 0,.int .i64 0,.int .i64 0,.int .i64 0,.int .i64 0,.slice none 0 0,.int .i64 0,.int .i64 0,.string ⟨#[]⟩,.slice la P.length cap] 61);have oa:=zh w (.cells #[.int .i64 1,.int .u16 (c:Int),.int .i64 0,.int .i64 0,.int .i64 0,.int .i64 0,.int .i64 0,.slice none 0 0,.int .i64 0,.int .i64 0,.string ⟨#[]⟩,.slice la P.length cap] 61);have sa:=zlH w (.cells #[.int .i64 1,.int .u16 (c:Int),.int .i64 0,.int .i64 0,.int .i64 0,.int .i64 0,.int .i64 0,.slice none 0 0,.int .i64 0,.int .i64 0,.string ⟨#[]⟩,.slice la P.length cap] 61);obtain ⟨T,hT⟩:∃ T:Nat->Prop,T=fun k=>S k∧k≠w.heap.size:=⟨_,rfl⟩;have HTS:=zf (show ∀ k,T k->S k from fun k e=>by rw [hT] at e;exact e.1);have HTW:=zf (show ¬ T w.heap.size from fun e=>by rw [hT] at e;exact e.2 rfl);have HTN:=zf (show ∀ k,(w.alloc (.cells #[.int .i64 1,.int .u16 (c:Int),.int .i64 0,.int .i64 0,.int .i64 0,.int .i64 0,.int .i64 0,.slice none 0 0,.int .i64 0,.int .i64 0,.string ⟨#[]⟩,.slice la P.length cap] 61)).heap.size<=k->T k from fun k hk=>by rw [hT];exact ⟨hS k (by omega),by omega⟩);have h0:xA w T b []:=h.to (fun k hk e=>by rw [hT];exact ⟨e,by omega⟩);have H1:=h0.chg ka (fun _ _ e=>e);have NK:=zgi _ T b [] (1:Int) H1 HTN.out (by decide) (by decide) (by decide);rw [show ((1:Int)).toNat=1 from rfl] at NK;have NK:=zf NK;have K0:=zf ka;have OA:=zf oa;have d0:=zg (o:=0) oa rfl;unfold ziE zjT;clear h ka oa H1 h0 hT hS sa;go_enter Tryz.func217,Tryz.ntmps217;go_wp2_with fail;(with_reducible refine NK.out.mono ?_);rintro e w1 ⟨rfl,h1,k1⟩;have H1:=zf h1;have K1:=zf k1;have O1:=zf (k1.obj HTW.out OA.out);have d0:=zg (o:=0) O1.out rfl;have d1:=zg (o:=1) O1.out rfl;have d11:=zg (o:=11) O1.out rfl;clear h1 k1 NK OA;go_wp2_with fail;have NC:=zf (xj w1 T b _ c H1.out (fun k hk=>HTN.out k (Nat.le_trans K1.out.size hk)) (by omega) (by have:=Zl 8 1 (by decide);simp;omega));(with_reducible refine NC.out.mono ?_);rintro e w2 ⟨rfl,h2,k2⟩;have H2:=zf h2;have K2:=zf (K1.out.trans k2);have O2:=zf (k2.obj HTW.out O1.out);have d0:=zg (o:=0) O2.out rfl;have d11:=zg (o:=11) O2.out rfl;clear h2 k2 NC H1 K1 O1 d1;go_wp2_with fail
 have WC:=zaH w2 T b _ (.slice la P.length cap) G P H2.out (fun k hk=>HTN.out k (Nat.le_trans K2.out.size hk)) ((HV.out.chg K0.out (fun _ _ e=>e)).chg K2.out (fun k e q=>(HG.out k e).2 (HTS.out k q))) (fun k e=>⟨by have:=(HG.out k e).1;have:=K0.out.size;have:=K2.out.size;omega,fun q=>(HG.out k e).2 (HTS.out k q)⟩) hl hb (by
  simp only [zlC,List.length_nil];have:=Zl 8 1 (by decide);have:=Zl 8 c (by omega);omega)
 unfold zjT at WC;have WC:=zf WC;(with_reducible refine WC.out.mono ?_);rintro e w3 ⟨rfl,h3,k3⟩
 have FIN:=zf (show xA w3 S b (Yu c (P.map Prod.fst))∧Chg S w w3 from ⟨by
  have:=h3.to (T:=S) (fun k _ e=>HTS.out k e);unfold Yu;simpa [List.append_assoc] using this,((K0.out.mono (fun _ _ e=>e.elim)).trans (K2.out.mono (fun k _ e=>HTS.out k e))).trans (k3.mono (fun k _ e=>HTS.out k e))⟩)
 clear h3 k3 WC H2 K2 d0 d11;go_wp2;go_end0;exact ⟨rfl,FIN.out.1,FIN.out.2⟩
theorem zkO {P:List (zF × Value)} (c:Nat) (hc:c < 65536) (hl:P.length<=8) (hb:∀ p∈P,Zj p.1=true):1<=(Yu c (P.map Prod.fst)).length∧(Yu c (P.map Prod.fst)).length<=4000:=by
 have h1:=zaM (P.map Prod.fst) (fun c hx=>by obtain ⟨p,hp,rfl⟩:=List.mem_map.1 hx;exact hb p hp);have h2:=Zl 8 P.length (by omega);have h3:=Zl 8 1 (by decide);have h5:=yd 1;have h4:=Zl 8 c (by omega);unfold Yu zbD;rw [zlD] at *;simp only [zlC];omega
set_option maxHeartbeats 2000000 in
set_option maxRecDepth 100000 in
theorem zgS (w:World) (c:Nat) (v:Value) (G:Nat->Prop) (P:List (zF × Value)) (hc:c / 8192=2) (hv:yo w v G P) (hG:∀ k,G k->k < w.heap.size) (hl:P.length<=8) (hb:∀ p∈P,Zj p.1=true):
  Calls Tryz.prog 151 #[ziE 1 c v] w fun e w'=>e=.returned (.tuple #[.string ⟨(Yu c (P.map Prod.fst)).toArray⟩,.int .i64 0])∧Chg (fun _=>False) w w':=by
 have LEN:=zf (zkO c (by omega) hl hb);have HG:=zf hG;obtain ⟨la,cap,e0,hl0,_⟩:=id hv;subst e0;have ka:=zi (fun _=>False) w (.cells #[.int .i64 1,.int .u16 (c:Int),.int .i64 0,.int .i64 0,.int .i64 0,.int .i64 0,.int .i64 0,.slice none 0 0,.int .i64 0,.int .i64 0,.string ⟨#[]⟩,.slice la P.length cap] 61);have oa:=zh w (.cells #[.int .i64 1,.int .u16 (c:Int),.int .i64 0,.int .i64 0,.int .i64 0,.int .i64 0,.int .i64 0,.slice none 0 0,.int .i64 0,.int .i64 0,.string ⟨#[]⟩,.slice la P.length cap] 61);have RT:=zf (zd5 _ c _ G P hc (hv.chg ka (fun _ _ e=>e)) hl hb);have WR:=zf (fun w1 (k1:Chg (fun _=>False) w w1)=>zd4 (w1.alloc (.cells #[.int .i64 0,.slice none 0 0] 255)) (fun k=>w1.heap.size<=k) w1.heap.size c _ G P (by omega) ⟨⟨.slice none 0 0,zh _ _,World.ownsRow_nil _ _ _ _,fun k e=>by cases e⟩,zlS _⟩ (fun k hk=>by rw [zlH] at hk;omega) ((hv.chg k1 (fun _ _ e=>e)).chg (zi (fun _=>False) w1 _) (fun _ _ e=>e)) (fun k e=>by have:=HG.out k e;have:=k1.size;rw [zlH];exact ⟨by omega,by omega⟩) hl hb);have K0:=zf ka;have OA:=zf oa;clear ka oa hb hG hv;unfold ziE zjT at *;generalize Yu c (P.map Prod.fst)=es at *;have g1:decide (4000 < (es.length:Int))=false:=zly (by have:=LEN.out.2;omega);have g1':decide (4000 < es.length)=false:=zly (by have:=LEN.out.2;omega);have ss:(⟨es.toArray⟩:ByteArray).size=es.length:=by simp [ByteArray.size]
 go_enter Tryz.func151,Tryz.ntmps151;go_wp2_with fail;(with_reducible refine RT.out.mono ?_);rintro e w1 ⟨rfl,k1⟩;have K1:=zf (K0.out.trans k1);have o1:=k1.obj (fun e=>e) OA.out;have kb:=zi (fun _=>False) w1 (.cells #[.int .i64 0,.slice none 0 0] 255);have o2:=kb.obj (fun e=>e) o1;have c0:=zg (o:=0) o2 rfl;have c1:=zg (o:=1) o2 rfl;have c2:=zg (o:=2) o2 rfl;have c3:=zg (o:=3) o2 rfl;have c4:=zg (o:=4) o2 rfl;have c5:=zg (o:=5) o2 rfl;have c6:=zg (o:=6) o2 rfl;have c7:=zg (o:=7) o2 rfl;have c8:=zg (o:=8) o2 rfl;have c9:=zg (o:=9) o2 rfl;have c10:=zg (o:=10) o2 rfl;have c11:=zg (o:=11) o2 rfl;have W1:=zf (WR.out w1 K1.out);have s1:w1.heap.size < (w1.alloc (.cells #[.int .i64 0,.slice none 0 0] 255)).heap.size:=by rw [zlH];omega
 have KB:=zf (K1.out.trans kb);clear RT k1 o1 o2 OA K0 kb WR;go_wp2_with fail;(with_reducible refine W1.out.mono ?_);rintro e w3 ⟨rfl,h3,k3⟩;have DN:=zf (zaD w3 0 w1.heap.size es h3.at_ LEN.out.1 (by have:=LEN.out.2;omega));have FIN:=zf (show Chg (fun _=>False) w w3 from Chg.next KB.out k3 (fun i hi e=>by have:=K1.out.size;omega));clear h3 k3 W1 KB c0 c1 c2 c3 c4 c5 c6 c7 c8 c9 c10 c11;go_wp2_with fail;(with_reducible refine DN.out.mono ?_);rintro e w4 ⟨rfl,rfl⟩;clear DN;go_wp2;go_ret2;exact ⟨rfl,FIN.out⟩
end Go.Proofs.YtcilaocknhphnaaGreat
