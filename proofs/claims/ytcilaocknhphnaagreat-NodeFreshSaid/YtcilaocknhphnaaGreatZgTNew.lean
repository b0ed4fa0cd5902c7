/-
  Package store: New, Len, Turn, Get. Package store: Get. Package store: which, Valid. Package store: Valid.
-/
import Derived.Test.YtcilaocknhphnaaGreatZgRBase
import Derived.Test.YtcilaocknhphnaaGreatZgCSet
import Derived.Test.YtcilaocknhphnaaGreatZgTAt
import Derived.Shelf.SlicesE.DeleteFunc
namespace Go.Proofs.YtcilaocknhphnaaGreat
open Go.RowKit Go.Maps
theorem yC.len {P:Program} {k e t:TypeId} {w:World} {b m:Nat} {f:Lit->Option Value} (h:yC P k w b m f) (ht:P.underlying t=some (.map k e)) (ty:TypeId):(Builtin.len_ #[t] ty #[.map (some b)]).run P w=.ok (.int .i64 (m:Int)) w:=by
 obtain ⟨D,h,hz,q⟩:=h;have:=h.len ht ty;rwa [hz] at this
def zf5 (room:Nat):zB:=⟨room,0,0,[]⟩
theorem zia {room:Nat} (h1:1<=room) (h2:room<=200):zcl (zf5 room):=⟨h1,h2,by simp [zf5],by simp [zf5],by simp [zf5],by simp [zf5],by simp [zf5]⟩
theorem zfd (w:World) (room:Nat) (h1:1<=room) (h2:room<=200):
  ∃ B,Zz ((((w.alloc (.map #[] 0)).alloc (.map #[] 0)).alloc (.map #[] 0)).alloc (.cells #[.int .i64 (room:Int),.int .i64 0,.int .i64 0,.map (some w.heap.size),.map (some (w.heap.size+1)),.map (some (w.heap.size+2))] 272)) (w.heap.size+3) B (zf5 room)∧(∀ k,B k->w.heap.size<=k)∧Chg (fun _=>False) w ((((w.alloc (.map #[] 0)).alloc (.map #[] 0)).alloc (.map #[] 0)).alloc (.cells #[.int .i64 (room:Int),.int .i64 0,.int .i64 0,.map (some w.heap.size),.map (some (w.heap.size+1)),.map (some (w.heap.size+2))] 272)):=by
 have m1:=yC.made Tryz.prog 3 w;have m2:=yC.made Tryz.prog 9 (w.alloc (.map #[] 0));have m3:=yC.made Tryz.prog 29 ((w.alloc (.map #[] 0)).alloc (.map #[] 0));have z1:(w.alloc (.map #[] 0)).heap.size=w.heap.size+1:=zlH _ _;have z2:((w.alloc (.map #[] 0)).alloc (.map #[] 0)).heap.size=w.heap.size+2:=by rw [zlH,z1]
 have z3:(((w.alloc (.map #[] 0)).alloc (.map #[] 0)).alloc (.map #[] 0)).heap.size=w.heap.size+3:=by rw [zlH,z2]
 rw [z1] at m2;rw [z2] at m3;have k1:=zi (fun _=>False) w (.map #[] 0);have k2:=zi (fun _=>False) (w.alloc (.map #[] 0)) (.map #[] 0);have k3:=zi (fun _=>False) ((w.alloc (.map #[] 0)).alloc (.map #[] 0)) (.map #[] 0);have k4:=zi (fun _=>False) (((w.alloc (.map #[] 0)).alloc (.map #[] 0)).alloc (.map #[] 0)) (.cells #[.int .i64 (room:Int),.int .i64 0,.int .i64 0,.map (some w.heap.size),.map (some (w.heap.size+1)),.map (some (w.heap.size+2))] 272);have ob:=zh (((w.alloc (.map #[] 0)).alloc (.map #[] 0)).alloc (.map #[] 0)) (.cells #[.int .i64 (room:Int),.int .i64 0,.int .i64 0,.map (some w.heap.size),.map (some (w.heap.size+1)),.map (some (w.heap.size+2))] 272);rw [z3] at ob;have n1:=((m1.chg k2 (fun e=>e)).chg k3 (fun e=>e)).chg k4 (fun e=>e);have n2:=(m2.chg k3 (fun e=>e)).chg k4 (fun e=>e);have n3:=m3.chg k4 (fun e=>e);have hz:((((w.alloc (.map #[] 0)).alloc (.map #[] 0)).alloc (.map #[] 0)).alloc (.cells #[.int .i64 (room:Int),.int .i64 0,.int .i64 0,.map (some w.heap.size),.map (some (w.heap.size+1)),.map (some (w.heap.size+2))] 272)).heap.size=w.heap.size+4:=by rw [zlH,z3]
 refine ⟨fun k=>w.heap.size<=k∧k < w.heap.size+4,⟨⟨w.heap.size+3,w.heap.size,w.heap.size+1,w.heap.size+2⟩,⟨fun _=>none,fun _=>none,fun _=>none⟩,0,fun _=>False,rfl,⟨ob,⟨n1,fun _ _=>rfl,fun x c hx=>?_,fun _ e=>e.elim⟩,⟨n2,fun _=>rfl⟩,⟨n3,fun x hx=>?_,fun _ _=>rfl,fun x y v u k hu=>?_⟩,?_,?_,?_,?_⟩,zia h1 h2,?_,?_⟩,fun k hk=>hk.1,((k1.trans k2).trans k3).trans k4⟩
 ·obtain ⟨i,_,hi⟩:=zca hx
  cases hi
 ·exact absurd rfl hx
 ·cases hu
 ·simp only;omega
 ·simp only;omega
 ·simp only;omega
 ·exact Nat.zero_le _
 ·rintro k ((e | e | e | e | ⟨x,v,hv,_⟩) | e)
  ·simp only at e;omega
  ·simp only at e;omega
  ·simp only at e;omega
  ·simp only at e;omega
  ·cases hv
  ·exact e.elim
 ·intro k hk
  rw [hz];exact hk.2
set_option maxRecDepth 100000 in
theorem zkf (w:World) (room:Nat) (h1:1<=room) (h2:room<=200):Calls Tryz.prog 60 #[.int .i64 (room:Int)] w fun e w'=>∃ b B,e=.returned (.pointer (some ⟨b,0,none⟩))∧Zz w' b B (zf5 room)∧(∀ k,B k->w.heap.size<=k)∧Chg (fun _=>False) w w':=by
 have e1:decide ((room:Int) < 1)=false:=zly (by omega);have e2:decide (200 < (room:Int))=false:=zly (by omega);have hmm:=@run_makeMap Tryz.prog;have SM:=zf (zfd w room h1 h2);go_enter Tryz.func60,Tryz.ntmps60;go_wp2;go_ret;obtain ⟨B,q1,q2,q3⟩:=SM.out;exact ⟨_,B,rfl,q1,q2,q3⟩
open Go.Shelf
structure zeZ (s:zB) (p:zF->Bool) (l:List Nat) (left:Lit->Bool):Prop where
  nd:l.Nodup
  sub:∀ i∈l,i∈s.which p∧left (.int .i64 (i:Int))=false
  all:∀ i∈s.which p,i∈l∨left (.int .i64 (i:Int))=true
theorem zeZ.start (s:zB) (p:zF->Bool) (left:Lit->Bool) (h:∀ q∈s.certs,left (.int .i64 (q.1:Int))=true):zeZ s p [] left:=
 ⟨List.nodup_nil,fun _ h=>(List.not_mem_nil h).elim,fun i hi=>by
  obtain ⟨c,h1,_⟩:=Xj.1 hi;exact .inr (h _ h1)⟩
theorem zb6 (x y:Int):Lit.sameKey (.int .i64 x) (.int .i64 y)=decide (x=y):=by
 simp [Lit.sameKey]
theorem zeZ.skip {s:zB} {p:zF->Bool} {l:List Nat} {left:Lit->Bool} (h:zeZ s p l left) (hi:zcl s) {x:Nat} {c:zF} (hc:(x,c)∈s.certs) (hp:p c=false):
  zeZ s p l (fun z=>left z && !z.sameKey (.int .i64 (x:Int))):=by
 refine ⟨h.nd,fun i q=>⟨(h.sub i q).1,by simp [(h.sub i q).2]⟩,fun i q=>?_⟩;rcases h.all i q with e | e
 ·exact .inl e
 ·refine .inr ?_
  simp only [e,Bool.true_and,zb6,Bool.not_eq_true',decide_eq_false_iff_not];intro e2;obtain ⟨d,h1,h2⟩:=Xj.1 q;have:=hi.num_inj h1 hc (by simp only;omega);simp only [Prod.mk.injEq] at this;rw [this.2,hp] at h2;cases h2
theorem zeZ.take {s:zB} {p:zF->Bool} {l:List Nat} {left:Lit->Bool} (h:zeZ s p l left) {x:Nat} {c:zF} (hc:(x,c)∈s.certs) (hp:p c=true) (hl:left (.int .i64 (x:Int))=true):
  zeZ s p (l++[x]) (fun z=>left z && !z.sameKey (.int .i64 (x:Int))):=by
 refine ⟨?_,fun i q=>?_,fun i q=>?_⟩
 ·rw [List.nodup_append]
  exact ⟨h.nd,by simp,fun a ha b hb=>by
   rw [List.mem_singleton] at hb;subst hb;rintro rfl;rw [(h.sub _ ha).2] at hl;cases hl⟩
 ·rcases zlL.1 q with q | q
  ·exact ⟨(h.sub i q).1,by simp [(h.sub i q).2]⟩
  ·rw [List.mem_singleton] at q
   subst q;exact ⟨Xj.2 ⟨c,hc,hp⟩,by simp [zb6]⟩
 ·rcases h.all i q with e | e
  ·exact .inl (List.mem_append_left _ e)
  ·by_cases e2:i=x
   ·subst e2;exact .inl (List.mem_append_right _ (by simp))
   ·exact .inr (by simp [e,zb6];omega)
theorem zff {l m:List Nat} (hl:l.Nodup) (hm:m.Pairwise (· < ·)) (h:∀ i,i∈l↔i∈m):Ys l=m:=by
 have p1:(Ys l).Perm m:=by
  refine List.Perm.trans (List.mergeSort_perm _ _) ?_;exact (List.perm_ext_iff_of_nodup hl (hm.imp (fun a b=>by omega))).2 h
 refine p1.eq_of_pairwise (le:=fun a b=>a<=b) (fun a b _ _ h1 h2=>by omega) ?_ (hm.imp (fun h=>by omega));have:=List.pairwise_mergeSort (le:=fun a b:Nat=>decide (a<=b)) (fun a b c h1 h2=>by simp at *;omega) (fun a b=>by simp;omega) l;exact this.imp (fun h=>by simpa using h)
theorem zeZ.done {s:zB} {p:zF->Bool} {l:List Nat} {left:Lit->Bool} (h:zeZ s p l left) (hi:zcl s) (hz:∀ kl,left kl=false):Ys l=s.which p:=
 zff h.nd (zcy hi p) (fun i=>⟨fun q=>(h.sub i q).1,fun q=>by
  rcases h.all i q with e | e
  ·exact e
  ·rw [hz] at e;cases e⟩)
theorem zeZ.len {s:zB} {p:zF->Bool} {l:List Nat} {left:Lit->Bool} (h:zeZ s p l left):l.length<=s.certs.length:=
 Nat.le_trans (Xh h.nd (fun i q=>(h.sub i q).1)) (zcz s p)
set_option maxHeartbeats 2000000 in
set_option maxRecDepth 100000 in
theorem zf7 (w:World) (b:Nat) (B:Nat->Prop) (s:zB) (g:FuncId) (lb:Array Value) (p:zF->Bool) (h:Zz w b B s)
  (eg:∀ args w,(callFunc g args).run Tryz.prog w=.ok (.enter g args) w)
  (hp:∀ W c sa sn sc,Chg (fun _=>False) w W->Calls Tryz.prog g (#[Zn c (.slice sa sn sc)]++lb) W fun e w'=>e=.returned (.bool (p c))∧Chg (fun _=>False) W w'):
  Calls Tryz.prog 239 #[.pointer (some ⟨b,0,none⟩),.func (.func g) #[] lb] w fun e w'=>∃ v,e=.returned v∧w'.ownsRow w.heap.size 3 1 v (s.which p).length (zac (s.which p))∧Chg (fun _=>False) w w':=by
 obtain ⟨L,F,nW,C,rfl,h1,hi,_,_⟩:=h;have c3:w.cell? ⟨L.b,3,none⟩=some (.map (some L.mN)):=zg (o:=3) h1.own rfl;have HN:=zf h1.num;have HI:=zf hi;have HP:=zf hp;have hlt:=h1.num.map.lt;have hl200:s.certs.length<=200:=Nat.le_trans hi.len hi.room2;clear h1 hi hp;go_enter Tryz.func239,Tryz.ntmps239;go_wp2_with (at_range;refine zbK rfl (.tmp 11) 268 rfl 3 103 Tryz.intKeyed Tryz.underlying268 L.mN s.certs.length F.fN rfl HN.out.map ?fnext);intro w8 r8 k8 z8;have R8:=zf r8;have K8:=zf k8;have hw8:w.heap.size<=w8.heap.size:=k8.size;clear r8 k8 z8;go_wp2;go_loopw [5] (fun lv wr=>∃ l:List Nat,Hid (wr.ownsRow w.heap.size 3 1 lv l.length (zac l)∧Chg (fun _=>False) w wr∧∃ left cnt,Yz Tryz.prog 3 wr L.mN w.heap.size s.certs.length F.fN left cnt∧zeZ s p l left)) (fun _ wr=>wr.rangeLeft L.mN w.heap.size)
 case atStart=>exact ⟨[],zf ⟨World.ownsRow_nil _ _ _ _,K8.out,_,_,R8.out,zeZ.start s p _ (fun q hq=>by
  obtain ⟨sa,sc,e,_⟩:=HN.out.someS _ _ (HI.out.get_mem hq);show (F.fN _).isSome=true;rw [e];rfl)⟩⟩
 case round=>
  obtain ⟨l,hr⟩:=hrel;obtain ⟨ho,hc,left,cnt,hrg,hcl⟩:=hr.out;obtain ⟨la,lc,rfl⟩:=zl ho;have HO:=zf ho;have HC:=zf hc;have HRG:=zf hrg;have HCL:=zf hcl;have hll:=hcl.len;have ML:=zf (show wr.rangeLeft L.mN w.heap.size=cnt from hrg.left_eq);clear hr ho hc hrg hcl;go_wp2_with (at_next;refine zcs rfl (.tmp 12) rfl 3 .i64 Tryz.intKeyed Tryz.underlying3 L.mN w.heap.size s.certs.length F.fN left cnt rfl HRG.out ?gdone ?gmore)
  ·intro _ hz
   have DN:=zf (HCL.out.done HI.out hz);have SO:=zf (zhS wr w.heap.size _ l HO.out (by omega));go_wp2_with fail;(with_reducible refine SO.out.mono ?_);rintro e w5 ⟨rfl,o5,k5⟩;have FIN:=zf (HC.out.next k5 (fun x hx e=>by have:=(HO.out.lt x e).1;omega));rw [DN.out] at o5;have hl5:(s.which p).length=l.length:=by rw [<- DN.out,xW]
   have O5:=zf o5;clear o5 k5 SO;go_wp2;go_ret;exact ⟨_,rfl,by rw [hl5];exact O5.out,FIN.out⟩
  ·intro x v w9 cnt' hlx hfx r9 c9 k9 s9 hen
   cases hg:s.get x with
   | none=>rw [HN.out.noneS x hg] at hfx;cases hfx
   | some c=>
   obtain ⟨i,rfl,hm⟩:=zca hg;obtain ⟨sa,sc,hf,_⟩:=HN.out.someS _ c hg;rw [hfx] at hf;cases hf;have k9f:Chg (fun _=>False) w w9:=HC.out.next k9 (fun k hk e=>by omega)
   obtain ⟨kind,sg,sp,fr,f,t,n⟩:=c;have kb:=zi (fun _=>False) w9 (.cells #[.int .i64 kind,.int .u16 (sg:Int),.string sp,.slice sa fr.length sc,.int .i64 f,.int .i64 t,.int .i64 n] 103);have hcall:=HP.out (w9.alloc (.cells #[.int .i64 kind,.int .u16 (sg:Int),.string sp,.slice sa fr.length sc,.int .i64 f,.int .i64 t,.int .i64 n] 103)) ⟨kind,sg,sp,fr,f,t,n⟩ sa fr.length sc (k9f.trans kb);have kr:Chg (·=w.heap.size) wr (w9.alloc (.cells #[.int .i64 kind,.int .u16 (sg:Int),.string sp,.slice sa fr.length sc,.int .i64 f,.int .i64 t,.int .i64 n] 103)):=k9.trans (zi (·=w.heap.size) w9 (.cells #[.int .i64 kind,.int .u16 (sg:Int),.string sp,.slice sa fr.length sc,.int .i64 f,.int .i64 t,.int .i64 n] 103))
   have OR:=zf (zo HO.out kr (fun k hk e=>by
    obtain ⟨cs,q⟩:=zM HO.out hk;exact HRG.out.ne_cells q e))
   have R9:=zf (r9.chg kb (fun e=>e) (fun e=>e));have K9:=zf (k9f.trans kb);have C9:=zf c9;unfold Zn at hcall hen;simp only at hcall hen;generalize hpc:p ⟨kind,sg,sp,fr,f,t,n⟩=pc at *;have HX:=zf (And.intro hm (And.intro hpc hlx));clear hm hpc hlx hg hfx r9 c9 k9 s9 k9f kb kr HO HC HRG;have hcall:=zf hcall;cases pc with
   | true=>
    go_wp2_with fail;generalize w9.alloc (.cells #[.int .i64 kind,.int .u16 (sg:Int),.string sp,.slice sa fr.length sc,.int .i64 f,.int .i64 t,.int .i64 n] 103)=wa at *;(with_reducible refine hcall.out.mono ?_);rintro e w10 ⟨rfl,k10⟩;have hb10:w.heap.size<=w10.heap.size:=Nat.le_trans K9.out.size k10.size;go_wp2_with (at_builtin;refine zK rfl (.tmp 21) (.tmp 23) 226 rfl 3 1 8 Tryz.underlying226 Tryz.elemInt w.heap.size _ l.length (zac l) rfl ?a1 w10.heap.size [.int .i64 (i:Int)] 3 (0,0) rfl ?a2 rfl ?a3 ?a4 ?a5 ?a6 ?a7)
    case a1=>exact zo (zo OR.out k10 (fun _ _ e=>e)) (zi (fun _=>False) _ _) (fun _ _ e=>e)
    case a2=>exact zh _ _
    case a3=>intro u hu;simp at hu;subst hu;rfl
    case a4=>omega
    case a5=>unfold maxLen;omega
    case a6=>simp;omega
    intro v11 w11 o11 g11 _;obtain ⟨a11,c11,rfl⟩:=zl o11;have ka:=zi (fun _=>False) w10 (.cells #[.int .i64 (i:Int)] 3);have r10:=(R9.out.chg k10 (fun e=>e) (fun e=>e)).chg ka (fun e=>e) (fun e=>e);have o10:=zo (zo OR.out k10 (fun _ _ e=>e)) ka (fun _ _ e=>e)
    have R11:=zf (r10.chg (Chg.of_grown g11) (fun e=>by
     obtain ⟨cs,q⟩:=zM o10 e;exact r10.map.ne_cells q rfl) (fun e=>by
     obtain ⟨cs,q⟩:=zM o10 e;exact r10.ne_cells q rfl))
    have K11:=zf ((((K9.out.trans k10).trans ka)).next (Chg.of_grown g11) (fun k hk e=>by have:=(OR.out.lt k e).1;omega))
    have O11:=zf (show w11.ownsRow w.heap.size 3 1 (.slice a11 (l.length+1) c11) (l++[i]).length (zac (l++[i])) from by
     unfold zac at *;rw [List.map_append,zlC];exact o11)
    have C11:=zf (HCL.out.take HX.out.1 HX.out.2.1 HX.out.2.2);clear o11 g11 ka r10 o10 OR R9 K9 k10 HX HCL hcall;go_wp2;go_roundw
    case rel=>exact ⟨l++[i],zf ⟨O11.out,K11.out,_,_,R11.out,C11.out⟩⟩
    case measure=>rw [ML.out,R11.out.left_eq];exact C9.out
   | false=>
    go_wp2_with fail;generalize w9.alloc (.cells #[.int .i64 kind,.int .u16 (sg:Int),.string sp,.slice sa fr.length sc,.int .i64 f,.int .i64 t,.int .i64 n] 103)=wa at *;(with_reducible refine hcall.out.mono ?_);rintro e w10 ⟨rfl,k10⟩;have R10:=zf (R9.out.chg k10 (fun e=>e) (fun e=>e));have O10:=zf (zo OR.out k10 (fun _ _ e=>e));have K10:=zf (K9.out.trans k10);have C10:=zf (HCL.out.skip HI.out HX.out.1 HX.out.2.1);clear k10 R9 OR K9 HCL HX hcall;go_wp2;go_roundw
    case rel=>exact ⟨l,zf ⟨O10.out,K10.out,_,_,R10.out,C10.out⟩⟩
    case measure=>rw [ML.out,R10.out.left_eq];exact C9.out
set_option maxRecDepth 100000 in
theorem zga (w:World) (b:Nat) (B:Nat->Prop) (s:zB) (t:Int) (h:Zz w b B s):
  Calls Tryz.prog 176 #[.pointer (some ⟨b,0,none⟩),.int .i64 t] w fun e w'=>∃ v,e=.returned v∧w'.ownsRow w.heap.size 3 1 v (s.which fun c=>yH c t).length (zac (s.which fun c=>yH c t))∧Chg (fun _=>False) w w':=by
 have kb:=zi (fun _=>False) w (.cells #[.int .i64 t] 2);have ob:=zh w (.cells #[.int .i64 t] 2);have WH:=zf (zf7 (w.alloc (.cells #[.int .i64 t] 2)) b B s 240 #[.pointer (some ⟨w.heap.size,0,none⟩)] (fun c=>yH c t) (h.chg kb (fun _ _ e=>e)) (enters_of Tryz.func240 (by kernel_rfl) rfl) (fun W c sa sn sc k=>zfa W c sa sn sc t w.heap.size (zg (k.obj (fun e=>e) ob) rfl)));have hsz:w.heap.size<=(w.alloc (.cells #[.int .i64 t] 2)).heap.size:=kb.size;have KB:=zf kb;clear kb ob h;go_enter Tryz.func176,Tryz.ntmps176;go_wp2_with fail;generalize w.alloc (.cells #[.int .i64 t] 2)=wa at *;(with_reducible refine WH.out.mono ?_);rintro e w2 ⟨v,rfl,ho,k2⟩;obtain ⟨a,c,rfl⟩:=zl ho;have HO:=zf ho;have K2:=zf (KB.out.trans k2);clear ho k2 WH KB;go_wp2;go_ret;exact ⟨_,rfl,YK HO.out hsz,K2.out⟩
end Go.Proofs.YtcilaocknhphnaaGreat
