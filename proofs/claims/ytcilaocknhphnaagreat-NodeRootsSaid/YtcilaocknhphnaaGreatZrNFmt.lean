/-
  Layer 20 in plain Lean: what a journal's commits and crashes do. No program in sight. Layer 20: a device that is calm. Package node: Format, on a device that is new.
-/
import Derived.Test.YtcilaocknhphnaaGreatZrJModel
import Derived.Test.YtcilaocknhphnaaGreatZrCCert1
import Derived.Test.YtcilaocknhphnaaGreatZrJLay
import Derived.Test.YtcilaocknhphnaaGreatZrNIn3
namespace Go.Proofs.YtcilaocknhphnaaGreat

theorem zaa (n:Nat) (h:n < 256):(UInt8.ofNat n).toNat=n:=by rw [UInt8.toNat_ofNat'];omega
theorem zdU (x:Int) (h n:Nat) (h0:-9223372036854775808<=x) (h1:x < 9223372036854775808):zfT (pad (zm x h n))=x:=by
  have e:(pad (zm x h n)).take 8=(List.range 8).map fun i=>UInt8.ofNat (Zx x i):=by
    unfold pad zm;rw [List.append_assoc,List.take_append_of_le_length (by simp)];rw [List.take_of_length_le (by simp)]
  have hb:be ((List.range 8).map fun i=>UInt8.ofNat (Zx x i))=(x % 18446744073709551616).toNat:=by
    have hX:(x % 18446744073709551616).toNat < 18446744073709551616:=by omega
    have r:(List.range 8).map (fun i=>UInt8.ofNat (Zx x i))=[UInt8.ofNat (Zx x 0),UInt8.ofNat (Zx x 1),UInt8.ofNat (Zx x 2),UInt8.ofNat (Zx x 3),UInt8.ofNat (Zx x 4),UInt8.ofNat (Zx x 5),UInt8.ofNat (Zx x 6),UInt8.ofNat (Zx x 7)]:=rfl;rw [r];have lt:∀ i,Zx x i < 256:=fun i=>Nat.mod_lt _ (by decide);simp only [be,List.foldl_cons,List.foldl_nil,zaa _ (lt _)];unfold Zx;generalize (x % 18446744073709551616).toNat=X at *;have p0:2 ^ (8*(7 - 0))=72057594037927936:=by decide
    have p1:2 ^ (8*(7 - 1))=281474976710656:=by decide
    have p2:2 ^ (8*(7 - 2))=1099511627776:=by decide
    have p3:2 ^ (8*(7 - 3))=4294967296:=by decide
    have p4:2 ^ (8*(7 - 4))=16777216:=by decide
    have p5:2 ^ (8*(7 - 5))=65536:=by decide
    have p6:2 ^ (8*(7 - 6))=256:=by decide
    have p7:2 ^ (8*(7 - 7))=1:=by decide
    rw [p0,p1,p2,p3,p4,p5,p6,p7];omega
  unfold zfT ze2;rw [e,hb];split <;> omega
theorem zc6 (x:Int) (h n:Nat) (hh:h<=1):xA (pad (zm x h n))=h:=by
  have:(pad (zm x h n)).getD 8 0=UInt8.ofNat h:=by
    unfold pad zm;rfl
  unfold xA;rw [this];exact zaa h (by omega)
theorem zc5 (x:Int) (h n:Nat) (hn:n < 65536):Yj (pad (zm x h n))=n:=by
  have e1:(pad (zm x h n)).getD 9 0=UInt8.ofNat (n / 256):=by unfold pad zm;rfl
  have e2:(pad (zm x h n)).getD 10 0=UInt8.ofNat n:=by unfold pad zm;rfl
  unfold Yj;rw [e1,e2,zaa _ (by omega),UInt8.toNat_ofNat'];omega
def zbK (s:List UInt8):Nat:=(s.length+31) / 32
def xC (s:List UInt8) (i:Nat):List UInt8:=pad ((s.drop (32*i)).take 32)
theorem XT (s:List UInt8) (i:Nat):xC s (i+1)=xC (s.drop 32) i:=by
  unfold xC;rw [List.drop_drop,show 32*(i+1)=32+32*i from by omega]
theorem zdr:∀ (m:Nat) (f:Nat->List UInt8) (s:List UInt8),s.length<=32*m->(∀ i,i < zbK s->f i=xC s i)->((List.range m).flatMap f).take s.length=s:=by
  intro m;induction m with
  | zero=>intro f s h _;have:s=[]:=List.eq_nil_of_length_eq_zero (by omega);subst this;simp
  | succ m ih=>
    intro f s h hf;by_cases h0:s.length=0
    · have:s=[]:=List.eq_nil_of_length_eq_zero h0;subst this;simp
    · rw [List.range_succ_eq_map,List.flatMap_cons]
      have e:(List.map Nat.succ (List.range m)).flatMap f=(List.range m).flatMap (fun i=>f (i+1)):=by
        rw [List.flatMap_map]
      rw [e];have f0:=hf 0 (by unfold zbK;omega)
      have hih:=ih (fun i=>f (i+1)) (s.drop 32) (by rw [List.length_drop];omega) (fun i hi=>by
        rw [hf (i+1) (by unfold zbK at *;rw [List.length_drop] at hi;omega),XT])
      by_cases h32:s.length<=32
      · have c0:xC s 0=s++List.replicate (32 - s.length) 0:=by
          unfold xC pad;simp only [Nat.mul_zero,List.drop_zero];rw [List.take_of_length_le h32]
        rw [f0,c0,List.append_assoc,List.take_append_of_le_length (Nat.le_refl _),List.take_length]
      · have c0:xC s 0=s.take 32:=by
          unfold xC pad;simp only [Nat.mul_zero,List.drop_zero];rw [List.length_take,show 32 - min 32 s.length=0 from by omega];simp
        have l0:(s.take 32).length=32:=by rw [List.length_take];omega
        rw [f0,c0,List.take_append,l0];rw [List.take_of_length_le (by omega)];rw [show s.length - 32=(s.drop 32).length from by rw [List.length_drop]];rw [hih,List.take_append_drop]
def Dev.nw (d:Dev) (i:Nat):List UInt8:=d.now.getD i []
def Dev.sr (d:Dev) (i:Nat):List UInt8:=d.sure.getD i []
def Dev.pd (d:Dev) (i:Nat):Bool:=d.pend.getD i false
theorem YN {α:Type} {l:List α} {i:Nat} (h:i < l.length) (x z:α):(l.set i x).getD i z=x:=by
  rw [List.getD_eq_getElem?_getD,List.getElem?_set_self h];rfl
theorem xr {α:Type} {l:List α} {i k:Nat} (h:i≠k) (x z:α):(l.set i x).getD k z=l.getD k z:=by
  rw [List.getD_eq_getElem?_getD,List.getElem?_set_ne h,List.getD_eq_getElem?_getD]
theorem Dev.nw_put {n:Nat} {d:Dev} (ok:d.Ok n) {i:Nat} (hi:i < n) (s:List UInt8):(d.put i s).nw i=pad s:=YN (by rw [ok.lnow];exact hi) _ _
theorem Dev.nw_put_ne (d:Dev) {i k:Nat} (h:i≠k) (s:List UInt8):(d.put i s).nw k=d.nw k:=xr h _ _
theorem Dev.pd_put {n:Nat} {d:Dev} (ok:d.Ok n) {i:Nat} (hi:i < n) (s:List UInt8):(d.put i s).pd i=true:=YN (by rw [ok.lpend];exact hi) _ _
theorem Dev.pd_put_ne (d:Dev) {i k:Nat} (h:i≠k) (s:List UInt8):(d.put i s).pd k=d.pd k:=xr h _ _
theorem Dev.burnt_now (d:Dev):d.burnt.now=d.now:=by unfold Dev.burnt;split <;> rfl
theorem Dev.burnt_sure (d:Dev):d.burnt.sure=d.sure:=by unfold Dev.burnt;split <;> rfl
theorem Dev.burnt_pend (d:Dev):d.burnt.pend=d.pend:=by unfold Dev.burnt;split <;> rfl
theorem Dev.burnt_on (d:Dev):d.burnt.on=d.on:=by unfold Dev.burnt;split <;> rfl
theorem Dev.burnt_nw (d:Dev) (i:Nat):d.burnt.nw i=d.nw i:=by unfold Dev.nw;rw [d.burnt_now]
theorem Dev.burnt_pd (d:Dev) (i:Nat):d.burnt.pd i=d.pd i:=by unfold Dev.pd;rw [d.burnt_pend]
theorem Dev.burnt_dead (d:Dev) (h:d.stops=true):d.burnt.dead=true:=by unfold Dev.burnt;rw [if_pos h]
theorem Dev.burnt_alive (d:Dev) (h:d.stops=false):d.burnt.dead=false:=by
  unfold Dev.burnt;rw [if_neg (by rw [h];decide)];simp [Dev.stops] at h;exact h.1
theorem ZL (n i:Nat):(List.replicate n false).getD i false=false:=by
  rw [List.getD_eq_getElem?_getD,List.getElem?_replicate];split <;> rfl
theorem Dev.settle_pd (d:Dev) (i:Nat):d.settle.pd i=false:=ZL _ _
theorem xG {d:Dev} (hd:d.dead=false) (h:d.stops=true):d.on=true:=by
  simp [Dev.stops,hd] at h;exact h.1
theorem zck {n:Nat} {d:Dev} (ok:d.Ok n) (hd:d.dead=false) {a:Nat} (ha:a < n) {s:List UInt8} (hs:s.length<=32):
    d.write a s=if d.stops then (d.burnt,20) else (d.burnt.put a s,0):=by
  unfold Dev.write;rw [hd,if_neg (by decide),ok.lnow,if_neg (by omega),if_neg (by omega)];rfl
structure zgd (n:Nat) (d d':Dev) (a k:Nat):Prop where
  ok:d'.Ok n
  dead:d'.dead=true
  sure:d'.sure=d.sure
  out:∀ i,(i < a∨a+k<=i)->d'.nw i=d.nw i∧d'.pd i=d.pd i
  pend:∀ i,d'.pd i=false->d.pd i=false∧d'.nw i=d.nw i
  on:d.on=true
structure zfP (n:Nat) (d d':Dev) (a:Nat) (s:List UInt8):Prop where
  ok:d'.Ok n
  dead:d'.dead=false
  sure:d'.sure=d'.now
  pend:∀ i,d'.pd i=false
  out:∀ i,(i < a∨a+zbK s<=i)->d'.nw i=d.nw i
  inn:∀ i,i < zbK s->d'.nw (a+i)=xC s i
  on:d'.on=d.on

theorem zeX {n:Nat}:∀ (k:Nat) (s:List UInt8),s.length<=k->∀ (d:Dev) (a:Nat),d.Ok n->d.dead=false->a+zbK s<=n ->
    ((d.lay a s).2=20∧zgd n d (d.lay a s).1 a (zbK s))∨((d.lay a s).2=0∧zfP n d (d.lay a s).1 a s):=by
  intro k;induction k with
  | zero=>
    intro s hk d a ok hd _;have h0:s.length=0:=by omega
    have hs0:zbK s=0:=by unfold zbK;omega
    rw [zdO d a s h0];unfold Dev.barrier;cases hst:d.stops with
    | true=>
      rw [if_pos rfl];exact .inl ⟨rfl,ok.burnt,d.burnt_dead hst,d.burnt_sure,fun i _=>⟨d.burnt_nw i,d.burnt_pd i⟩,fun i hi=>⟨by rw [<- d.burnt_pd];exact hi,d.burnt_nw i⟩,xG hd hst⟩
    | false=>
      rw [if_neg (by decide)];exact .inr ⟨rfl,ok.burnt.settle,d.burnt_alive hst,rfl,fun i=>d.burnt.settle_pd i,fun i _=>d.burnt_nw i,fun i hi=>by omega,d.burnt_on⟩
  | succ k ih=>
    intro s hk d a ok hd ha;by_cases h0:s.length=0
    · exact ih s (by omega) d a ok hd ha
    · have hs1:zbK s=zbK (s.drop 32)+1:=by unfold zbK;rw [List.length_drop];omega
      have hl:(s.take 32).length<=32:=by rw [List.length_take];omega
      have hw:=zck ok hd (show a < n by omega) hl;cases hst:d.stops with
      | true=>
        rw [hst,if_pos rfl] at hw;rw [zb5 d a s (by omega),hw,if_neg (show ¬ (20:Int)=0 by decide)];exact .inl ⟨rfl,ok.burnt,d.burnt_dead hst,d.burnt_sure,fun i _=>⟨d.burnt_nw i,d.burnt_pd i⟩,fun i hi=>⟨by rw [<- d.burnt_pd];exact hi,d.burnt_nw i⟩,xG hd hst⟩
      | false=>
        rw [hst,if_neg (by decide)] at hw;rw [zb5 d a s (by omega),hw,if_pos rfl];have ok1:=ok.burnt.put a (s.take 32) hl;have hd1:(d.burnt.put a (s.take 32)).dead=false:=d.burnt_alive hst;have nwa:(d.burnt.put a (s.take 32)).nw a=xC s 0:=by rw [Dev.nw_put ok.burnt (by omega)];unfold xC;simp
        have nwo:∀ i,i≠a->(d.burnt.put a (s.take 32)).nw i=d.nw i:=fun i hi=>by rw [Dev.nw_put_ne _ (Ne.symm hi),d.burnt_nw]
        have pdo:∀ i,i≠a->(d.burnt.put a (s.take 32)).pd i=d.pd i:=fun i hi=>by rw [Dev.pd_put_ne _ (Ne.symm hi),d.burnt_pd]
        have pda:(d.burnt.put a (s.take 32)).pd a=true:=Dev.pd_put ok.burnt (by omega) _;have sr1:(d.burnt.put a (s.take 32)).sure=d.sure:=d.burnt_sure;have on1:(d.burnt.put a (s.take 32)).on=d.on:=d.burnt_on;generalize d.burnt.put a (s.take 32)=d1 at *;rcases ih (s.drop 32) (by rw [List.length_drop];omega) d1 (a+1) ok1 hd1 (by omega) with ⟨e,h⟩ | ⟨e,h⟩
        · refine .inl ⟨e,h.ok,h.dead,h.sure.trans sr1,fun i hi=>?_,fun i hi=>?_,?_⟩
          · have h1:=h.out i (by omega)
            rw [nwo i (by omega),pdo i (by omega)] at h1;exact h1
          · have h1:=h.pend i hi
            have hia:i≠a:=fun e=>by rw [e,pda] at h1;cases h1.1
            rw [nwo i hia,pdo i hia] at h1;exact h1
          · rw [<- on1];exact h.on
        · refine .inr ⟨e,h.ok,h.dead,h.sure,h.pend,fun i hi=>?_,fun i hi=>?_,h.on.trans on1⟩
          · rw [h.out i (by omega),nwo i (by omega)]
          · cases i with
            | zero=>exact (h.out a (by omega)).trans nwa
            | succ i=>have:=h.inn i (by omega);rw [show a+1+i=a+(i+1) from by omega] at this;rw [XT];exact this
structure Rep (d:Dev) (j:Jr):Prop where
  fine:¬ d.bad
  num:zfT d.hd=j.number
  half:xA d.hd=j.half
  text:d.text=j.text.data.toList

structure XB (d:Dev):Prop where
  sure:d.sure=d.now
  pend:∀ i,d.pd i=false

def xq (d:Dev) (h i:Nat):Prop:=1+h*d.m<=i∧i < 1+h*d.m+d.m
theorem Rep.half_le {d:Dev} {j:Jr} (h:Rep d j):j.half<=1:=by
  have:=h.fine;unfold Dev.bad at this;rw [h.half] at this;omega
theorem zfS {n:Nat} {d:Dev} (ok:d.Ok n):d.m=(n - 1) / 2:=by unfold Dev.m;rw [ok.lnow]
theorem zdk {d d':Dev} (hm:d'.m=d.m) (h:Nat) (e:∀ i,xq d h i->d'.nw i=d.nw i):d'.area h=d.area h:=by
  unfold Dev.area Dev.areaTo;rw [hm];rw [List.flatMap_def,List.flatMap_def]
  congr 1
  apply List.map_congr_left;intro i hi;rw [List.mem_range] at hi;exact e _ ⟨by omega,by omega⟩
theorem Rep.congr {d d':Dev} {j:Jr} (h:Rep d j) (hm:d'.m=d.m) (h0:d'.nw 0=d.nw 0) (he:∀ i,xq d j.half i->d'.nw i=d.nw i):Rep d' j:=by
  have hh:d'.hd=d.hd:=h0;refine ⟨?_,by rw [hh];exact h.num,by rw [hh];exact h.half,?_⟩
  · have:=h.fine;unfold Dev.bad at *;rw [hh,hm];exact this
  · have:=h.text;unfold Dev.text at *;rw [hh,zdk hm _ (by rw [h.half];exact he)];exact this
theorem zfV {n:Nat} {d:Dev} (ok:d.Ok n) {x:Int} {h:Nat} {s:ByteArray} (hx0:-9223372036854775808<=x) (hx1:x < 9223372036854775808) (hh:h<=1) (hs:s.size<=d.m*32)
    (h0:d.nw 0=pad (zm x h s.size)) (hc:∀ i,i < zbK s.data.toList->d.nw (1+h*d.m+i)=xC s.data.toList i):Rep d ⟨x,h,s⟩:=by
  have hm:=zfS ok;have n65:=ok.hi;have hhd:d.hd=pad (zm x h s.size):=h0;have hsl:s.data.toList.length=s.size:=by rw [Array.length_toList];rfl
  have e2:xA d.hd=h:=by rw [hhd];exact zc6 x h _ hh
  have e3:Yj d.hd=s.size:=by rw [hhd];exact zc5 x h _ (by omega)
  refine ⟨?_,by rw [hhd];exact zdU x h _ hx0 hx1,e2,?_⟩
  · unfold Dev.bad;rw [e2,e3];omega
  · unfold Dev.text Dev.area Dev.areaTo
    rw [e2,e3,<- hsl];exact zdr d.m _ _ (by omega) hc
structure zgH (n:Nat) (d:Dev) (j:Jr) (may:ByteArray):Prop where
  ok:d.Ok n
  rep:Rep { d with now:=d.sure } j
  same:∀ i,d.pd i=false->d.nw i=d.sr i
  /-- What is pending is no sector of the record;or it is the head alone,and that tells of another text. -/
  way:(∀ i,(i=0∨xq d j.half i)->d.pd i=false)∨((∀ i,i≠0->d.pd i=false)∧Rep d ⟨j.number+1,1 - j.half,may⟩)

theorem zdi (d:Dev):d.barrier=if d.stops then (d.burnt,20) else (d.burnt.settle,0):=rfl
theorem yw {d d':Dev} {n:Nat} (ok:d.Ok n) (ok':d'.Ok n):d'.m=d.m:=by rw [zfS ok,zfS ok']
theorem XB.sr {d:Dev} (h:XB d) (i:Nat):d.sr i=d.nw i:=by unfold Dev.sr Dev.nw;rw [h.sure]
theorem zab (d:Dev) (i:Nat):Dev.nw { d with now:=d.sure } i=d.sr i:=rfl
theorem zbT {n:Nat} {d:Dev} (ok:d.Ok n):Dev.Ok n { d with now:=d.sure }:=⟨ok.lo,ok.hi,ok.lsure,ok.lsure,ok.lpend,ok.wsure,ok.wsure,ok.fuse0,ok.fuse1⟩
theorem XB.disk {n:Nat} {d:Dev} {j:Jr} (ok:d.Ok n) (h:XB d) (hr:Rep d j) (may:ByteArray):zgH n d j may:=
  ⟨ok,hr.congr (yw ok (zbT ok)) (h.sr 0) (fun i _=>h.sr i),fun i _=>(h.sr i).symm,.inl (fun i _=>h.pend i)⟩
theorem xe {d:Dev} {h:Nat} (hh:h<=1) {k:Nat} (hk:k<=d.m) {i:Nat} (hi:i=0∨xq d h i):i < 1+(1 - h)*d.m∨1+(1 - h)*d.m+k<=i:=by
  rcases (by omega:h=0∨h=1) with rfl | rfl
  · unfold xq at hi;simp only [Nat.zero_mul,Nat.sub_zero,Nat.one_mul] at *;omega
  · unfold xq at hi;simp only [Nat.sub_self,Nat.zero_mul,Nat.one_mul] at *;omega
inductive Done (n:Nat) (d:Dev) (j:Jr) (s:ByteArray):Dev × Int × Jr->Prop where
  | size (h:d.m*32 < s.size):Done n d j s (d,4,j)
  | many (h:s.size<=d.m*32) (h':4611686018427387904<=j.number):Done n d j s (d,3,j)
  | down (d':Dev) (h:s.size<=d.m*32) (hd:d'.dead=true) (hk:zgH n d' j s) (ho:d.on=true):Done n d j s (d',20,j)
  | fine (d':Dev) (h:s.size<=d.m*32) (h':j.number < 4611686018427387904) (ok:d'.Ok n) (hd:d'.dead=false) (hc:XB d') (hr:Rep d' ⟨j.number+1,1 - j.half,s⟩) (ho:d'.on=d.on):Done n d j s (d',0,⟨j.number+1,1 - j.half,s⟩)

theorem Yt {n:Nat} {d:Dev} {j:Jr} (ok:d.Ok n) (hd:d.dead=false) (hc:XB d) (hr:Rep d j) (hn:-9223372036854775808<=j.number) (s:ByteArray):Done n d j s (commit d j s):=by
  have hm:=zfS ok;have n65:=ok.hi;have hsl:s.data.toList.length=s.size:=by rw [Array.length_toList];rfl
  have hh:=hr.half_le;unfold commit;rw [hd,if_neg (by decide)];by_cases h1:d.m*32 < s.size
  · rw [if_pos h1];exact .size h1
  rw [if_neg h1];by_cases h2:4611686018427387904<=j.number
  · rw [if_pos h2];exact .many (by omega) h2
  rw [if_neg h2];have hk:zbK s.data.toList<=d.m:=by unfold zbK;rw [hsl];omega
  have hx:1+(1 - j.half)*d.m+zbK s.data.toList<=n:=by
    have:=ok.lo;rcases (by omega:j.half=0∨j.half=1) with e | e <;> rw [e] <;> simp only [Nat.sub_zero,Nat.one_mul,Nat.sub_self,Nat.zero_mul] <;> omega
  dsimp only;rcases zeX s.data.toList.length s.data.toList (Nat.le_refl _) d _ ok hd hx with ⟨e,b⟩ | ⟨e,g⟩
  · -- it died on the way
    rw [e,if_pos (by decide)];refine .down _ (by omega) b.dead ⟨b.ok,?_,fun i hi=>?_,.inl (fun i hi=>?_)⟩ b.on
    · have:=hr
      refine Rep.congr (d:=d) hr (yw ok (zbT b.ok)) ?_ (fun i _=>?_)
      · rw [zab];unfold Dev.sr;rw [b.sure,hc.sure];rfl
      · rw [zab];unfold Dev.sr;rw [b.sure,hc.sure];rfl
    · rw [(b.pend i hi).2,<- hc.sr i];unfold Dev.sr;rw [b.sure]
    · have hi':i=0∨xq d j.half i:=by unfold xq at *;rw [yw b.ok ok];exact hi
      rw [(b.out i (xe hh hk hi')).2];exact hc.pend i
  · generalize (d.lay (1+(1 - j.half)*d.m) s.data.toList).1=d1 at *
    rw [e,if_neg (by decide)];have m1:d1.m=d.m:=yw ok g.ok;have c1:XB d1:=⟨g.sure,g.pend⟩;have r1:Rep d1 j:=hr.congr m1 (g.out 0 (xe hh hk (.inl rfl))) (fun i hi=>g.out i (xe hh hk (.inr hi)));have hhl:(zm (j.number+1) (1 - j.half) s.size).length<=32:=by rw [ZR];decide
    have hw:=zck g.ok g.dead (a:=0) (by omega) hhl;cases hst:d1.stops with
    | true=>
      rw [hst,if_pos rfl] at hw;rw [show d1.write 0 (zm (j.number+1) (1 - j.half) s.size)=(d1.burnt,20) from hw,if_pos (show (20:Int)≠0 by decide)];refine .down _ (by omega) (d1.burnt_dead hst) ?_ (by rw [<- g.on];exact xG g.dead hst);refine XB.disk g.ok.burnt ⟨by rw [d1.burnt_sure,d1.burnt_now];exact c1.sure,fun i=>by rw [d1.burnt_pd];exact c1.pend i⟩ ?_ s;exact r1.congr (yw g.ok g.ok.burnt) (d1.burnt_nw 0) (fun i _=>d1.burnt_nw i)
    | false=>
      rw [hst,if_neg (by decide)] at hw;rw [show d1.write 0 (zm (j.number+1) (1 - j.half) s.size)=(d1.burnt.put 0 (zm (j.number+1) (1 - j.half) s.size),0) from hw,if_neg (show ¬ (0:Int)≠0 by decide)];have ok2:=g.ok.burnt.put 0 (zm (j.number+1) (1 - j.half) s.size) hhl;have nw0:(d1.burnt.put 0 (zm (j.number+1) (1 - j.half) s.size)).nw 0=pad (zm (j.number+1) (1 - j.half) s.size):=Dev.nw_put g.ok.burnt (by omega) _;have nwo:∀ i,i≠0->(d1.burnt.put 0 (zm (j.number+1) (1 - j.half) s.size)).nw i=d1.nw i:=fun i hi=>by rw [Dev.nw_put_ne _ (Ne.symm hi),d1.burnt_nw]
      have pdo:∀ i,i≠0->(d1.burnt.put 0 (zm (j.number+1) (1 - j.half) s.size)).pd i=false:=fun i hi=>by rw [Dev.pd_put_ne _ (Ne.symm hi),d1.burnt_pd];exact c1.pend i
      have pd0:(d1.burnt.put 0 (zm (j.number+1) (1 - j.half) s.size)).pd 0=true:=Dev.pd_put g.ok.burnt (by omega) _;have sr1:(d1.burnt.put 0 (zm (j.number+1) (1 - j.half) s.size)).sure=d1.sure:=d1.burnt_sure;have dd:(d1.burnt.put 0 (zm (j.number+1) (1 - j.half) s.size)).dead=false:=d1.burnt_alive hst;have on1:(d1.burnt.put 0 (zm (j.number+1) (1 - j.half) s.size)).on=d1.on:=d1.burnt_on;generalize d1.burnt.put 0 (zm (j.number+1) (1 - j.half) s.size)=d2 at *;have m2:d2.m=d.m:=yw ok ok2
      have r2:Rep d2 ⟨j.number+1,1 - j.half,s⟩:=by
        refine zfV ok2 (by omega) (by omega) (by omega) (by omega) nw0 (fun i hi=>?_);rw [m2,nwo _ (by omega)];exact g.inn i hi
      rw [zdi];cases hst2:d2.stops with
      | true=>
        rw [if_pos rfl,if_pos (show (20:Int)≠0 by decide)];refine .down _ (by omega) (d2.burnt_dead hst2) ⟨ok2.burnt,?_,fun i hi=>?_,.inr ⟨fun i hi=>by rw [d2.burnt_pd];exact pdo i hi,?_⟩⟩ (by rw [<- g.on,<- on1];exact xG dd hst2)
        · refine Rep.congr (d:=d1) r1 (yw g.ok (zbT ok2.burnt)) ?_ (fun i _=>?_)
          · rw [zab];unfold Dev.sr;rw [d2.burnt_sure,sr1,c1.sure];rfl
          · rw [zab];unfold Dev.sr;rw [d2.burnt_sure,sr1,c1.sure];rfl
        · rw [d2.burnt_pd] at hi
          have hi0:i≠0:=fun e=>by rw [e,pd0] at hi;cases hi
          rw [d2.burnt_nw,nwo i hi0,<- c1.sr i];unfold Dev.sr;rw [d2.burnt_sure,sr1]
        · exact r2.congr (yw ok2 ok2.burnt) (d2.burnt_nw 0) (fun i _=>d2.burnt_nw i)
      | false=>
        rw [if_neg (show ¬ (false=true) by decide),if_neg (show ¬ (0:Int)≠0 by decide)];refine .fine _ (by omega) (by omega) ok2.burnt.settle (d2.burnt_alive hst2) ⟨rfl,fun i=>d2.burnt.settle_pd i⟩ ?_ ?_
        · exact r2.congr (yw ok2 ok2.burnt.settle) (d2.burnt_nw 0) (fun i _=>d2.burnt_nw i)
        · show d2.burnt.on=d.on;rw [d2.burnt_on,on1,g.on]
open Go.RowKit
theorem zfk {d:Dev} {j:Jr} (h:Rep d j):(⟨zfT d.hd,xA d.hd,⟨d.text.toArray⟩⟩:Jr)=j:=by
  obtain ⟨x,y,z⟩:=j;rw [h.num,h.half,h.text]
theorem zb0 (n:Nat) (h3:3<=n):Rep (Dev.new n) ⟨0,0,⟨#[]⟩⟩:=by
  have e:(Dev.new n).hd=zbI:=by
    unfold Dev.hd Dev.new;simp only;rw [zgY,List.getElem?_replicate,if_pos (by omega)];rfl
  refine ⟨?_,by rw [e];decide,by rw [e];decide,?_⟩
  · unfold Dev.bad;rw [e]
    have h1:xA zbI=0:=by decide
    have h2:Yj zbI=0:=by decide
    rw [h1,h2];omega
  · unfold Dev.text;rw [e,show Yj zbI=0 from by decide];rfl
theorem zd7 (n:Nat):XB (Dev.new n):=⟨rfl,fun _=>ZL _ _⟩
structure zft (n:Nat) (d:Dev) (j:Jr):Prop where
  ok:d.Ok n
  dead:d.dead=false
  on:d.on=false
  clean:XB d
  rep:Rep d j
  n0:-9223372036854775808<=j.number
  n1:j.number<=4611686018427387904
theorem zft.commit {n:Nat} {d:Dev} {j:Jr} (h:zft n d j) (s:ByteArray):zft n (commit d j s).1 (commit d j s).2.2:=by
  have:=Yt h.ok h.dead h.clean h.rep h.n0 s;generalize Go.Proofs.YtcilaocknhphnaaGreat.commit d j s=r at *;have n0:=h.n0;have n1:=h.n1;cases this with
  | size _=>exact h
  | many _ _=>exact h
  | down d' _ _ _ ho=>rw [h.on] at ho;cases ho
  | fine d' _ h' ok hd hc hr ho=>exact ⟨ok,hd,ho.trans h.on,hc,hr,by show _<=j.number+1;omega,by show j.number+1<=_;omega⟩
theorem zbt {n:Nat} {d:Dev} {j:Jr} (h:zft n d j) (s:ByteArray) (hs:s.size<=(n - 1) / 2*32) (hn:j.number < 4611686018427387904):∃ d',commit d j s=(d',0,⟨j.number+1,1 - j.half,s⟩):=by
  have hm:=zfS h.ok;have:=Yt h.ok h.dead h.clean h.rep h.n0 s;generalize Go.Proofs.YtcilaocknhphnaaGreat.commit d j s=r at *;cases this with
  | size q=>rw [hm] at q;omega
  | many _ q=>omega
  | down d' _ _ _ ho=>rw [h.on] at ho;cases ho
  | fine d' _ h' ok hd hc hr ho=>exact ⟨d',rfl⟩
theorem zas {n:Nat} {d:Dev} {j:Jr} (h:zft n d j) (s:ByteArray) (hs:(n - 1) / 2*32 < s.size):commit d j s=(d,4,j):=by
  have hm:=zfS h.ok;have:=Yt h.ok h.dead h.clean h.rep h.n0 s;generalize Go.Proofs.YtcilaocknhphnaaGreat.commit d j s=r at *;cases this with
  | size q=>rfl
  | many q _=>rw [hm] at q;omega
  | down d' q _ _ ho=>rw [hm] at q;omega
  | fine d' q h' ok hd hc hr ho=>rw [hm] at q;omega
theorem zF.lt {w:World} {B:DB} {d:Dev} (h:zF w B d) {k:Nat} (e:B.S k):k < w.heap.size:=by
  rcases e with rfl | rfl | rfl | rfl
  · exact zl h.hb
  · exact zl h.hn
  · exact zl h.hs
  · exact zl h.hp
open Go.Maps
theorem zeJ {r:xK} (h:Yl r=true):(xH r).length<=1000000:=by
  obtain ⟨h1,h2,h3,h4⟩:=Zv.1 h;have:=YH r.objs h4;have:=zdn (z:=r.boot) (by omega);have:=(yN (n:=r.objs.length) (by omega)).2;unfold xH;simp only [zgV];omega
theorem Yo (l:List UInt8):(⟨l.toArray⟩:ByteArray).size=l.length:=by
  simp [ByteArray.size]
set_option maxHeartbeats 1000000 in
set_option maxRecDepth 100000 in
theorem zdb (w:World) (B:DB) (r:xK) (oa:Option Addr) (oc:Nat) (G:Nat->Prop) (hd:zF w B (Dev.new 65)) (hn:B.n=65) (h:zN w (.slice oa r.objs.length oc) G r.objs) (hf:∀ o∈r.objs,o.ents.length<=1000) (hG:∀ k,G k->k < w.heap.size):
    Calls Tryz.prog 14 #[B.ptr,.agg #[.int .i64 r.boot,.slice oa r.objs.length oc]] w fun e w'=>∃ c:Int,e=.returned (.int .i64 c)∧Chg B.S w w' ∧
      (Yl r=false∨r.boot≠0->c=2)∧(Yl r=true->r.boot=0->c=4∨(c=0∧(xH r).length<=1024∧∃ d,zF w' B d∧zft 65 d ⟨1,1,⟨(xH r).toArray⟩⟩)):=by
  have H:=zf h;have HD:=zf hd;have HG:=zf hG;have HB:=zf (fun k (e:B.S k)=>hd.lt e);have kb:=zj (fun _=>False) w (.cells #[.int .i64 r.boot,.slice oa r.objs.length oc] 40);have OB:=zf (zh w (.cells #[.int .i64 r.boot,.slice oa r.objs.length oc] 40));have sz0:w.heap.size < (w.alloc (.cells #[.int .i64 r.boot,.slice oa r.objs.length oc] 40)).heap.size:=by rw [zg0];omega
  have ENC:=zf (XJ (w.alloc (.cells #[.int .i64 r.boot,.slice oa r.objs.length oc] 40)) r oa oc G (h.chg kb (fun _ _ e=>e)) hf (fun k hk=>by have:=hG k hk;omega));have KB:=zf kb;have c0:=zg (o:=0) OB.out rfl;have c1:=zg (o:=1) OB.out rfl;have HZ:=zf (fun e=>zeJ (r:=r) e);have HN:=zf hn;clear h hd hG hf kb hn;go_enter Tryz.func14,Tryz.ntmps14;go_wp2_with fail;generalize w.alloc (.cells #[.int .i64 r.boot,.slice oa r.objs.length oc] 40)=w1 at *;refine (ENC.out).mono ?_;rintro e w2 ⟨hq,k2⟩;have c02:=zi k2 (fun e=>e) c0;have K2:=zf (KB.out.trans k2);have hw2:w.heap.size < w2.heap.size:=by have:=k2.size;omega
  clear k2 ENC OB c0 c1;rcases hq with ⟨hr,rfl⟩ | ⟨hr,rfl⟩
  · by_cases h0:r.boot=0
    · have D2:=zf (HD.out.chg K2.out (fun _ _ e=>e))
      rw [h0] at c02;have HR:=zf hr;have H0:=zf h0;clear hr h0;go_wp2_with fail;refine (zcu _ B _ D2.out).mono ?_;rintro e w3 (⟨hbad,_⟩ | ⟨_,b,rfl,j3,c3,hb1,hb2⟩)
      · exact absurd hbad (zb0 65 (by omega)).fine
      rw [zfk (zb0 65 (by omega))] at j3;have J3:=zf j3;have D3:=zf (D2.out.chg c3 (fun _ _ e=>e));have hbS:¬ B.S b:=fun e=>by have:=HB.out b e;omega
      have CA:=zf (show zft 65 (Dev.new 65) ⟨0,0,⟨#[]⟩⟩ from ⟨HN.out ▸ D3.out.ok,rfl,rfl,zd7 65,zb0 65 (by omega),by decide,by decide⟩);have K3:=zf (K2.out.trans c3);clear j3 c3;have ss:(⟨(xH r).toArray⟩:ByteArray).size=(xH r).length:=Yo _;have CM:=zf (XS w3 B b _ _ ⟨(xH r).toArray⟩ D3.out J3.out hbS (by decide) (by decide) (by decide) (by rw [ss];have:=HZ.out HR.out;unfold maxLen;omega));have FI:=zf (zbt CA.out ⟨(xH r).toArray⟩);have NF:=zf (zas CA.out ⟨(xH r).toArray⟩);have CC:=zf (CA.out.commit ⟨(xH r).toArray⟩);rw [ss] at FI NF;unfold zbL at *;go_wp2_with fail;refine (CM.out).mono ?_;rintro e w4 ⟨rfl,d4,j4,k4⟩;have K4:=zf (show Chg (fun k=>B.S k∨k=b) w w4 from (K3.out.mono (fun _ _ e=>e.elim)).trans k4);have D4:=zf d4;clear d4 j4 k4;go_wp2;go_ret;refine ⟨_,rfl,K4.out.mono (fun k hk e=>?_),?_,fun _ _=>?_⟩
      · rcases e with e | rfl
        · exact e
        · omega
      · rintro (e | e)
        · rw [HR.out] at e;cases e
        · exact absurd H0.out e
      · by_cases hs:(xH r).length<=1024
        · obtain ⟨d',e⟩:=FI.out hs (by decide)
          have c4:=CC.out;rw [e] at c4;refine .inr ⟨by rw [e],hs,d',?_,c4⟩;have:=D4.out;rw [e] at this;exact this
        · rw [NF.out (by omega)]
          exact .inl rfl
    · have tn:decide (r.boot=0)=false:=by simpa using h0
      have tn1:(r.boot != 0)=true:=by simpa using h0
      have tn2:(r.boot == 0)=false:=by simpa using h0
      have H0:=zf h0;clear h0 hr;go_wp2_with fail;go_ret;exact ⟨_,rfl,K2.out.mono (fun _ _ e=>e.elim),fun _=>rfl,fun _ e=>absurd e H0.out⟩
  · have NB:=zf hr
    clear hr;go_wp2_with fail;go_ret;exact ⟨_,rfl,K2.out.mono (fun _ _ e=>e.elim),fun _=>rfl,fun e=>absurd e (by rw [NB.out];decide)⟩
end Go.Proofs.YtcilaocknhphnaaGreat
