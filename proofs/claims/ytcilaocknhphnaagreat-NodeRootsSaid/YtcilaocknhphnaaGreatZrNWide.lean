/-
  Layer 23: awake, told by the evaluator. Package node: what Boot does behind the commit, told by the evaluator. Package node: Boot, of a device that was formatted. Append of a slice of another type. Layer 23: large and wide, of a record's entries.
-/
import Derived.KernelRfl
import Derived.Test.YtcilaocknhphnaaGreatProg
import Derived.Test.YtcilaocknhphnaaGreatZrEv37
import Derived.Test.YtcilaocknhphnaaGreatZrKit2
import Derived.Test.YtcilaocknhphnaaGreatZrCCert1
import Derived.Test.YtcilaocknhphnaaGreatZrNIn3
import Derived.Test.YtcilaocknhphnaaGreatZrJModel
import Derived.Test.YtcilaocknhphnaaGreatZrNFmt
import Derived.Test.YtcilaocknhphnaaGreatZrNAt
namespace Go.Proofs.YtcilaocknhphnaaGreat

theorem ZX:Tryz.prog.follows .mixedOrders=true:=by kernel_rfl
theorem ZW:Ev.namesOk Tryz.prog=true:=by kernel_rfl
theorem zdj:Ev.told (Ev.fcall Tryz.prog [239,280] 100 [10] [] Ev.H0)=true:=by kernel_rfl
theorem zfL (w:World):Calls Tryz.prog 10 #[] w fun e w'=>e=.returned (.bool true)∧Ev.Ch (fun _=>False) w w':=
  Ev.told_any ZX ZW zdj w
open Go.RowKit
theorem zdg {S:Nat->Prop} {w w':World} (h:Ev.Ch S w w'):Chg S w w':=⟨h.os,h.tape,h.output,h.size,h.block⟩
theorem zgK {S:Nat->Prop} {w w':World} (h:Chg S w w'):Ev.Ch S w w':=⟨h.os,h.tape,h.output,h.size,h.block⟩
def zbq (P:Program):Ev.CallF:=Ev.fcall P [239,280] 100
def zfJ (P:Program):Ev.V2:=zbq P [11] [] Ev.H0
@[irreducible] def hB (P:Program):Ev.H:=Ev.hOf (zfJ P)
theorem zdh:zfJ Tryz.prog=.one (.ptr 0 0) (hB Tryz.prog):=by kernel_rfl
def zgs (k:Nat):Code->Bool
  | .region i _ _=>Nat.beq i k
  | _=>false
def zcO (k:Nat):Code->Option Code
  | .seq a b=>if zgs k a then some (.seq a b) else (zcO k a).orElse fun _=>zcO k b
  | .block _ c=>zcO k c
  | .loop c=>zcO k c
  | _=>none
def ze5:Code->Code
  | .seq a _=>a
  | c=>c
def XU (fn:Func) (k:Nat):Code:=(fn.body.bind (zcO k)).getD .skip
theorem zbQ {P:Program} {c c':Code} (h:c=c') {Q:Exit->Act->World->Prop} {a:Act} {w:World} (k:c'.wp P Q a w):c.wp P Q a w:=h ▸ k
theorem zfq {r:Ev.O3} {e:Ev.Ex} {t:Ev.Tm} {h:Ev.H} (E:r=.one e t h):r.all (fun e' t' h'=>e'=e∧t'=t∧h'=h):=by subst E;exact ⟨rfl,rfl,rfl⟩
def tlB (P:Program) (i:Nat):List Ev.AV:=[.int .i64 i,.int .i64 0,.junk,.ptr 0 0,.junk,.junk,.junk,.junk,.junk,.junk,.ptr (hB P).n 0,.junk,.ptr ((hB P).n+2) 0,.junk,.junk,.junk,.junk,.junk,.junk,.junk,.junk,.junk,.junk,.junk,.junk,.junk,.junk,.junk,.junk,.junk,.junk,.junk,.junk,.junk,.junk,.junk,.junk,.junk,.junk,.junk,.junk,.junk,.junk,.junk,.junk,.junk,.junk,.junk,.junk,.junk,.junk,.junk,.junk,.junk,.junk,.junk,.junk,.junk,.junk,.junk,.junk,.junk,.junk,.junk,.junk,.junk,.junk,.junk,.junk,.junk,.junk,.junk,.junk,.junk,.junk,.junk,.junk,.junk,.junk,.junk,.junk,.junk,.junk,.junk,.junk,.junk,.junk,.junk,.junk,.junk,.junk,.junk,.junk,.junk,.junk,.junk,.junk,.junk,.junk,.junk,.junk,.junk,.junk,.junk,.junk,.junk,.junk,.junk,.junk,.junk,.junk,.junk,.junk,.junk,.junk]
def zw (P:Program) (fn:Func) (i:Nat) (x:Ev.AV):Ev.O3:=
  (Ev.comp P false 115 (ze5 (XU fn 18))).run (zbq P) (Ev.argsT (tlB P i) 0 .lf) ((((hB P).add .gone).add .gone).add (.row 40 [.int .i64 1,x]))
def Zs (P:Program) (fn:Func) (i:Nat) (x:Ev.AV):Ev.O3:=
  (Ev.comp P false 115 (XU fn 19)).run (zbq P) (Ev.tmOf (zw P fn i x)) (Ev.hpOf (zw P fn i x))
def yn:Ev.O3->Option (Nat × Nat × Ev.AV × Ev.AV × Ev.AV)
  | .one .ret tm h=>match (Ev.acc Ev.AV.bad 8).run tm with
    | .ptr b o=>match h.row b with
      | some cs=>some (b,o,(Ev.acc Ev.AV.bad 9).run tm,cs.getD (o+9) .bad,cs.getD (o+10) .bad)
      | none=>none
    | _=>none
  | _=>none
theorem zdI {r:Ev.O3} {b o:Nat} {v c d:Ev.AV} (E:yn r=some (b,o,v,c,d)):
    r.all fun e tm h=>e=.ret∧(Ev.acc Ev.AV.bad 8).run tm=.ptr b o∧(Ev.acc Ev.AV.bad 9).run tm=v∧∃ cs,h.row b=some cs∧cs.getD (o+9) .bad=c∧cs.getD (o+10) .bad=d:=by
  unfold yn at E;split at E
  · rename_i tm h
    split at E
    · rename_i b' o' q
      split at E
      · rename_i cs q2
        cases E;exact ⟨rfl,q,rfl,cs,q2,rfl,rfl⟩
      · cases E
    · cases E
  · cases E
theorem zbA:zw Tryz.prog Tryz.f15 0 .nils=.one .normal (Ev.tmOf (zw Tryz.prog Tryz.f15 0 .nils)) (Ev.hpOf (zw Tryz.prog Tryz.f15 0 .nils)):=by kernel_rfl
theorem zbx:yn (Zs Tryz.prog Tryz.f15 0 .nils)=some (12,0,.int .i64 0,.int .i64 1,.nils):=by kernel_rfl
theorem zaW:zw Tryz.prog Tryz.f15 0 (.sl ((hB Tryz.prog).n+1) 0 0 0 4)=.one .normal (Ev.tmOf (zw Tryz.prog Tryz.f15 0 (.sl ((hB Tryz.prog).n+1) 0 0 0 4))) (Ev.hpOf (zw Tryz.prog Tryz.f15 0 (.sl ((hB Tryz.prog).n+1) 0 0 0 4))):=by kernel_rfl
theorem zaH:yn (Zs Tryz.prog Tryz.f15 0 (.sl ((hB Tryz.prog).n+1) 0 0 0 4))=some (12,0,.int .i64 0,.int .i64 1,(.sl ((hB Tryz.prog).n+1) 0 0 0 4)):=by kernel_rfl
theorem zaT:zw Tryz.prog Tryz.f15 0 (.sl ((hB Tryz.prog).n+1) 0 1 1 4)=.one .normal (Ev.tmOf (zw Tryz.prog Tryz.f15 0 (.sl ((hB Tryz.prog).n+1) 0 1 1 4))) (Ev.hpOf (zw Tryz.prog Tryz.f15 0 (.sl ((hB Tryz.prog).n+1) 0 1 1 4))):=by kernel_rfl
theorem zaE:yn (Zs Tryz.prog Tryz.f15 0 (.sl ((hB Tryz.prog).n+1) 0 1 1 4))=some (12,0,.int .i64 0,.int .i64 1,(.sl ((hB Tryz.prog).n+1) 0 1 1 4)):=by kernel_rfl
theorem zaQ:zw Tryz.prog Tryz.f15 0 (.sl ((hB Tryz.prog).n+1) 0 2 2 4)=.one .normal (Ev.tmOf (zw Tryz.prog Tryz.f15 0 (.sl ((hB Tryz.prog).n+1) 0 2 2 4))) (Ev.hpOf (zw Tryz.prog Tryz.f15 0 (.sl ((hB Tryz.prog).n+1) 0 2 2 4))):=by kernel_rfl
theorem zaB:yn (Zs Tryz.prog Tryz.f15 0 (.sl ((hB Tryz.prog).n+1) 0 2 2 4))=some (12,0,.int .i64 0,.int .i64 1,(.sl ((hB Tryz.prog).n+1) 0 2 2 4)):=by kernel_rfl
theorem zaN:zw Tryz.prog Tryz.f15 0 (.sl ((hB Tryz.prog).n+1) 0 3 3 4)=.one .normal (Ev.tmOf (zw Tryz.prog Tryz.f15 0 (.sl ((hB Tryz.prog).n+1) 0 3 3 4))) (Ev.hpOf (zw Tryz.prog Tryz.f15 0 (.sl ((hB Tryz.prog).n+1) 0 3 3 4))):=by kernel_rfl
theorem zay:yn (Zs Tryz.prog Tryz.f15 0 (.sl ((hB Tryz.prog).n+1) 0 3 3 4))=some (12,0,.int .i64 0,.int .i64 1,(.sl ((hB Tryz.prog).n+1) 0 3 3 4)):=by kernel_rfl
theorem zaK:zw Tryz.prog Tryz.f15 0 (.sl ((hB Tryz.prog).n+1) 0 4 4 4)=.one .normal (Ev.tmOf (zw Tryz.prog Tryz.f15 0 (.sl ((hB Tryz.prog).n+1) 0 4 4 4))) (Ev.hpOf (zw Tryz.prog Tryz.f15 0 (.sl ((hB Tryz.prog).n+1) 0 4 4 4))):=by kernel_rfl
theorem zav:yn (Zs Tryz.prog Tryz.f15 0 (.sl ((hB Tryz.prog).n+1) 0 4 4 4))=some (12,0,.int .i64 0,.int .i64 1,(.sl ((hB Tryz.prog).n+1) 0 4 4 4)):=by kernel_rfl
theorem zbz:zw Tryz.prog Tryz.f15 1 .nils=.one .normal (Ev.tmOf (zw Tryz.prog Tryz.f15 1 .nils)) (Ev.hpOf (zw Tryz.prog Tryz.f15 1 .nils)):=by kernel_rfl
theorem zbw:yn (Zs Tryz.prog Tryz.f15 1 .nils)=some (12,0,.int .i64 0,.int .i64 1,.nils):=by kernel_rfl
theorem zaV:zw Tryz.prog Tryz.f15 1 (.sl ((hB Tryz.prog).n+1) 0 0 0 4)=.one .normal (Ev.tmOf (zw Tryz.prog Tryz.f15 1 (.sl ((hB Tryz.prog).n+1) 0 0 0 4))) (Ev.hpOf (zw Tryz.prog Tryz.f15 1 (.sl ((hB Tryz.prog).n+1) 0 0 0 4))):=by kernel_rfl
theorem zaG:yn (Zs Tryz.prog Tryz.f15 1 (.sl ((hB Tryz.prog).n+1) 0 0 0 4))=some (12,0,.int .i64 0,.int .i64 1,(.sl ((hB Tryz.prog).n+1) 0 0 0 4)):=by kernel_rfl
theorem zaS:zw Tryz.prog Tryz.f15 1 (.sl ((hB Tryz.prog).n+1) 0 1 1 4)=.one .normal (Ev.tmOf (zw Tryz.prog Tryz.f15 1 (.sl ((hB Tryz.prog).n+1) 0 1 1 4))) (Ev.hpOf (zw Tryz.prog Tryz.f15 1 (.sl ((hB Tryz.prog).n+1) 0 1 1 4))):=by kernel_rfl
theorem zaD:yn (Zs Tryz.prog Tryz.f15 1 (.sl ((hB Tryz.prog).n+1) 0 1 1 4))=some (12,0,.int .i64 0,.int .i64 1,(.sl ((hB Tryz.prog).n+1) 0 1 1 4)):=by kernel_rfl
theorem zaP:zw Tryz.prog Tryz.f15 1 (.sl ((hB Tryz.prog).n+1) 0 2 2 4)=.one .normal (Ev.tmOf (zw Tryz.prog Tryz.f15 1 (.sl ((hB Tryz.prog).n+1) 0 2 2 4))) (Ev.hpOf (zw Tryz.prog Tryz.f15 1 (.sl ((hB Tryz.prog).n+1) 0 2 2 4))):=by kernel_rfl
theorem zaA:yn (Zs Tryz.prog Tryz.f15 1 (.sl ((hB Tryz.prog).n+1) 0 2 2 4))=some (12,0,.int .i64 0,.int .i64 1,(.sl ((hB Tryz.prog).n+1) 0 2 2 4)):=by kernel_rfl
theorem zaM:zw Tryz.prog Tryz.f15 1 (.sl ((hB Tryz.prog).n+1) 0 3 3 4)=.one .normal (Ev.tmOf (zw Tryz.prog Tryz.f15 1 (.sl ((hB Tryz.prog).n+1) 0 3 3 4))) (Ev.hpOf (zw Tryz.prog Tryz.f15 1 (.sl ((hB Tryz.prog).n+1) 0 3 3 4))):=by kernel_rfl
theorem zax:yn (Zs Tryz.prog Tryz.f15 1 (.sl ((hB Tryz.prog).n+1) 0 3 3 4))=some (12,0,.int .i64 0,.int .i64 1,(.sl ((hB Tryz.prog).n+1) 0 3 3 4)):=by kernel_rfl
theorem zaJ:zw Tryz.prog Tryz.f15 1 (.sl ((hB Tryz.prog).n+1) 0 4 4 4)=.one .normal (Ev.tmOf (zw Tryz.prog Tryz.f15 1 (.sl ((hB Tryz.prog).n+1) 0 4 4 4))) (Ev.hpOf (zw Tryz.prog Tryz.f15 1 (.sl ((hB Tryz.prog).n+1) 0 4 4 4))):=by kernel_rfl
theorem zau:yn (Zs Tryz.prog Tryz.f15 1 (.sl ((hB Tryz.prog).n+1) 0 4 4 4))=some (12,0,.int .i64 0,.int .i64 1,(.sl ((hB Tryz.prog).n+1) 0 4 4 4)):=by kernel_rfl
theorem zby:zw Tryz.prog Tryz.f15 2 .nils=.one .normal (Ev.tmOf (zw Tryz.prog Tryz.f15 2 .nils)) (Ev.hpOf (zw Tryz.prog Tryz.f15 2 .nils)):=by kernel_rfl
theorem zbv:yn (Zs Tryz.prog Tryz.f15 2 .nils)=some (12,0,.int .i64 0,.int .i64 1,.nils):=by kernel_rfl
theorem zaU:zw Tryz.prog Tryz.f15 2 (.sl ((hB Tryz.prog).n+1) 0 0 0 4)=.one .normal (Ev.tmOf (zw Tryz.prog Tryz.f15 2 (.sl ((hB Tryz.prog).n+1) 0 0 0 4))) (Ev.hpOf (zw Tryz.prog Tryz.f15 2 (.sl ((hB Tryz.prog).n+1) 0 0 0 4))):=by kernel_rfl
theorem zaF:yn (Zs Tryz.prog Tryz.f15 2 (.sl ((hB Tryz.prog).n+1) 0 0 0 4))=some (12,0,.int .i64 0,.int .i64 1,(.sl ((hB Tryz.prog).n+1) 0 0 0 4)):=by kernel_rfl
theorem zaR:zw Tryz.prog Tryz.f15 2 (.sl ((hB Tryz.prog).n+1) 0 1 1 4)=.one .normal (Ev.tmOf (zw Tryz.prog Tryz.f15 2 (.sl ((hB Tryz.prog).n+1) 0 1 1 4))) (Ev.hpOf (zw Tryz.prog Tryz.f15 2 (.sl ((hB Tryz.prog).n+1) 0 1 1 4))):=by kernel_rfl
theorem zaC:yn (Zs Tryz.prog Tryz.f15 2 (.sl ((hB Tryz.prog).n+1) 0 1 1 4))=some (12,0,.int .i64 0,.int .i64 1,(.sl ((hB Tryz.prog).n+1) 0 1 1 4)):=by kernel_rfl
theorem zaO:zw Tryz.prog Tryz.f15 2 (.sl ((hB Tryz.prog).n+1) 0 2 2 4)=.one .normal (Ev.tmOf (zw Tryz.prog Tryz.f15 2 (.sl ((hB Tryz.prog).n+1) 0 2 2 4))) (Ev.hpOf (zw Tryz.prog Tryz.f15 2 (.sl ((hB Tryz.prog).n+1) 0 2 2 4))):=by kernel_rfl
theorem zaz:yn (Zs Tryz.prog Tryz.f15 2 (.sl ((hB Tryz.prog).n+1) 0 2 2 4))=some (12,0,.int .i64 0,.int .i64 1,(.sl ((hB Tryz.prog).n+1) 0 2 2 4)):=by kernel_rfl
theorem zaL:zw Tryz.prog Tryz.f15 2 (.sl ((hB Tryz.prog).n+1) 0 3 3 4)=.one .normal (Ev.tmOf (zw Tryz.prog Tryz.f15 2 (.sl ((hB Tryz.prog).n+1) 0 3 3 4))) (Ev.hpOf (zw Tryz.prog Tryz.f15 2 (.sl ((hB Tryz.prog).n+1) 0 3 3 4))):=by kernel_rfl
theorem zaw:yn (Zs Tryz.prog Tryz.f15 2 (.sl ((hB Tryz.prog).n+1) 0 3 3 4))=some (12,0,.int .i64 0,.int .i64 1,(.sl ((hB Tryz.prog).n+1) 0 3 3 4)):=by kernel_rfl
theorem zaI:zw Tryz.prog Tryz.f15 2 (.sl ((hB Tryz.prog).n+1) 0 4 4 4)=.one .normal (Ev.tmOf (zw Tryz.prog Tryz.f15 2 (.sl ((hB Tryz.prog).n+1) 0 4 4 4))) (Ev.hpOf (zw Tryz.prog Tryz.f15 2 (.sl ((hB Tryz.prog).n+1) 0 4 4 4))):=by kernel_rfl
theorem zat:yn (Zs Tryz.prog Tryz.f15 2 (.sl ((hB Tryz.prog).n+1) 0 4 4 4))=some (12,0,.int .i64 0,.int .i64 1,(.sl ((hB Tryz.prog).n+1) 0 4 4 4)):=by kernel_rfl
theorem zcg {i:Nat} (hi:i < 3) {x:Ev.AV} (hx:x=.nils∨∃ n,n < 5∧x=.sl ((hB Tryz.prog).n+1) 0 n n 4):zw Tryz.prog Tryz.f15 i x=.one .normal (Ev.tmOf (zw Tryz.prog Tryz.f15 i x)) (Ev.hpOf (zw Tryz.prog Tryz.f15 i x)):=by
  rcases hx with rfl | ⟨n,hn,rfl⟩
  · rcases (by omega:i=0∨i=1∨i=2) with rfl | rfl | rfl
    · exact zbA
    · exact zbz
    · exact zby
  · rcases (by omega:i=0∨i=1∨i=2) with rfl | rfl | rfl
    · rcases (by omega:n=0∨n=1∨n=2∨n=3∨n=4) with rfl | rfl | rfl | rfl | rfl
      · exact zaW
      · exact zaT
      · exact zaQ
      · exact zaN
      · exact zaK
    · rcases (by omega:n=0∨n=1∨n=2∨n=3∨n=4) with rfl | rfl | rfl | rfl | rfl
      · exact zaV
      · exact zaS
      · exact zaP
      · exact zaM
      · exact zaJ
    · rcases (by omega:n=0∨n=1∨n=2∨n=3∨n=4) with rfl | rfl | rfl | rfl | rfl
      · exact zaU
      · exact zaR
      · exact zaO
      · exact zaL
      · exact zaI
theorem zcf {i:Nat} (hi:i < 3) {x:Ev.AV} (hx:x=.nils∨∃ n,n < 5∧x=.sl ((hB Tryz.prog).n+1) 0 n n 4):yn (Zs Tryz.prog Tryz.f15 i x)=some (12,0,.int .i64 0,.int .i64 1,x):=by
  rcases hx with rfl | ⟨n,hn,rfl⟩
  · rcases (by omega:i=0∨i=1∨i=2) with rfl | rfl | rfl
    · exact zbx
    · exact zbw
    · exact zbv
  · rcases (by omega:i=0∨i=1∨i=2) with rfl | rfl | rfl
    · rcases (by omega:n=0∨n=1∨n=2∨n=3∨n=4) with rfl | rfl | rfl | rfl | rfl
      · exact zaH
      · exact zaE
      · exact zaB
      · exact zay
      · exact zav
    · rcases (by omega:n=0∨n=1∨n=2∨n=3∨n=4) with rfl | rfl | rfl | rfl | rfl
      · exact zaG
      · exact zaD
      · exact zaA
      · exact zax
      · exact zau
    · rcases (by omega:n=0∨n=1∨n=2∨n=3∨n=4) with rfl | rfl | rfl | rfl | rfl
      · exact zaF
      · exact zaC
      · exact zaz
      · exact zaw
      · exact zat
open Go.Maps
attribute [local irreducible] XU ze5 Ev.fcall Ev.comp Ev.argsT


theorem zev {φ:Ev.Phi} {h:Ev.H} {w:World} (r:Ev.Rel φ h w) {oa:Option Addr} {oc:Nat} {L:List yE} {G:Nat->Prop} (ho:zN w (.slice oa L.length oc) G L) (hL:L.length < 5) {lo hi:Nat} (hob:(oa=none∧oc=0)∨∃ g,oa=some ⟨g,0,none⟩∧lo<=g∧g < hi) (hlo:∀ c q,φ c=some q->q.b < lo) (_:lo<=hi) (hw:hi<=w.heap.size):
    ∃ x φ2,Ev.Rel φ2 (h.add .gone) w∧Ev.Ext φ φ2∧(x=.nils∨∃ n,n < 5∧x=.sl h.n 0 n n 4)∧Ev.RelS φ2 x (.slice oa L.length oc)∧(∀ c q,φ2 c=some q->φ c=some q∨(c=h.n∧lo<=q.b∧q.b < hi)) ∧
      ∀ ψ v w',Ev.Ext φ2 ψ->Ev.RelS ψ x v->zN w' (.slice oa L.length oc) G L->∃ oa' oc',v=.slice oa' L.length oc'∧zN w' (.slice oa' L.length oc') G L:=by
  rcases hob with ⟨rfl,rfl⟩ | ⟨g,rfl,hg1,hg2⟩
  · have h0:L.length=0:=by obtain ⟨_,_,e,h1,_⟩:=ho.shape;cases e;omega
    rw [h0];refine ⟨.nils,φ,r.skip _,Ev.Ext.refl φ,.inl rfl,.base .nils,fun c q e=>.inl e,fun ψ v w' _ hv h'=>?_⟩;cases hv with
    | base hv=>cases hv;exact ⟨none,0,rfl,h'⟩
  · have hb:∀ c q,φ c=some q->q.b≠g:=fun c q e=>by have:=hlo c q e;omega
    refine ⟨.sl h.n 0 L.length L.length 4,φ.add h.n ⟨g,0,oc*3⟩,r.blind hb (by show g < _;omega),Ev.Phi.add_ext r.fresh,.inr ⟨_,hL,rfl⟩,?_,fun c q e=>?_,fun ψ v w' hx hv h'=>?_⟩
    · obtain ⟨_,_,e,h1,_⟩:=ho.shape
      cases e;exact .base (.sl (Ev.Phi.add_at _ _ _) (.inl rfl) (zhb _) h1 (fun q=>by cases q) (fun z hz=>by cases hz;show 0+oc*3<=oc*3;omega))
    · by_cases hc:c=h.n
      · subst hc;rw [Ev.Phi.add_at] at e;cases e;exact .inr ⟨rfl,hg1,hg2⟩
      · rw [Ev.Phi.add_of hc] at e;exact .inl e
    · cases hv with
      | base hv=>
        cases hv with
        | @sl _ _ _ _ C off _ p e1 e2 e3 e4 e5 e6=>
          have e7:=hx _ _ (Ev.Phi.add_at φ h.n ⟨g,0,oc*3⟩);rw [e1] at e7;cases e7;have e8:C<=oc:=by have:=e6 3 rfl;simp only at this;omega
          obtain ⟨la,cap,q1,q2,q3,q4,q5⟩:=h';cases q1;refine ⟨_,C,rfl,_,_,rfl,e4,Nat.le_trans e8 q3,(fun q=>by cases q),fun j x hj=>?_⟩;obtain ⟨g',o',ev,z1,z2,z3,z4,z5,z6⟩:=q5 j x hj;cases z1;have hlt:=(zgT.1 hj).1
          have hoff:off=0:=by
            rcases e2 with e | e
            · simpa using e
            · omega
          subst hoff;exact ⟨_,_,ev,rfl,z2,z3,z4,z5,z6⟩
theorem getD_some {l:List Ev.AV} {i:Nat} {x:Ev.AV} (h:l.getD i .bad=x) (hx:x≠.bad):l[i]? = some x:=by
  rw [zgY] at h;cases e:l[i]? with
  | none=>rw [e] at h;exact absurd h.symm hx
  | some y=>rw [e] at h;rw [<- h];rfl
set_option maxRecDepth 100000 in
theorem zfd (w:World) (i:Int) (hi:i < 0∨2 < i) (p q:Value) (hp:∃ b,p=.pointer (some b)) (hq:∃ b,q=.pointer (some b)):
    Calls Tryz.prog 15 #[.int .i64 i,.int .i64 0,p,q] w fun e w'=>e=.returned (.tuple #[.pointer none,.int .i64 1])∧w=w':=by
  obtain ⟨p,rfl⟩:=hp;obtain ⟨q,rfl⟩:=hq
  have t:(decide (i < 0) || decide (3<=i))=true:=by
    rcases hi with h | h
    · rw [zgQ h];rfl
    · rw [zgQ (show 3<=i by omega)];simp
  by_cases h:i < 0
  · have t1:decide (i < 0)=true:=zgQ h
    go_enter Tryz.func15,Tryz.ntmps15;go_wp2;go_ret2;exact ⟨rfl,rfl⟩
  · have t1:decide (i < 0)=false:=zgR h
    have t2:decide (3<=i)=true:=zgQ (by omega);go_enter Tryz.func15,Tryz.ntmps15;go_wp2;go_ret2;exact ⟨rfl,rfl⟩
set_option maxHeartbeats 1000000 in
set_option maxRecDepth 100000 in
theorem zfe (w:World) (B:DB) (d:Dev) (r:xK) (i:Nat) (hi:i < 3) (φ:Ev.Phi) (p0:Ev.Pl) (hp0:φ 0=some p0) (hrel:Ev.Rel φ (hB Tryz.prog) w) (hφ:∀ b p,φ b=some p->¬ B.S p.b) (hd:zF w B d) (hn:B.n=65) (ca:zft 65 d ⟨1,1,⟨(xH r).toArray⟩⟩) (hr:Yl r=true) (h0:r.boot=0) (hs:(xH r).length<=1024):
    Calls Tryz.prog 15 #[.int .i64 i,.int .i64 0,B.ptr,.pointer (some ⟨p0.b,p0.s,none⟩)] w fun e w'=>∃ b q oa oc,e=.returned (.tuple #[.pointer (some ⟨b,q,none⟩),.int .i64 0]) ∧
      w'.cell? ⟨b,q+9,none⟩=some (.int .i64 1)∧w'.cell? ⟨b,q+10,none⟩=some (.slice oa r.objs.length oc)∧zN w' (.slice oa r.objs.length oc) (fun k=>w.heap.size<=k∧k < w'.heap.size) r.objs∧Chg (fun k=>B.S k∨∃ c p,φ c=some p∧p.b=k) w w':=by
  have RL:=zf hrel;have HP0:=zf hp0;have HPHI:=zf hφ;have HD:=zf hd;have HB:=zf (fun k (e:B.S k)=>hd.lt e);have HN:=zf hn;have CA:=zf ca;have HR:=zf hr;have H0:=zf h0;have HS:=zf hs;have OP:=zf (zcu w B _ hd);have t1:decide ((i:Int) < 0)=false:=zgR (by omega);have t2:decide (3<=(i:Int))=false:=zgR (by omega);clear hd hn ca hr h0 hs hrel hp0 hφ;unfold DB.ptr at *;go_enter Tryz.func15,Tryz.ntmps15;go_wp2_with fail;refine (OP.out).mono ?_;rintro e w1 (⟨hbad,_⟩ | ⟨_,b,rfl,j1,k1,hb1,hb2⟩)
  · exact absurd hbad CA.out.rep.fine
  rw [zfk CA.out.rep] at j1;have J1:=zf j1;have D1:=zf (HD.out.chg k1 (fun _ _ e=>e));have hbS:¬ B.S b:=fun e=>by have:=HB.out b e;omega
  have K1:=zf k1;have RC:=zf (zdD w1 B b _ j1);have ss:(⟨(xH r).toArray⟩:ByteArray).size=(xH r).length:=Yo _;have DC:=zf (zcU w1 r ⟨(xH r).toArray⟩ (by simp) HR.out (by rw [ss];have:=HS.out;omega));clear k1 OP;unfold zbL at *;clear j1;simp only at RC;go_wp2_with fail;refine (RC.out).mono ?_;rintro e w1' ⟨rfl,rfl⟩;go_wp2_with fail;refine (DC.out).mono ?_;rintro e w2 ⟨oa,oc,rfl,ho,hob,k2⟩;have h0:=H0.out;rw [h0];have K2:=zf (K1.out.trans k2);have ka:=zj (fun _=>False) w2 (.cells #[.int .i64 1,.slice oa r.objs.length oc] 40);have OB:=zh w2 (.cells #[.int .i64 1,.slice oa r.objs.length oc] 40);have sa:w2.heap.size < (w2.alloc (.cells #[.int .i64 1,.slice oa r.objs.length oc] 40)).heap.size:=by rw [zg0];omega
  have c0:=zg (o:=0) OB rfl;have c1:=zg (o:=1) OB rfl;have hw2:w.heap.size<=w2.heap.size:=K2.out.size;have hw12:w1.heap.size<=w2.heap.size:=k2.size;have hb3:b < w2.heap.size:=by omega
  have K3:=zf (K2.out.trans ka);have HO3:=zf (ho.chg ka (fun _ _ e=>e));have D3:=zf ((D1.out.chg k2 (fun _ _ e=>e)).chg ka (fun _ _ e=>e));have J3:=zf ((J1.out.chg k2 (fun e=>e)).chg ka (fun e=>e));clear ka k2 ho DC RC J1 D1 K1;go_wp2_with fail;generalize hw3:w2.alloc (.cells #[.int .i64 1,.slice oa r.objs.length oc] 40)=w3 at *;clear hw3;have ENC:=zf (XJ w3 { r with boot:=1 } oa oc (fun k=>w1.heap.size<=k∧k < w2.heap.size) HO3.out (fun o ho=>by have:=(yq ((Zv.1 HR.out).2.2.2 o ho)).2;omega) (fun k hk=>by omega));refine (ENC.out).mono ?_;rintro e w4 ⟨(⟨hr1,rfl⟩ | ⟨hr1,rfl⟩),k4⟩
  rotate_left
  · rw [zdF HR.out] at hr1;cases hr1
  have EL:=zf (zdE r h0);generalize xH { r with boot:=1 }=es at *;have c04:=zi k4 (fun e=>e) c0;have c14:=zi k4 (fun e=>e) c1;have OB4:=zf (k4.obj (fun e=>e) OB);have HO4:=zf (HO3.out.chg k4 (fun _ _ e=>e));have D4:=zf (D3.out.chg k4 (fun _ _ e=>e));have J4:=zf (J3.out.chg k4 (fun e=>e));have K4:=zf (K3.out.trans k4);have se:(⟨es.toArray⟩:ByteArray).size=es.length:=Yo _;have hel:es.length<=1024:=by rw [EL.out];exact HS.out
  have CM:=zf (XS w4 B b _ _ ⟨es.toArray⟩ D4.out J4.out hbS (show (1:Nat)<=1 by decide) (show (-9223372036854775808:Int)<=1 by decide) (show (1:Int)<=9223372036854775807 by decide) (by rw [se];unfold maxLen;omega));obtain ⟨d',ed⟩:=zbt CA.out ⟨es.toArray⟩ (by rw [se];exact hel) (show (1:Int) < 4611686018427387904 by decide);rw [ed] at CM;have hz4:w3.heap.size<=w4.heap.size:=k4.size;clear k4 ENC OB c0 c1 K3 D3 J3 HO3;unfold zbL at *;simp only at CM;go_wp2_with fail;refine (CM.out).mono ?_;rintro e w5 ⟨rfl,d5,j5,k5⟩
  have hbx:¬ (B.S w2.heap.size∨w2.heap.size=b):=fun e=>by
    rcases e with e | e
    · have:=HB.out _ e;omega
    · omega
  have OB5:=zf (k5.obj hbx OB4.out)
  have HO5:=zf (HO4.out.chg k5 (fun k hk e=>by
    rcases e with e | rfl
    · have:=HB.out _ e;omega
    · omega))
  have K5:=zf (Chg.next (S:=B.S) (K4.out.mono (fun _ _ e=>e.elim)) k5 (fun k hk e=>by
    rcases e with e | rfl
    · exact e
    · omega))
  have hz5:w4.heap.size<=w5.heap.size:=k5.size;have HPE:=zf hob;clear k5 c04 c14 D4 J4 OB4 HO4 CM d5 j5 hob;go_wp2_with fail;rename_i KK HKK;have R5:=RL.out.chg (zgK K5.out) (fun c q e=>HPHI.out c q e);have R1:=R5.blind (p:=⟨b,0,0⟩) (fun c q e=>by have:=RL.out.inw c q e;show q.b≠b;omega) (by show b < _;omega);have hL:r.objs.length < 5:=by have:=(Zv.1 HR.out).2.2.1;omega
  obtain ⟨x,φ2,R2,X2,hx,hrx,hne,hfin⟩:=zev R1 HO5.out hL HPE.out (fun c q e=>by
    by_cases hc:c=(hB Tryz.prog).n
    · subst hc;rw [Ev.Phi.add_at] at e;cases e;exact hb2
    · rw [Ev.Phi.add_of hc] at e;have:=RL.out.inw c q e;omega) (by omega) (by omega)
  have X1:Ev.Ext φ φ2:=(Ev.Phi.add_ext R5.fresh).trans X2
  have hne2:∀ c q,φ2 c=some q->q.b < w2.heap.size:=fun c q e=>by
    rcases hne c q e with e | e
    · by_cases hc:c=(hB Tryz.prog).n
      · subst hc;rw [Ev.Phi.add_at] at e;cases e;exact hb3
      · rw [Ev.Phi.add_of hc] at e;have:=RL.out.inw c q e;omega
    · omega
  have R3:=R2.takein (p:=⟨w2.heap.size,0,2⟩) (fun c q e=>by have:=hne2 c q e;show q.b≠w2.heap.size;omega) (by show w2.heap.size < _;omega) (x:=.row 40 [.int .i64 1,x])
    (.row OB5.out (show 0+2<=2 by decide) (show 2<=2 by decide) (fun k y hk=>by
      rcases k with _ | _ | k
      · simp at hk;subst hk;exact ⟨_,rfl,.base (.int _ _)⟩
      · simp at hk;subst hk;exact ⟨_,rfl,hrx.ext (Ev.Phi.add_ext R2.fresh)⟩
      · simp at hk))
  have WR:∀ k,Ev.Wr (φ2.add (((hB Tryz.prog).add .gone).add .gone).n ⟨w2.heap.size,0,2⟩) ((((hB Tryz.prog).add .gone).add .gone).add (.row 40 [.int .i64 1,x])) k->(∃ c p,φ c=some p∧p.b=k)∨k=w2.heap.size:=by
    rintro k ⟨c,p,_,e,rfl,al⟩;rw [Ev.H.add_blk] at al;by_cases c2:c=(((hB Tryz.prog).add .gone).add .gone).n
    · rw [c2,Ev.Phi.add_at] at e;cases e;exact .inr rfl
    · rw [Ev.Phi.add_of c2] at e
      rw [if_neg c2,Ev.H.add_blk] at al;rcases hne c p e with e | ⟨c0,_⟩
      · by_cases c0:c=((hB Tryz.prog).add .gone).n
        · rw [if_pos c0] at al;cases al
        · rw [if_neg c0,Ev.H.add_blk] at al
          by_cases c1:c=(hB Tryz.prog).n
          · rw [if_pos c1] at al;cases al
          · rw [Ev.Phi.add_of c1] at e;exact .inl ⟨c,p,e,rfl⟩
      · rw [if_pos c0] at al;cases al
  have X3:=Ev.Phi.add_ext (p:=⟨w2.heap.size,0,2⟩) R2.fresh;have q3:(φ2.add (((hB Tryz.prog).add .gone).add .gone).n ⟨w2.heap.size,0,2⟩) 0=some p0:=X3 _ _ (X1 _ _ HP0.out);have q10:(φ2.add (((hB Tryz.prog).add .gone).add .gone).n ⟨w2.heap.size,0,2⟩) (hB Tryz.prog).n=some ⟨b,0,0⟩:=X3 _ _ (X2 _ _ (Ev.Phi.add_at _ _ _));have q12:(φ2.add (((hB Tryz.prog).add .gone).add .gone).n ⟨w2.heap.size,0,2⟩) ((hB Tryz.prog).n+2)=some ⟨w2.heap.size,0,2⟩:=Ev.Phi.add_at _ _ _;refine zbQ (c':=ze5 (XU Tryz.f15 18)) (by kernel_rfl) ?_;refine Ev.piece_ok ZX ZW (qs:=[239,280]) (n:=100) (N:=115) (Ev.tmRel_lit (l:=tlB Tryz.prog i) ?_) (Nat.le_of_ble_eq_true (by kernel_rfl)) rfl R3 (show (zw Tryz.prog Tryz.f15 i x).all _ from zfq (zcg hi hx)) ?_
  · unfold tlB
    repeat first
      | exact .nil
      | refine .cons (.one (.junk _)) ?_
      | refine .cons (Ev.RelB.toT (.int _ _)) ?_
      | refine .cons (Ev.RelB.toT (.ptr q3)) ?_
      | refine .cons (Ev.RelB.toT (.ptr q10)) ?_
      | refine .cons (Ev.RelB.toT (.ptr q12)) ?_
  rintro e tm' h' ψ a' w6 ⟨rfl,rfl,rfl⟩ m1 msz mdf m2 m3;refine HKK a' w6 ?_;refine zbQ (c':=XU Tryz.f15 19) (by kernel_rfl) ?_;refine Ev.piece_ok ZX ZW (qs:=[239,280]) (n:=100) (N:=115) m1 (by rw [msz];exact Nat.le_of_ble_eq_true (by kernel_rfl)) mdf m2 (show (Zs Tryz.prog Tryz.f15 i x).all _ from zdI (zcf hi hx)) ?_;rintro e tm'' h'' χ a'' w7 ⟨rfl,e8,e9,cs,hrow,hc9,hc10⟩ n1 nsz ndf n2 n3;have t8:=n1 8;have t9:=n1 9;rw [e8] at t8;rw [e9] at t9;generalize hv8:a''.tmps.getD 8 undef=v8 at t8;generalize hv9:a''.tmps.getD 9 undef=v9 at t9;cases t8 with
  | one t8=>cases t8 with
    | val t8=>cases t8 with
      | cell t8=>cases t8 with
        | base t8=>cases t8 with
          | @ptr _ _ p e12=>
            cases t9 with
            | one t9=>cases t9 with
              | val t9=>cases t9 with
                | cell t9=>cases t9 with
                  | base t9=>cases t9 with
                    | int=>
                      obtain ⟨C,T,hat⟩:=Ev.row_some n2.rl e12 hrow;have ST:=Ev.Stp.trans R3 m3 n3;have CH:=zdg ST.ch;obtain ⟨v9,g9,r9⟩:=hat.cell 9 _ (getD_some hc9 (by intro e;cases e));have hx0:x≠.bad:=by rcases hx with rfl | ⟨_,_,rfl⟩ <;> intro e <;> cases e
                      obtain ⟨vA,gA,rA⟩:=hat.cell 10 _ (getD_some hc10 hx0)
                      have hv:v9=.int .i64 1:=by
                        cases r9 with
                        | base r9=>cases r9;rfl
                      subst hv
                      have HO7:=HO5.out.chg CH (fun k hk e=>by
                        rcases WR k e with ⟨c,q,q1,rfl⟩ | e
                        · have:=RL.out.inw c q q1;omega
                        · omega)
                      have hz7:=CH.size;obtain ⟨oa',oc',hvA,HO⟩:=hfin χ vA w7 (X3.trans ST.ext) rA HO7;subst hvA;rw [Array.getD_eq_getD_getElem?] at hv8 hv9;refine bodyPost_ret (v:=.tuple #[.pointer (some ⟨p.b,p.s+0,none⟩),.int .i64 0]) (by simp only [results,Tryz.results15,go_sem];simp [hv8,hv9]) ndf ?_;refine ⟨p.b,p.s+0,oa',oc',rfl,zg hat.obj g9,zg hat.obj gA,HO.up (fun k hk=>⟨by omega,by omega⟩),Chg.next (K5.out.mono (fun k _ e=>.inl e)) CH (fun k hk e=>?_)⟩;rcases WR k e with e | e
                      · exact .inr e
                      · omega
theorem YQ {P:Program} {w:World} {t t2 ty e e2:TypeId} {args:Array Value} (ht:P.underlying t=some (.slice e)) (ht2:P.underlying t2=some (.slice e2)):(Builtin.append_ #[t,t2] ty args).run P w=(Builtin.append_ #[t,t] ty args).run P w:=by
 have e0:(#[t,t2]:Array TypeId)[0]? = some t:=rfl;have e1:(#[t,t2]:Array TypeId)[1]? = some t2:=rfl;have e2:(#[t,t]:Array TypeId)[0]? = some t:=rfl;have e3:(#[t,t]:Array TypeId)[1]? = some t:=rfl;unfold Builtin.append_;simp only [e0,e1,e2,e3];cases h0:args[0]? with
 | none=>rfl
 | some s=>
  cases h1:args[1]? with
  | none=>rfl
  | some x=>
   simp only [Sem.run_bind,run_underlying ht,Result.andThen_ok];cases s with
   | slice a n c=>
    simp only [Sem.run_bind,run_underlying ht,run_underlying ht2,Result.andThen_ok,Sem.run_pure]
   | _=>rfl
theorem XX {P:Program} {w:World} {ops:Array Oper} {rest:List Oper} {o:Oper} {a:Act} {Q:Exit->Act->World->Prop} (hgd:o.guard=none) (s x:Operand) (t t2:TypeId)
  (ho:o.op=.call { callee:=.builtin .append,args:=#[s,x],argTypes:=#[t,t2] }) (e e2:TypeId) (size bytes:Nat) (ht:P.underlying t=some (.slice e)) (ht2:P.underlying t2=some (.slice e2)) (hE:zP P e size bytes)
  (base:Nat) (v:Value) (n:Nat) (xs:List Value) (hs:a.eval s=v) (hown:w.ownsRow base e size v n xs)
  (xa:Option Addr) (m c:Nat) (news:List Value) (hx:a.eval x=.slice xa m c) (hl:news.length=m*size) (hc:∀ (j:Nat) u,news[j]? = some u->∃ g o,xa=some ⟨g,o,none⟩∧w.cell? ⟨g,o+j,none⟩=some u) (hnil:xa=none->m=0∧c=0)
  (h1:∀ u∈news,u.oneCell'=true) (hbytes:(n+m)*bytes<=140737488355328) (h63:n+m<=maxLen) (hbase:base<=w.heap.size)
  (h:∀ v' w',w'.ownsRow base e size v' (n+m) (xs++news)->w.grownBy w' v.ownBlock->wpList P ops Q rest (a.put o.dst v') w'):wpList P ops Q (o :: rest) a w:=by
 obtain ⟨i,z,hi,hz,q1,q2,q3,q4⟩:=hE;refine wpList_plain hgd fun K hK=>?_;cases xa with
 | none=>
  obtain ⟨rfl,rfl⟩:=hnil rfl;have:news=[]:=List.eq_nil_of_length_eq_zero (by rw [hl];omega);subst this;have hrun:=run_append_owned_none (P:=P) (w:=w) base t o.type e i size ht hi v n xs hown;rw [<- YQ ht ht2] at hrun;unfold Oper.wp;simp [execOp,ho,resolve,invoke,builtin,hs,hx,hrun,Result.andThen];exact hK _ _ (h v w (by simpa using hown) ⟨rfl,rfl,rfl,zhb _,fun _ _ _=>rfl⟩)
 | some ad=>
  have hnews:∀ j u,news[j]? = some u->w.cell? (ad.add j)=some u:=fun j u hj=>by
   obtain ⟨g,oo,e1,hcell⟩:=hc j u hj;cases e1;rw [ZG];exact hcell
  obtain ⟨v',w',hr,h2,h3,_⟩:=run_append_own (P:=P) w base t o.type e i z size bytes ht hi hz q1 q2 q3 q4 v n xs hown ad m c news hl hnews h1 h63 hbytes hbase;rw [<- YQ ht ht2] at hr;unfold Oper.wp execOp;simp only [ho,resolve,invoke,builtin,Sem.run_bind,Sem.run_pure,Result.andThen_ok,List.map_toArray,List.map_cons,List.map_nil,hs,hx,hr];exact hK _ _ (h v' w' h2 h3)
def zgu (op:Int) (who:Value):Value:=.agg #[.int .i64 0,.int .i64 0,.int .i64 0,.int .u16 0,.int .i64 0,.int .i64 0,.int .i64 0,.int .i64 0,.int .i64 op,who,.int .i64 0,.int .i64 0,.string ⟨#[]⟩,.slice none 0 0,.string ⟨#[]⟩,.slice none 0 0]
set_option maxHeartbeats 4000000 in
set_option maxRecDepth 100000 in
theorem zb6 (w:World) (op:Int) (a:Option Addr) (n c:Nat) (G:Nat->Prop) (l:List ByteArray) (hv:ZV w (.slice a n c) G l) (hl:l.length<=18):
    Calls Tryz.prog 32 #[zgu op (.slice a n c)] w fun e w'=>∃ b:Bool,e=.returned (.bool b)∧Chg (fun _=>False) w w'∧(b=false->∀ s∈l,s.size<=100):=by
  have SRC:=zf (xQ hv.at_);have NIL:=zf (show a=none->n=0∧c=0 from fun e=>hv.nil _ _ (by rw [e]));obtain ⟨_,_,e0,_,_⟩:=id hv.at_;cases e0;unfold zgu;have k1:=zj (fun _=>False) w (.cells #[.int .i64 0,.int .i64 0,.int .i64 0,.int .u16 0,.int .i64 0,.int .i64 0,.int .i64 0,.int .i64 0,.int .i64 op,.slice a l.length c,.int .i64 0,.int .i64 0,.string ⟨#[]⟩,.slice none 0 0,.string ⟨#[]⟩,.slice none 0 0] 99);have O1:=zf (zh w (.cells #[.int .i64 0,.int .i64 0,.int .i64 0,.int .u16 0,.int .i64 0,.int .i64 0,.int .i64 0,.int .i64 0,.int .i64 op,.slice a l.length c,.int .i64 0,.int .i64 0,.string ⟨#[]⟩,.slice none 0 0,.string ⟨#[]⟩,.slice none 0 0] 99));have K1:=zf k1;have c9:=zg (o:=9) O1.out rfl;have c12:=zg (o:=12) O1.out rfl;have c13:=zg (o:=13) O1.out rfl;have c14:=zg (o:=14) O1.out rfl;have c15:=zg (o:=15) O1.out rfl;clear hv k1;go_enter Tryz.func32,Tryz.ntmps32;have g30:decide (30 < (l.length:Int))=false:=zgR (by omega);go_upto_region 1 with fail;generalize w.alloc (.cells #[.int .i64 0,.int .i64 0,.int .i64 0,.int .u16 0,.int .i64 0,.int .i64 0,.int .i64 0,.int .i64 0,.int .i64 op,.slice a l.length c,.int .i64 0,.int .i64 0,.string ⟨#[]⟩,.slice none 0 0,.string ⟨#[]⟩,.slice none 0 0] 99)=w1 at *;obtain ⟨b0,hb0⟩:∃ b0,b0=w.heap.size:=⟨_,rfl⟩;rw [<- hb0] at O1 c9 c12 c13 c14 c15;rw [<- hb0];clear hb0;have KE:=zf (zj (fun _=>False) w1 (.cells #[] 29))
  have SR2:=zf (fun (j:Nat) u (hj:(zV l)[j]? = some u)=>show ∃ g o,a=some ⟨g,o,none⟩∧(w1.alloc (.cells #[] 29)).cell? ⟨g,o+j,none⟩=some u from by
    obtain ⟨g',o',e,c1⟩:=SRC.out j u hj;exact ⟨g',o',e,zi (K1.out.trans KE.out) (fun e=>e) c1⟩)
  have e9:=zi KE.out (fun e=>e) c9;go_wp2_with (at_builtin;refine XX rfl (.tmp 39) (.tmp 44) 31 32 rfl 29 29 1 16 Tryz.underlying31 Tryz.underlying32 Tryz.elemWord w1.heap.size _ 0 [] rfl (ya _ _ _ _ (zhb _)) a l.length c (zV l) rfl ?a1 ?a2 ?a3 ?a4 ?a5 ?a6 ?a7 ?a8)
  case a1=>unfold zV;rw [zgW];omega
  case a2=>exact SR2.out
  case a3=>exact fun e=>by simpa using NIL.out e
  case a4=>exact YU _
  case a5=>omega
  case a6=>unfold maxLen;omega
  case a7=>simp
  intro v2 w2 o2 g2;obtain ⟨a2,ac2,rfl⟩:=zq o2;have O2:=zf (show w2.ownsRow w1.heap.size 29 1 (.slice a2 l.length ac2) l.length (zV l) from by simpa using o2)
  have K2:=zf (show Chg (fun _=>False) w1 w2 from KE.out.next (Chg.of_grown g2) (fun x hx e=>by
    have e2:w1.heap.size=x:=by simpa [Value.ownBlock] using e
    omega))
  have d13:=zi K2.out (fun e=>e) c13;have HB:=zf (K2.out.obj (fun e=>e) O1.out);clear o2 g2 SR2 KE c9 c12 c13 c14 c15 e9;go_wp2;go_loopw [3,50] (fun sv iv wr=>sv=.slice a2 l.length ac2∧iv=.int .i64 0∧w2=wr) (fun _ _ _=>0)
  case atStart=>exact ⟨by simp,rfl,rfl⟩
  case round=>
    obtain ⟨rfl,rfl,rfl⟩:=hrel;go_wp2;go_loopw [83] (fun iv wr=>∃ k:Nat,k<=l.length∧iv=.int .i64 (k:Int)∧w2=wr∧Hid (∀ s∈l.take k,s.size<=100)) (fun iv _=>l.length - (intOf iv).toNat)
    case atStart=>exact ⟨0,by omega,rfl,rfl,zf (fun s hs=>by simp at hs)⟩
    case round=>
      obtain ⟨k,hk,rfl,rfl,HA⟩:=hrel;by_cases hlt:k < l.length
      · obtain ⟨x,hx⟩:∃ x,l[k]? = some x:=⟨_,zgS hlt⟩
        obtain ⟨ra,rc,e,h1,hcl⟩:=zah O2.out;obtain ⟨g,hg,_,cx⟩:=hcl k (.string x) (by unfold zV;rw [zg3,hx];rfl);cases e;subst hg
        have NX:=zf (fun (hq:x.size<=100)=>show ∀ s∈l.take (k+1),s.size<=100 from fun s hs=>by
          rw [zha,hx] at hs;rcases zg4.1 hs with hs | hs
          · exact HA.out s hs
          · simp at hs;subst hs;exact hq)
        by_cases hq:100 < x.size
        · have g1:decide (100 < (x.size:Int))=true:=zgQ (by omega)
          have g2:decide (100 < x.size)=true:=zgQ hq;go_wp2;go_ret;exact ⟨true,rfl,K1.out.trans K2.out,fun e=>by cases e⟩
        · have g1:decide (100 < (x.size:Int))=false:=zgR (by omega)
          have g2:decide (100 < x.size)=false:=zgR hq;have NY:=zf (NX.out (by omega));clear NX hx;go_wp2;go_roundw
          case rel=>exact ⟨k+1,by omega,by go_num,by first | rfl | trivial,NY⟩
          case measure=>simp [intOf];omega
      · obtain rfl:k=l.length:=by omega
        have FA:=HA.out;rw [zhc] at FA;have FA:=zf FA;go_wp2;go_ret;exact ⟨false,rfl,K1.out.trans K2.out,fun _=>FA.out⟩
set_option maxHeartbeats 4000000 in
set_option maxRecDepth 100000 in
theorem zcK (w:World) (r:xK) (oa:Option Addr) (oc:Nat) (G:Nat->Prop) (h:zN w (.slice oa r.objs.length oc) G r.objs):
    Calls Tryz.prog 23 #[.agg #[.int .i64 r.boot,.slice oa r.objs.length oc]] w fun e w'=>∃ b:Bool,e=.returned (.bool b)∧Chg (fun _=>False) w w'∧(b=false->zgG r):=by
  have H:=zf h;have k1:=zj (fun _=>False) w (.cells #[.int .i64 r.boot,.slice oa r.objs.length oc] 40);have O1:=zf (zh w (.cells #[.int .i64 r.boot,.slice oa r.objs.length oc] 40));have K1:=zf k1;have c1:=zg (o:=1) O1.out rfl;have hlm:r.objs.length<=maxLen:=by obtain ⟨_,_,e,h1,h2,_⟩:=h.shape;cases e;omega
  unfold maxLen at hlm;have FIN:=zf (fun (a:r.objs.length<=6) (b:∀ o∈r.objs,o.ents.length<=14∧∀ x∈o.ents,x.2.length<=18∧∀ s∈x.2,s.size<=100)=>show zgG r from ⟨a,fun o ho=>(b o ho).1,fun o ho x hx=>((b o ho).2 x hx).1,fun o ho x hx=>((b o ho).2 x hx).2⟩);obtain ⟨bo,objs⟩:=r;simp only at *;clear h k1;go_enter Tryz.func23,Tryz.ntmps23;by_cases h6:6 < objs.length
  · have g6:decide (6 < (objs.length:Int))=true:=zgQ (by omega)
    go_wp2;go_ret;exact ⟨true,rfl,K1.out,fun e=>by cases e⟩
  have g6:decide (6 < (objs.length:Int))=false:=zgR (by omega);go_wp2;clear c1;generalize w.alloc (.cells #[.int .i64 bo,.slice oa objs.length oc] 40)=w1 at *;generalize hb0:w.heap.size=b0 at *;clear hb0;go_loopw [13] (fun iv wr=>∃ k:Nat,k<=objs.length∧iv=.int .i64 (k:Int)∧Hid (Chg (fun _=>False) w1 wr)∧Hid (∀ o∈objs.take k,o.ents.length<=14∧∀ x∈o.ents,x.2.length<=18∧∀ s∈x.2,s.size<=100)) (fun iv _=>objs.length - (intOf iv).toNat)
  case atStart=>exact ⟨0,by omega,rfl,zf (Chg.refl _ _),zf (fun o ho=>by simp at ho)⟩
  case round=>
    obtain ⟨k,hk,rfl,HC,HA⟩:=hrel;have c1:=zg (o:=1) (HC.out.obj (fun e=>e) O1.out) rfl;by_cases hlt:k < objs.length
    · obtain ⟨o,ho⟩:∃ o,objs[k]? = some o:=⟨_,zgS hlt⟩
      have KK:=zf (K1.out.trans HC.out);obtain ⟨g,p,ea,ec,rfl,_,d0,d1,d2,he⟩:=(H.out.chg KK.out (fun _ _ e=>e)).get ho;have hem:o.ents.length<=maxLen:=by obtain ⟨_,_,e,h1,h2⟩:=he.shape;cases e;omega
      unfold maxLen at hem
      have NX:=zf (fun (hq:o.ents.length<=14∧∀ x∈o.ents,x.2.length<=18∧∀ s∈x.2,s.size<=100)=>show ∀ o∈objs.take (k+1),o.ents.length<=14∧∀ x∈o.ents,x.2.length<=18∧∀ s∈x.2,s.size<=100 from fun y hy=>by
        rw [zha,ho] at hy;rcases zg4.1 hy with hy | hy
        · exact HA.out y hy
        · simp at hy;subst hy;exact hq)
      obtain ⟨va,vb,ents⟩:=o;simp only at *;have HE:=zf he;clear he ho;by_cases h14:14 < ents.length
      · have g14:decide (14 < (ents.length:Int))=true:=zgQ (by omega)
        go_wp2;go_ret;exact ⟨true,rfl,KK.out,fun e=>by cases e⟩
      have g14:decide (14 < (ents.length:Int))=false:=zgR (by omega);go_wp2;clear d0 d2 c1;generalize hwo:wr=wo at *;clear hwo;go_loopw [31] (fun jv wr=>∃ j:Nat,j<=ents.length∧jv=.int .i64 (j:Int)∧Hid (Chg (fun _=>False) wo wr)∧Hid (∀ x∈ents.take j,x.2.length<=18∧∀ s∈x.2,s.size<=100)) (fun jv _=>ents.length - (intOf jv).toNat)
      case atStart=>exact ⟨0,by omega,rfl,zf (Chg.refl _ _),zf (fun x hx=>by simp at hx)⟩
      case round=>
        obtain ⟨j,hj,rfl,HD,HB⟩:=hrel;by_cases hlt2:j < ents.length
        · obtain ⟨x,hx⟩:∃ x,ents[j]? = some x:=⟨_,zgS hlt2⟩
          have c1:=zg (o:=1) ((HC.out.trans HD.out).obj (fun e=>e) O1.out) rfl;have e1:=zi HD.out (fun e=>e) d1;obtain ⟨g2,q2,sa,sc,rfl,_,u0,u1,hs⟩:=(HE.out.chg HD.out (fun _ _ e=>e)).get hx;have kb:=zj (fun _=>False) wr (.cells #[.int .i64 x.1,.slice sa x.2.length sc] 34);have OX:=zh wr (.cells #[.int .i64 x.1,.slice sa x.2.length sc] 34);have x0:=zg (o:=0) OX rfl;have x1:=zg (o:=1) OX rfl;have KB:=zf (HD.out.trans kb);have LG:=zf (fun (hq:x.2.length<=18)=>zb6 _ x.1 sa x.2.length sc G x.2 (hs.chg kb (fun _ _ e=>e)) hq)
          have NY:=zf (fun (hq:x.2.length<=18∧∀ s∈x.2,s.size<=100)=>show ∀ x∈ents.take (j+1),x.2.length<=18∧∀ s∈x.2,s.size<=100 from fun y hy=>by
            rw [zha,hx] at hy;rcases zg4.1 hy with hy | hy
            · exact HB.out y hy
            · simp at hy;subst hy;exact hq)
          have hsm:x.2.length<=maxLen:=by obtain ⟨_,_,e,h1,_⟩:=hs.at_;cases e;exact h1
          unfold maxLen at hsm;obtain ⟨op,who⟩:=x;simp only at *;clear hs kb OX hx HD;by_cases h18:18 < who.length
          · have g18:decide (18 < (who.length:Int))=true:=zgQ (by omega)
            go_wp2;go_ret;exact ⟨true,rfl,KK.out.trans KB.out,fun e=>by cases e⟩
          have g18:decide (18 < (who.length:Int))=false:=zgR (by omega);have LG2:=LG.out (by omega);unfold zgu at LG2;have LG2:=zf LG2;clear LG;go_wp2_with fail;clear u0 u1 x0 x1 e1 c1;(with_reducible refine LG2.out.mono ?_);rintro e w5 ⟨bb,rfl,k5,hb⟩;cases bb with
          | true=>
            have K5:=zf (KK.out.trans (KB.out.trans k5));clear LG2 k5 hb;go_wp2;go_ret;exact ⟨true,rfl,K5.out,fun e=>by cases e⟩
          | false=>
            have K5:=zf (KB.out.trans k5);have NZ:=zf (NY.out ⟨by omega,hb rfl⟩);clear LG2 k5 hb NY;go_wp2;go_roundw
            case rel=>exact ⟨j+1,by omega,by go_num,K5,NZ⟩
            case measure=>simp [intOf];omega
        · obtain rfl:j=ents.length:=by omega
          have FB:=HB.out;rw [zhc] at FB;have FX:=zf (NX.out ⟨by omega,FB⟩);have KX:=zf (HC.out.trans HD.out);clear FB NX;go_wp2;go_roundw
          case rel=>exact ⟨k+1,by omega,by go_num,KX,FX⟩
          case measure=>simp [intOf];omega
    · obtain rfl:k=objs.length:=by omega
      have FA:=HA.out;rw [zhc] at FA;have FF:=zf (FIN.out (by omega) FA);have KF:=zf (K1.out.trans HC.out);clear FA;go_wp2;go_ret;exact ⟨false,rfl,KF.out,fun _=>FF.out⟩
end Go.Proofs.YtcilaocknhphnaaGreat
