/- Part of the proof of KernelDoes: raw arguments. -/
import Derived.Test.YtobcafblgapgfaaGreatDoorRows
import Derived.Test.YtobcafblgapgfaaGreatDoorL23
import Derived.Test.YtobcafblgapgfaaGreatDoorPD1
set_option linter.all false
set_option maxRecDepth 100000
namespace Go.Proofs.YtobcafblgapgfaaGreatDoor
open Go Go.ke Go.fB
def adE{H:Type}(d:DataW H):1<=Rows.uptoBulk d:=by
 cases d with
 |lit l=>cases l<;>simp[Rows.uptoBulk]
 |_=>simp[Rows.uptoBulk]
def adj{H:Type}{d:DataW H}{l:List (DataW H)}(h:d∈l):Rows.uptoBulk d<=Rows.uptoBulkAll l:=by
 induction l with
 |nil=>cases h
 |cons x r a=>
  simp only[Rows.uptoBulkAll];rcases j0.1 h with rfl|h
  ·omega
  ·have:=a h;omega
def adl{H:Type}(l:List (DataW H)):l.length<=Rows.uptoBulkAll l:=by
 induction l with
 |nil=>simp[Rows.uptoBulkAll]|cons x r a=>have:=adE x;simp only[Rows.uptoBulkAll,kN];omega
def ado{H α:Type}(g:α->Nat):∀(l:List α) (es:List (DataW H)),es.length=l.length->(∀(i:Nat) (a:α) (d:DataW H),l[i]?=some a->es[i]?=some d->g a<=Rows.uptoBulk d)->c_ g l<=Rows.uptoBulkAll es
 |[],_,_,_=>by simp[c_]|a::l,[],h,_=>by simp at h
 |a::l,d::es,h,hg=>by
  have h1:=hg 0 a d rfl rfl;have b:=ado g l es (by simpa using h) λi a d h1 b=>hg (i+1) a d (by simpa using h1) (by simpa using b);simp only[c_,Rows.uptoBulkAll];omega
section
variable{H:Type} {enc:TypeId×Value->H} {W:World}
def ac7{k n:Nat}{b:Array Field}{f:Field}{i u off:Nat}{cs:List Value}{xs:List (DataW H×List MemPlace)}(c:xs.length=b.size)
  (e:∀(i:Nat) (f:Field),b[i]?=some f->DataW.trod enc Tryz.prog W 0 (λ_=>true) true n f.type ((cs.drop f.offset).take (Tryz.prog.cellsOf f.type))=xs[i]?)
  (hi:b[i]?=some f) (g:f.type=u) (h:f.offset=off) (j:Tryz.prog.cellsOf u=k):∃y,DataW.trod enc Tryz.prog W 0 (λ_=>true) true n u ((cs.drop off).take k)=some y/\y.1∈xs.map (·.1):=by
 subst g h j;have d:=e i f hi
 have a:i<xs.length:=by rw[c];exact(MC.1 hi).1
 rw[oO a] at d;exact⟨_,d,l8.2 ⟨_,GH a,rfl⟩⟩
def adC:∀(fuel:Nat) (cs:List Value) (x:DataW H×List MemPlace),DataW.trod enc Tryz.prog W 0 (λ_=>true) true fuel 28 cs=some x->∃a:Ty,Dl W a.av.cells cs/\a.acU<=Rows.uptoBulk x.1:=by
 intro fuel
 induction fuel using Nat.strongRecOn with
 |_ fuel j=>
  intro cs x h;obtain⟨xs,n,rfl,k,c,b,f⟩:=DataW.trod_struct Tryz.underlying28 h;have l:cs.length=2:=c.trans Fe;obtain⟨y,m,_⟩:=ac7 (i:=0) b f rfl (u:=3) rfl (off:=0) rfl Bq;obtain⟨a0,o⟩:=CM Tryz.underlying3 m;obtain⟨z,h1,e⟩:=ac7 (i:=1) b f rfl (u:=24) rfl (off:=1) rfl Qp;obtain⟨a1,p,q1⟩:=ac8 Ty.av (λa d=>a.acU<=Rows.uptoBulk d) 2 Tryz.underlying24 Fe VW aaO ZH h1 (λf2 q r s=>j f2 VW q r);refine⟨.mk a0 a1,?_,?_⟩
  ·rw[Ty.fo];exact oC (off:=0) (n:=1) (off':=1) rfl o (oC (off:=1) (n:=1) (off':=2) rfl p (FF (JB l)))
  ·rw[k,Ty.cN];simp only[Rows.uptoBulk];have g:=adj e;rcases q1 with rfl|⟨es,rs,t,v,w⟩
   ·simp only[c_];omega
   ·have:=ado Ty.acU a1 es v w;rw[t] at g;simp only[Rows.uptoBulk] at g;omega
def ad0(a:Sq):∀y∈a.av.cells,y.eD=true:=by
 intro y hy;rw[Sq.fo] at hy;simp only[j0,tw,TI] at hy;rcases hy with rfl|rfl<;>rfl
def adI:Tryz.prog.cellsOf 26=2:=by kernel_rfl
def adH(fuel:Nat)(cs:List Value)(x:DataW H×List MemPlace)(h:DataW.trod enc Tryz.prog W 0 (λ_=>true) true fuel 26 cs=some x):∃a:Sq,Dl W a.av.cells cs/\a.acW.length<=Rows.uptoBulk x.1/\a.acZ.length<=Rows.uptoBulk x.1/\∀t∈a.acW,t.acU<=Rows.uptoBulk x.1:=by
 obtain⟨xs,n,rfl,j,k,c,v⟩:=DataW.trod_struct Tryz.underlying26 h;have w:cs.length=2:=k.trans adI;obtain⟨C,y,l⟩:=ac7 (i:=0) c v rfl (u:=24) rfl (off:=0) rfl Qp;obtain⟨a0,z,q0⟩:=ac8 Ty.av (λa d=>a.acU<=Rows.uptoBulk d) 2 Tryz.underlying24 Fe VW aaO ZH y (λf2 m o p=>adC f2 m o);obtain⟨D,h1,q⟩:=ac7 (i:=1) c v rfl (u:=23) rfl (off:=1) rfl Qc;obtain⟨a1,A,q1⟩:=ac8 Fm.av (λ_ _=>True) 5 Tryz.underlying23 OL VW Z7 VS h1 (λf2 m o p h=>(TH f2 m o h).imp λa B=>⟨B,trivial⟩);have b:=adj l;have e:=adj q;refine⟨.mk a0 a1,?_,?_,?_,?_⟩
 ·rw[Sq.fo];exact oC (off:=0) (n:=1) (off':=1) rfl z (oC (off:=1) (n:=1) (off':=2) rfl A (FF (JB w)))
 ·rw[j];simp only[Rows.uptoBulk];rcases q0 with rfl|⟨es,rs,f,r,s⟩
  ·simp
  ·rw[f] at b;simp only[Rows.uptoBulk] at b;have:=adl es;show a0.length<=_;omega
 ·rw[j];simp only[Rows.uptoBulk];rcases q1 with rfl|⟨es,rs,f,r,s⟩
  ·simp
  ·rw[f] at e;simp only[Rows.uptoBulk] at e;have:=adl es;show a1.length<=_;omega
 ·intro t g;rw[j];simp only[Rows.uptoBulk];have g:t∈a0:=g;rcases q0 with rfl|⟨es,rs,f,r,s⟩
  ·cases g
  ·rw[f] at b;simp only[Rows.uptoBulk] at b;have h1:=ado Ty.acU a0 es r s;have E:=dh Ty.acU g;omega
def adG{v:Value}{d:DataW H}{ps:List MemPlace}{r:Reach}{f:Nat}(b:Value.okWide Tryz.prog W r f 23 v)(h:DataW.Trod enc Tryz.prog W 0 (λ_=>true) true 23 v d ps):∃l:List Fm,Dl W [.slice .hY (l.map Fm.av)] [v]/\l.length<=Rows.uptoBulk d:=by
 obtain⟨fuel,e⟩:=h;rw[Gn Tryz.underlying23 b] at e;obtain⟨l,h1,g⟩:=ac8 Fm.av (λ_ _=>True) 5 Tryz.underlying23 OL VW Z7 VS e (λf2 i j k h=>(TH f2 i j h).imp λa m=>⟨m,trivial⟩);refine⟨l,h1,?_⟩;rcases g with rfl|⟨es,rs,c,n,_⟩
 ·simp
 ·have c:d=.slice es rs:=c;subst c;have:=adl es;simp only[Rows.uptoBulk];omega
end
end Go.Proofs.YtobcafblgapgfaaGreatDoor
