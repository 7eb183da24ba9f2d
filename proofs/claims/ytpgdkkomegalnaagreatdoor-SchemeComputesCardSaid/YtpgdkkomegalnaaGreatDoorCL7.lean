/- Part of the proof of SchemeComputes: layer. -/
import Derived.Test.YtpgdkkomegalnaaGreatDoorCL6
set_option linter.all false
namespace Go.ld
open Go
def rootOf(ops:List Oper):Nat->Nat->Option Nat
 |0,_=>none|f+1,t=>
  match ops.find? (λo=>o.dst==some t)with
  |none=>some t|some o=>match o.op with
   |.fieldAddr _ (.tmp y) _=>rootOf ops f y|.indexAddr _ (.tmp y) _=>rootOf ops f y|.nilCheck (.tmp y)=>rootOf ops f y|.move (.tmp y)=>rootOf ops f y|.alloc _=>some t|.box _ _=>some t|_=>none
def Gz(ops:List Oper):Operand->Option Nat
 |.tmp t=>rootOf ops (ops.length+1) t|_=>none
def rl(ops:List Oper)(x:Operand)(v:AV):Bool:=
 match v with
 |.ie b _ _=>Gz ops x==some b|_=>true
def isG:AV->Bool
 |.fh _ _=>true|_=>false
def isL:AV->Bool
 |.ie _ _ _=>true|_=>false
inductive Zw where
 |val|load (r:Option Nat)|alloc (d:Option Nat)|CB|app|Ni (r:Option Nat)
 deriving DecidableEq
def gf(E:List Nat)(ops:List Oper)(o:Oper):Zw:=
 match o.op with
 |.load _ x=>.load (Gz ops x)|.lookup _ _ _ _=>.load none|.alloc _=>match o.dst with|some d=>if E.contains d then .CB else .alloc (some d)|none=>.CB
 |.box _ _=>match o.dst with|some d=>if E.contains d then .CB else .alloc (some d)|none=>.CB
 |.store _ x _=>.Ni (Gz ops x)|.call c=>match c.callee with|.builtin .append=>.app|.builtin _=>.val|_=>.CB
 |_=>.val
def xA:Zw->Zw->Bool
 |.val,_=>true|_,.val=>true|.load _,.load _=>true|.load r,.alloc d=>r !=d|.alloc d,.load r=>r !=d|.load _,.app=>true|.app,.load _=>true|.load _,.CB=>true|.CB,.load _=>true|.load r,.Ni a=>r !=a|.Ni a,.load r=>r !=a|.alloc _,.alloc _=>true|.alloc _,.app=>true|.app,.alloc _=>true|.alloc _,.CB=>true|.CB,.alloc _=>true|.app,.CB=>true|.CB,.app=>true|_,_=>false
structure Qt where
 all:Bool
 st:Nat->Bool
 cl:Nat->Nat:=λ_=>0
instance:Coe Bool Qt:=⟨λb=>⟨b,λ_=>false,λ_=>0⟩⟩
def Qt.ok(q:Qt):AV->Bool
 |.fh o _=>q.all||q.st o|_=>true
def QK(q:Qt)(H H':dZ):Prop:=(q.all=true->H'=H)/\∀o,q.st o=true->H'[o]?=H[o]?
@[simp] theorem Qt.ajz(q:Qt)(o f:Nat):q.ok (.fh o f)=(q.all||q.st o):=rfl
@[simp] theorem Qt.ai_(q:Qt)(b g f:Nat):q.ok (.ie b g f)=true:=rfl
@[simp] theorem Qt.ajI(q:Qt)(x:AV):q.ok (.mA x)=true:=rfl
@[simp] theorem ald(a:Bool)(st:Nat->Bool)(cl:Nat->Nat)(H H':dZ):QK ⟨a,st,cl⟩ H H'=((a=true->H'=H)/\∀o,st o=true->H'[o]?=H[o]?):=rfl
theorem QK.refl{q:Qt}{H:dZ}:QK q H H:=⟨λ_=>rfl,λ_ _=>rfl⟩
def nH(P:Program)(T:eO)(E:List Nat)(ops:List Oper)(q:Qt)(soft:Bool)(fr:Fr)(H:dZ)(o:Oper):Option AV:=
 match o.op with
 |.load t x=>if rl ops x (ev T fr x)&&(!soft||q.ok (ev T fr x))then vz P fr H t (ev T fr x)else none|.lookup t x i ok=>if !soft||q.all then vM P H t (ev T fr x) (ev T fr i) ok else none|.buildSlice t n a=>if o.dst.any E.contains then none else mU P t n (a.toList.map λp=>(p.1,ev T fr p.2))|.makeSlice t l c=>zg P t (ev T fr l) (ev T fr c)|.alloc _=>none|.box _ _=>none|.store _ _ _=>none|.call c=>match c.callee with
  |.builtin .append=>none|.builtin _=>yC P T fr c|_=>none
 |_=>AG P T fr o
def uV(P:Program)(T:eO)(b:AV)(args:List AV)(H:dZ)(r:AV)(H':dZ):Prop:=o7 P T b args H λc a=>c=r/\a=H'
def hV(P:Program)(T:eO)(E:List Nat)(ops:List Oper)(q:Qt)(soft:Bool)(o:Oper)(K:Fr->dZ->Prop)(fr:Fr)(H:dZ):Prop:=
 match o.op with
 |.alloc t=>match kj P t with
  |some z=>(soft=true->o.dst.any E.contains=false)/\k7 E o.dst z K fr H|none=>False
 |.box _ x=>fC (ev T fr x)=true/\(soft=true->o.dst.any E.contains=false)/\k7 E o.dst (ev T fr x).cells K fr H|.store t x y=>o.dst=none/\rl ops x (ev T fr x)=true/\(soft=true->isL (ev T fr x)=true)/\l_ P t (ev T fr x) (ev T fr y) K fr H|.call c=>match c.callee with
  |.builtin .append=>nj P T c o.dst K fr H|.builtin _=>match nH P T E ops q soft fr H o with
   |some v=>K (fr.put o.dst v) H|none=>False
  |.value f=>∃r H',uV P T (ev T fr f) (c.args.toList.map λx=>(ev T fr x).norm) H r H'/\(soft=true->QK q H H')/\K (fr.put o.dst r) H'|.invoke _ _=>False
 |_=>match nH P T E ops q soft fr H o with
  |some v=>K (fr.put o.dst v) H|none=>False
section
variable{P:Program} {T:eO} {E:List Nat} {ops:List Oper} {q:Qt} {soft:Bool} {o:Oper} {K K':Fr->dZ->Prop} {fr:Fr} {H:dZ}
theorem OF{dst:Option Nat}{cs:List AV}(a:∀fr H,K fr H->K' fr H)(h:k7 E dst cs K fr H):k7 E dst cs K' fr H:=by
 unfold k7 at*
 grind
theorem OB{t:TypeId}{x v:AV}(a:∀fr H,K fr H->K' fr H)(h:l_ P t x v K fr H):l_ P t x v K' fr H:=by
 unfold l_ at*
 split at h
 all_goals grind
theorem Nv{c:Call}{dst:Option Nat}(a:∀fr H,K fr H->K' fr H)(h:nj P T c dst K fr H):nj P T c dst K' fr H:=by
 unfold nj at*
 grind
def od(P:Program)(T:eO)(E:List Nat)(ops:List Oper)(q:Qt)(soft:Bool)(o:Oper)(fr:Fr)(H:dZ)(fr':Fr)(H':dZ):Prop:=hV P T E ops q soft o (λf h=>f=fr'/\h=H') fr H
theorem Q4{dst:Option Nat}{cs:List AV}(h:k7 E dst cs K fr H):∃fr' H',k7 E dst cs (λf h=>f=fr'/\h=H') fr H/\K fr' H':=by
 unfold k7 at*
 grind
theorem R2{t:TypeId}{x v:AV}(h:l_ P t x v K fr H):∃fr' H',l_ P t x v (λf h=>f=fr'/\h=H') fr H/\K fr' H':=by
 unfold l_ at*
 split at h
 all_goals grind
theorem Qd{c:Call}{dst:Option Nat}(h:nj P T c dst K fr H):∃fr' H',nj P T c dst (λf h=>f=fr'/\h=H') fr H/\K fr' H':=by
 unfold nj at*
 grind
def tR(h:hV P T E ops q soft o K fr H):∃fr' H',od P T E ops q soft o fr H fr' H'/\K fr' H':=by
 unfold od hV at*
 grind[Q4,R2,Qd]
theorem JC(a:∀fr H,K fr H->K' fr H)(h:hV P T E ops q soft o K fr H):hV P T E ops q soft o K' fr H:=by
 unfold hV at*
 split at h
 all_goals grind[OF,OB,Nv]
def wM{fr':Fr}{H':dZ}(h:od P T E ops q soft o fr H fr' H')(a:K fr' H'):hV P T E ops q soft o K fr H:=
 JC (λf h ⟨b,c⟩=>by subst b;subst c;exact a) h
def Pg(h:hV P T E ops q soft o K fr H):q9 P T E o K fr H:=by
 obtain⟨dst,op,type,pos,after,guard⟩:=o;cases op with
 |alloc t=>grind[hV,q9]|box t x=>
  simp only[hV,q9] at h|-;exact⟨h.1,h.2.2⟩
 |store t x y=>
  simp only[hV,q9] at h|-;exact⟨h.1,h.2.2.2⟩
 |load t x=>grind[hV,q9,nH]|buildSlice t n B=>
  simp only[hV,q9,nH] at h|-
  split at h
  ·rename_i v j
   split at j
   ·cases j
   ·rename_i k;rw[j];simp only[J2];rw[dK k];exact h
  ·exact h.elim
 |lookup t x i ok=>grind[hV,q9,nH]|convert s d x=>
  simp only[hV,q9,nH,AG,Yg] at h|-
  grind
 |call c=>
  obtain⟨callee,args,tys⟩:=c;cases callee with
  |builtin b=>cases b<;>simp only[hV,q9,nH] at h|-<;>first|exact .inl (.inl h)|exact h
  |value f=>
   simp only[hV,q9] at h|-;obtain⟨r,H',a,C,l⟩:=h;unfold uV o7 at a;unfold o7
   split at a
   ·exact a.mono λD u ⟨w,A⟩=>by subst w;subst A;exact l
   ·exact a
  |invoke r m=>simp only[hV] at h
 |_=>
  simp only[hV,q9,nH] at h|-
  first
   |exact h
   |(simp only[AG] at h)
end
section
variable{P:Program} {T:eO} {fr fr':Fr}
theorem Fh{x:Operand}(h:∀t,x=.tmp t->fr.env t=fr'.env t):ev T fr x=ev T fr' x:=by
 cases x with
 |tmp t=>exact h t rfl|_=>rfl
theorem T0{xs:List Operand}(h:∀x∈xs,ev T fr x=ev T fr' x):xs.map (ev T fr)=xs.map (ev T fr'):=tN h
def Ha{c:Call}(h:∀x∈c.args.toList,ev T fr x=ev T fr' x):yC P T fr c=yC P T fr' c:=by
 unfold yC
 split
 all_goals grind[T0]
def QS{o:Oper}(h:∀x∈o.op.operands,ev T fr x=ev T fr' x):AG P T fr o=AG P T fr' o:=by
 obtain⟨dst,op,type,pos,after,guard⟩:=o
 have opt:∀(x:Option Operand),(∀y,x=some y->ev T fr y=ev T fr' y)->x.map (ev T fr)=x.map (ev T fr'):=by
  intro x a;cases x with
  |none=>rfl|some y=>simp[a y rfl]
 cases op<;>simp only[Op.operands] at h<;>simp only[AG]
 case move x=>rw[h x aaA]
 case assign x=>rw[h x aaA]
 case pick c x y=>rw[h c aaA,h x aaA,h y aaA]
 case build t j=>
  have:(j.toList.map λp=>(p.1,ev T fr p.2))=j.toList.map λp=>(p.1,ev T fr' p.2):=
   tN λp k=>by rw[h p.2 (by simp;exact⟨p.1,by simpa using k⟩)]
  rw[this]
 case binOp op t x y r=>rw[h x aaA,h y aaA]
 case unOp op t x=>rw[h x aaA]
 case convert s d x=>rw[h x aaA]
 case makeFunc fn f c=>
  have l:(f.toList.map λx=>(ev T fr x).norm)=f.toList.map λx=>(ev T fr' x).norm:=tN λx a=>by rw[h x (by simp[yp.1 a])]
  have n:(c.toList.map λx=>(ev T fr x).norm)=c.toList.map λx=>(ev T fr' x).norm:=tN λx a=>by rw[h x (by simp[yp.1 a])]
  rw[l,n]
 case fieldAddr t x i=>rw[h x aaA]
 case field t x i=>rw[h x aaA]
 case indexAddr t x i=>rw[h x aaA,h i aaA]
 case index t x i=>rw[h x aaA,h i aaA]
 case slice t x lo hi q=>rw[h x aaA,opt lo λy b=>h y (by simp[b]),opt hi λy b=>h y (by simp[b]),opt q λy b=>h y (by simp[b])]
 case extract x i=>rw[h x aaA]
 case nilCheck x=>rw[h x aaA]
 case makeInterface t x=>rw[h x aaA]
 case typeAssert x u t ok=>cases ok<;>simp only[h x aaA]
 case call c=>exact Ha λx a=>h x (by simp[Call.operands,yp.1 a])
def PA{H H':dZ}{t:TypeId}{x:AV}(a:∀b g off,x=.ie b g off->fr.box b=fr'.box b/\fr.gen b=fr'.gen b)(c:∀o off,x=.fh o off->H[o]?=H'[o]?):vz P fr H t x=vz P fr' H' t x:=by
 cases x with
 |ie b g off=>grind[vz]|fh o off=>grind[vz]|_=>rfl
def zv{E:List Nat}{ops:List Oper}{q:Qt}{soft:Bool}{H H':dZ}{o:Oper}(h:∀x∈o.op.operands,ev T fr x=ev T fr' x)
  (f:∀t x,o.op=.load t x->(∀b g off,ev T fr x=.ie b g off->fr.box b=fr'.box b/\fr.gen b=fr'.gen b)/\(∀o off,ev T fr x=.fh o off->H[o]?=H'[o]?)) (j:∀t x i ok,o.op=.lookup t x i ok->H=H'):nH P T E ops q soft fr H o=nH P T E ops q soft fr' H' o:=by
 obtain⟨dst,op,type,pos,after,guard⟩:=o;cases op with
 |load t x=>
  have a:=h x (by simp[Op.operands]);obtain⟨k,r⟩:=f t x rfl;simp only[nH];rw[PA k r,a]
 |lookup t x i ok=>
  simp only[nH];rw[j t x i ok rfl,h x (by simp[Op.operands]),h i (by simp[Op.operands])]
 |buildSlice t n d=>
  simp only[nH]
  have:(d.toList.map λp=>(p.1,ev T fr p.2))=d.toList.map λp=>(p.1,ev T fr' p.2):=
   tN λp s=>by rw[h p.2 (by simp[Op.operands];exact⟨p.1,by simpa using s⟩)]
  rw[this]
 |makeSlice t l c=>
  simp only[nH];rw[h l (by simp[Op.operands]),h c (by simp[Op.operands])]
 |call c=>
  obtain⟨callee,args,tys⟩:=c
  have u:yC P T fr {callee:=callee,args:=args,argTypes:=tys}=yC P T fr' {callee:=callee,args:=args,argTypes:=tys}:=
   Ha λx a=>h x (by simp[Op.operands,Call.operands,yp.1 a])
  cases callee with
  |builtin b=>cases b<;>simp only[nH]<;>first|rfl|exact u
  |_=>rfl
 |alloc t=>rfl|box t x=>rfl|store t x y=>rfl|_=>exact QS (P:=P) h
end
theorem m7(fr:Fr){d a:Nat}(h:d≠a)(x y:AV):(fr.put (some d) x).put (some a) y=(fr.put (some a) y).put (some d) x:=by
 simp only[Fr.put]
 congr 1
 grind[gL]
section
variable{P:Program} {T:eO} {E:List Nat} {ops:List Oper} {opsA:Array Oper} {q:Qt} {soft:Bool} {o:Oper} {K:Fr->dZ->Prop} {fr:Fr} {H:dZ}
def Ms{d:Nat}{v:AV}(J:d∉o.looksAt opsA)(A:o.dst≠some d)(h:hV P T E ops q soft o K (fr.put (some d) v) H):hV P T E ops q soft o (λf h=>K (f.put (some d) v) h) fr H:=by
 have j:∀x∈o.op.operands,ev T (fr.put (some d) v) x=ev T fr x:=by
  intro x D;refine Fh λt R=>?_;subst R;rw[Fr.uo,dK];rintro he;injection he with he;subst he;exact J (ahJ _ (ahp.2 ⟨.tmp d,by simpa using D,rfl⟩))
 have F:nH P T E ops q soft (fr.put (some d) v) H o=nH P T E ops q soft fr H o:=zv j (λt x _=>⟨λb g off _=>⟨rfl,rfl⟩,λ_ _ _=>rfl⟩) λ_ _ _ _ _=>rfl;clear J;obtain⟨dst,op,type,pos,after,guard⟩:=o;simp only at A
 have a:∀x:AV,((fr.put (some d) v).put dst x)=((fr.put dst x).put (some d) v):=by
  intro x;cases dst with
  |none=>rfl|some u=>exact m7 fr (λe=>A (by rw[e])) v x
 have n:∀cs,k7 E dst cs K (fr.put (some d) v) H->k7 E dst cs (λf h=>K (f.put (some d) v) h) fr H:=by
  intro cs w;unfold k7 at*
  split at w
  ·rename_i u;have C:u≠d:=λe=>A (by rw[e])
   have B:∀y:AV,gL (gL fr.env d v) u y=gL (gL fr.env u y) d v:=by
    intro y;have:=congrArg Fr.env (m7 fr C.symm v y);exact this
   split at w
   ·rename_i G;rw[dR G];simp only[Fr.put] at w|-;rw[<-B];exact w
   ·rename_i G;rw[dK G];simp only[Fr.put] at w|-;rw[<-B];exact w
  ·exact w.elim
 cases op with
 |alloc t=>
  simp only[hV] at h|-
  split at h
  ·exact⟨h.1,n _ h.2⟩
  ·exact h.elim
 |box t x=>
  simp only[hV] at h|-;rw[j x (by simp[Op.operands])] at h;exact⟨h.1,h.2.1,n _ h.2.2⟩
 |store t x y=>
  simp only[hV] at h|-;rw[j x (by simp[Op.operands]),j y (by simp[Op.operands])] at h;refine⟨h.1,h.2.1,h.2.2.1,?_⟩;have S:=h.2.2.2;unfold l_ at*;exact S
 |call c=>
  obtain⟨callee,args,tys⟩:=c;cases callee with
  |builtin b=>
   have i:∀x∈args.toList,ev T (fr.put (some d) v) x=ev T fr x:=λx D=>j x (by simp[Op.operands,Call.operands,yp.1 D])
   cases b<;>first
    |(simp only[hV] at h|-
      rw[F] at h
      split at h
      ·rw[<-a];exact h
      ·exact h.elim)
    |(simp only[hV] at h|-
      unfold nj at*
      split at h
      ·rename_i u s x t U k L;have C:u≠d:=λe=>A (by rw[e]);simp only at k;rw[i s (by rw[k];simp),i x (by rw[k];simp)] at h
       split at h
       ·rename_i e sz tag l M m N O Q;obtain⟨g1,g2,g3,g4,g5⟩:=h;refine⟨g1,g2,g3,g4,?_⟩;have I:o6 (fr.put (some d) v) tag l=o6 fr tag l:=rfl;rw[I] at g5
        split at g5
        ·rename_i w;rw[dR w]
         have:grown (fr.put (some d) v) u tag l m=(grown fr u tag l m).put (some d) v:=by
          have:=congrArg Fr.env (m7 fr C.symm v (.slice (.loc u (fr.fo u+1)) (l++m)));simp only[grown,Fr.put] at this|-;rw[this]
         show K ((grown fr u tag l m).put (some d) v) H;rw[<-this];exact g5
        ·rename_i w;rw[dK w];refine⟨g5.1,?_⟩;show K ((fr.put (some u) (.slice .gK l)).put (some d) v) H;rw[<-a];exact g5.2
       ·exact h.elim
      ·exact h.elim)
  |value f=>
   simp only[hV] at h|-
   have i:(args.toList.map λx=>(ev T (fr.put (some d) v) x).norm)=args.toList.map λx=>(ev T fr x).norm:=
    tN λx D=>by rw[j x (by simp[Op.operands,Call.operands,yp.1 D])]
   rw[i,j f (by simp[Op.operands,Call.operands])] at h;obtain⟨r,H',N,O,Q⟩:=h;refine⟨r,H',N,O,?_⟩;rw[<-a];exact Q
  |invoke r m=>exact h
 |_=>
  simp only[hV] at h|-;rw[F] at h
  split at h
  ·rw[<-a];exact h
  ·exact h.elim
end
end Go.ld
