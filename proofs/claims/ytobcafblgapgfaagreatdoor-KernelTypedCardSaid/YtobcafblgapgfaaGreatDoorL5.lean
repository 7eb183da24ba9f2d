/- Part of the proof of KernelTyped: layer. -/
import Derived.Test.YtobcafblgapgfaaGreatDoorL4
set_option linter.all false
namespace Go.m7
open Go
def rootOf(ops:List Oper):Nat->Nat->Option Nat
 |0,_=>none|f+1,t=>
  match ops.find? (λo=>o.dst==some t)with
  |none=>some t|some o=>match o.op with
   |.fieldAddr _ (.tmp y) _=>rootOf ops f y|.indexAddr _ (.tmp y) _=>rootOf ops f y|.nilCheck (.tmp y)=>rootOf ops f y|.move (.tmp y)=>rootOf ops f y|.alloc _=>some t|.box _ _=>some t|_=>none
def DV(ops:List Oper):Operand->Option Nat
 |.tmp t=>rootOf ops (ops.length+1) t|_=>none
def rq(ops:List Oper)(x:Operand)(v:AV):Bool:=
 match v with
 |.eC b _ _=>DV ops x==some b|_=>true
def VC:AV->Bool
 |.fO _ _=>true|_=>false
def isL:AV->Bool
 |.eC _ _ _=>true|_=>false
inductive Tu where
 |val|load (r:Option Nat)|alloc (d:Option Nat)|A2|app|J4 (r:Option Nat)
 deriving DecidableEq
def g_(E:List Nat)(ops:List Oper)(o:Oper):Tu:=
 match o.op with
 |.load _ x=>.load (DV ops x)|.lookup _ _ _ _=>.load none|.alloc _=>match o.dst with|some d=>if E.contains d then .A2 else .alloc (some d)|none=>.A2
 |.box _ _=>match o.dst with|some d=>if E.contains d then .A2 else .alloc (some d)|none=>.A2
 |.store _ x _=>.J4 (DV ops x)|.call c=>match c.callee with|.builtin .append=>.app|.builtin _=>.val|_=>.A2
 |_=>.val
def wx:Tu->Tu->Bool
 |.val,_=>true|_,.val=>true|.load _,.load _=>true|.load r,.alloc d=>r !=d|.alloc d,.load r=>r !=d|.load _,.app=>true|.app,.load _=>true|.load _,.A2=>true|.A2,.load _=>true|.load r,.J4 a=>r !=a|.J4 a,.load r=>r !=a|.alloc _,.alloc _=>true|.alloc _,.app=>true|.app,.alloc _=>true|.alloc _,.A2=>true|.A2,.alloc _=>true|.app,.A2=>true|.A2,.app=>true|_,_=>false
def pP(P:Program)(T:fa)(E:List Nat)(ops:List Oper)(q soft:Bool)(fr:Fr)(H:eD)(o:Oper):Option AV:=
 match o.op with
 |.load t x=>if rq ops x (ev T fr x)&&(!soft||q||!VC (ev T fr x))then uq P fr H t (ev T fr x)else none|.lookup t x i ok=>if !soft||q then uP P H t (ev T fr x) (ev T fr i) ok else none|.buildSlice t n ps=>if o.dst.any E.contains=true then none else nQ P t n (ps.toList.map λp=>(p.1,ev T fr p.2))|.alloc _=>none|.box _ _=>none|.store _ _ _=>none|.call c=>match c.callee with
  |.builtin .append=>none|.builtin _=>wk P T fr c|_=>none
 |_=>x0 P T fr o
def qv(P:Program)(T:fa)(b:AV)(args:List AV)(H:eD)(r:AV)(H':eD):Prop:=rA P T b args H λc a=>c=r/\a=H'
def ie(P:Program)(T:fa)(E:List Nat)(ops:List Oper)(q soft:Bool)(o:Oper)(K:Fr->eD->Prop)(fr:Fr)(H:eD):Prop:=
 match o.op with
 |.alloc t=>match lA P t with
  |some z=>(soft=true->o.dst.any E.contains=false)/\lu E o.dst z K fr H|none=>False
 |.box _ x=>fZ (ev T fr x)=true/\(soft=true->o.dst.any E.contains=false)/\lu E o.dst (ev T fr x).cells K fr H|.store t x y=>o.dst=none/\rq ops x (ev T fr x)=true/\(soft=true->isL (ev T fr x)=true)/\nw P t (ev T fr x) (ev T fr y) K fr H|.call c=>match c.callee with
  |.builtin .append=>nM P T c o.dst K fr H|.builtin _=>match pP P T E ops q soft fr H o with
   |some v=>K (fr.put o.dst v) H|none=>False
  |.value f=>∃r H',qv P T (ev T fr f) (c.args.toList.map λx=>(ev T fr x).norm) H r H'/\(soft=true->q=true->H'=H)/\K (fr.put o.dst r) H'|.invoke _ _=>False
 |_=>match pP P T E ops q soft fr H o with
  |some v=>K (fr.put o.dst v) H|none=>False
section
variable{P:Program} {T:fa} {E:List Nat} {ops:List Oper} {q soft:Bool} {o:Oper} {K K':Fr->eD->Prop} {fr:Fr} {H:eD}
theorem Es{dst:Option Nat}{cs:List AV}(a:∀fr H,K fr H->K' fr H)(h:lu E dst cs K fr H):lu E dst cs K' fr H:=by
 unfold lu at*
 grind
theorem L8{t:TypeId}{x v:AV}(a:∀fr H,K fr H->K' fr H)(h:nw P t x v K fr H):nw P t x v K' fr H:=by
 unfold nw at*
 split at h
 all_goals grind
theorem KU{c:Call}{dst:Option Nat}(a:∀fr H,K fr H->K' fr H)(h:nM P T c dst K fr H):nM P T c dst K' fr H:=by
 unfold nM at*
 grind
def oI(P:Program)(T:fa)(E:List Nat)(ops:List Oper)(q soft:Bool)(o:Oper)(fr:Fr)(H:eD)(fr':Fr)(H':eD):Prop:=ie P T E ops q soft o (λf h=>f=fr'/\h=H') fr H
theorem Gz{dst:Option Nat}{cs:List AV}(h:lu E dst cs K fr H):∃fr' H',lu E dst cs (λf h=>f=fr'/\h=H') fr H/\K fr' H':=by
 unfold lu at*
 grind
theorem Nn{t:TypeId}{x v:AV}(h:nw P t x v K fr H):∃fr' H',nw P t x v (λf h=>f=fr'/\h=H') fr H/\K fr' H':=by
 unfold nw at*
 split at h
 all_goals grind
theorem ML{c:Call}{dst:Option Nat}(h:nM P T c dst K fr H):∃fr' H',nM P T c dst (λf h=>f=fr'/\h=H') fr H/\K fr' H':=by
 unfold nM at*
 grind
def xH(h:ie P T E ops q soft o K fr H):∃fr' H',oI P T E ops q soft o fr H fr' H'/\K fr' H':=by
 unfold oI ie at*
 grind[Gz,Nn,ML]
theorem He(a:∀fr H,K fr H->K' fr H)(h:ie P T E ops q soft o K fr H):ie P T E ops q soft o K' fr H:=by
 unfold ie at*
 split at h
 all_goals grind[Es,L8,KU]
def zN{fr':Fr}{H':eD}(h:oI P T E ops q soft o fr H fr' H')(a:K fr' H'):ie P T E ops q soft o K fr H:=
 He (λf h ⟨b,c⟩=>by subst b;subst c;exact a) h
theorem EH(h:ie P T E ops q soft o K fr H):sx P T E o K fr H:=by
 obtain⟨dst,op,type,pos,after,guard⟩:=o;cases op with
 |alloc t=>
  simp only[ie,sx] at h|-
  split at h
  ·rename_i z g;rw[g];exact h.2
  ·exact h.elim
 |box t x=>
  simp only[ie,sx] at h|-;exact⟨h.1,h.2.2⟩
 |store t x y=>
  simp only[ie,sx] at h|-;exact⟨h.1,h.2.2.2⟩
 |load t x=>grind[ie,sx,pP]|buildSlice t n ps=>
  simp only[ie,sx,pP] at h|-
  split at h
  ·rename_i v a
   split at a
   ·cases a
   ·rename_i j;rw[a];simp only[FN];rw[ea j];exact h
  ·exact h.elim
 |lookup t x i ok=>grind[ie,sx,pP]|convert s d x=>
  simp only[ie,sx,pP,x0,Ra] at h|-
  split at h
  ·rename_i v a;rw[a];exact h
  ·exact h.elim
 |call c=>
  obtain⟨callee,args,N7⟩:=c;cases callee with
  |builtin b=>cases b<;>simp only[ie,sx,pP] at h|-<;>first|exact .inl (.inl h)|exact h
  |value f=>
   simp only[ie,sx] at h|-;obtain⟨r,H',e,w,k⟩:=h;unfold qv rA at e;unfold rA
   split at e
   ·exact e.mono λA l ⟨p,u⟩=>by subst p;subst u;exact k
   ·exact e
  |invoke r m=>simp only[ie] at h
 |_=>
  simp only[ie,sx,pP] at h|-
  first
   |exact h
   |(simp only[x0] at h)
end
section
variable{P:Program} {T:fa} {fr fr':Fr}
def LG{x:Operand}(h:∀t,x=.tmp t->fr.env t=fr'.env t):ev T fr x=ev T fr' x:=by
 cases x with
 |tmp t=>exact h t rfl|_=>rfl
theorem Jm{xs:List Operand}(h:∀x∈xs,ev T fr x=ev T fr' x):xs.map (ev T fr)=xs.map (ev T fr'):=xV h
def Ez{c:Call}(h:∀x∈c.args.toList,ev T fr x=ev T fr' x):wk P T fr c=wk P T fr' c:=by
 unfold wk
 split
 all_goals grind[Jm]
def OK{o:Oper}(h:∀x∈o.op.operands,ev T fr x=ev T fr' x):x0 P T fr o=x0 P T fr' o:=by
 obtain⟨dst,op,type,pos,after,guard⟩:=o
 have opt:∀(x:Option Operand),(∀y,x=some y->ev T fr y=ev T fr' y)->x.map (ev T fr)=x.map (ev T fr'):=by
  intro x a;cases x with
  |none=>rfl|some y=>simp[a y rfl]
 cases op<;>simp only[Op.operands] at h<;>simp only[x0]
 case move x=>rw[h x (by simp)]
 case assign x=>rw[h x (by simp)]
 case pick c x y=>rw[h c (by simp),h x (by simp),h y (by simp)]
 case build t ps=>
  have:(ps.toList.map λp=>(p.1,ev T fr p.2))=ps.toList.map λp=>(p.1,ev T fr' p.2):=
   xV λp b=>by rw[h p.2 (by simp;exact⟨p.1,by simpa using b⟩)]
  rw[this]
 case binOp op t x y k=>rw[h x (by simp),h y (by simp)]
 case unOp op t x=>rw[h x (by simp)]
 case convert s d x=>rw[h x (by simp)]
 case makeFunc fn f c=>
  have e:(f.toList.map λx=>(ev T fr x).norm)=f.toList.map λx=>(ev T fr' x).norm:=xV λx a=>by rw[h x (by simp[yh.1 a])]
  have g:(c.toList.map λx=>(ev T fr x).norm)=c.toList.map λx=>(ev T fr' x).norm:=xV λx a=>by rw[h x (by simp[yh.1 a])]
  rw[e,g]
 case fieldAddr t x i=>rw[h x (by simp)]
 case field t x i=>rw[h x (by simp)]
 case indexAddr t x i=>rw[h x (by simp),h i (by simp)]
 case index t x i=>rw[h x (by simp),h i (by simp)]
 case slice t x lo hi j=>rw[h x (by simp),opt lo λy hy=>h y (by simp[hy]),opt hi λy hy=>h y (by simp[hy]),opt j λy hy=>h y (by simp[hy])]
 case extract x i=>rw[h x (by simp)]
 case nilCheck x=>rw[h x (by simp)]
 case makeInterface t x=>rw[h x (by simp)]
 case call c=>exact Ez λx a=>h x (by simp[Call.operands,yh.1 a])
theorem LF{H H':eD}{t:TypeId}{x:AV}(c:∀b g off,x=.eC b g off->fr.box b=fr'.box b/\fr.gen b=fr'.gen b)(a:VC x=true->H=H'):uq P fr H t x=uq P fr' H' t x:=by
 cases x with
 |eC b g off=>grind[uq]|fO o off=>rw[a rfl];rfl|_=>rfl
def Br{E:List Nat}{ops:List Oper}{q soft:Bool}{H H':eD}{o:Oper}(h:∀x∈o.op.operands,ev T fr x=ev T fr' x)
  (j:∀t x,o.op=.load t x->(∀b g off,ev T fr x=.eC b g off->fr.box b=fr'.box b/\fr.gen b=fr'.gen b)/\(VC (ev T fr x)=true->H=H')) (d:∀t x i ok,o.op=.lookup t x i ok->H=H'):pP P T E ops q soft fr H o=pP P T E ops q soft fr' H' o:=by
 obtain⟨dst,op,type,pos,after,guard⟩:=o;cases op with
 |load t x=>
  have a:=h x (by simp[Op.operands])
  grind[pP,LF]
 |lookup t x i ok=>
  simp only[pP];rw[d t x i ok rfl,h x (by simp[Op.operands]),h i (by simp[Op.operands])]
 |buildSlice t n ps=>
  simp only[pP]
  have:(ps.toList.map λp=>(p.1,ev T fr p.2))=ps.toList.map λp=>(p.1,ev T fr' p.2):=
   xV λp e=>by rw[h p.2 (by simp[Op.operands];exact⟨p.1,by simpa using e⟩)]
  rw[this]
 |call c=>
  obtain⟨callee,args,N7⟩:=c
  have f:wk P T fr {callee:=callee,args:=args,argTypes:=N7}=wk P T fr' {callee:=callee,args:=args,argTypes:=N7}:=
   Ez λx a=>h x (by simp[Op.operands,Call.operands,yh.1 a])
  cases callee with
  |builtin b=>cases b<;>simp only[pP]<;>first|rfl|exact f
  |_=>rfl
 |alloc t=>rfl|box t x=>rfl|store t x y=>rfl|_=>exact OK (P:=P) h
end
def sC(fr:Fr){d a:Nat}(h:d≠a)(x y:AV):(fr.put (some d) x).put (some a) y=(fr.put (some a) y).put (some d) x:=by
 simp only[Fr.put]
 congr 1
 grind[hS]
section
variable{P:Program} {T:fa} {E:List Nat} {ops:List Oper} {opsA:Array Oper} {q soft:Bool} {o:Oper} {K:Fr->eD->Prop} {fr:Fr} {H:eD}
def JL{d:Nat}{v:AV}(G:d∉o.looksAt opsA)(w:o.dst≠some d)(h:ie P T E ops q soft o K (fr.put (some d) v) H):ie P T E ops q soft o (λf h=>K (f.put (some d) v) h) fr H:=by
 have j:∀x∈o.op.operands,ev T (fr.put (some d) v) x=ev T fr x:=by
  intro x B;refine LG λt O=>?_;subst O;rw[Fr.C',ea];rintro he;injection he with he;subst he;exact G (UT _ (VX.2 ⟨.tmp d,by simpa using B,rfl⟩))
 have C:pP P T E ops q soft (fr.put (some d) v) H o=pP P T E ops q soft fr H o:=Br j (λt x _=>⟨λb g off _=>⟨rfl,rfl⟩,λ_=>rfl⟩) λ_ _ _ _ _=>rfl;clear G;obtain⟨dst,op,type,pos,after,guard⟩:=o;simp only at w
 have a:∀x:AV,((fr.put (some d) v).put dst x)=((fr.put dst x).put (some d) v):=by
  intro x;cases dst with
  |none=>rfl|some p=>exact sC fr (λe=>w (by rw[e])) v x
 have n:∀cs,lu E dst cs K (fr.put (some d) v) H->lu E dst cs (λf h=>K (f.put (some d) v) h) fr H:=by
  intro cs u;unfold lu at*
  split at u
  ·rename_i p;have A:p≠d:=λe=>w (by rw[e])
   have z:∀y:AV,hS (hS fr.env d v) p y=hS (hS fr.env p y) d v:=by
    intro y;have:=congrArg Fr.env (sC fr A.symm v y);exact this
   split at u
   ·rename_i D;rw[ee D];simp only[Fr.put] at u|-;rw[<-z];exact u
   ·rename_i D;rw[ea D];simp only[Fr.put] at u|-;rw[<-z];exact u
  ·exact u.elim
 cases op with
 |alloc t=>
  simp only[ie] at h|-
  split at h
  ·exact⟨h.1,n _ h.2⟩
  ·exact h.elim
 |box t x=>
  simp only[ie] at h|-;rw[j x (by simp[Op.operands])] at h;exact⟨h.1,h.2.1,n _ h.2.2⟩
 |store t x y=>
  simp only[ie] at h|-;rw[j x (by simp[Op.operands]),j y (by simp[Op.operands])] at h;refine⟨h.1,h.2.1,h.2.2.1,?_⟩;have Q:=h.2.2.2;unfold nw at*;exact Q
 |call c=>
  obtain⟨callee,args,N7⟩:=c;cases callee with
  |builtin b=>
   have i:∀x∈args.toList,ev T (fr.put (some d) v) x=ev T fr x:=λx B=>j x (by simp[Op.operands,Call.operands,yh.1 B])
   cases b<;>first
    |(simp only[ie] at h|-
      rw[C] at h
      split at h
      ·rw[<-a];exact h
      ·exact h.elim)
    |(simp only[ie] at h|-
      unfold nM at*
      split at h
      ·rename_i p s x t R k I;have A:p≠d:=λe=>w (by rw[e]);simp only at k;rw[i s (by rw[k];simp),i x (by rw[k];simp)] at h
       split at h
       ·rename_i e sz tag l J m L M N;obtain⟨g1,g2,g3,g4,g5⟩:=h;refine⟨g1,g2,g3,g4,?_⟩;have F:pW (fr.put (some d) v) tag l=pW fr tag l:=rfl;rw[F] at g5
        split at g5
        ·rename_i u;rw[ee u]
         have:grown (fr.put (some d) v) p tag l m=(grown fr p tag l m).put (some d) v:=by
          have:=congrArg Fr.env (sC fr A.symm v (.slice (.loc p (fr.fN p+1)) (l++m)));simp only[grown,Fr.put] at this|-;rw[this]
         show K ((grown fr p tag l m).put (some d) v) H;rw[<-this];exact g5
        ·rename_i u;rw[ea u];refine⟨g5.1,?_⟩;show K ((fr.put (some p) (.slice .iP l)).put (some d) v) H;rw[<-a];exact g5.2
       ·exact h.elim
      ·exact h.elim)
  |value f=>
   simp only[ie] at h|-
   have i:(args.toList.map λx=>(ev T (fr.put (some d) v) x).norm)=args.toList.map λx=>(ev T fr x).norm:=
    xV λx B=>by rw[j x (by simp[Op.operands,Call.operands,yh.1 B])]
   rw[i,j f (by simp[Op.operands,Call.operands])] at h;obtain⟨r,H',L,M,N⟩:=h;refine⟨r,H',L,M,?_⟩;rw[<-a];exact N
  |invoke r m=>exact h
 |_=>
  simp only[ie] at h|-;rw[C] at h
  split at h
  ·rw[<-a];exact h
  ·exact h.elim
end
end Go.m7
