/- Part of the proof of KernelTyped: layer. -/
import Derived.Test.YtobcafblgapgfaaGreatDoorL7
set_option linter.all false
namespace Go.m7
open Go Go.hI
def AY(P:Program)(t:TypeId)(s x:AV)(d:Nat)(K:Fr->eD->Prop)(fr:Fr)(H:eD):Prop:=
 match qG P t,s,x with
 |some (_,sz),.slice tag l,.slice _ m=>
  mA sz l=true/\mA sz m=true/\l.length+m.length<=nU/\(if pW fr tag l=true then K (grown fr d tag l m) H else m=[]/\K (fr.put (some d) (.slice .iP l)) H)
 |_,_,_=>False
def Gq{P:Program}{T:fa}{x y:Operand}{t d:Nat}{K:Fr->eD->Prop}{fr:Fr}{H:eD}:nM P T {callee:=.builtin .append,args:=#[x,y],argTypes:=#[t,t]} (some d) K fr H=AY P t (ev T fr x) (ev T fr y) d K fr H:=by
 unfold nM AY;simp only;cases qG P t with
 |none=>rfl|some p=>grind[ev]
def Ss(P:Program)(t:TypeId)(s x:AV)(d:Nat)(K:Fr->eD->Prop)(fr:Fr)(H:eD):Prop:=
 match qG P t,x with
 |some (e,sz),.slice _ m=>
  mA sz m=true/\(lA P e).isSome=true/\0<m.length/\match s with
  |.slice .full l=>mA sz l=true/\l.length+m.length<=nU/\∀cap,l.length+m.length<=cap->K (ye fr d (l.flatMap AV.cells++m.flatMap AV.cells++E4 ((cap-(l.length+m.length))*sz)) (l.length+m.length) cap) H|.wM b g len cap=>g=fr.gen b/\len+m.length<=nU/\match fr.box b with
   |some cs=>cs.length=cap*sz/\(len+m.length<=cap->K {fr with env:=hS fr.env d (.wM b g (len+m.length) cap),box:=hS fr.box b (some (setCells cs (len*sz) (m.flatMap AV.cells)))} H)/\(∀a,cap<len+m.length->len+m.length<=a->K (ye fr d (cs.take (len*sz)++m.flatMap AV.cells++E4 ((a-(len+m.length))*sz)) (len+m.length) a) H)|none=>False
  |_=>False
 |_,_=>False
def NJ{P:Program}{T:fa}{x y:Operand}{t d:Nat}{K:Fr->eD->Prop}{fr:Fr}{H:eD}:BY P T {callee:=.builtin .append,args:=#[x,y],argTypes:=#[t,t]} (some d) K fr H=Ss P t (ev T fr x) (ev T fr y) d K fr H:=by
 unfold BY Ss;simp only;cases qG P t with
 |none=>rfl|some p=>grind[ev]
def sg(P:Program)(t:TypeId)(s x:AV)(d:Nat)(K:Fr->eD->Prop)(fr:Fr)(H:eD):Prop:=AY P t s x d K fr H\/Ss P t s x d K fr H
def Lg{P:Program}{T:fa}{x y:Operand}{t d:Nat}{K:Fr->eD->Prop}{fr:Fr}{H:eD}:CA P T {callee:=.builtin .append,args:=#[x,y],argTypes:=#[t,t]} (some d) K fr H=False:=by
 refine propext ⟨λh=>?_,False.elim⟩;unfold CA at h;simp only at h
 split at h
 ·rename_i a b _ _;obtain⟨_,_,hu,_⟩:=py a
  grind
 ·exact h
def iX(tM:Nat->Option Nat)(fN:Nat->Nat)(D:List Nat)(tag:Tag)(n:Nat):Prop:=
 tag=.full\/∃k g,k∈D/\tag=.loc k g/\g=fN k/\tM k=some n
def iX.full{tM:Nat->Option Nat}{fN:Nat->Nat}{D:List Nat}{n:Nat}:iX tM fN D .full n:=.inl rfl
def iX.new{tM:Nat->Option Nat}{fN:Nat->Nat}{D:List Nat}{n d:Nat}(h:d∈D):iX (hS tM d (some n)) (hS fN d (fN d+1)) D (.loc d (fN d+1)) n:=
 .inr ⟨d,_,h,rfl,by simp[hS],by simp[hS]⟩
def iX.other{tM:Nat->Option Nat}{fN:Nat->Nat}{D D':List Nat}{tag a:Tag}{n n' d:Nat}{x:Option Nat}{y:Nat}(h:iX tM fN D tag n)(i:iX tM fN D' a n')
  (j:∀k,k∈D->k∉D') (l:d∉D):iX (hS (uy a tM) d x) (hS fN d y) D tag n:=by
 rcases h with h|⟨k,g,b,m,o,f⟩
 ·exact .inl h
 ·refine .inr ⟨k,g,b,m,?_,?_⟩
  ·grind[hS]
  ·have c:k≠d:=by rintro rfl;exact l b
   simp only[hS,c];rcases i with rfl|⟨k',p,e,rfl,_,_⟩
   ·exact f
   ·have:k≠k':=by rintro rfl;exact j k b e
    simp[uy,hS,this,f]
def iX.can{fr:Fr}{D:List Nat}{tag:Tag}{l:List AV}{n:Nat}(h:iX fr.tM fr.fN D tag n)(hn:n=l.length):pW fr tag l=true:=by
 rcases h with rfl|⟨k,g,_,rfl,a,b⟩
 all_goals grind[pW]
def AY.own{P:Program}{t e sz d:Nat}{s x:AV}{K:Fr->eD->Prop}{fr:Fr}{H:eD}{α:Type}{f:α->AV}(l m:List α){D:List Nat}{tag b:Tag}
  (h:iX fr.tM fr.fN D tag l.length) (g:qG P t=some (e,sz)) (i:∀x,(f x).cells.length=sz) (hlen:gr l m=true) (hs:s=.slice tag (l.map f)) (j:x=.slice b (m.map f))
  (n:K {fr with env:=hS fr.env d (.slice (.loc d (fr.fN d+1)) ((gG l m).map f)),tM:=hS (uy tag fr.tM) d (some (gG l m).length),fN:=hS fr.fN d (fr.fN d+1)} H):AY P t s x d K fr H:=by
 subst hs;subst j;have k:=MZ hlen
 have c:∀l:List α,mA sz (l.map f)=true:=λl=>by cases l with|nil=>rfl|cons a l=>simp[mA,i]
 unfold AY;rw[g];refine⟨c l,c m,by simpa[nU,Lk] using k,?_⟩;rw[ee (h.can (by simp))]
 grind[gG,grown]
def sg.own{P:Program}{t e sz d:Nat}{s x:AV}{K:Fr->eD->Prop}{fr:Fr}{H:eD}{α:Type}{f:α->AV}(l m:List α){D:List Nat}{tag a:Tag}
  (h:iX fr.tM fr.fN D tag l.length) (b:qG P t=some (e,sz)) (c:∀x,(f x).cells.length=sz) (hlen:gr l m=true) (hs:s=.slice tag (l.map f)) (g:x=.slice a (m.map f))
  (i:K {fr with env:=hS fr.env d (.slice (.loc d (fr.fN d+1)) ((gG l m).map f)),tM:=hS (uy tag fr.tM) d (some (gG l m).length),fN:=hS fr.fN d (fr.fN d+1)} H):sg P t s x d K fr H:=
 .inl (AY.own l m h b c hlen hs g i)
def nc(P:Program)(T:fa)(E:List Nat)(ops:Array Oper)(a:AV)(as:List AV)(d:Option Nat)(rest:List Oper)(K:Fr->eD->Prop)(fr:Fr)(H:eD):Prop:=
 rA P T a as H λr H'=>ju P T E ops rest K (fr.put d r) H'
def Ch(P:Program)(T:fa)(E:List Nat)(ops:Array Oper)(q:Bool)(a:AV)(as:List AV)(d:Option Nat)(rest:List Oper)(K:Fr->eD->Prop)(fr:Fr)(H:eD):Prop:=
 ∃r H',qv P T a as H r H'/\(q=true->H'=H)/\se P T E ops q rest K (fr.put d r) H'
section
variable{P:Program} {T:fa} {E:List Nat} {ops:Array Oper} {q:Bool} {rest:List Oper} {K:Fr->eD->Prop} {fr:Fr} {H H':eD} {d:Option Nat} {ty:TypeId} {pos:String} {after:Array Edge}
def nc.fn{g:FuncId}{as:List AV}{r:AV}(h:eZ P T g as H r H')(a:ju P T E ops rest K (fr.put d r) H'):nc P T E ops (.func (.func g) [] []) as d rest K fr H:=by
 unfold nc rA;simp only[AH];exact h.post a
def nc.TV{g:FuncId}{b c as a:List AV}{r:AV}(e:b++as++c=a)(h:eZ P T g a H r H')(f:ju P T E ops rest K (fr.put d r) H'):nc P T E ops (.func (.func g) b c) as d rest K fr H:=by
 subst e;exact h.post f
def Ch.fn{g:FuncId}{as:List AV}{r:AV}(h:eZ P T g as H r H')(a:q=true->H'=H)(b:se P T E ops q rest K (fr.put d r) H'):Ch P T E ops q (.func (.func g) [] []) as d rest K fr H:=by
 refine⟨r,H',?_,a,b⟩;unfold qv rA;simp only[AH];exact h
@[simp] theorem Z8:ju P T E ops [] K fr H=K fr H:=rfl
@[simp] theorem Yo:se P T E ops q [] K fr H=K fr H:=rfl
@[simp] theorem Yy{x:Operand}:ju P T E ops ({dst:=d,op:=.move x,type:=ty,pos:=pos,after:=after,guard:=none}::rest) K fr H=ju P T E ops rest K (fr.put d (ev T fr x)) H:=rfl
@[simp] theorem U7{x:Operand}:ju P T E ops ({dst:=d,op:=.assign x,type:=ty,pos:=pos,after:=after,guard:=none}::rest) K fr H=ju P T E ops rest K (fr.put d (ev T fr x)) H:=rfl
@[simp] theorem W9{t:TypeId}:ju P T E ops ({dst:=d,op:=.alloc t,type:=ty,pos:=pos,after:=after,guard:=none}::rest) K fr H=match lA P t with|some z=>lu E d z (ju P T E ops rest K) fr H|none=>False:=rfl
@[simp] theorem Ze{t:TypeId}{x:Operand}:ju P T E ops ({dst:=d,op:=.box t x,type:=ty,pos:=pos,after:=after,guard:=none}::rest) K fr H=(fZ (ev T fr x)=true/\lu E d (ev T fr x).cells (ju P T E ops rest K) fr H):=rfl
@[simp] theorem Yc{t:TypeId}{x:Operand}:ju P T E ops ({dst:=d,op:=.load t x,type:=ty,pos:=pos,after:=after,guard:=none}::rest) K fr H=match uq P fr H t (ev T fr x)with|some v=>ju P T E ops rest K (fr.put d v) H|none=>False:=rfl
@[simp] theorem Wb{t:TypeId}{x y:Operand}:ju P T E ops ({dst:=none,op:=.store t x y,type:=ty,pos:=pos,after:=after,guard:=none}::rest) K fr H=nw P t (ev T fr x) (ev T fr y) (ju P T E ops rest K) fr H:=by simp[ju,Cm,sx]
@[simp] theorem QV{t n:Nat}{ps:Array (Nat×Operand)}:ju P T E ops ({dst:=d,op:=.buildSlice t n ps,type:=ty,pos:=pos,after:=after,guard:=none}::rest) K fr H=match nQ P t n (ps.toList.map λp=>(p.1,ev T fr p.2))with|some v=>FN E d v (ju P T E ops rest K) fr H|none=>False:=rfl
@[simp] theorem Ye{E:List Nat}{d:Option Nat}{v:AV}{K:Fr->eD->Prop}{fr:Fr}{H:eD}:FN E d v K fr H=if d.any E.contains=true then(match v with|.slice _ l=>K (fr.put d (.zz H.length 0 l.length l.length)) (H++[l.flatMap AV.cells])|_=>False)else K (fr.put d v) H:=rfl
@[simp] theorem Vk{x y:Operand}{t d:Nat}:ju P T E ops ({dst:=some d,op:=.call {callee:=.builtin .append,args:=#[x,y],argTypes:=#[t,t]},type:=ty,pos:=pos,after:=after,guard:=none}::rest) K fr H=sg P t (ev T fr x) (ev T fr y) d (ju P T E ops rest K) fr H:=by
 simp only[ju,Cm,sx];unfold sg;rw[<-Gq (T:=T),<-NJ (T:=T),Lg,Zf]
@[simp] theorem X6{f:Operand}{as:Array Operand}{ts:Array TypeId}:ju P T E ops ({dst:=d,op:=.call {callee:=.value f,args:=as,argTypes:=ts},type:=ty,pos:=pos,after:=after,guard:=none}::rest) K fr H=nc P T E ops (ev T fr f) (as.toList.map λx=>(ev T fr x).norm) d rest K fr H:=rfl
@[simp] theorem Z0{as:Array Operand}{ts:Array TypeId}:ju P T E ops ({dst:=d,op:=.call {callee:=.builtin .len,args:=as,argTypes:=ts},type:=ty,pos:=pos,after:=after,guard:=none}::rest) K fr H=match wk P T fr {callee:=.builtin .len,args:=as,argTypes:=ts}with|some v=>ju P T E ops rest K (fr.put d v) H|none=>False:=rfl
@[simp] theorem Y3{as:Array Operand}{ts:Array TypeId}:ju P T E ops ({dst:=d,op:=.call {callee:=.builtin .max,args:=as,argTypes:=ts},type:=ty,pos:=pos,after:=after,guard:=none}::rest) K fr H=match wk P T fr {callee:=.builtin .max,args:=as,argTypes:=ts}with|some v=>ju P T E ops rest K (fr.put d v) H|none=>False:=rfl
@[simp] theorem Yq{c a b:Operand}:ju P T E ops ({dst:=d,op:=.pick c a b,type:=ty,pos:=pos,after:=after,guard:=none}::rest) K fr H=match x0 P T fr {dst:=d,op:=.pick c a b,type:=ty,pos:=pos,after:=after,guard:=none}with|some v=>ju P T E ops rest K (fr.put d v) H|none=>False:=rfl
@[simp] theorem XA{t:TypeId}{ps:Array (Nat×Operand)}:ju P T E ops ({dst:=d,op:=.build t ps,type:=ty,pos:=pos,after:=after,guard:=none}::rest) K fr H=match DH P t (ps.toList.map λp=>(p.1,ev T fr p.2))with|some v=>ju P T E ops rest K (fr.put d v) H|none=>False:=rfl
@[simp] theorem Xv{o:BinOp}{t u:TypeId}{x y:Operand}:ju P T E ops ({dst:=d,op:=.binOp o t x y u,type:=ty,pos:=pos,after:=after,guard:=none}::rest) K fr H=match JT P o t y (ev T fr x) (ev T fr y)with|some v=>ju P T E ops rest K (fr.put d v) H|none=>False:=rfl
@[simp] theorem Ya{o:UnOp}{t:TypeId}{x:Operand}:ju P T E ops ({dst:=d,op:=.unOp o t x,type:=ty,pos:=pos,after:=after,guard:=none}::rest) K fr H=match Yd o (ev T fr x)with|some v=>ju P T E ops rest K (fr.put d v) H|none=>False:=rfl
@[simp] theorem Tr{fn:Fn}{f c:Array Operand}:ju P T E ops ({dst:=d,op:=.makeFunc fn f c,type:=ty,pos:=pos,after:=after,guard:=none}::rest) K fr H=ju P T E ops rest K (fr.put d (.func fn (f.toList.map λx=>(ev T fr x).norm) (c.toList.map λx=>(ev T fr x).norm))) H:=rfl
@[simp] theorem Sw{t i:Nat}{x:Operand}:ju P T E ops ({dst:=d,op:=.fieldAddr t x i,type:=ty,pos:=pos,after:=after,guard:=none}::rest) K fr H=match rI P t (ev T fr x) i with|some v=>ju P T E ops rest K (fr.put d v) H|none=>False:=rfl
@[simp] theorem XI{t i:Nat}{x:Operand}:ju P T E ops ({dst:=d,op:=.field t x i,type:=ty,pos:=pos,after:=after,guard:=none}::rest) K fr H=match Bb P t (ev T fr x) i with|some v=>ju P T E ops rest K (fr.put d v) H|none=>False:=rfl
@[simp] theorem Th{t:TypeId}{x i:Operand}:ju P T E ops ({dst:=d,op:=.indexAddr t x i,type:=ty,pos:=pos,after:=after,guard:=none}::rest) K fr H=match gN P t (ev T fr x) (ev T fr i)with|some v=>ju P T E ops rest K (fr.put d v) H|none=>False:=rfl
@[simp] theorem XO{t:TypeId}{x:Operand}{lo hi a:Option Operand}:ju P T E ops ({dst:=d,op:=.slice t x lo hi a,type:=ty,pos:=pos,after:=after,guard:=none}::rest) K fr H=match qj P t (ev T fr x) (lo.map (ev T fr)) (hi.map (ev T fr)) (a.map (ev T fr))with|some v=>ju P T E ops rest K (fr.put d v) H|none=>False:=rfl
@[simp] theorem TO{i:Nat}{x:Operand}:ju P T E ops ({dst:=d,op:=.extract x i,type:=ty,pos:=pos,after:=after,guard:=none}::rest) K fr H=match x0 P T fr {dst:=d,op:=.extract x i,type:=ty,pos:=pos,after:=after,guard:=none}with|some v=>ju P T E ops rest K (fr.put d v) H|none=>False:=rfl
@[simp] theorem Tv{x:Operand}:ju P T E ops ({dst:=d,op:=.nilCheck x,type:=ty,pos:=pos,after:=after,guard:=none}::rest) K fr H=match x0 P T fr {dst:=d,op:=.nilCheck x,type:=ty,pos:=pos,after:=after,guard:=none}with|some v=>ju P T E ops rest K (fr.put d v) H|none=>False:=rfl
@[simp] theorem TQ{t:TypeId}:ju P T E ops ({dst:=d,op:=.makeMap t none,type:=ty,pos:=pos,after:=after,guard:=none}::rest) K fr H=Hq d (ju P T E ops rest K) fr H:=rfl
@[simp] theorem Rt{t:TypeId}{x i y:Operand}:ju P T E ops ({dst:=none,op:=.mapUpdate t x i y,type:=ty,pos:=pos,after:=after,guard:=none}::rest) K fr H=sF P t (ev T fr x) (ev T fr i) (ev T fr y) (ju P T E ops rest K) fr H:=by simp[ju,Cm,sx]
@[simp] theorem Vs{t:TypeId}{x i y:Operand}:ju P T E ops ({dst:=none,op:=.insert t x i y,type:=ty,pos:=pos,after:=after,guard:=none}::rest) K fr H=sF P t (ev T fr x) (ev T fr i) (ev T fr y) (ju P T E ops rest K) fr H:=by simp[ju,Cm,sx]
@[simp] theorem VY{t:TypeId}{x:Operand}:ju P T E ops ({dst:=d,op:=.range t x,type:=ty,pos:=pos,after:=after,guard:=none}::rest) K fr H=GZ P t (ev T fr x) d (ju P T E ops rest K) fr H:=rfl
@[simp] theorem XE{x:Operand}:ju P T E ops ({dst:=d,op:=.entry x,type:=ty,pos:=pos,after:=after,guard:=none}::rest) K fr H=match D3 (ev T fr x) H with|some v=>ju P T E ops rest K (fr.put d v) H|none=>False:=rfl
@[simp] theorem P1{x:Operand}:ju P T E ops ({dst:=d,op:=.next x false,type:=ty,pos:=pos,after:=after,guard:=none}::rest) K fr H=Ja (ev T fr x) d (ju P T E ops rest K) fr H:=rfl
@[simp] theorem VP{op:Op}{j:Nat}{want:Bool}:ju P T E ops ({dst:=d,op:=op,type:=ty,pos:=pos,after:=after,guard:=some (j,want)}::rest) K fr H=match(ops[j]?).bind (·.dst)with
 |some g=>match fr.env g with
  |.sc (.bool b)=>if b=want then ju P T E ops ({dst:=d,op:=op,type:=ty,pos:=pos,after:=after,guard:=none}::rest) K fr H else ju P T E ops rest K (fr.put d (.tuple [])) H|.tuple _=>ju P T E ops rest K (fr.put d (.tuple [])) H|_=>False
 |none=>False:=rfl
@[simp] theorem V8{x:Operand}:se P T E ops q ({dst:=d,op:=.move x,type:=ty,pos:=pos,after:=after,guard:=none}::rest) K fr H=se P T E ops q rest K (fr.put d (ev T fr x)) H:=rfl
@[simp] theorem Wy{t:TypeId}{x:Operand}:se P T E ops q ({dst:=d,op:=.load t x,type:=ty,pos:=pos,after:=after,guard:=none}::rest) K fr H=if rq ops.toList x (ev T fr x)&&(q||!VC (ev T fr x))then(match uq P fr H t (ev T fr x)with|some v=>se P T E ops q rest K (fr.put d v) H|none=>False)else False:=by
 simp only[se,nr,j_,ie,pP,So,Sd]
 split
 ·rename_i v a
  split at a
  ·rename_i b;rw[ee b,a]
  ·cases a
 ·rename_i a
  split at a
  ·rename_i b;rw[ee b,a]
  ·rename_i b;rw[ea b]
@[simp] theorem Wc{f:Operand}{as:Array Operand}{ts:Array TypeId}:se P T E ops q ({dst:=d,op:=.call {callee:=.value f,args:=as,argTypes:=ts},type:=ty,pos:=pos,after:=after,guard:=none}::rest) K fr H=Ch P T E ops q (ev T fr f) (as.toList.map λx=>(ev T fr x).norm) d rest K fr H:=by
 simp only[se,nr,j_,ie,PI,Ch]
@[simp] theorem Vu{o:BinOp}{t u:TypeId}{x y:Operand}:se P T E ops q ({dst:=d,op:=.binOp o t x y u,type:=ty,pos:=pos,after:=after,guard:=none}::rest) K fr H=match JT P o t y (ev T fr x) (ev T fr y)with|some v=>se P T E ops q rest K (fr.put d v) H|none=>False:=rfl
@[simp] theorem QR{t i:Nat}{x:Operand}:se P T E ops q ({dst:=d,op:=.fieldAddr t x i,type:=ty,pos:=pos,after:=after,guard:=none}::rest) K fr H=match rI P t (ev T fr x) i with|some v=>se P T E ops q rest K (fr.put d v) H|none=>False:=rfl
@[simp] theorem RL{x:Operand}:se P T E ops q ({dst:=d,op:=.nilCheck x,type:=ty,pos:=pos,after:=after,guard:=none}::rest) K fr H=match x0 P T fr {dst:=d,op:=.nilCheck x,type:=ty,pos:=pos,after:=after,guard:=none}with|some v=>se P T E ops q rest K (fr.put d v) H|none=>False:=rfl
end
@[simp] theorem Fr.Zn(fr:Fr)(d:Nat)(x:AV):fr.put (some d) x={fr with env:=hS fr.env d x}:=rfl
@[simp] theorem aaJ{α:Type}(f:Nat->α)(i:Nat)(x:α)(j:Nat):hS f i x j=if j=i then x else f j:=rfl
@[simp] theorem ZP(v:Value):AV.cells (.sc v:AV)=[(.sc v:AV)]:=rfl
@[simp] theorem Vl(v:Value):fZ (.sc v:AV)=true:=rfl
@[simp] theorem Zp(v:Value):AV.lz (.sc v:AV)=(.sc v:AV):=rfl
@[simp] theorem aaM(v:Value):AV.norm (.sc v:AV)=(.sc v:AV):=rfl
@[simp] theorem U3(P:Program)(ty:TypeId)(v:Value):sy P ty (.sc v:AV)=match gy P ty with|some (false,_)=>true|_=>false:=by
 unfold sy;cases gy P ty with
 |none=>rfl|some p=>grind
@[simp] theorem Yg(b g o c:Nat):AV.cells (.wM b g o c:AV)=[(.wM b g o c:AV)]:=rfl
@[simp] theorem TX(b g o c:Nat):fZ (.wM b g o c:AV)=true:=rfl
@[simp] theorem Wi(o f:Nat):AV.cells (.fO o f:AV)=[(.fO o f:AV)]:=rfl
@[simp] theorem Yu(o f:Nat):AV.norm (.fO o f:AV)=(.fO o f:AV):=rfl
@[simp] theorem QB(P:Program)(ty:TypeId)(o f:Nat):sy P ty (.fO o f:AV)=match gy P ty with|some (false,_)=>true|_=>false:=by
 unfold sy;cases gy P ty with
 |none=>rfl|some p=>grind
@[simp] theorem Wv(o:Nat):AV.cells (.mh o:AV)=[(.mh o:AV)]:=rfl
@[simp] theorem Tt(o:Nat):fZ (.mh o:AV)=true:=rfl
@[simp] theorem Xn(o:Nat):AV.lz (.mh o:AV)=(.mh o:AV):=rfl
@[simp] theorem Yb(o:Nat):AV.norm (.mh o:AV)=(.mh o:AV):=rfl
@[simp] theorem Yl(o s l c:Nat):AV.cells (.zz o s l c:AV)=[(.zz o s l c:AV)]:=rfl
@[simp] theorem UF(o s l c:Nat):fZ (.zz o s l c:AV)=true:=rfl
@[simp] theorem Yw(o s l c:Nat):AV.lz (.zz o s l c:AV)=(.zz o s l c:AV):=rfl
@[simp] theorem RQ{P:Program}{t:TypeId}{k:IntKind}{a:Int}{b s n c:Nat}:gN P t (.zz b s n c) (.sc (.int k a))=match P.underlying t with
  |some (.slice e)=>match gy P e with
   |some (_,sz)=>if 0<=a/\a<(n:Int)then some (.fO b (s+a.toNat*sz))else none|none=>none
  |_=>none:=by
 unfold gN;cases P.underlying t with
 |none=>rfl|some y=>cases y<;>rfl
@[simp] theorem Yi:wG []=false:=rfl
@[simp] theorem Wm(c:AV)(cs:List AV):wG (c::cs)=c.hZ:=rfl
@[simp] theorem aal(v:Value):AV.hZ (.sc v)=true:=rfl
@[simp] theorem Vq(t:Tag)(l:List AV):AV.hZ (.slice t l)=true:=rfl
@[simp] theorem Wk(f:Fn)(a c:List AV):AV.hZ (.func f a c)=true:=rfl
@[simp] theorem Vj(t:Tag)(l:List AV):AV.cells (.slice t l:AV)=[(.slice t l:AV)]:=rfl
@[simp] theorem RS(t:Tag)(l:List AV):fZ (.slice t l:AV)=true:=rfl
@[simp] theorem Vw(t:Tag)(l:List AV):AV.lz (.slice t l:AV)=.slice .iP l:=rfl
@[simp] theorem VQ(t:Tag)(l:List AV):AV.norm (.slice t l:AV)=.slice .iP l:=rfl
@[simp] theorem W7(P:Program)(ty:TypeId)(t:Tag)(l:List AV):sy P ty (.slice t l:AV)=match gy P ty with|some (false,_)=>true|_=>false:=by
 unfold sy;cases gy P ty with
 |none=>rfl|some p=>grind
@[simp] theorem Ym(cs:List AV):AV.cells (.agg cs:AV)=cs:=rfl
@[simp] theorem U5(cs:List AV):fZ (.agg cs:AV)=true:=rfl
@[simp] theorem aaf(cs:List AV):AV.norm (.agg cs:AV)=.agg (cs.map AV.lz):=rfl
@[simp] theorem u7(P:Program)(ty:TypeId)(cs:List AV):sy P ty (.agg cs)=match gy P ty with|some (true,n)=>cs.length==n|_=>false:=by
 unfold sy;cases gy P ty with
 |none=>rfl|some p=>grind
@[simp] theorem WH(f:Fn)(a c:List AV):AV.cells (.func f a c:AV)=[(.func f a c:AV)]:=rfl
@[simp] theorem Tw(f:Fn)(a c:List AV):fZ (.func f a c:AV)=true:=rfl
@[simp] theorem WK(f:Fn)(a c:List AV):AV.lz (.func f a c:AV)=(.func f a c:AV):=rfl
@[simp] theorem X9(f:Fn)(a c:List AV):AV.norm (.func f a c:AV)=(.func f a c:AV):=rfl
@[simp] theorem VA(sz:Nat)(x:AV)(l:List AV):mA sz (x::l)=(x.cells.length==sz):=rfl
def gb(H:eD)(o:Nat)(c:List AV):eD:=H.set o c
@[simp] theorem X_{H:eD}{o:Nat}{x y:List AV}:gb (gb H o x) o y=gb H o y:=by simp[gb]
@[simp] theorem Vi{H:eD}{o:Nat}{x:List AV}:(gb H o x).length=H.length:=by simp[gb]
section
variable{P:Program} {t:TypeId} {k k':IntKind} {a b:Int} {u v:ByteArray} {p q:Bool}
@[simp] theorem Y5{i:Nat}{u v:AV}{op:BinOp}:JT P op t (.tmp i) u v=oJ P op t u v:=rfl
@[simp] theorem YI{i:Int}{u v:AV}{op:BinOp}:JT P op t (.const (.int k i)) u v=oJ P op t u v:=rfl
@[simp] theorem YN{i:Option Addr}{u v:AV}{op:BinOp}:JT P op t (.const (.pointer i)) u v=oJ P op t u v:=rfl
@[simp] theorem Zy:oJ P .add t (.sc (.int k a)) (.sc (.int k b))=some (.sc (.int k (fk k a b))):=by simp[oJ,sq,qT,fk]
@[simp] theorem ZJ:oJ P .sub t (.sc (.int k a)) (.sc (.int k b))=some (.sc (.int k (fD k a b))):=by simp[oJ,sq,qT,fD]
@[simp] theorem Z4:oJ P .mul t (.sc (.int k a)) (.sc (.int k b))=some (.sc (.int k (I4 k a b))):=by simp[oJ,sq,qT,I4]
@[simp] theorem ZN:oJ P .rem t (.sc (.int k a)) (.sc (.int k b))=if Jp b=true then some (.sc (.int k (Su k a b)))else none:=by grind[oJ,sq,qT,Su,Jp]
@[simp] theorem Z9:oJ P .and t (.sc (.int k a)) (.sc (.int k b))=some (.sc (.int k (qN k a b))):=by simp[oJ,sq,qT,qN]
@[simp] theorem aaB:oJ P .or t (.sc (.int k a)) (.sc (.int k b))=some (.sc (.int k (xj k a b))):=by simp[oJ,sq,qT,xj]
@[simp] theorem ZL:oJ P .shl t (.sc (.int k a)) (.sc (.int k' b))=if H4 b=true then some (.sc (.int k (RZ k a b)))else none:=by grind[oJ,sq,RZ,H4]
@[simp] theorem Y6:oJ P .shr t (.sc (.int k a)) (.sc (.int k' b))=if H4 b=true then some (.sc (.int k (SD k a b)))else none:=by grind[oJ,sq,SD,H4]
@[simp] theorem aab:oJ P .eql t (.sc (.int k a)) (.sc (.int k b))=some (.sc (.bool (eH a b))):=by simp[oJ,sq,qT,eH]
@[simp] theorem ZA:oJ P .neq t (.sc (.int k a)) (.sc (.int k b))=some (.sc (.bool (eW a b))):=by simp[oJ,sq,qT,eW]
@[simp] theorem YE:oJ P .lss t (.sc (.int k a)) (.sc (.int k b))=some (.sc (.bool (ue a b))):=by simp[oJ,sq,qT,ue]
@[simp] theorem Zu:oJ P .leq t (.sc (.int k a)) (.sc (.int k b))=some (.sc (.bool (MV a b))):=by simp[oJ,sq,qT,MV]
@[simp] theorem YV:oJ P .gtr t (.sc (.int k a)) (.sc (.int k b))=some (.sc (.bool (nX a b))):=by simp[oJ,sq,qT,nX]
@[simp] theorem YZ:oJ P .geq t (.sc (.int k a)) (.sc (.int k b))=some (.sc (.bool (sN a b))):=by simp[oJ,sq,qT,sN]
@[simp] theorem aaL:Yd .not (.sc (.bool p))=some (.sc (.bool (nt p))):=by simp[Yd,nt]
@[simp] theorem X4:O9 (.sc (.int k a)) (.sc (.int k' b))=some (.sc (.int k (imax a b))):=rfl
@[simp] theorem aak{α:Type}{f:α->AV}{tag:Tag}{l:List α}:Ig P t (.slice tag (l.map f))=match P.underlying t with|some (.slice _)=>some (.sc (.int .i64 (eM l)))|some (.array n _)=>some (.sc (.int .i64 n))|_=>none:=by
 unfold Ig eM;cases P.underlying t with
 |none=>rfl|some y=>grind
@[simp] theorem Z1{tag:Tag}:Ig P t (.slice tag [])=match P.underlying t with|some (.slice _)=>some (.sc (.int .i64 0))|some (.array n _)=>some (.sc (.int .i64 n))|_=>none:=by
 unfold Ig;cases P.underlying t with
 |none=>rfl|some y=>grind
@[simp] theorem Rv{α:Type}{f:α->AV}{tag:Tag}{l:List α}:gN P t (.slice tag (l.map f)) (.sc (.int k a))=match P.underlying t with
  |some (.slice e)=>match eJ l a,gy P e with
   |some x,some (_,sz)=>if(f x).cells.length=sz then some (.np (f x))else none|_,_=>none
  |_=>none:=by
 unfold gN eJ;cases P.underlying t with
 |none=>rfl|some y=>
  cases y<;>try rfl
  rename_i e;simp only[uA]
  by_cases h:0<=a
  ·rw[ee h,ee h];cases l[a.toNat]?with
   |none=>rfl|some x=>cases gy P e<;>rfl
  ·rw[ea h,ea h]
def GL{α:Type}{f:α->AV}{L:List α}{n e:Nat}(hu:P.underlying t=some (.array n e))(b:gy P e=some (false,1))(hn:L.length=n):gN P t (.np (.agg (L.map f))) (.sc (.int k a))=(eJ L a).map λx=>.np (f x):=by
 unfold gN eJ
 grind[m8,AV.cells]
end
attribute [simp] ev ofValue qX Az lu Hq uq m8 rI Bb DH EK nQ setCells Cu Jj wk x0
 rq DV rootOf VC isL fr0 Iw vd G5
@[simp] theorem Vy{P:Program}{t:TypeId}{b g off:Nat}{v:AV}{K:Fr->eD->Prop}{fr:Fr}{H:eD}:nw P t (.eC b g off) v K fr H=match gy P t with
  |none=>False|some (_,n)=>match fr.box b with
   |some cs=>g=fr.gen b/\v.cells.length=n/\off+n<=cs.length/\fZ v=true/\K {fr with box:=hS fr.box b (some (setCells cs off v.cells))} H|none=>False:=by
 unfold nw;cases gy P t with
 |none=>rfl|some p=>rfl
@[simp] theorem Vr{P:Program}{t:TypeId}{o off:Nat}{v:AV}{K:Fr->eD->Prop}{fr:Fr}{H:eD}:nw P t (.fO o off) v K fr H=match gy P t with
  |none=>False|some (_,n)=>match H[o]?with
   |some cs=>wG cs=true/\v.cells.length=n/\off+n<=cs.length/\fZ v=true/\K fr (H.set o (setCells cs off v.norm.cells))|none=>False:=by
 unfold nw;cases gy P t with
 |none=>rfl|some p=>rfl
def gJ.Mu{P:Program}{T:fa}{n:Nat}{Q:Exit->Fr->eD->Prop}{fr:Fr}{H:eD}{c:Code}(I:Nat->Fr->eD->Prop)(m:Nat)(b:I m fr H)
  (d:∀m fr H,I m fr H->∀K:Fr->eD->Prop,(∀fr' H' a,a<m->I a fr' H'->K fr' H')->gJ P T n c (G5 K Q) fr H):gJ P T n (.loop c) Q fr H:=by
 refine gJ.loop ?_
 have key:∀k fr H,I k fr H->V1 P T n c Q fr H:=by
  intro k
  induction k using Nat.strongRecOn with
  |_ k e=>grind[V1.round,gJ.mono]
 grind
def Ko(v:AV)(A B:Prop):Prop:=match v with|.sc (.bool t)=>if t=true then A else B|_=>False
@[simp] theorem VF(t:Bool)(A B:Prop):Ko (.sc (.bool t)) A B=if t=true then A else B:=rfl
section
variable{P:Program} {T:fa} {n:Nat} {Q:Exit->Fr->eD->Prop} {fr:Fr} {H:eD}
def gJ.tS{c:Operand}{x y:Code}
  (h:∀A B:Fr->eD->Prop,(∀fr H,gJ P T n x Q fr H->A fr H)->(∀fr H,gJ P T n y Q fr H->B fr H)->Ko (ev T fr c) (A fr H) (B fr H)) (b:jY c=true:=by rfl):gJ P T n (.cond c x y) Q fr H:=by
 have a:=h (gJ P T n x Q) (gJ P T n y Q) (λ_ _ h=>h) (λ_ _ h=>h);generalize d:ev T fr c=v at a;cases v with
 |sc w=>
  cases w with
  |bool t=>
   refine gJ.cond d b (λe=>?_) (λe=>?_)
   all_goals simp_all
  |_=>exact a.elim
 |_=>exact a.elim
def gJ.sr{id:Nat}{ops:Array Oper}{y:Code}(E:List Nat)(h:∀K:Fr->eD->Prop,(∀fr H,gJ P T n y Q fr H->K fr H)->ju P T E ops ops.toList K fr H)(a:x' n ops=true:=by decide+kernel):gJ P T n (.seq (.region id ops false) y) Q fr H:=
 gJ.ud λK b=>gJ.region E a (h K b)
def gJ.YP{x y:Code}(R:Fr->eD->Prop)(b:∀K:Fr->eD->Prop,(∀fr H,R fr H->K fr H)->gJ P T n x (G5 K Q) fr H)(c:∀fr H,R fr H->gJ P T n y Q fr H):gJ P T n (.seq x y) Q fr H:=
 gJ.seq ((b R λ_ _ h=>h).mono λe fr' H' a=>by cases e<;>first|exact c _ _ a|exact a)
end
@[simp] theorem range_one:List.range 1=[0]:=rfl
@[simp] theorem ZF:List.range 2=[0,1]:=rfl
@[simp] theorem Zd:List.range 3=[0,1,2]:=rfl
section
variable{P:Program} {t e sz:Nat} {bl:Bool} {tag:Tag} {α:Type} {k k' k2:IntKind} {a b:Int} {u:ByteArray}
def UR(h:0<=a):LY (some (.sc (.int k a)))=some (some a.toNat):=by simp[LY,h]
theorem UN(h:¬0<=a):LY (some (.sc (.int k a)))=none:=by simp[LY,h]
theorem Lj{x:AV}{lo hi:Option AV}(h:LY lo=none):qj P t x lo hi none=none:=by unfold qj;rw[h]
def Lv{lo hi:Option AV}{a hi':Option Nat}(b:LY lo=some a)(c:LY hi=some hi')(f:α->AV)(l:List α)(hu:P.underlying t=some (.slice e))(d:gy P e=some (bl,sz))(g:∀x,(f x).cells.length=sz):qj P t (.slice tag (l.map f)) lo hi none=if hi'.getD l.length<=l.length/\a.getD 0<=hi'.getD l.length then some (.slice .iP (((l.take (hi'.getD l.length)).drop (a.getD 0)).map f))else none:=by
 have h:mA sz (l.map f)=true:=by
  cases l with
  |nil=>rfl|cons x l=>simp_all
 unfold qj;rw[b,c];simp only[LY,hu,d,h];simp
def Mw(f:α->AV)(l:List α)(hu:P.underlying t=some (.slice e))(b:gy P e=some (bl,sz))(c:∀x,(f x).cells.length=sz):qj P t (.slice tag (l.map f)) (some (.sc (.int k a))) none none=(Bm l a (eM l)).map λr=>.slice .iP (r.map f):=by
 unfold Bm eM
 by_cases d:0<=a
 ·rw[Lv (UR d) (hi:=none) (hi':=none) rfl f l hu b c]
  grind
 ·grind[Lj,UN]
end
def yE{P:Program}{t e sz:Nat}{b:Bool}{tag:Tag}{α:Type}(f:α->AV)(l:List α)(hu:P.underlying t=some (.slice e))(a:gy P e=some (b,sz))(c:∀x,(f x).cells.length=sz):qj P t (.slice tag (l.map f)) none (some (.sc (.int .i64 (Go.hI.eM l)))) (some (.sc (.int .i64 (Go.hI.eM l))))=some (.slice .full (l.map f)):=by
 have h:mA sz (l.map f)=true:=by
  cases l with
  |nil=>rfl|cons x l=>simp_all
 simp[qj,LY,hu,a,h,Go.hI.eM,<-List.map_take]
def oH{α:Type}(f:α->AV)(l:List (Int×α)):AV:=.tZ (l.map λp=>Value.int .i64 p.1) (l.map λp=>f p.2)
@[simp] theorem Zm{α:Type}(f:α->AV):oH f []=.tZ [] []:=rfl
def R6{α:Type}(l:List (Int×α))(k:Int):mapIdx (l.map λp=>Value.int .i64 p.1) (.int .i64 k)=l.findIdx? (λp=>p.1==k):=by
 unfold mapIdx;rw[List.findIdx?_map];rfl
def QI{α:Type}(l:List (Int×α)):(l.map λp=>Value.int .i64 p.1).all (Gh (.int .i64))=true:=by
 rw[kF];intro x a;obtain⟨p,_,rfl⟩:=oy.1 a;rfl
def Lu{α:Type}(f:α->AV):∀(l:List (Int×α)) (k:Int) (y:α),DO (l.map λp=>Value.int .i64 p.1) (l.map λp=>f p.2) (.int .i64 k) (f y)=oH f (uL l k y)
 |[],k,y=>rfl|p::l,k,y=>by
  have a:=Lu f l k y;unfold DO at a|-;rw[R6] at a|-;rw[YS];unfold uL
  by_cases h:p.1=k
  ·grind[oH]
  ·rw[ea (by simpa using h),ea h];cases hi:l.findIdx? (λp=>p.1==k)with
   |none=>
    rw[hi] at a;simp only[oH,AV.tZ.injEq] at a;simp[oH,<-a.1,<-a.2]
   |some j=>
    rw[hi] at a;simp only[oH,AV.tZ.injEq] at a;simp[oH,<-a.1,<-a.2]
section
variable{P:Program} {t kt e:TypeId} {o:Nat} {k:Int} {α:Type} {f:α->AV} {d:Option Nat} {K:Fr->eD->Prop} {fr:Fr} {H:eD}
def tJ.i64(l:List (Int×α))(y:α){v:AV}(hu:P.underlying t=some (.map kt e))(a:P.underlying kt=some (.int .i64))(b:H[o]?=some [oH f l])(c:v.norm=f y)(d:K fr (gb H o [oH f (uL l k y)])):sF P t (.mh o) (.sc (.int .i64 k)) v K fr H:=by
 unfold sF;simp only[hu,a,b];refine⟨rfl,QI l,?_⟩;rw[c,Lu];exact d
end
end Go.m7
