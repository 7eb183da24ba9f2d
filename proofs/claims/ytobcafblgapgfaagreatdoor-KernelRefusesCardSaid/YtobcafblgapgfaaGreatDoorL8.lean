/- Part of the proof of KernelRefuses: layer. -/
import Derived.Test.YtobcafblgapgfaaGreatDoorL7
set_option linter.all false
namespace Go.nd
open Go Go.gV
def Bl(P:Program)(t:TypeId)(s x:AV)(d:Nat)(K:Fr->eB->Prop)(fr:Fr)(H:eB):Prop:=
 match qL P t,s,x with
 |some (_,sz),.slice tag l,.slice _ m=>
  mJ sz l=true/\mJ sz m=true/\l.length+m.length<=nP/\(if pU fr tag l=true then K (grown fr d tag l m) H else m=[]/\K (fr.put (some d) (.slice .iR l)) H)
 |_,_,_=>False
def Hb{P:Program}{T:fh}{x y:Operand}{t d:Nat}{K:Fr->eB->Prop}{fr:Fr}{H:eB}:nS P T {callee:=.builtin .append,args:=#[x,y],argTypes:=#[t,t]} (some d) K fr H=Bl P t (ev T fr x) (ev T fr y) d K fr H:=by
 unfold nS Bl;simp only;cases qL P t with
 |none=>rfl|some p=>grind[ev]
def Sl(P:Program)(t:TypeId)(s x:AV)(d:Nat)(K:Fr->eB->Prop)(fr:Fr)(H:eB):Prop:=
 match qL P t,x with
 |some (e,sz),.slice _ m=>
  mJ sz m=true/\(lG P e).isSome=true/\0<m.length/\match s with
  |.slice .full l=>mJ sz l=true/\l.length+m.length<=nP/\∀cap,l.length+m.length<=cap->K (yn fr d (l.flatMap AV.cells++m.flatMap AV.cells++FA ((cap-(l.length+m.length))*sz)) (l.length+m.length) cap) H|.xe b g len cap=>g=fr.gen b/\len+m.length<=nP/\match fr.box b with
   |some cs=>cs.length=cap*sz/\(len+m.length<=cap->K {fr with env:=hU fr.env d (.xe b g (len+m.length) cap),box:=hU fr.box b (some (setCells cs (len*sz) (m.flatMap AV.cells)))} H)/\(∀a,cap<len+m.length->len+m.length<=a->K (yn fr d (cs.take (len*sz)++m.flatMap AV.cells++FA ((a-(len+m.length))*sz)) (len+m.length) a) H)|none=>False
  |_=>False
 |_,_=>False
def N9{P:Program}{T:fh}{x y:Operand}{t d:Nat}{K:Fr->eB->Prop}{fr:Fr}{H:eB}:Dd P T {callee:=.builtin .append,args:=#[x,y],argTypes:=#[t,t]} (some d) K fr H=Sl P t (ev T fr x) (ev T fr y) d K fr H:=by
 unfold Dd Sl;simp only;cases qL P t with
 |none=>rfl|some p=>grind[ev]
def sC(P:Program)(t:TypeId)(s x:AV)(d:Nat)(K:Fr->eB->Prop)(fr:Fr)(H:eB):Prop:=Bl P t s x d K fr H\/Sl P t s x d K fr H
def Lm{P:Program}{T:fh}{x y:Operand}{t d:Nat}{K:Fr->eB->Prop}{fr:Fr}{H:eB}:Dj P T {callee:=.builtin .append,args:=#[x,y],argTypes:=#[t,t]} (some d) K fr H=False:=by
 refine propext ⟨λh=>?_,False.elim⟩;unfold Dj at h;simp only at h
 split at h
 ·rename_i a b _ _;obtain⟨_,_,hu,_⟩:=pC a
  grind
 ·exact h
def js(tY:Nat->Option Nat)(fP:Nat->Nat)(D:List Nat)(tag:Tag)(n:Nat):Prop:=
 tag=.full\/∃k g,k∈D/\tag=.loc k g/\g=fP k/\tY k=some n
def js.full{tY:Nat->Option Nat}{fP:Nat->Nat}{D:List Nat}{n:Nat}:js tY fP D .full n:=.inl rfl
def js.new{tY:Nat->Option Nat}{fP:Nat->Nat}{D:List Nat}{n d:Nat}(h:d∈D):js (hU tY d (some n)) (hU fP d (fP d+1)) D (.loc d (fP d+1)) n:=
 .inr ⟨d,_,h,rfl,by simp[hU],by simp[hU]⟩
def js.other{tY:Nat->Option Nat}{fP:Nat->Nat}{D D':List Nat}{tag a:Tag}{n n' d:Nat}{x:Option Nat}{y:Nat}(h:js tY fP D tag n)(i:js tY fP D' a n')
  (j:∀k,k∈D->k∉D') (l:d∉D):js (hU (uH a tY) d x) (hU fP d y) D tag n:=by
 rcases h with h|⟨k,g,b,m,o,f⟩
 ·exact .inl h
 ·refine .inr ⟨k,g,b,m,?_,?_⟩
  ·grind[hU]
  ·have c:k≠d:=by rintro rfl;exact l b
   simp only[hU,c];rcases i with rfl|⟨k',p,e,rfl,_,_⟩
   ·exact f
   ·have:k≠k':=by rintro rfl;exact j k b e
    simp[uH,hU,this,f]
def js.can{fr:Fr}{D:List Nat}{tag:Tag}{l:List AV}{n:Nat}(h:js fr.tY fr.fP D tag n)(hn:n=l.length):pU fr tag l=true:=by
 rcases h with rfl|⟨k,g,_,rfl,a,b⟩
 all_goals grind[pU]
def Bl.own{P:Program}{t e sz d:Nat}{s x:AV}{K:Fr->eB->Prop}{fr:Fr}{H:eB}{α:Type}{f:α->AV}(l m:List α){D:List Nat}{tag b:Tag}
  (h:js fr.tY fr.fP D tag l.length) (g:qL P t=some (e,sz)) (i:∀x,(f x).cells.length=sz) (hlen:gy l m=true) (hs:s=.slice tag (l.map f)) (j:x=.slice b (m.map f))
  (n:K {fr with env:=hU fr.env d (.slice (.loc d (fr.fP d+1)) ((gU l m).map f)),tY:=hU (uH tag fr.tY) d (some (gU l m).length),fP:=hU fr.fP d (fr.fP d+1)} H):Bl P t s x d K fr H:=by
 subst hs;subst j;have k:=L6 hlen
 have c:∀l:List α,mJ sz (l.map f)=true:=λl=>by cases l with|nil=>rfl|cons a l=>simp[mJ,i]
 unfold Bl;rw[g];refine⟨c l,c m,by simpa[nP,Lw] using k,?_⟩;rw[ee (h.can (by simp))]
 grind[gU,grown]
def sC.own{P:Program}{t e sz d:Nat}{s x:AV}{K:Fr->eB->Prop}{fr:Fr}{H:eB}{α:Type}{f:α->AV}(l m:List α){D:List Nat}{tag a:Tag}
  (h:js fr.tY fr.fP D tag l.length) (b:qL P t=some (e,sz)) (c:∀x,(f x).cells.length=sz) (hlen:gy l m=true) (hs:s=.slice tag (l.map f)) (g:x=.slice a (m.map f))
  (i:K {fr with env:=hU fr.env d (.slice (.loc d (fr.fP d+1)) ((gU l m).map f)),tY:=hU (uH tag fr.tY) d (some (gU l m).length),fP:=hU fr.fP d (fr.fP d+1)} H):sC P t s x d K fr H:=
 .inl (Bl.own l m h b c hlen hs g i)
def m0(P:Program)(T:fh)(E:List Nat)(ops:Array Oper)(a:AV)(as:List AV)(d:Option Nat)(rest:List Oper)(K:Fr->eB->Prop)(fr:Fr)(H:eB):Prop:=
 ru P T a as H λr H'=>ju P T E ops rest K (fr.put d r) H'
def Df(P:Program)(T:fh)(E:List Nat)(ops:Array Oper)(q:Bool)(a:AV)(as:List AV)(d:Option Nat)(rest:List Oper)(K:Fr->eB->Prop)(fr:Fr)(H:eB):Prop:=
 ∃r H',qc P T a as H r H'/\(q=true->H'=H)/\sD P T E ops q rest K (fr.put d r) H'
section
variable{P:Program} {T:fh} {E:List Nat} {ops:Array Oper} {q:Bool} {rest:List Oper} {K:Fr->eB->Prop} {fr:Fr} {H H':eB} {d:Option Nat} {ty:TypeId} {pos:String} {after:Array Edge}
theorem m0.fn{g:FuncId}{as:List AV}{r:AV}(h:e_ P T g as H r H')(a:ju P T E ops rest K (fr.put d r) H'):m0 P T E ops (.func (.func g) [] []) as d rest K fr H:=by
 unfold m0 ru;simp only[yy];exact h.post a
def m0.UG{g:FuncId}{b c as a:List AV}{r:AV}(e:b++as++c=a)(h:e_ P T g a H r H')(f:ju P T E ops rest K (fr.put d r) H'):m0 P T E ops (.func (.func g) b c) as d rest K fr H:=by
 subst e;exact h.post f
theorem Df.fn{g:FuncId}{as:List AV}{r:AV}(h:e_ P T g as H r H')(a:q=true->H'=H)(b:sD P T E ops q rest K (fr.put d r) H'):Df P T E ops q (.func (.func g) [] []) as d rest K fr H:=by
 refine⟨r,H',?_,a,b⟩;unfold qc ru;simp only[yy];exact h
@[simp] theorem Zn:ju P T E ops [] K fr H=K fr H:=rfl
@[simp] theorem Y1:sD P T E ops q [] K fr H=K fr H:=rfl
@[simp] theorem Zb{x:Operand}:ju P T E ops ({dst:=d,op:=.move x,type:=ty,pos:=pos,after:=after,guard:=none}::rest) K fr H=ju P T E ops rest K (fr.put d (ev T fr x)) H:=rfl
@[simp] theorem V_{x:Operand}:ju P T E ops ({dst:=d,op:=.assign x,type:=ty,pos:=pos,after:=after,guard:=none}::rest) K fr H=ju P T E ops rest K (fr.put d (ev T fr x)) H:=rfl
@[simp] theorem XN{t:TypeId}:ju P T E ops ({dst:=d,op:=.alloc t,type:=ty,pos:=pos,after:=after,guard:=none}::rest) K fr H=match lG P t with|some z=>lr E d z (ju P T E ops rest K) fr H|none=>False:=rfl
@[simp] theorem aag{t:TypeId}{x:Operand}:ju P T E ops ({dst:=d,op:=.box t x,type:=ty,pos:=pos,after:=after,guard:=none}::rest) K fr H=(f_ (ev T fr x)=true/\lr E d (ev T fr x).cells (ju P T E ops rest K) fr H):=rfl
@[simp] theorem YP{t:TypeId}{x:Operand}:ju P T E ops ({dst:=d,op:=.load t x,type:=ty,pos:=pos,after:=after,guard:=none}::rest) K fr H=match uE P fr H t (ev T fr x)with|some v=>ju P T E ops rest K (fr.put d v) H|none=>False:=rfl
@[simp] theorem XK{t:TypeId}{x y:Operand}:ju P T E ops ({dst:=none,op:=.store t x y,type:=ty,pos:=pos,after:=after,guard:=none}::rest) K fr H=nC P t (ev T fr x) (ev T fr y) (ju P T E ops rest K) fr H:=by simp[ju,Cm,sx]
@[simp] theorem Ri{t n:Nat}{ps:Array (Nat×Operand)}:ju P T E ops ({dst:=d,op:=.buildSlice t n ps,type:=ty,pos:=pos,after:=after,guard:=none}::rest) K fr H=match n9 P t n (ps.toList.map λp=>(p.1,ev T fr p.2))with|some v=>Gy E d v (ju P T E ops rest K) fr H|none=>False:=rfl
@[simp] theorem Y2{E:List Nat}{d:Option Nat}{v:AV}{K:Fr->eB->Prop}{fr:Fr}{H:eB}:Gy E d v K fr H=if d.any E.contains=true then(match v with|.slice _ l=>K (fr.put d (.zo H.length 0 l.length l.length)) (H++[l.flatMap AV.cells])|_=>False)else K (fr.put d v) H:=rfl
@[simp] theorem Wb{x y:Operand}{t d:Nat}:ju P T E ops ({dst:=some d,op:=.call {callee:=.builtin .append,args:=#[x,y],argTypes:=#[t,t]},type:=ty,pos:=pos,after:=after,guard:=none}::rest) K fr H=sC P t (ev T fr x) (ev T fr y) d (ju P T E ops rest K) fr H:=by
 simp only[ju,Cm,sx];unfold sC;rw[<-Hb (T:=T),<-N9 (T:=T),Lm,Ux]
@[simp] theorem Y8{f:Operand}{as:Array Operand}{ts:Array TypeId}:ju P T E ops ({dst:=d,op:=.call {callee:=.value f,args:=as,argTypes:=ts},type:=ty,pos:=pos,after:=after,guard:=none}::rest) K fr H=m0 P T E ops (ev T fr f) (as.toList.map λx=>(ev T fr x).norm) d rest K fr H:=rfl
@[simp] theorem Z'{as:Array Operand}{ts:Array TypeId}:ju P T E ops ({dst:=d,op:=.call {callee:=.builtin .len,args:=as,argTypes:=ts},type:=ty,pos:=pos,after:=after,guard:=none}::rest) K fr H=match wL P T fr {callee:=.builtin .len,args:=as,argTypes:=ts}with|some v=>ju P T E ops rest K (fr.put d v) H|none=>False:=rfl
@[simp] theorem aaB{as:Array Operand}{ts:Array TypeId}:ju P T E ops ({dst:=d,op:=.call {callee:=.builtin .max,args:=as,argTypes:=ts},type:=ty,pos:=pos,after:=after,guard:=none}::rest) K fr H=match wL P T fr {callee:=.builtin .max,args:=as,argTypes:=ts}with|some v=>ju P T E ops rest K (fr.put d v) H|none=>False:=rfl
@[simp] theorem YZ{c a b:Operand}:ju P T E ops ({dst:=d,op:=.pick c a b,type:=ty,pos:=pos,after:=after,guard:=none}::rest) K fr H=match yq P T fr {dst:=d,op:=.pick c a b,type:=ty,pos:=pos,after:=after,guard:=none}with|some v=>ju P T E ops rest K (fr.put d v) H|none=>False:=rfl
@[simp] theorem Yi{t:TypeId}{ps:Array (Nat×Operand)}:ju P T E ops ({dst:=d,op:=.build t ps,type:=ty,pos:=pos,after:=after,guard:=none}::rest) K fr H=match D_ P t (ps.toList.map λp=>(p.1,ev T fr p.2))with|some v=>ju P T E ops rest K (fr.put d v) H|none=>False:=rfl
@[simp] theorem X4{o:BinOp}{t u:TypeId}{x y:Operand}:ju P T E ops ({dst:=d,op:=.binOp o t x y u,type:=ty,pos:=pos,after:=after,guard:=none}::rest) K fr H=match K0 P o t y (ev T fr x) (ev T fr y)with|some v=>ju P T E ops rest K (fr.put d v) H|none=>False:=rfl
@[simp] theorem YR{o:UnOp}{t:TypeId}{x:Operand}:ju P T E ops ({dst:=d,op:=.unOp o t x,type:=ty,pos:=pos,after:=after,guard:=none}::rest) K fr H=match Y9 o (ev T fr x)with|some v=>ju P T E ops rest K (fr.put d v) H|none=>False:=rfl
@[simp] theorem T1{fn:Fn}{f c:Array Operand}:ju P T E ops ({dst:=d,op:=.makeFunc fn f c,type:=ty,pos:=pos,after:=after,guard:=none}::rest) K fr H=ju P T E ops rest K (fr.put d (.func fn (f.toList.map λx=>(ev T fr x).norm) (c.toList.map λx=>(ev T fr x).norm))) H:=rfl
@[simp] theorem Rt{t i:Nat}{x:Operand}:ju P T E ops ({dst:=d,op:=.fieldAddr t x i,type:=ty,pos:=pos,after:=after,guard:=none}::rest) K fr H=match ry P t (ev T fr x) i with|some v=>ju P T E ops rest K (fr.put d v) H|none=>False:=rfl
@[simp] theorem Yp{t i:Nat}{x:Operand}:ju P T E ops ({dst:=d,op:=.field t x i,type:=ty,pos:=pos,after:=after,guard:=none}::rest) K fr H=match BQ P t (ev T fr x) i with|some v=>ju P T E ops rest K (fr.put d v) H|none=>False:=rfl
@[simp] theorem S8{t:TypeId}{x i:Operand}:ju P T E ops ({dst:=d,op:=.indexAddr t x i,type:=ty,pos:=pos,after:=after,guard:=none}::rest) K fr H=match gQ P t (ev T fr x) (ev T fr i)with|some v=>ju P T E ops rest K (fr.put d v) H|none=>False:=rfl
@[simp] theorem Yd{t:TypeId}{x:Operand}{lo hi a:Option Operand}:ju P T E ops ({dst:=d,op:=.slice t x lo hi a,type:=ty,pos:=pos,after:=after,guard:=none}::rest) K fr H=match qa P t (ev T fr x) (lo.map (ev T fr)) (hi.map (ev T fr)) (a.map (ev T fr))with|some v=>ju P T E ops rest K (fr.put d v) H|none=>False:=rfl
@[simp] theorem Ua{i:Nat}{x:Operand}:ju P T E ops ({dst:=d,op:=.extract x i,type:=ty,pos:=pos,after:=after,guard:=none}::rest) K fr H=match yq P T fr {dst:=d,op:=.extract x i,type:=ty,pos:=pos,after:=after,guard:=none}with|some v=>ju P T E ops rest K (fr.put d v) H|none=>False:=rfl
@[simp] theorem T0{x:Operand}:ju P T E ops ({dst:=d,op:=.nilCheck x,type:=ty,pos:=pos,after:=after,guard:=none}::rest) K fr H=match yq P T fr {dst:=d,op:=.nilCheck x,type:=ty,pos:=pos,after:=after,guard:=none}with|some v=>ju P T E ops rest K (fr.put d v) H|none=>False:=rfl
@[simp] theorem Va{t:TypeId}:ju P T E ops ({dst:=d,op:=.makeMap t none,type:=ty,pos:=pos,after:=after,guard:=none}::rest) K fr H=HD d (ju P T E ops rest K) fr H:=rfl
@[simp] theorem Tt{t:TypeId}{x i y:Operand}:ju P T E ops ({dst:=none,op:=.mapUpdate t x i y,type:=ty,pos:=pos,after:=after,guard:=none}::rest) K fr H=sQ P t (ev T fr x) (ev T fr i) (ev T fr y) (ju P T E ops rest K) fr H:=by simp[ju,Cm,sx]
@[simp] theorem V8{t:TypeId}{x i y:Operand}:ju P T E ops ({dst:=none,op:=.insert t x i y,type:=ty,pos:=pos,after:=after,guard:=none}::rest) K fr H=sQ P t (ev T fr x) (ev T fr i) (ev T fr y) (ju P T E ops rest K) fr H:=by simp[ju,Cm,sx]
@[simp] theorem Xq{t:TypeId}{x:Operand}:ju P T E ops ({dst:=d,op:=.range t x,type:=ty,pos:=pos,after:=after,guard:=none}::rest) K fr H=Hu P t (ev T fr x) d (ju P T E ops rest K) fr H:=rfl
@[simp] theorem Xz{x:Operand}:ju P T E ops ({dst:=d,op:=.entry x,type:=ty,pos:=pos,after:=after,guard:=none}::rest) K fr H=match Ej (ev T fr x) H with|some v=>ju P T E ops rest K (fr.put d v) H|none=>False:=rfl
@[simp] theorem QC{x:Operand}:ju P T E ops ({dst:=d,op:=.next x false,type:=ty,pos:=pos,after:=after,guard:=none}::rest) K fr H=JZ (ev T fr x) d (ju P T E ops rest K) fr H:=rfl
@[simp] theorem WV{op:Op}{j:Nat}{want:Bool}:ju P T E ops ({dst:=d,op:=op,type:=ty,pos:=pos,after:=after,guard:=some (j,want)}::rest) K fr H=match(ops[j]?).bind (·.dst)with
 |some g=>match fr.env g with
  |.sc (.bool b)=>if b=want then ju P T E ops ({dst:=d,op:=op,type:=ty,pos:=pos,after:=after,guard:=none}::rest) K fr H else ju P T E ops rest K (fr.put d (.tuple [])) H|.tuple _=>ju P T E ops rest K (fr.put d (.tuple [])) H|_=>False
 |none=>False:=rfl
@[simp] theorem Wu{x:Operand}:sD P T E ops q ({dst:=d,op:=.move x,type:=ty,pos:=pos,after:=after,guard:=none}::rest) K fr H=sD P T E ops q rest K (fr.put d (ev T fr x)) H:=rfl
@[simp] theorem Ww{t:TypeId}{x:Operand}:sD P T E ops q ({dst:=d,op:=.load t x,type:=ty,pos:=pos,after:=after,guard:=none}::rest) K fr H=if rk ops.toList x (ev T fr x)&&(q||!Wm (ev T fr x))then(match uE P fr H t (ev T fr x)with|some v=>sD P T E ops q rest K (fr.put d v) H|none=>False)else False:=by
 simp only[sD,nu,kc,ig,pL,X3,U7]
 split
 ·rename_i v a
  split at a
  ·rename_i b;rw[ee b,a]
  ·cases a
 ·rename_i a
  split at a
  ·rename_i b;rw[ee b,a]
  ·rename_i b;rw[ea b]
@[simp] theorem Yo{f:Operand}{as:Array Operand}{ts:Array TypeId}:sD P T E ops q ({dst:=d,op:=.call {callee:=.value f,args:=as,argTypes:=ts},type:=ty,pos:=pos,after:=after,guard:=none}::rest) K fr H=Df P T E ops q (ev T fr f) (as.toList.map λx=>(ev T fr x).norm) d rest K fr H:=by
 simp only[sD,nu,kc,ig,Ts,Df]
@[simp] theorem VE{o:BinOp}{t u:TypeId}{x y:Operand}:sD P T E ops q ({dst:=d,op:=.binOp o t x y u,type:=ty,pos:=pos,after:=after,guard:=none}::rest) K fr H=match K0 P o t y (ev T fr x) (ev T fr y)with|some v=>sD P T E ops q rest K (fr.put d v) H|none=>False:=rfl
@[simp] theorem Rk{t i:Nat}{x:Operand}:sD P T E ops q ({dst:=d,op:=.fieldAddr t x i,type:=ty,pos:=pos,after:=after,guard:=none}::rest) K fr H=match ry P t (ev T fr x) i with|some v=>sD P T E ops q rest K (fr.put d v) H|none=>False:=rfl
@[simp] theorem Sa{x:Operand}:sD P T E ops q ({dst:=d,op:=.nilCheck x,type:=ty,pos:=pos,after:=after,guard:=none}::rest) K fr H=match yq P T fr {dst:=d,op:=.nilCheck x,type:=ty,pos:=pos,after:=after,guard:=none}with|some v=>sD P T E ops q rest K (fr.put d v) H|none=>False:=rfl
end
@[simp] theorem Fr.aaP(fr:Fr)(d:Nat)(x:AV):fr.put (some d) x={fr with env:=hU fr.env d x}:=rfl
@[simp] theorem abg{α:Type}(f:Nat->α)(i:Nat)(x:α)(j:Nat):hU f i x j=if j=i then x else f j:=rfl
@[simp] theorem ZR(v:Value):AV.cells (.sc v:AV)=[(.sc v:AV)]:=rfl
@[simp] theorem V2(v:Value):f_ (.sc v:AV)=true:=rfl
@[simp] theorem aaS(v:Value):AV.lH (.sc v:AV)=(.sc v:AV):=rfl
@[simp] theorem abd(v:Value):AV.norm (.sc v:AV)=(.sc v:AV):=rfl
@[simp] theorem Vc(P:Program)(ty:TypeId)(v:Value):sw P ty (.sc v:AV)=match gq P ty with|some (false,_)=>true|_=>false:=by
 unfold sw;cases gq P ty with
 |none=>rfl|some p=>grind
@[simp] theorem Y7(b g o c:Nat):AV.cells (.xe b g o c:AV)=[(.xe b g o c:AV)]:=rfl
@[simp] theorem Vt(b g o c:Nat):f_ (.xe b g o c:AV)=true:=rfl
@[simp] theorem X1(o f:Nat):AV.cells (.fT o f:AV)=[(.fT o f:AV)]:=rfl
@[simp] theorem Y4(o f:Nat):AV.norm (.fT o f:AV)=(.fT o f:AV):=rfl
@[simp] theorem Q7(P:Program)(ty:TypeId)(o f:Nat):sw P ty (.fT o f:AV)=match gq P ty with|some (false,_)=>true|_=>false:=by
 unfold sw;cases gq P ty with
 |none=>rfl|some p=>grind
@[simp] theorem XL(o:Nat):AV.cells (.om o:AV)=[(.om o:AV)]:=rfl
@[simp] theorem T5(o:Nat):f_ (.om o:AV)=true:=rfl
@[simp] theorem XV(o:Nat):AV.lH (.om o:AV)=(.om o:AV):=rfl
@[simp] theorem Y0(o:Nat):AV.norm (.om o:AV)=(.om o:AV):=rfl
@[simp] theorem Zc(o s l c:Nat):AV.cells (.zo o s l c:AV)=[(.zo o s l c:AV)]:=rfl
@[simp] theorem Vg(o s l c:Nat):f_ (.zo o s l c:AV)=true:=rfl
@[simp] theorem YJ(o s l c:Nat):AV.lH (.zo o s l c:AV)=(.zo o s l c:AV):=rfl
@[simp] theorem TC{P:Program}{t:TypeId}{k:IntKind}{a:Int}{b s n c:Nat}:gQ P t (.zo b s n c) (.sc (.int k a))=match P.underlying t with
  |some (.slice e)=>match gq P e with
   |some (_,sz)=>if 0<=a/\a<(n:Int)then some (.fT b (s+a.toNat*sz))else none|none=>none
  |_=>none:=by
 unfold gQ;cases P.underlying t with
 |none=>rfl|some y=>cases y<;>rfl
@[simp] theorem Za:wx []=false:=rfl
@[simp] theorem XU(c:AV)(cs:List AV):wx (c::cs)=c.h_:=rfl
@[simp] theorem ZA(v:Value):AV.h_ (.sc v)=true:=rfl
@[simp] theorem V6(t:Tag)(l:List AV):AV.h_ (.slice t l)=true:=rfl
@[simp] theorem Wv(f:Fn)(a c:List AV):AV.h_ (.func f a c)=true:=rfl
@[simp] theorem Ws(t:Tag)(l:List AV):AV.cells (.slice t l:AV)=[(.slice t l:AV)]:=rfl
@[simp] theorem RS(t:Tag)(l:List AV):f_ (.slice t l:AV)=true:=rfl
@[simp] theorem Wo(t:Tag)(l:List AV):AV.lH (.slice t l:AV)=.slice .iR l:=rfl
@[simp] theorem W9(t:Tag)(l:List AV):AV.norm (.slice t l:AV)=.slice .iR l:=rfl
@[simp] theorem XW(P:Program)(ty:TypeId)(t:Tag)(l:List AV):sw P ty (.slice t l:AV)=match gq P ty with|some (false,_)=>true|_=>false:=by
 unfold sw;cases gq P ty with
 |none=>rfl|some p=>grind
@[simp] theorem YM(cs:List AV):AV.cells (.agg cs:AV)=cs:=rfl
@[simp] theorem UW(cs:List AV):f_ (.agg cs:AV)=true:=rfl
@[simp] theorem aad(cs:List AV):AV.norm (.agg cs:AV)=.agg (cs.map AV.lH):=rfl
@[simp] theorem v_(P:Program)(ty:TypeId)(cs:List AV):sw P ty (.agg cs)=match gq P ty with|some (true,n)=>cs.length==n|_=>false:=by
 unfold sw;cases gq P ty with
 |none=>rfl|some p=>grind
@[simp] theorem X7(f:Fn)(a c:List AV):AV.cells (.func f a c:AV)=[(.func f a c:AV)]:=rfl
@[simp] theorem T2(f:Fn)(a c:List AV):f_ (.func f a c:AV)=true:=rfl
@[simp] theorem WE(f:Fn)(a c:List AV):AV.lH (.func f a c:AV)=(.func f a c:AV):=rfl
@[simp] theorem YV(f:Fn)(a c:List AV):AV.norm (.func f a c:AV)=(.func f a c:AV):=rfl
@[simp] theorem V1(sz:Nat)(x:AV)(l:List AV):mJ sz (x::l)=(x.cells.length==sz):=rfl
def gC(H:eB)(o:Nat)(c:List AV):eB:=H.set o c
@[simp] theorem YL{H:eB}{o:Nat}{x y:List AV}:gC (gC H o x) o y=gC H o y:=by simp[gC]
@[simp] theorem Wa{H:eB}{o:Nat}{x:List AV}:(gC H o x).length=H.length:=by simp[gC]
section
variable{P:Program} {t:TypeId} {k k':IntKind} {a b:Int} {u v:ByteArray} {p q:Bool}
@[simp] theorem aal{i:Nat}{u v:AV}{op:BinOp}:K0 P op t (.tmp i) u v=oF P op t u v:=rfl
@[simp] theorem aaj{i:Int}{u v:AV}{op:BinOp}:K0 P op t (.const (.int k i)) u v=oF P op t u v:=rfl
@[simp] theorem aat{i:Option Addr}{u v:AV}{op:BinOp}:K0 P op t (.const (.pointer i)) u v=oF P op t u v:=rfl
@[simp] theorem aaz:oF P .add t (.sc (.int k a)) (.sc (.int k b))=some (.sc (.int k (fk k a b))):=by simp[oF,sj,qS,fk]
@[simp] theorem Zu:oF P .sub t (.sc (.int k a)) (.sc (.int k b))=some (.sc (.int k (fG k a b))):=by simp[oF,sj,qS,fG]
@[simp] theorem ZH:oF P .mul t (.sc (.int k a)) (.sc (.int k b))=some (.sc (.int k (KW k a b))):=by simp[oF,sj,qS,KW]
@[simp] theorem Z3:oF P .rem t (.sc (.int k a)) (.sc (.int k b))=if JQ b=true then some (.sc (.int k (RD k a b)))else none:=by grind[oF,sj,qS,RD,JQ]
@[simp] theorem ZQ:oF P .and t (.sc (.int k a)) (.sc (.int k b))=some (.sc (.int k (qC k a b))):=by simp[oF,sj,qS,qC]
@[simp] theorem abk:oF P .or t (.sc (.int k a)) (.sc (.int k b))=some (.sc (.int k (xp k a b))):=by simp[oF,sj,qS,xp]
@[simp] theorem aaR:oF P .shl t (.sc (.int k a)) (.sc (.int k' b))=if H6 b=true then some (.sc (.int k (SG k a b)))else none:=by grind[oF,sj,SG,H6]
@[simp] theorem ZL:oF P .shr t (.sc (.int k a)) (.sc (.int k' b))=if H6 b=true then some (.sc (.int k (TV k a b)))else none:=by grind[oF,sj,TV,H6]
@[simp] theorem ZK:oF P .eql t (.sc (.int k a)) (.sc (.int k b))=some (.sc (.bool (eH a b))):=by simp[oF,sj,qS,eH]
@[simp] theorem ZP:oF P .neq t (.sc (.int k a)) (.sc (.int k b))=some (.sc (.bool (eW a b))):=by simp[oF,sj,qS,eW]
@[simp] theorem aa4:oF P .lss t (.sc (.int k a)) (.sc (.int k b))=some (.sc (.bool (uX a b))):=by simp[oF,sj,qS,uX]
@[simp] theorem aai:oF P .leq t (.sc (.int k a)) (.sc (.int k b))=some (.sc (.bool (LP a b))):=by simp[oF,sj,qS,LP]
@[simp] theorem Zi:oF P .gtr t (.sc (.int k a)) (.sc (.int k b))=some (.sc (.bool (pc a b))):=by simp[oF,sj,qS,pc]
@[simp] theorem aan:oF P .geq t (.sc (.int k a)) (.sc (.int k b))=some (.sc (.bool (ue a b))):=by simp[oF,sj,qS,ue]
@[simp] theorem abh:Y9 .not (.sc (.bool p))=some (.sc (.bool (nB p))):=by simp[Y9,nB]
@[simp] theorem Y':PB (.sc (.int k a)) (.sc (.int k' b))=some (.sc (.int k (imax a b))):=rfl
@[simp] theorem aaO{α:Type}{f:α->AV}{tag:Tag}{l:List α}:H7 P t (.slice tag (l.map f))=match P.underlying t with|some (.slice _)=>some (.sc (.int .i64 (eN l)))|some (.array n _)=>some (.sc (.int .i64 n))|_=>none:=by
 unfold H7 eN;cases P.underlying t with
 |none=>rfl|some y=>grind
@[simp] theorem Zg{tag:Tag}:H7 P t (.slice tag [])=match P.underlying t with|some (.slice _)=>some (.sc (.int .i64 0))|some (.array n _)=>some (.sc (.int .i64 n))|_=>none:=by
 unfold H7;cases P.underlying t with
 |none=>rfl|some y=>grind
@[simp] theorem Sc{α:Type}{f:α->AV}{tag:Tag}{l:List α}:gQ P t (.slice tag (l.map f)) (.sc (.int k a))=match P.underlying t with
  |some (.slice e)=>match eI l a,gq P e with
   |some x,some (_,sz)=>if(f x).cells.length=sz then some (.nr (f x))else none|_,_=>none
  |_=>none:=by
 unfold gQ eI;cases P.underlying t with
 |none=>rfl|some y=>
  cases y<;>try rfl
  rename_i e;simp only[tN]
  by_cases h:0<=a
  ·rw[ee h,ee h];cases l[a.toNat]?with
   |none=>rfl|some x=>cases gq P e<;>rfl
  ·rw[ea h,ea h]
def GB{α:Type}{f:α->AV}{L:List α}{n e:Nat}(hu:P.underlying t=some (.array n e))(b:gq P e=some (false,1))(hn:L.length=n):gQ P t (.nr (.agg (L.map f))) (.sc (.int k a))=(eI L a).map λx=>.nr (f x):=by
 unfold gQ eI
 grind[m7,AV.cells]
end
attribute [simp] ev ofValue qU AK lr HD uE m7 ry BQ D_ EV n9 setCells Cu J0 wL yq
 rk DW rootOf Wm isL fr0 Ie vo F5
@[simp] theorem VQ{P:Program}{t:TypeId}{b g off:Nat}{v:AV}{K:Fr->eB->Prop}{fr:Fr}{H:eB}:nC P t (.eD b g off) v K fr H=match gq P t with
  |none=>False|some (_,n)=>match fr.box b with
   |some cs=>g=fr.gen b/\v.cells.length=n/\off+n<=cs.length/\f_ v=true/\K {fr with box:=hU fr.box b (some (setCells cs off v.cells))} H|none=>False:=by
 unfold nC;cases gq P t with
 |none=>rfl|some p=>rfl
@[simp] theorem VO{P:Program}{t:TypeId}{o off:Nat}{v:AV}{K:Fr->eB->Prop}{fr:Fr}{H:eB}:nC P t (.fT o off) v K fr H=match gq P t with
  |none=>False|some (_,n)=>match H[o]?with
   |some cs=>wx cs=true/\v.cells.length=n/\off+n<=cs.length/\f_ v=true/\K fr (H.set o (setCells cs off v.norm.cells))|none=>False:=by
 unfold nC;cases gq P t with
 |none=>rfl|some p=>rfl
def gJ.Nb{P:Program}{T:fh}{n:Nat}{Q:Exit->Fr->eB->Prop}{fr:Fr}{H:eB}{c:Code}(I:Nat->Fr->eB->Prop)(m:Nat)(b:I m fr H)
  (d:∀m fr H,I m fr H->∀K:Fr->eB->Prop,(∀fr' H' a,a<m->I a fr' H'->K fr' H')->gJ P T n c (F5 K Q) fr H):gJ P T n (.loop c) Q fr H:=by
 refine gJ.loop ?_
 have key:∀k fr H,I k fr H->WT P T n c Q fr H:=by
  intro k
  induction k using Nat.strongRecOn with
  |_ k e=>grind[WT.round,gJ.mono]
 grind
def Kx(v:AV)(A B:Prop):Prop:=match v with|.sc (.bool t)=>if t=true then A else B|_=>False
@[simp] theorem Wd(t:Bool)(A B:Prop):Kx (.sc (.bool t)) A B=if t=true then A else B:=rfl
section
variable{P:Program} {T:fh} {n:Nat} {Q:Exit->Fr->eB->Prop} {fr:Fr} {H:eB}
def gJ.tS{c:Operand}{x y:Code}
  (h:∀A B:Fr->eB->Prop,(∀fr H,gJ P T n x Q fr H->A fr H)->(∀fr H,gJ P T n y Q fr H->B fr H)->Kx (ev T fr c) (A fr H) (B fr H)) (b:j_ c=true:=by rfl):gJ P T n (.cond c x y) Q fr H:=by
 have a:=h (gJ P T n x Q) (gJ P T n y Q) (λ_ _ h=>h) (λ_ _ h=>h);generalize d:ev T fr c=v at a;cases v with
 |sc w=>
  cases w with
  |bool t=>
   refine gJ.cond d b (λe=>?_) (λe=>?_)
   all_goals simp_all
  |_=>exact a.elim
 |_=>exact a.elim
def gJ.sr{id:Nat}{ops:Array Oper}{y:Code}(E:List Nat)(h:∀K:Fr->eB->Prop,(∀fr H,gJ P T n y Q fr H->K fr H)->ju P T E ops ops.toList K fr H)(a:yo n ops=true:=by decide+kernel):gJ P T n (.seq (.region id ops false) y) Q fr H:=
 gJ.ux λK b=>gJ.region E a (h K b)
def gJ.aap{x y:Code}(R:Fr->eB->Prop)(b:∀K:Fr->eB->Prop,(∀fr H,R fr H->K fr H)->gJ P T n x (F5 K Q) fr H)(c:∀fr H,R fr H->gJ P T n y Q fr H):gJ P T n (.seq x y) Q fr H:=
 gJ.seq ((b R λ_ _ h=>h).mono λe fr' H' a=>by cases e<;>first|exact c _ _ a|exact a)
end
@[simp] theorem range_one:List.range 1=[0]:=rfl
@[simp] theorem ZW:List.range 2=[0,1]:=rfl
@[simp] theorem aab:List.range 3=[0,1,2]:=rfl
section
variable{P:Program} {t e sz:Nat} {bl:Bool} {tag:Tag} {α:Type} {k k' k2:IntKind} {a b:Int} {u:ByteArray}
def U'(h:0<=a):Nd (some (.sc (.int k a)))=some (some a.toNat):=by simp[Nd,h]
theorem U0(h:¬0<=a):Nd (some (.sc (.int k a)))=none:=by simp[Nd,h]
theorem KK{x:AV}{lo hi:Option AV}(h:Nd lo=none):qa P t x lo hi none=none:=by unfold qa;rw[h]
def MT{lo hi:Option AV}{a hi':Option Nat}(b:Nd lo=some a)(c:Nd hi=some hi')(f:α->AV)(l:List α)(hu:P.underlying t=some (.slice e))(d:gq P e=some (bl,sz))(g:∀x,(f x).cells.length=sz):qa P t (.slice tag (l.map f)) lo hi none=if hi'.getD l.length<=l.length/\a.getD 0<=hi'.getD l.length then some (.slice .iR (((l.take (hi'.getD l.length)).drop (a.getD 0)).map f))else none:=by
 have h:mJ sz (l.map f)=true:=by
  cases l with
  |nil=>rfl|cons x l=>simp_all
 unfold qa;rw[b,c];simp only[Nd,hu,d,h];simp
def Mg(f:α->AV)(l:List α)(hu:P.underlying t=some (.slice e))(b:gq P e=some (bl,sz))(c:∀x,(f x).cells.length=sz):qa P t (.slice tag (l.map f)) (some (.sc (.int k a))) none none=(Br l a (eN l)).map λr=>.slice .iR (r.map f):=by
 unfold Br eN
 by_cases d:0<=a
 ·rw[MT (U' d) (hi:=none) (hi':=none) rfl f l hu b c]
  grind
 ·grind[KK,U0]
end
def yl{P:Program}{t e sz:Nat}{b:Bool}{tag:Tag}{α:Type}(f:α->AV)(l:List α)(hu:P.underlying t=some (.slice e))(a:gq P e=some (b,sz))(c:∀x,(f x).cells.length=sz):qa P t (.slice tag (l.map f)) none (some (.sc (.int .i64 (Go.gV.eN l)))) (some (.sc (.int .i64 (Go.gV.eN l))))=some (.slice .full (l.map f)):=by
 have h:mJ sz (l.map f)=true:=by
  cases l with
  |nil=>rfl|cons x l=>simp_all
 simp[qa,Nd,hu,a,h,Go.gV.eN,<-List.map_take]
def ti{α:Type}(f:α->AV)(l:List (Int×α)):AV:=.tR (l.map λp=>Value.int .i64 p.1) (l.map λp=>f p.2)
@[simp] theorem ZX{α:Type}(f:α->AV):ti f []=.tR [] []:=rfl
def TJ{α:Type}(l:List (Int×α))(k:Int):mapIdx (l.map λp=>Value.int .i64 p.1) (.int .i64 k)=l.findIdx? (λp=>p.1==k):=by
 unfold mapIdx;rw[List.findIdx?_map];rfl
def QZ{α:Type}(l:List (Int×α)):(l.map λp=>Value.int .i64 p.1).all (HJ (.int .i64))=true:=by
 rw[ll];intro x a;obtain⟨p,_,rfl⟩:=oi.1 a;rfl
def MA{α:Type}(f:α->AV):∀(l:List (Int×α)) (k:Int) (y:α),D1 (l.map λp=>Value.int .i64 p.1) (l.map λp=>f p.2) (.int .i64 k) (f y)=ti f (uO l k y)
 |[],k,y=>rfl|p::l,k,y=>by
  have a:=MA f l k y;unfold D1 at a|-;rw[TJ] at a|-;rw[Gf];unfold uO
  by_cases h:p.1=k
  ·grind[ti]
  ·rw[ea (by simpa using h),ea h];cases hi:l.findIdx? (λp=>p.1==k)with
   |none=>
    rw[hi] at a;simp only[ti,AV.tR.injEq] at a;simp[ti,<-a.1,<-a.2]
   |some j=>
    rw[hi] at a;simp only[ti,AV.tR.injEq] at a;simp[ti,<-a.1,<-a.2]
section
variable{P:Program} {t kt e:TypeId} {o:Nat} {k:Int} {α:Type} {f:α->AV} {d:Option Nat} {K:Fr->eB->Prop} {fr:Fr} {H:eB}
def uk.i64(l:List (Int×α))(y:α){v:AV}(hu:P.underlying t=some (.map kt e))(a:P.underlying kt=some (.int .i64))(b:H[o]?=some [ti f l])(c:v.norm=f y)(d:K fr (gC H o [ti f (uO l k y)])):sQ P t (.om o) (.sc (.int .i64 k)) v K fr H:=by
 unfold sQ;simp only[hu,a,b];refine⟨rfl,QZ l,?_⟩;rw[c,MA];exact d
end
end Go.nd
